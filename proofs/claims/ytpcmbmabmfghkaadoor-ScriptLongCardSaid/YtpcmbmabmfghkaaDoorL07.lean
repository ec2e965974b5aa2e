/- ScN ScO ScP -/
import Derived.Test.YtpcmbmabmfghkaaDoorL04
import Derived.Test.YtpcmbmabmfghkaaDoorL06
namespace Go.Proofs.YtpcmbmabmfghkaaDoor
open Go.RowKit
set_option linter.unusedVariables false
set_option maxRecDepth 100000
structure LaK (w0 : World) (eb db c : Nat) (Ld : Nat → Bool) (u0 u1 u2 u3 u4 u5 u6 u7 : Value) (W : World) : Prop where
  ow : ∃ (A2 : Option Addr) (c2 : Nat) (l : List Rw), Ow w0 W none [] [] ((⟨some ⟨eb, 0, none⟩, 26, 26, 37, [.int .i64 1, .int .i64 0, .int .i64 0, .int .i64 2, .int .i64 1, .int .i64 0, .int .i64 3, .int .i64 0, .slice (some ⟨db, 0, none⟩) 2 c, .int .i64 0, .int .i64 0, .int .i64 0, .int .i64 0, .int .i64 0, .int .i64 0, .int .i64 0, .int .i64 0, .int .u8 0, .int .u8 0, .bool false, .int .i64 0, .int .i64 0, .int .i64 0, .int .i64 0, .bool false, .bool false]⟩ : Rw) :: (⟨some ⟨(eb + 1), 0, none⟩, 3, 3, 69, (cond (Ld 8) [.string ⟨#[119, 114, 105, 116, 101]⟩, .slice A2 3 c2, .string ⟨#[48, 48, 102, 102]⟩] [.string ⟨#[]⟩, .slice none 0 0, .string ⟨#[]⟩])⟩ : Rw) :: (⟨some ⟨(eb + 1 + 1), 0, none⟩, 26, 26, 37, (cond (Ld 9) [.int .i64 1, .int .i64 0, .int .i64 0, .int .i64 2, .int .i64 1, .int .i64 0, .int .i64 3, .int .i64 0, .slice (some ⟨db, 0, none⟩) 2 c, .int .i64 0, .int .i64 0, .int .i64 0, .int .i64 0, .int .i64 0, .int .i64 0, .int .i64 0, .int .i64 0, .int .u8 0, .int .u8 0, .bool false, .int .i64 0, .int .i64 0, .int .i64 0, .int .i64 0, .bool false, .bool false] [.int .i64 0, .int .i64 0, .int .i64 0, .int .i64 0, .int .i64 0, .int .i64 0, .int .i64 0, .int .i64 0, .slice none 0 0, .int .i64 0, .int .i64 0, .int .i64 0, .int .i64 0, .int .i64 0, .int .i64 0, .int .i64 0, .int .i64 0, .int .u8 0, .int .u8 0, .bool false, .int .i64 0, .int .i64 0, .int .i64 0, .int .i64 0, .bool false, .bool false])⟩ : Rw) :: l) ∧ (Ld 2 = false → l = []) ∧ (Ld 2 = true → u2 = .agg #[.string ⟨#[119, 114, 105, 116, 101]⟩, .slice A2 3 c2, .string ⟨#[48, 48, 102, 102]⟩] ∧ l = [(⟨A2, 3, c2, 3, [.int .i64 1, .int .i64 0, .int .i64 3]⟩ : Rw)])
  h0 : Ld 0 = true → u0 = .pointer (some ⟨eb, 3, none⟩)
  h1 : Ld 1 = true → u1 = .agg #[.int .i64 2, .int .i64 1, .int .i64 0, .int .i64 3, .int .i64 0, .slice (some ⟨db, 0, none⟩) 2 c]
  h3 : Ld 3 = true → u3 = .pointer (some ⟨eb, 0, none⟩)
  h4 : Ld 4 = true → u4 = .int .i64 1
  h5 : Ld 5 = true → u5 = .pointer (some ⟨eb, 3, none⟩)
  h6 : Ld 6 = true → u6 = .agg #[.int .i64 2, .int .i64 1, .int .i64 0, .int .i64 3, .int .i64 0, .slice (some ⟨db, 0, none⟩) 2 c]
  h7 : Ld 7 = true → u7 = .agg #[.int .i64 1, .int .i64 0, .int .i64 0, .int .i64 2, .int .i64 1, .int .i64 0, .int .i64 3, .int .i64 0, .slice (some ⟨db, 0, none⟩) 2 c, .int .i64 0, .int .i64 0, .int .i64 0, .int .i64 0, .int .i64 0, .int .i64 0, .int .i64 0, .int .i64 0, .int .u8 0, .int .u8 0, .bool false, .int .i64 0, .int .i64 0, .int .i64 0, .int .i64 0, .bool false, .bool false]
def LaI (w0 : World) (eb db c : Nat) (A0 : Act) (Ld : Nat → Bool) (a : Act) (W : World) : Prop :=
  ∃ (u0 u1 u2 u3 u4 u5 u6 u7 : Value), a = ((((((((A0.put (some 22) u0).put (some 23) u1).put (some 24) u2).put (some 25) u3).put (some 26) u4).put (some 27) u5).put (some 28) u6).put (some 29) u7) ∧ LaK w0 eb db c Ld u0 u1 u2 u3 u4 u5 u6 u7 W
set_option maxHeartbeats 4000000 in
theorem line_two (w : World) (db c : Nat) (hdb : db < w.heap.size) (c0 : w.cell? ⟨db, 0, none⟩ = some (.int .u8 0)) (c1 : w.cell? ⟨db, 1, none⟩ = some (.int .u8 255)) :
    Calls Tryd.prog 21 #[.agg #[.int .i64 1, .int .i64 0, .int .i64 0, .int .i64 2, .int .i64 1, .int .i64 0, .int .i64 3, .int .i64 0, .slice (some ⟨db, 0, none⟩) 2 c, .int .i64 0, .int .i64 0, .int .i64 0, .int .i64 0, .int .i64 0, .int .i64 0, .int .i64 0, .int .i64 0, .int .u8 0, .int .u8 0, .bool false, .int .i64 0, .int .i64 0, .int .i64 0, .int .i64 0, .bool false, .bool false]] w fun e w' => ∃ (A2 : Option Addr) (c2 : Nat), e = .returned (.tuple #[.agg #[.string ⟨#[119, 114, 105, 116, 101]⟩, .slice A2 3 c2, .string ⟨#[48, 48, 102, 102]⟩], .agg #[.int .i64 1, .int .i64 0, .int .i64 0, .int .i64 2, .int .i64 1, .int .i64 0, .int .i64 3, .int .i64 0, .slice (some ⟨db, 0, none⟩) 2 c, .int .i64 0, .int .i64 0, .int .i64 0, .int .i64 0, .int .i64 0, .int .i64 0, .int .i64 0, .int .i64 0, .int .u8 0, .int .u8 0, .bool false, .int .i64 0, .int .i64 0, .int .i64 0, .int .i64 0, .bool false, .bool false]]) ∧ Below w.heap.size w w' ∧ w'.ownsRow w.heap.size 3 1 (.slice A2 3 c2) 3 [.int .i64 1, .int .i64 0, .int .i64 3] := by
  have HD := Lib.hid hdb
  clear hdb
  have H0 := (((Ow.of (St.refl w)).arr #[.int .i64 1, .int .i64 0, .int .i64 0, .int .i64 2, .int .i64 1, .int .i64 0, .int .i64 3, .int .i64 0, .slice (some ⟨db, 0, none⟩) 2 c, .int .i64 0, .int .i64 0, .int .i64 0, .int .i64 0, .int .i64 0, .int .i64 0, .int .i64 0, .int .i64 0, .int .u8 0, .int .u8 0, .bool false, .int .i64 0, .int .i64 0, .int .i64 0, .int .i64 0, .bool false, .bool false] 26 rfl (by omega) 37).arr #[.string ⟨#[]⟩, .slice none 0 0, .string ⟨#[]⟩] 3 rfl (by omega) 69).arr #[.int .i64 0, .int .i64 0, .int .i64 0, .int .i64 0, .int .i64 0, .int .i64 0, .int .i64 0, .int .i64 0, .slice none 0 0, .int .i64 0, .int .i64 0, .int .i64 0, .int .i64 0, .int .i64 0, .int .i64 0, .int .i64 0, .int .i64 0, .int .u8 0, .int .u8 0, .bool false, .int .i64 0, .int .i64 0, .int .i64 0, .int .i64 0, .bool false, .bool false] 26 rfl (by omega) 37
  simp only [World.size_alloc, List.cons_append, List.nil_append] at H0
  have HO0 := Lib.hid H0
  clear H0
  go_enter Tryd.func21, Tryd.ntmps21
  go_wp2_with fail
  refine reg_inv34 (L1I (((w.alloc (.cells #[.int .i64 1, .int .i64 0, .int .i64 0, .int .i64 2, .int .i64 1, .int .i64 0, .int .i64 3, .int .i64 0, .slice (some ⟨db, 0, none⟩) 2 c, .int .i64 0, .int .i64 0, .int .i64 0, .int .i64 0, .int .i64 0, .int .i64 0, .int .i64 0, .int .i64 0, .int .u8 0, .int .u8 0, .bool false, .int .i64 0, .int .i64 0, .int .i64 0, .int .i64 0, .bool false, .bool false] 37)).alloc (.cells #[.string ⟨#[]⟩, .slice none 0 0, .string ⟨#[]⟩] 69)).alloc (.cells #[.int .i64 0, .int .i64 0, .int .i64 0, .int .i64 0, .int .i64 0, .int .i64 0, .int .i64 0, .int .i64 0, .slice none 0 0, .int .i64 0, .int .i64 0, .int .i64 0, .int .i64 0, .int .i64 0, .int .i64 0, .int .i64 0, .int .i64 0, .int .u8 0, .int .u8 0, .bool false, .int .i64 0, .int .i64 0, .int .i64 0, .int .i64 0, .bool false, .bool false] 37)) w.heap.size) (by kernel_rfl) (by kernel_rfl) ?_ ?_ ?_
  · refine ⟨undef, undef, undef, undef, undef, undef, undef, undef, undef, undef, ?_, ⟨(Below.refl _ _).drew, ?_, ?_, ?_, ?_, ?_, ?_, ?_, ?_, ?_, ?_⟩⟩
    · simp only [Act.put, List.setIfInBounds_toArray, List.set_cons_zero, List.set_cons_succ]
    all_goals (intro h; cases h)
  · rintro jj Ld b W hj hf hcl hd ⟨u0, u1, u2, u3, u4, u5, u6, u7, u8, u9, rfl, hC⟩
    have hj' : jj < 13 := hj
    have hcase : jj = 0 ∨ jj = 1 ∨ jj = 2 ∨ jj = 3 ∨ jj = 4 ∨ jj = 5 ∨ jj = 6 ∨ jj = 7 ∨ jj = 8 ∨ jj = 9 ∨ jj = 10 ∨ jj = 11 ∨ jj = 12 := by omega
    clear hj hj'
    simp only [Act.put, List.setIfInBounds_toArray, List.set_cons_zero, List.set_cons_succ]
    rcases hcase with rfl | rfl | rfl | rfl | rfl | rfl | rfl | rfl | rfl | rfl | rfl | rfl | rfl
    · clear hd hcl
      refine wpOp_step rfl (fun K hK => ?_)
      go_simp
      refine hK _ _ ⟨_, u1, u2, u3, u4, u5, u6, u7, u8, u9, ?_, ⟨hC.bw, fun _ => rfl, hC.h1, hC.h2, hC.h3, hC.h4, hC.h5, hC.h6, hC.h7, hC.h8, hC.h9⟩⟩
      simp only [Act.put, List.setIfInBounds_toArray, List.set_cons_zero, List.set_cons_succ]
    · obtain rfl := hC.h0 (hd 0 (by kernel_rfl))
      have her := (HO0.out.go hC.bw).row 0 rfl
      have y9 := her.cellAt 9 (by decide)
      have y10 := her.cellAt 10 (by decide)
      have y11 := her.cellAt 11 (by decide)
      have y12 := her.cellAt 12 (by decide)
      have y13 := her.cellAt 13 (by decide)
      have y14 := her.cellAt 14 (by decide)
      have y15 := her.cellAt 15 (by decide)
      have y16 := her.cellAt 16 (by decide)
      have y17 := her.cellAt 17 (by decide)
      have y18 := her.cellAt 18 (by decide)
      have y19 := her.cellAt 19 (by decide)
      clear hd hcl
      refine wpOp_step rfl (fun K hK => ?_)
      go_simp
      refine hK _ _ ⟨_, _, u2, u3, u4, u5, u6, u7, u8, u9, ?_, ⟨hC.bw, hC.h0, fun _ => rfl, hC.h2, hC.h3, hC.h4, hC.h5, hC.h6, hC.h7, hC.h8, hC.h9⟩⟩
      simp only [Act.put, List.setIfInBounds_toArray, List.set_cons_zero, List.set_cons_succ]
    · clear hd hcl
      refine wpOp_step rfl (fun K hK => ?_)
      go_simp
      refine hK _ _ ⟨u0, u1, _, u3, u4, u5, u6, u7, u8, u9, ?_, ⟨hC.bw, hC.h0, hC.h1, fun _ => rfl, hC.h3, hC.h4, hC.h5, hC.h6, hC.h7, hC.h8, hC.h9⟩⟩
      simp only [Act.put, List.setIfInBounds_toArray, List.set_cons_zero, List.set_cons_succ]
    · obtain rfl := hC.h2 (hd 2 (by kernel_rfl))
      have her := (HO0.out.go hC.bw).row 0 rfl
      have y20 := her.cellAt 20 (by decide)
      have y21 := her.cellAt 21 (by decide)
      have y22 := her.cellAt 22 (by decide)
      have y23 := her.cellAt 23 (by decide)
      have y24 := her.cellAt 24 (by decide)
      have y25 := her.cellAt 25 (by decide)
      clear hd hcl
      refine wpOp_step rfl (fun K hK => ?_)
      go_simp
      refine hK _ _ ⟨u0, u1, _, _, u4, u5, u6, u7, u8, u9, ?_, ⟨hC.bw, hC.h0, hC.h1, hC.h2, fun _ => rfl, hC.h4, hC.h5, hC.h6, hC.h7, hC.h8, hC.h9⟩⟩
      simp only [Act.put, List.setIfInBounds_toArray, List.set_cons_zero, List.set_cons_succ]
    · clear hd hcl
      refine wpOp_step rfl (fun K hK => ?_)
      go_simp
      refine hK _ _ ⟨u0, u1, u2, u3, _, u5, u6, u7, u8, u9, ?_, ⟨hC.bw, hC.h0, hC.h1, hC.h2, hC.h3, fun _ => rfl, hC.h5, hC.h6, hC.h7, hC.h8, hC.h9⟩⟩
      simp only [Act.put, List.setIfInBounds_toArray, List.set_cons_zero, List.set_cons_succ]
    · obtain rfl := hC.h4 (hd 4 (by kernel_rfl))
      clear hd hcl
      refine wpOp_step rfl (fun K hK => ?_)
      go_simp
      refine hK _ _ ⟨u0, u1, u2, u3, _, _, u6, u7, u8, u9, ?_, ⟨hC.bw, hC.h0, hC.h1, hC.h2, hC.h3, hC.h4, fun _ => rfl, hC.h6, hC.h7, hC.h8, hC.h9⟩⟩
      simp only [Act.put, List.setIfInBounds_toArray, List.set_cons_zero, List.set_cons_succ]
    · obtain rfl := hC.h5 (hd 5 (by kernel_rfl))
      have her := (HO0.out.go hC.bw).row 0 rfl
      have y10 := her.cellAt 10 (by decide)
      have y11 := her.cellAt 11 (by decide)
      have y12 := her.cellAt 12 (by decide)
      have y13 := her.cellAt 13 (by decide)
      have y14 := her.cellAt 14 (by decide)
      have y15 := her.cellAt 15 (by decide)
      clear hd hcl
      refine wpOp_step rfl (fun K hK => ?_)
      go_simp
      refine hK _ _ ⟨u0, u1, u2, u3, u4, _, _, u7, u8, u9, ?_, ⟨hC.bw, hC.h0, hC.h1, hC.h2, hC.h3, hC.h4, hC.h5, fun _ => rfl, hC.h7, hC.h8, hC.h9⟩⟩
      simp only [Act.put, List.setIfInBounds_toArray, List.set_cons_zero, List.set_cons_succ]
    · clear hd hcl
      refine wpOp_step rfl (fun K hK => ?_)
      go_simp
      refine hK _ _ ⟨u0, u1, u2, u3, u4, u5, u6, _, u8, u9, ?_, ⟨(below_allocX hC.bw _), hC.h0, hC.h1, hC.h2, hC.h3, hC.h4, hC.h5, hC.h6, fun _ => ⟨_, ⟨hC.bw.size, Cel.new _ _ _⟩, rfl⟩, fun h => by obtain ⟨b, hb, e⟩ := hC.h8 h; exact ⟨b, ⟨hb.1, hb.2.alloc _⟩, e⟩, fun h => by obtain ⟨b, hb, e⟩ := hC.h9 h; exact ⟨b, ⟨hb.1, hb.2.alloc _⟩, e⟩⟩⟩
      simp only [Act.put, List.setIfInBounds_toArray, List.set_cons_zero, List.set_cons_succ]
    · clear hd hcl
      refine wpOp_step rfl (fun K hK => ?_)
      go_simp
      refine hK _ _ ⟨u0, u1, u2, u3, u4, u5, u6, u7, _, u9, ?_, ⟨(below_allocX hC.bw _), hC.h0, hC.h1, hC.h2, hC.h3, hC.h4, hC.h5, hC.h6, fun h => by obtain ⟨b, hb, e⟩ := hC.h7 h; exact ⟨b, ⟨hb.1, hb.2.alloc _⟩, e⟩, fun _ => ⟨_, ⟨hC.bw.size, Cel.new _ _ _⟩, rfl⟩, fun h => by obtain ⟨b, hb, e⟩ := hC.h9 h; exact ⟨b, ⟨hb.1, hb.2.alloc _⟩, e⟩⟩⟩
      simp only [Act.put, List.setIfInBounds_toArray, List.set_cons_zero, List.set_cons_succ]
    · clear hd hcl
      refine wpOp_step rfl (fun K hK => ?_)
      go_simp
      refine hK _ _ ⟨u0, u1, u2, u3, u4, u5, u6, u7, u8, _, ?_, ⟨(below_allocX hC.bw _), hC.h0, hC.h1, hC.h2, hC.h3, hC.h4, hC.h5, hC.h6, fun h => by obtain ⟨b, hb, e⟩ := hC.h7 h; exact ⟨b, ⟨hb.1, hb.2.alloc _⟩, e⟩, fun h => by obtain ⟨b, hb, e⟩ := hC.h8 h; exact ⟨b, ⟨hb.1, hb.2.alloc _⟩, e⟩, fun _ => ⟨_, ⟨hC.bw.size, Cel.new _ _ _⟩, rfl⟩⟩⟩
      simp only [Act.put, List.setIfInBounds_toArray, List.set_cons_zero, List.set_cons_succ]
    · obtain ⟨z, ⟨hzB, hzC⟩, rfl⟩ := hC.h7 (hd 7 (by kernel_rfl))
      obtain rfl := hC.h1 (hd 1 (by kernel_rfl))
      have hzC2 := hzC
      obtain ⟨old, hg, ho⟩ := hzC
      clear hd hcl
      refine wpOp_step rfl (fun K hK => ?_)
      rw [if_pos (by rfl)]
      refine wp_store_row 33 (.tmp 4) (.tmp 11) rfl z #[.int .i64 0, .int .i64 0, .int .i64 0, .int .i64 0, .int .i64 0, .int .i64 0, .int .i64 0, .int .i64 0, .int .u8 0, .int .u8 0, .bool false] rfl rfl 33 _ hg sizeFa ho (by simp [Value.oneCell']) ?_
      refine hK _ _ ⟨u0, (.agg #[.int .i64 0, .int .i64 0, .int .i64 0, .int .i64 0, .int .i64 0, .int .i64 0, .int .i64 0, .int .i64 0, .int .u8 0, .int .u8 0, .bool false]), u2, u3, u4, u5, u6, (.pointer (some ⟨z, 0, none⟩)), u8, u9, ?_, ⟨(below_setRow hC.bw hzB _), hC.h0, hC.h1, hC.h2, hC.h3, hC.h4, hC.h5, hC.h6, fun h => by obtain ⟨b, hb, e⟩ := hC.h7 h; exact ⟨b, ⟨hb.1, hb.2.row hzC2⟩, e⟩, fun h => by obtain ⟨b, hb, e⟩ := hC.h8 h; exact ⟨b, ⟨hb.1, hb.2.row hzC2⟩, e⟩, fun h => by obtain ⟨b, hb, e⟩ := hC.h9 h; exact ⟨b, ⟨hb.1, hb.2.row hzC2⟩, e⟩⟩⟩
      simp only [Act.put, List.setIfInBounds_toArray, List.set_cons_zero, List.set_cons_succ]
      rfl
    · obtain ⟨z, ⟨hzB, hzC⟩, rfl⟩ := hC.h8 (hd 8 (by kernel_rfl))
      obtain rfl := hC.h3 (hd 3 (by kernel_rfl))
      have hzC2 := hzC
      obtain ⟨old, hg, ho⟩ := hzC
      clear hd hcl
      refine wpOp_step rfl (fun K hK => ?_)
      rw [if_pos (by rfl)]
      refine wp_store_row 35 (.tmp 5) (.tmp 13) rfl z #[.int .i64 0, .int .i64 0, .int .i64 0, .int .i64 0, .bool false, .bool false] rfl rfl 35 _ hg sizeTr ho (by simp [Value.oneCell']) ?_
      refine hK _ _ ⟨u0, u1, u2, (.agg #[.int .i64 0, .int .i64 0, .int .i64 0, .int .i64 0, .bool false, .bool false]), u4, u5, u6, u7, (.pointer (some ⟨z, 0, none⟩)), u9, ?_, ⟨(below_setRow hC.bw hzB _), hC.h0, hC.h1, hC.h2, hC.h3, hC.h4, hC.h5, hC.h6, fun h => by obtain ⟨b, hb, e⟩ := hC.h7 h; exact ⟨b, ⟨hb.1, hb.2.row hzC2⟩, e⟩, fun h => by obtain ⟨b, hb, e⟩ := hC.h8 h; exact ⟨b, ⟨hb.1, hb.2.row hzC2⟩, e⟩, fun h => by obtain ⟨b, hb, e⟩ := hC.h9 h; exact ⟨b, ⟨hb.1, hb.2.row hzC2⟩, e⟩⟩⟩
      simp only [Act.put, List.setIfInBounds_toArray, List.set_cons_zero, List.set_cons_succ]
      rfl
    · obtain ⟨z, ⟨hzB, hzC⟩, rfl⟩ := hC.h9 (hd 9 (by kernel_rfl))
      obtain rfl := hC.h6 (hd 6 (by kernel_rfl))
      have hzC2 := hzC
      obtain ⟨old, hg, ho⟩ := hzC
      clear hd hcl
      refine wpOp_step rfl (fun K hK => ?_)
      rw [if_pos (by rfl)]
      refine wp_store_row 31 (.tmp 6) (.tmp 16) rfl z #[.int .i64 0, .int .i64 0, .int .i64 0, .int .i64 0, .int .i64 0, .int .i64 0] rfl rfl 31 _ hg sizePl ho (by simp [Value.oneCell']) ?_
      refine hK _ _ ⟨u0, u1, u2, u3, u4, u5, (.agg #[.int .i64 0, .int .i64 0, .int .i64 0, .int .i64 0, .int .i64 0, .int .i64 0]), u7, u8, (.pointer (some ⟨z, 0, none⟩)), ?_, ⟨(below_setRow hC.bw hzB _), hC.h0, hC.h1, hC.h2, hC.h3, hC.h4, hC.h5, hC.h6, fun h => by obtain ⟨b, hb, e⟩ := hC.h7 h; exact ⟨b, ⟨hb.1, hb.2.row hzC2⟩, e⟩, fun h => by obtain ⟨b, hb, e⟩ := hC.h8 h; exact ⟨b, ⟨hb.1, hb.2.row hzC2⟩, e⟩, fun h => by obtain ⟨b, hb, e⟩ := hC.h9 h; exact ⟨b, ⟨hb.1, hb.2.row hzC2⟩, e⟩⟩⟩
      simp only [Act.put, List.setIfInBounds_toArray, List.set_cons_zero, List.set_cons_succ]
      rfl
  · rintro Ld b W hL ⟨u0, u1, u2, u3, u4, u5, u6, u7, u8, u9, rfl, hC⟩
    obtain ⟨fb, -, rfl⟩ := hC.h7 (hL 7 (by show 7 < 13; decide))
    obtain ⟨tb, -, rfl⟩ := hC.h8 (hL 8 (by show 8 < 13; decide))
    obtain ⟨pb, -, rfl⟩ := hC.h9 (hL 9 (by show 9 < 13; decide))
    have HO1 := Lib.hid (HO0.out.go hC.bw)
    have her := HO1.out.row 0 rfl
    have y0 := her.cellAt 0 (by decide)
    clear hC hL her HO0
    simp only [Act.put, List.setIfInBounds_toArray, List.set_cons_zero, List.set_cons_succ]
    go_upto_region 5 with fail
    refine reg_inv34 (LaI w w.heap.size db c) (by kernel_rfl) (by kernel_rfl) ?_ ?_ ?_
    · refine ⟨undef, undef, undef, undef, undef, undef, undef, undef, ?_, ⟨⟨none, 0, [], HO1.out.drew, (fun _ => rfl), (fun h => by cases h)⟩, ?_, ?_, ?_, ?_, ?_, ?_, ?_⟩⟩
      · simp only [Act.put, List.setIfInBounds_toArray, List.set_cons_zero, List.set_cons_succ]
      all_goals (intro h; cases h)
    · rintro jj Ld b W hj hf hcl hd ⟨u0, u1, u2, u3, u4, u5, u6, u7, rfl, hC⟩
      have hj' : jj < 10 := hj
      have hcase : jj = 0 ∨ jj = 1 ∨ jj = 2 ∨ jj = 3 ∨ jj = 4 ∨ jj = 5 ∨ jj = 6 ∨ jj = 7 ∨ jj = 8 ∨ jj = 9 := by omega
      clear hj hj'
      simp only [Act.put, List.setIfInBounds_toArray, List.set_cons_zero, List.set_cons_succ]
      rcases hcase with rfl | rfl | rfl | rfl | rfl | rfl | rfl | rfl | rfl | rfl
      · clear hd hcl
        refine wpOp_step rfl (fun K hK => ?_)
        go_simp
        refine hK _ _ ⟨_, u1, u2, u3, u4, u5, u6, u7, ?_, ⟨hC.ow, fun _ => rfl, hC.h1, hC.h3, hC.h4, hC.h5, hC.h6, hC.h7⟩⟩
        (simp only [Act.put, List.setIfInBounds_toArray, List.set_cons_zero, List.set_cons_succ]) <;> rfl
      · obtain rfl := hC.h0 (hd 0 (by kernel_rfl))
        obtain ⟨A2, c2, l, how, h1, h2⟩ := hC.ow
        have her := how.row 0 rfl
        have y3 : W.cell? ⟨w.heap.size, 3, none⟩ = some (.int .i64 2) := her.cellAt 3 (by decide)
        have y4 : W.cell? ⟨w.heap.size, 4, none⟩ = some (.int .i64 1) := her.cellAt 4 (by decide)
        have y5 : W.cell? ⟨w.heap.size, 5, none⟩ = some (.int .i64 0) := her.cellAt 5 (by decide)
        have y6 : W.cell? ⟨w.heap.size, 6, none⟩ = some (.int .i64 3) := her.cellAt 6 (by decide)
        have y7 : W.cell? ⟨w.heap.size, 7, none⟩ = some (.int .i64 0) := her.cellAt 7 (by decide)
        have y8 : W.cell? ⟨w.heap.size, 8, none⟩ = some (.slice (some ⟨db, 0, none⟩) 2 c) := her.cellAt 8 (by decide)
        clear hd hcl
        refine wpOp_step rfl (fun K hK => ?_)
        go_simp
        refine hK _ _ ⟨(.pointer (some ⟨w.heap.size, 3, none⟩)), _, u2, u3, u4, u5, u6, u7, ?_, ⟨hC.ow, hC.h0, fun _ => rfl, hC.h3, hC.h4, hC.h5, hC.h6, hC.h7⟩⟩
        (simp only [Act.put, List.setIfInBounds_toArray, List.set_cons_zero, List.set_cons_succ]) <;> rfl
      · obtain rfl := hC.h1 (hd 1 (by kernel_rfl))
        obtain ⟨A2, c2, l, how, h1, h2⟩ := hC.ow
        obtain rfl := h1 hf
        have h8 : Ld 8 = false := cl_no hcl hf (by kernel_rfl)
        rw [h8] at how
        have cc0 := (how.below.cell HD.out).trans c0
        have cc1 := (how.below.cell HD.out).trans c1
        have hdw := Nat.lt_of_lt_of_le HD.out how.size
        clear hd hcl
        refine wpOp_step rfl (fun K hK => ?_)
        go_simp
        refine (operation_two W db c hdw cc0 cc1).mono ?_
        rintro e W2 ⟨B2, d2, rfl, hb, hown⟩
        have ho := how.add hown hb
        simp only [List.cons_append, List.nil_append] at ho
        refine hK _ _ ⟨u0, (.agg #[.int .i64 2, .int .i64 1, .int .i64 0, .int .i64 3, .int .i64 0, .slice (some ⟨db, 0, none⟩) 2 c]), _, u3, u4, u5, u6, u7, ?_, ⟨⟨B2, d2, _, (by rw [show dset Ld 2 8 = false from h8]; exact ho), (fun h => by cases h), (fun _ => ⟨rfl, rfl⟩)⟩, hC.h0, hC.h1, hC.h3, hC.h4, hC.h5, hC.h6, hC.h7⟩⟩
        (simp only [Act.put, List.setIfInBounds_toArray, List.set_cons_zero, List.set_cons_succ]) <;> rfl
      · clear hd hcl
        refine wpOp_step rfl (fun K hK => ?_)
        go_simp
        refine hK _ _ ⟨u0, u1, u2, _, u4, u5, u6, u7, ?_, ⟨hC.ow, hC.h0, hC.h1, fun _ => rfl, hC.h4, hC.h5, hC.h6, hC.h7⟩⟩
        (simp only [Act.put, List.setIfInBounds_toArray, List.set_cons_zero, List.set_cons_succ]) <;> rfl
      · obtain rfl := hC.h3 (hd 3 (by kernel_rfl))
        obtain ⟨A2, c2, l, how, h1, h2⟩ := hC.ow
        have her := how.row 0 rfl
        have y0 : W.cell? ⟨w.heap.size, 0, none⟩ = some (.int .i64 1) := her.cellAt 0 (by decide)
        clear hd hcl
        refine wpOp_step rfl (fun K hK => ?_)
        go_simp
        refine hK _ _ ⟨u0, u1, u2, (.pointer (some ⟨w.heap.size, 0, none⟩)), _, u5, u6, u7, ?_, ⟨hC.ow, hC.h0, hC.h1, hC.h3, fun _ => rfl, hC.h5, hC.h6, hC.h7⟩⟩
        (simp only [Act.put, List.setIfInBounds_toArray, List.set_cons_zero, List.set_cons_succ]) <;> rfl
      · clear hd hcl
        refine wpOp_step rfl (fun K hK => ?_)
        go_simp
        refine hK _ _ ⟨u0, u1, u2, u3, u4, _, u6, u7, ?_, ⟨hC.ow, hC.h0, hC.h1, hC.h3, hC.h4, fun _ => rfl, hC.h6, hC.h7⟩⟩
        (simp only [Act.put, List.setIfInBounds_toArray, List.set_cons_zero, List.set_cons_succ]) <;> rfl
      · obtain rfl := hC.h5 (hd 5 (by kernel_rfl))
        obtain ⟨A2, c2, l, how, h1, h2⟩ := hC.ow
        have her := how.row 0 rfl
        have y3 : W.cell? ⟨w.heap.size, 3, none⟩ = some (.int .i64 2) := her.cellAt 3 (by decide)
        have y4 : W.cell? ⟨w.heap.size, 4, none⟩ = some (.int .i64 1) := her.cellAt 4 (by decide)
        have y5 : W.cell? ⟨w.heap.size, 5, none⟩ = some (.int .i64 0) := her.cellAt 5 (by decide)
        have y6 : W.cell? ⟨w.heap.size, 6, none⟩ = some (.int .i64 3) := her.cellAt 6 (by decide)
        have y7 : W.cell? ⟨w.heap.size, 7, none⟩ = some (.int .i64 0) := her.cellAt 7 (by decide)
        have y8 : W.cell? ⟨w.heap.size, 8, none⟩ = some (.slice (some ⟨db, 0, none⟩) 2 c) := her.cellAt 8 (by decide)
        clear hd hcl
        refine wpOp_step rfl (fun K hK => ?_)
        go_simp
        refine hK _ _ ⟨u0, u1, u2, u3, u4, (.pointer (some ⟨w.heap.size, 3, none⟩)), _, u7, ?_, ⟨hC.ow, hC.h0, hC.h1, hC.h3, hC.h4, hC.h5, fun _ => rfl, hC.h7⟩⟩
        (simp only [Act.put, List.setIfInBounds_toArray, List.set_cons_zero, List.set_cons_succ]) <;> rfl
      · obtain rfl := hC.h4 (hd 4 (by kernel_rfl))
        obtain rfl := hC.h6 (hd 6 (by kernel_rfl))
        clear hd hcl
        refine wpOp_step rfl (fun K hK => ?_)
        go_simp
        refine hK _ _ ⟨u0, u1, u2, u3, (.int .i64 1), u5, (.agg #[.int .i64 2, .int .i64 1, .int .i64 0, .int .i64 3, .int .i64 0, .slice (some ⟨db, 0, none⟩) 2 c]), _, ?_, ⟨hC.ow, hC.h0, hC.h1, hC.h3, hC.h4, hC.h5, hC.h6, fun _ => rfl⟩⟩
        (simp only [Act.put, List.setIfInBounds_toArray, List.set_cons_zero, List.set_cons_succ]) <;> rfl
      · obtain ⟨A2, c2, l, how, h1, h2⟩ := hC.ow
        have e2 := hd 2 (by kernel_rfl)
        obtain ⟨rfl, rfl⟩ := h2 e2
        rw [hf] at how
        simp only [cond_false] at how
        have hg := (how.rowHeap 1 rfl).1
        have ho := how.putRow (k := 3) 1 rfl #[.string ⟨#[119, 114, 105, 116, 101]⟩, .slice A2 3 c2, .string ⟨#[48, 48, 102, 102]⟩] rfl (by omega)
        simp only [List.set_cons_zero, List.set_cons_succ] at ho
        clear hd hcl
        refine wpOp_step rfl (fun K hK => ?_)
        rw [if_pos (by rfl)]
        refine wp_store_row 69 (.tmp 2) (.tmp 24) rfl (w.heap.size + 1) #[.string ⟨#[119, 114, 105, 116, 101]⟩, .slice A2 3 c2, .string ⟨#[48, 48, 102, 102]⟩] rfl rfl 69 _ hg sizeWd rfl (by simp [Value.oneCell']) ?_
        refine hK _ _ ⟨u0, u1, (.agg #[.string ⟨#[119, 114, 105, 116, 101]⟩, .slice A2 3 c2, .string ⟨#[48, 48, 102, 102]⟩]), u3, u4, u5, u6, u7, ?_, ⟨⟨A2, c2, _, ho, (fun h => absurd (e2.symm.trans h) (by decide)), (fun _ => ⟨rfl, rfl⟩)⟩, hC.h0, hC.h1, hC.h3, hC.h4, hC.h5, hC.h6, hC.h7⟩⟩
        (simp only [Act.put, List.setIfInBounds_toArray, List.set_cons_zero, List.set_cons_succ]) <;> rfl
      · obtain rfl := hC.h7 (hd 7 (by kernel_rfl))
        obtain ⟨A2, c2, l, how, h1, h2⟩ := hC.ow
        rw [hf] at how
        simp only [cond_false] at how
        have hg := (how.rowHeap 2 rfl).1
        have ho := how.putRow (k := 26) 2 rfl #[.int .i64 1, .int .i64 0, .int .i64 0, .int .i64 2, .int .i64 1, .int .i64 0, .int .i64 3, .int .i64 0, .slice (some ⟨db, 0, none⟩) 2 c, .int .i64 0, .int .i64 0, .int .i64 0, .int .i64 0, .int .i64 0, .int .i64 0, .int .i64 0, .int .i64 0, .int .u8 0, .int .u8 0, .bool false, .int .i64 0, .int .i64 0, .int .i64 0, .int .i64 0, .bool false, .bool false] rfl (by omega)
        simp only [List.set_cons_zero, List.set_cons_succ] at ho
        clear hd hcl
        refine wpOp_step rfl (fun K hK => ?_)
        rw [if_pos (by rfl)]
        refine wp_store_row 37 (.tmp 3) (.tmp 29) rfl (w.heap.size + 1 + 1) #[.int .i64 1, .int .i64 0, .int .i64 0, .int .i64 2, .int .i64 1, .int .i64 0, .int .i64 3, .int .i64 0, .slice (some ⟨db, 0, none⟩) 2 c, .int .i64 0, .int .i64 0, .int .i64 0, .int .i64 0, .int .i64 0, .int .i64 0, .int .i64 0, .int .i64 0, .int .u8 0, .int .u8 0, .bool false, .int .i64 0, .int .i64 0, .int .i64 0, .int .i64 0, .bool false, .bool false] rfl rfl 37 _ hg sizeEv rfl (by simp [Value.oneCell']) ?_
        refine hK _ _ ⟨u0, u1, u2, u3, u4, u5, u6, (.agg #[.int .i64 1, .int .i64 0, .int .i64 0, .int .i64 2, .int .i64 1, .int .i64 0, .int .i64 3, .int .i64 0, .slice (some ⟨db, 0, none⟩) 2 c, .int .i64 0, .int .i64 0, .int .i64 0, .int .i64 0, .int .i64 0, .int .i64 0, .int .i64 0, .int .i64 0, .int .u8 0, .int .u8 0, .bool false, .int .i64 0, .int .i64 0, .int .i64 0, .int .i64 0, .bool false, .bool false]), ?_, ⟨⟨A2, c2, _, ho, h1, h2⟩, hC.h0, hC.h1, hC.h3, hC.h4, hC.h5, hC.h6, hC.h7⟩⟩
        (simp only [Act.put, List.setIfInBounds_toArray, List.set_cons_zero, List.set_cons_succ]) <;> rfl
    · rintro Ld b W hL ⟨u0, u1, u2, u3, u4, u5, u6, u7, rfl, hC⟩
      obtain ⟨A2, c2, l, how, -, h2⟩ := hC.ow
      obtain ⟨-, rfl⟩ := h2 (hL 2 (by show 2 < 10; decide))
      rw [hL 8 (by show 8 < 10; decide), hL 9 (by show 9 < 10; decide)] at how
      simp only [cond_true] at how
      have HE := Lib.hid how
      clear hC hL how h2
      have l3 := run_loadVar_row (P := Tryd.prog) W (w.heap.size + 1) 69 69 #[.string ⟨#[119, 114, 105, 116, 101]⟩, .slice A2 3 c2, .string ⟨#[48, 48, 102, 102]⟩] (0, 0) _ (HE.out.rowHeap 1 rfl).1 Tryd.underlying69 rfl sizeWd
      have l26 := run_loadVar_row (P := Tryd.prog) W (w.heap.size + 1 + 1) 37 37 #[.int .i64 1, .int .i64 0, .int .i64 0, .int .i64 2, .int .i64 1, .int .i64 0, .int .i64 3, .int .i64 0, .slice (some ⟨db, 0, none⟩) 2 c, .int .i64 0, .int .i64 0, .int .i64 0, .int .i64 0, .int .i64 0, .int .i64 0, .int .i64 0, .int .i64 0, .int .u8 0, .int .u8 0, .bool false, .int .i64 0, .int .i64 0, .int .i64 0, .int .i64 0, .bool false, .bool false] (0, 0) _ (HE.out.rowHeap 2 rfl).1 Tryd.underlying37 rfl sizeEv
      have has : ∀ (ad : Addr) (W : World), (asAddr (.pointer (some ad))).run Tryd.prog W = .ok ad W := fun _ _ => rfl
      simp only [Act.put, List.setIfInBounds_toArray, List.set_cons_zero, List.set_cons_succ]
      go_wp2_with fail
      refine bodyPost_ret (v := .tuple #[.agg #[.string ⟨#[119, 114, 105, 116, 101]⟩, .slice A2 3 c2, .string ⟨#[48, 48, 102, 102]⟩], .agg #[.int .i64 1, .int .i64 0, .int .i64 0, .int .i64 2, .int .i64 1, .int .i64 0, .int .i64 3, .int .i64 0, .slice (some ⟨db, 0, none⟩) 2 c, .int .i64 0, .int .i64 0, .int .i64 0, .int .i64 0, .int .i64 0, .int .i64 0, .int .i64 0, .int .i64 0, .int .u8 0, .int .u8 0, .bool false, .int .i64 0, .int .i64 0, .int .i64 0, .int .i64 0, .bool false, .bool false]]) (by simp [results, Tryd.results21, asAddr, l3, l26]) rfl ?_
      exact ⟨A2, c2, rfl, HE.out.below, HE.out.row 3 rfl⟩
structure LbK (w0 : World) (eb db c : Nat) (Ld : Nat → Bool) (u0 u1 u2 u3 u4 u5 u6 u7 : Value) (W : World) : Prop where
  ow : ∃ (A2 : Option Addr) (c2 : Nat) (l : List Rw), Ow w0 W none [] [] ((⟨some ⟨eb, 0, none⟩, 26, 26, 37, [.int .i64 1, .int .i64 0, .int .i64 0, .int .i64 2, .int .i64 1, .int .i64 0, .int .i64 3, .int .i64 0, .slice (some ⟨db, 0, none⟩) 1 c, .int .i64 0, .int .i64 0, .int .i64 0, .int .i64 0, .int .i64 0, .int .i64 0, .int .i64 0, .int .i64 0, .int .u8 0, .int .u8 0, .bool false, .int .i64 0, .int .i64 0, .int .i64 0, .int .i64 0, .bool false, .bool false]⟩ : Rw) :: (⟨some ⟨(eb + 1), 0, none⟩, 3, 3, 69, (cond (Ld 8) [.string ⟨#[119, 114, 105, 116, 101]⟩, .slice A2 3 c2, .string ⟨#[48, 48]⟩] [.string ⟨#[]⟩, .slice none 0 0, .string ⟨#[]⟩])⟩ : Rw) :: (⟨some ⟨(eb + 1 + 1), 0, none⟩, 26, 26, 37, (cond (Ld 9) [.int .i64 1, .int .i64 0, .int .i64 0, .int .i64 2, .int .i64 1, .int .i64 0, .int .i64 3, .int .i64 0, .slice (some ⟨db, 0, none⟩) 1 c, .int .i64 0, .int .i64 0, .int .i64 0, .int .i64 0, .int .i64 0, .int .i64 0, .int .i64 0, .int .i64 0, .int .u8 0, .int .u8 0, .bool false, .int .i64 0, .int .i64 0, .int .i64 0, .int .i64 0, .bool false, .bool false] [.int .i64 0, .int .i64 0, .int .i64 0, .int .i64 0, .int .i64 0, .int .i64 0, .int .i64 0, .int .i64 0, .slice none 0 0, .int .i64 0, .int .i64 0, .int .i64 0, .int .i64 0, .int .i64 0, .int .i64 0, .int .i64 0, .int .i64 0, .int .u8 0, .int .u8 0, .bool false, .int .i64 0, .int .i64 0, .int .i64 0, .int .i64 0, .bool false, .bool false])⟩ : Rw) :: l) ∧ (Ld 2 = false → l = []) ∧ (Ld 2 = true → u2 = .agg #[.string ⟨#[119, 114, 105, 116, 101]⟩, .slice A2 3 c2, .string ⟨#[48, 48]⟩] ∧ l = [(⟨A2, 3, c2, 3, [.int .i64 1, .int .i64 0, .int .i64 3]⟩ : Rw)])
  h0 : Ld 0 = true → u0 = .pointer (some ⟨eb, 3, none⟩)
  h1 : Ld 1 = true → u1 = .agg #[.int .i64 2, .int .i64 1, .int .i64 0, .int .i64 3, .int .i64 0, .slice (some ⟨db, 0, none⟩) 1 c]
  h3 : Ld 3 = true → u3 = .pointer (some ⟨eb, 0, none⟩)
  h4 : Ld 4 = true → u4 = .int .i64 1
  h5 : Ld 5 = true → u5 = .pointer (some ⟨eb, 3, none⟩)
  h6 : Ld 6 = true → u6 = .agg #[.int .i64 2, .int .i64 1, .int .i64 0, .int .i64 3, .int .i64 0, .slice (some ⟨db, 0, none⟩) 1 c]
  h7 : Ld 7 = true → u7 = .agg #[.int .i64 1, .int .i64 0, .int .i64 0, .int .i64 2, .int .i64 1, .int .i64 0, .int .i64 3, .int .i64 0, .slice (some ⟨db, 0, none⟩) 1 c, .int .i64 0, .int .i64 0, .int .i64 0, .int .i64 0, .int .i64 0, .int .i64 0, .int .i64 0, .int .i64 0, .int .u8 0, .int .u8 0, .bool false, .int .i64 0, .int .i64 0, .int .i64 0, .int .i64 0, .bool false, .bool false]
def LbI (w0 : World) (eb db c : Nat) (A0 : Act) (Ld : Nat → Bool) (a : Act) (W : World) : Prop :=
  ∃ (u0 u1 u2 u3 u4 u5 u6 u7 : Value), a = ((((((((A0.put (some 22) u0).put (some 23) u1).put (some 24) u2).put (some 25) u3).put (some 26) u4).put (some 27) u5).put (some 28) u6).put (some 29) u7) ∧ LbK w0 eb db c Ld u0 u1 u2 u3 u4 u5 u6 u7 W
set_option maxHeartbeats 4000000 in
theorem line_one (w : World) (db c : Nat) (hdb : db < w.heap.size) (c0 : w.cell? ⟨db, 0, none⟩ = some (.int .u8 0)) :
    Calls Tryd.prog 21 #[.agg #[.int .i64 1, .int .i64 0, .int .i64 0, .int .i64 2, .int .i64 1, .int .i64 0, .int .i64 3, .int .i64 0, .slice (some ⟨db, 0, none⟩) 1 c, .int .i64 0, .int .i64 0, .int .i64 0, .int .i64 0, .int .i64 0, .int .i64 0, .int .i64 0, .int .i64 0, .int .u8 0, .int .u8 0, .bool false, .int .i64 0, .int .i64 0, .int .i64 0, .int .i64 0, .bool false, .bool false]] w fun e w' => ∃ (A2 : Option Addr) (c2 : Nat), e = .returned (.tuple #[.agg #[.string ⟨#[119, 114, 105, 116, 101]⟩, .slice A2 3 c2, .string ⟨#[48, 48]⟩], .agg #[.int .i64 1, .int .i64 0, .int .i64 0, .int .i64 2, .int .i64 1, .int .i64 0, .int .i64 3, .int .i64 0, .slice (some ⟨db, 0, none⟩) 1 c, .int .i64 0, .int .i64 0, .int .i64 0, .int .i64 0, .int .i64 0, .int .i64 0, .int .i64 0, .int .i64 0, .int .u8 0, .int .u8 0, .bool false, .int .i64 0, .int .i64 0, .int .i64 0, .int .i64 0, .bool false, .bool false]]) ∧ Below w.heap.size w w' ∧ w'.ownsRow w.heap.size 3 1 (.slice A2 3 c2) 3 [.int .i64 1, .int .i64 0, .int .i64 3] := by
  have HD := Lib.hid hdb
  clear hdb
  have H0 := (((Ow.of (St.refl w)).arr #[.int .i64 1, .int .i64 0, .int .i64 0, .int .i64 2, .int .i64 1, .int .i64 0, .int .i64 3, .int .i64 0, .slice (some ⟨db, 0, none⟩) 1 c, .int .i64 0, .int .i64 0, .int .i64 0, .int .i64 0, .int .i64 0, .int .i64 0, .int .i64 0, .int .i64 0, .int .u8 0, .int .u8 0, .bool false, .int .i64 0, .int .i64 0, .int .i64 0, .int .i64 0, .bool false, .bool false] 26 rfl (by omega) 37).arr #[.string ⟨#[]⟩, .slice none 0 0, .string ⟨#[]⟩] 3 rfl (by omega) 69).arr #[.int .i64 0, .int .i64 0, .int .i64 0, .int .i64 0, .int .i64 0, .int .i64 0, .int .i64 0, .int .i64 0, .slice none 0 0, .int .i64 0, .int .i64 0, .int .i64 0, .int .i64 0, .int .i64 0, .int .i64 0, .int .i64 0, .int .i64 0, .int .u8 0, .int .u8 0, .bool false, .int .i64 0, .int .i64 0, .int .i64 0, .int .i64 0, .bool false, .bool false] 26 rfl (by omega) 37
  simp only [World.size_alloc, List.cons_append, List.nil_append] at H0
  have HO0 := Lib.hid H0
  clear H0
  go_enter Tryd.func21, Tryd.ntmps21
  go_wp2_with fail
  refine reg_inv34 (L1I (((w.alloc (.cells #[.int .i64 1, .int .i64 0, .int .i64 0, .int .i64 2, .int .i64 1, .int .i64 0, .int .i64 3, .int .i64 0, .slice (some ⟨db, 0, none⟩) 1 c, .int .i64 0, .int .i64 0, .int .i64 0, .int .i64 0, .int .i64 0, .int .i64 0, .int .i64 0, .int .i64 0, .int .u8 0, .int .u8 0, .bool false, .int .i64 0, .int .i64 0, .int .i64 0, .int .i64 0, .bool false, .bool false] 37)).alloc (.cells #[.string ⟨#[]⟩, .slice none 0 0, .string ⟨#[]⟩] 69)).alloc (.cells #[.int .i64 0, .int .i64 0, .int .i64 0, .int .i64 0, .int .i64 0, .int .i64 0, .int .i64 0, .int .i64 0, .slice none 0 0, .int .i64 0, .int .i64 0, .int .i64 0, .int .i64 0, .int .i64 0, .int .i64 0, .int .i64 0, .int .i64 0, .int .u8 0, .int .u8 0, .bool false, .int .i64 0, .int .i64 0, .int .i64 0, .int .i64 0, .bool false, .bool false] 37)) w.heap.size) (by kernel_rfl) (by kernel_rfl) ?_ ?_ ?_
  · refine ⟨undef, undef, undef, undef, undef, undef, undef, undef, undef, undef, ?_, ⟨(Below.refl _ _).drew, ?_, ?_, ?_, ?_, ?_, ?_, ?_, ?_, ?_, ?_⟩⟩
    · simp only [Act.put, List.setIfInBounds_toArray, List.set_cons_zero, List.set_cons_succ]
    all_goals (intro h; cases h)
  · rintro jj Ld b W hj hf hcl hd ⟨u0, u1, u2, u3, u4, u5, u6, u7, u8, u9, rfl, hC⟩
    have hj' : jj < 13 := hj
    have hcase : jj = 0 ∨ jj = 1 ∨ jj = 2 ∨ jj = 3 ∨ jj = 4 ∨ jj = 5 ∨ jj = 6 ∨ jj = 7 ∨ jj = 8 ∨ jj = 9 ∨ jj = 10 ∨ jj = 11 ∨ jj = 12 := by omega
    clear hj hj'
    simp only [Act.put, List.setIfInBounds_toArray, List.set_cons_zero, List.set_cons_succ]
    rcases hcase with rfl | rfl | rfl | rfl | rfl | rfl | rfl | rfl | rfl | rfl | rfl | rfl | rfl
    · clear hd hcl
      refine wpOp_step rfl (fun K hK => ?_)
      go_simp
      refine hK _ _ ⟨_, u1, u2, u3, u4, u5, u6, u7, u8, u9, ?_, ⟨hC.bw, fun _ => rfl, hC.h1, hC.h2, hC.h3, hC.h4, hC.h5, hC.h6, hC.h7, hC.h8, hC.h9⟩⟩
      simp only [Act.put, List.setIfInBounds_toArray, List.set_cons_zero, List.set_cons_succ]
    · obtain rfl := hC.h0 (hd 0 (by kernel_rfl))
      have her := (HO0.out.go hC.bw).row 0 rfl
      have y9 := her.cellAt 9 (by decide)
      have y10 := her.cellAt 10 (by decide)
      have y11 := her.cellAt 11 (by decide)
      have y12 := her.cellAt 12 (by decide)
      have y13 := her.cellAt 13 (by decide)
      have y14 := her.cellAt 14 (by decide)
      have y15 := her.cellAt 15 (by decide)
      have y16 := her.cellAt 16 (by decide)
      have y17 := her.cellAt 17 (by decide)
      have y18 := her.cellAt 18 (by decide)
      have y19 := her.cellAt 19 (by decide)
      clear hd hcl
      refine wpOp_step rfl (fun K hK => ?_)
      go_simp
      refine hK _ _ ⟨_, _, u2, u3, u4, u5, u6, u7, u8, u9, ?_, ⟨hC.bw, hC.h0, fun _ => rfl, hC.h2, hC.h3, hC.h4, hC.h5, hC.h6, hC.h7, hC.h8, hC.h9⟩⟩
      simp only [Act.put, List.setIfInBounds_toArray, List.set_cons_zero, List.set_cons_succ]
    · clear hd hcl
      refine wpOp_step rfl (fun K hK => ?_)
      go_simp
      refine hK _ _ ⟨u0, u1, _, u3, u4, u5, u6, u7, u8, u9, ?_, ⟨hC.bw, hC.h0, hC.h1, fun _ => rfl, hC.h3, hC.h4, hC.h5, hC.h6, hC.h7, hC.h8, hC.h9⟩⟩
      simp only [Act.put, List.setIfInBounds_toArray, List.set_cons_zero, List.set_cons_succ]
    · obtain rfl := hC.h2 (hd 2 (by kernel_rfl))
      have her := (HO0.out.go hC.bw).row 0 rfl
      have y20 := her.cellAt 20 (by decide)
      have y21 := her.cellAt 21 (by decide)
      have y22 := her.cellAt 22 (by decide)
      have y23 := her.cellAt 23 (by decide)
      have y24 := her.cellAt 24 (by decide)
      have y25 := her.cellAt 25 (by decide)
      clear hd hcl
      refine wpOp_step rfl (fun K hK => ?_)
      go_simp
      refine hK _ _ ⟨u0, u1, _, _, u4, u5, u6, u7, u8, u9, ?_, ⟨hC.bw, hC.h0, hC.h1, hC.h2, fun _ => rfl, hC.h4, hC.h5, hC.h6, hC.h7, hC.h8, hC.h9⟩⟩
      simp only [Act.put, List.setIfInBounds_toArray, List.set_cons_zero, List.set_cons_succ]
    · clear hd hcl
      refine wpOp_step rfl (fun K hK => ?_)
      go_simp
      refine hK _ _ ⟨u0, u1, u2, u3, _, u5, u6, u7, u8, u9, ?_, ⟨hC.bw, hC.h0, hC.h1, hC.h2, hC.h3, fun _ => rfl, hC.h5, hC.h6, hC.h7, hC.h8, hC.h9⟩⟩
      simp only [Act.put, List.setIfInBounds_toArray, List.set_cons_zero, List.set_cons_succ]
    · obtain rfl := hC.h4 (hd 4 (by kernel_rfl))
      clear hd hcl
      refine wpOp_step rfl (fun K hK => ?_)
      go_simp
      refine hK _ _ ⟨u0, u1, u2, u3, _, _, u6, u7, u8, u9, ?_, ⟨hC.bw, hC.h0, hC.h1, hC.h2, hC.h3, hC.h4, fun _ => rfl, hC.h6, hC.h7, hC.h8, hC.h9⟩⟩
      simp only [Act.put, List.setIfInBounds_toArray, List.set_cons_zero, List.set_cons_succ]
    · obtain rfl := hC.h5 (hd 5 (by kernel_rfl))
      have her := (HO0.out.go hC.bw).row 0 rfl
      have y10 := her.cellAt 10 (by decide)
      have y11 := her.cellAt 11 (by decide)
      have y12 := her.cellAt 12 (by decide)
      have y13 := her.cellAt 13 (by decide)
      have y14 := her.cellAt 14 (by decide)
      have y15 := her.cellAt 15 (by decide)
      clear hd hcl
      refine wpOp_step rfl (fun K hK => ?_)
      go_simp
      refine hK _ _ ⟨u0, u1, u2, u3, u4, _, _, u7, u8, u9, ?_, ⟨hC.bw, hC.h0, hC.h1, hC.h2, hC.h3, hC.h4, hC.h5, fun _ => rfl, hC.h7, hC.h8, hC.h9⟩⟩
      simp only [Act.put, List.setIfInBounds_toArray, List.set_cons_zero, List.set_cons_succ]
    · clear hd hcl
      refine wpOp_step rfl (fun K hK => ?_)
      go_simp
      refine hK _ _ ⟨u0, u1, u2, u3, u4, u5, u6, _, u8, u9, ?_, ⟨(below_allocX hC.bw _), hC.h0, hC.h1, hC.h2, hC.h3, hC.h4, hC.h5, hC.h6, fun _ => ⟨_, ⟨hC.bw.size, Cel.new _ _ _⟩, rfl⟩, fun h => by obtain ⟨b, hb, e⟩ := hC.h8 h; exact ⟨b, ⟨hb.1, hb.2.alloc _⟩, e⟩, fun h => by obtain ⟨b, hb, e⟩ := hC.h9 h; exact ⟨b, ⟨hb.1, hb.2.alloc _⟩, e⟩⟩⟩
      simp only [Act.put, List.setIfInBounds_toArray, List.set_cons_zero, List.set_cons_succ]
    · clear hd hcl
      refine wpOp_step rfl (fun K hK => ?_)
      go_simp
      refine hK _ _ ⟨u0, u1, u2, u3, u4, u5, u6, u7, _, u9, ?_, ⟨(below_allocX hC.bw _), hC.h0, hC.h1, hC.h2, hC.h3, hC.h4, hC.h5, hC.h6, fun h => by obtain ⟨b, hb, e⟩ := hC.h7 h; exact ⟨b, ⟨hb.1, hb.2.alloc _⟩, e⟩, fun _ => ⟨_, ⟨hC.bw.size, Cel.new _ _ _⟩, rfl⟩, fun h => by obtain ⟨b, hb, e⟩ := hC.h9 h; exact ⟨b, ⟨hb.1, hb.2.alloc _⟩, e⟩⟩⟩
      simp only [Act.put, List.setIfInBounds_toArray, List.set_cons_zero, List.set_cons_succ]
    · clear hd hcl
      refine wpOp_step rfl (fun K hK => ?_)
      go_simp
      refine hK _ _ ⟨u0, u1, u2, u3, u4, u5, u6, u7, u8, _, ?_, ⟨(below_allocX hC.bw _), hC.h0, hC.h1, hC.h2, hC.h3, hC.h4, hC.h5, hC.h6, fun h => by obtain ⟨b, hb, e⟩ := hC.h7 h; exact ⟨b, ⟨hb.1, hb.2.alloc _⟩, e⟩, fun h => by obtain ⟨b, hb, e⟩ := hC.h8 h; exact ⟨b, ⟨hb.1, hb.2.alloc _⟩, e⟩, fun _ => ⟨_, ⟨hC.bw.size, Cel.new _ _ _⟩, rfl⟩⟩⟩
      simp only [Act.put, List.setIfInBounds_toArray, List.set_cons_zero, List.set_cons_succ]
    · obtain ⟨z, ⟨hzB, hzC⟩, rfl⟩ := hC.h7 (hd 7 (by kernel_rfl))
      obtain rfl := hC.h1 (hd 1 (by kernel_rfl))
      have hzC2 := hzC
      obtain ⟨old, hg, ho⟩ := hzC
      clear hd hcl
      refine wpOp_step rfl (fun K hK => ?_)
      rw [if_pos (by rfl)]
      refine wp_store_row 33 (.tmp 4) (.tmp 11) rfl z #[.int .i64 0, .int .i64 0, .int .i64 0, .int .i64 0, .int .i64 0, .int .i64 0, .int .i64 0, .int .i64 0, .int .u8 0, .int .u8 0, .bool false] rfl rfl 33 _ hg sizeFa ho (by simp [Value.oneCell']) ?_
      refine hK _ _ ⟨u0, (.agg #[.int .i64 0, .int .i64 0, .int .i64 0, .int .i64 0, .int .i64 0, .int .i64 0, .int .i64 0, .int .i64 0, .int .u8 0, .int .u8 0, .bool false]), u2, u3, u4, u5, u6, (.pointer (some ⟨z, 0, none⟩)), u8, u9, ?_, ⟨(below_setRow hC.bw hzB _), hC.h0, hC.h1, hC.h2, hC.h3, hC.h4, hC.h5, hC.h6, fun h => by obtain ⟨b, hb, e⟩ := hC.h7 h; exact ⟨b, ⟨hb.1, hb.2.row hzC2⟩, e⟩, fun h => by obtain ⟨b, hb, e⟩ := hC.h8 h; exact ⟨b, ⟨hb.1, hb.2.row hzC2⟩, e⟩, fun h => by obtain ⟨b, hb, e⟩ := hC.h9 h; exact ⟨b, ⟨hb.1, hb.2.row hzC2⟩, e⟩⟩⟩
      simp only [Act.put, List.setIfInBounds_toArray, List.set_cons_zero, List.set_cons_succ]
      rfl
    · obtain ⟨z, ⟨hzB, hzC⟩, rfl⟩ := hC.h8 (hd 8 (by kernel_rfl))
      obtain rfl := hC.h3 (hd 3 (by kernel_rfl))
      have hzC2 := hzC
      obtain ⟨old, hg, ho⟩ := hzC
      clear hd hcl
      refine wpOp_step rfl (fun K hK => ?_)
      rw [if_pos (by rfl)]
      refine wp_store_row 35 (.tmp 5) (.tmp 13) rfl z #[.int .i64 0, .int .i64 0, .int .i64 0, .int .i64 0, .bool false, .bool false] rfl rfl 35 _ hg sizeTr ho (by simp [Value.oneCell']) ?_
      refine hK _ _ ⟨u0, u1, u2, (.agg #[.int .i64 0, .int .i64 0, .int .i64 0, .int .i64 0, .bool false, .bool false]), u4, u5, u6, u7, (.pointer (some ⟨z, 0, none⟩)), u9, ?_, ⟨(below_setRow hC.bw hzB _), hC.h0, hC.h1, hC.h2, hC.h3, hC.h4, hC.h5, hC.h6, fun h => by obtain ⟨b, hb, e⟩ := hC.h7 h; exact ⟨b, ⟨hb.1, hb.2.row hzC2⟩, e⟩, fun h => by obtain ⟨b, hb, e⟩ := hC.h8 h; exact ⟨b, ⟨hb.1, hb.2.row hzC2⟩, e⟩, fun h => by obtain ⟨b, hb, e⟩ := hC.h9 h; exact ⟨b, ⟨hb.1, hb.2.row hzC2⟩, e⟩⟩⟩
      simp only [Act.put, List.setIfInBounds_toArray, List.set_cons_zero, List.set_cons_succ]
      rfl
    · obtain ⟨z, ⟨hzB, hzC⟩, rfl⟩ := hC.h9 (hd 9 (by kernel_rfl))
      obtain rfl := hC.h6 (hd 6 (by kernel_rfl))
      have hzC2 := hzC
      obtain ⟨old, hg, ho⟩ := hzC
      clear hd hcl
      refine wpOp_step rfl (fun K hK => ?_)
      rw [if_pos (by rfl)]
      refine wp_store_row 31 (.tmp 6) (.tmp 16) rfl z #[.int .i64 0, .int .i64 0, .int .i64 0, .int .i64 0, .int .i64 0, .int .i64 0] rfl rfl 31 _ hg sizePl ho (by simp [Value.oneCell']) ?_
      refine hK _ _ ⟨u0, u1, u2, u3, u4, u5, (.agg #[.int .i64 0, .int .i64 0, .int .i64 0, .int .i64 0, .int .i64 0, .int .i64 0]), u7, u8, (.pointer (some ⟨z, 0, none⟩)), ?_, ⟨(below_setRow hC.bw hzB _), hC.h0, hC.h1, hC.h2, hC.h3, hC.h4, hC.h5, hC.h6, fun h => by obtain ⟨b, hb, e⟩ := hC.h7 h; exact ⟨b, ⟨hb.1, hb.2.row hzC2⟩, e⟩, fun h => by obtain ⟨b, hb, e⟩ := hC.h8 h; exact ⟨b, ⟨hb.1, hb.2.row hzC2⟩, e⟩, fun h => by obtain ⟨b, hb, e⟩ := hC.h9 h; exact ⟨b, ⟨hb.1, hb.2.row hzC2⟩, e⟩⟩⟩
      simp only [Act.put, List.setIfInBounds_toArray, List.set_cons_zero, List.set_cons_succ]
      rfl
  · rintro Ld b W hL ⟨u0, u1, u2, u3, u4, u5, u6, u7, u8, u9, rfl, hC⟩
    obtain ⟨fb, -, rfl⟩ := hC.h7 (hL 7 (by show 7 < 13; decide))
    obtain ⟨tb, -, rfl⟩ := hC.h8 (hL 8 (by show 8 < 13; decide))
    obtain ⟨pb, -, rfl⟩ := hC.h9 (hL 9 (by show 9 < 13; decide))
    have HO1 := Lib.hid (HO0.out.go hC.bw)
    have her := HO1.out.row 0 rfl
    have y0 := her.cellAt 0 (by decide)
    clear hC hL her HO0
    simp only [Act.put, List.setIfInBounds_toArray, List.set_cons_zero, List.set_cons_succ]
    go_upto_region 5 with fail
    refine reg_inv34 (LbI w w.heap.size db c) (by kernel_rfl) (by kernel_rfl) ?_ ?_ ?_
    · refine ⟨undef, undef, undef, undef, undef, undef, undef, undef, ?_, ⟨⟨none, 0, [], HO1.out.drew, (fun _ => rfl), (fun h => by cases h)⟩, ?_, ?_, ?_, ?_, ?_, ?_, ?_⟩⟩
      · simp only [Act.put, List.setIfInBounds_toArray, List.set_cons_zero, List.set_cons_succ]
      all_goals (intro h; cases h)
    · rintro jj Ld b W hj hf hcl hd ⟨u0, u1, u2, u3, u4, u5, u6, u7, rfl, hC⟩
      have hj' : jj < 10 := hj
      have hcase : jj = 0 ∨ jj = 1 ∨ jj = 2 ∨ jj = 3 ∨ jj = 4 ∨ jj = 5 ∨ jj = 6 ∨ jj = 7 ∨ jj = 8 ∨ jj = 9 := by omega
      clear hj hj'
      simp only [Act.put, List.setIfInBounds_toArray, List.set_cons_zero, List.set_cons_succ]
      rcases hcase with rfl | rfl | rfl | rfl | rfl | rfl | rfl | rfl | rfl | rfl
      · clear hd hcl
        refine wpOp_step rfl (fun K hK => ?_)
        go_simp
        refine hK _ _ ⟨_, u1, u2, u3, u4, u5, u6, u7, ?_, ⟨hC.ow, fun _ => rfl, hC.h1, hC.h3, hC.h4, hC.h5, hC.h6, hC.h7⟩⟩
        (simp only [Act.put, List.setIfInBounds_toArray, List.set_cons_zero, List.set_cons_succ]) <;> rfl
      · obtain rfl := hC.h0 (hd 0 (by kernel_rfl))
        obtain ⟨A2, c2, l, how, h1, h2⟩ := hC.ow
        have her := how.row 0 rfl
        have y3 : W.cell? ⟨w.heap.size, 3, none⟩ = some (.int .i64 2) := her.cellAt 3 (by decide)
        have y4 : W.cell? ⟨w.heap.size, 4, none⟩ = some (.int .i64 1) := her.cellAt 4 (by decide)
        have y5 : W.cell? ⟨w.heap.size, 5, none⟩ = some (.int .i64 0) := her.cellAt 5 (by decide)
        have y6 : W.cell? ⟨w.heap.size, 6, none⟩ = some (.int .i64 3) := her.cellAt 6 (by decide)
        have y7 : W.cell? ⟨w.heap.size, 7, none⟩ = some (.int .i64 0) := her.cellAt 7 (by decide)
        have y8 : W.cell? ⟨w.heap.size, 8, none⟩ = some (.slice (some ⟨db, 0, none⟩) 1 c) := her.cellAt 8 (by decide)
        clear hd hcl
        refine wpOp_step rfl (fun K hK => ?_)
        go_simp
        refine hK _ _ ⟨(.pointer (some ⟨w.heap.size, 3, none⟩)), _, u2, u3, u4, u5, u6, u7, ?_, ⟨hC.ow, hC.h0, fun _ => rfl, hC.h3, hC.h4, hC.h5, hC.h6, hC.h7⟩⟩
        (simp only [Act.put, List.setIfInBounds_toArray, List.set_cons_zero, List.set_cons_succ]) <;> rfl
      · obtain rfl := hC.h1 (hd 1 (by kernel_rfl))
        obtain ⟨A2, c2, l, how, h1, h2⟩ := hC.ow
        obtain rfl := h1 hf
        have h8 : Ld 8 = false := cl_no hcl hf (by kernel_rfl)
        rw [h8] at how
        have cc0 := (how.below.cell HD.out).trans c0
        have hdw := Nat.lt_of_lt_of_le HD.out how.size
        clear hd hcl
        refine wpOp_step rfl (fun K hK => ?_)
        go_simp
        refine (operation_one W db c hdw cc0).mono ?_
        rintro e W2 ⟨B2, d2, rfl, hb, hown⟩
        have ho := how.add hown hb
        simp only [List.cons_append, List.nil_append] at ho
        refine hK _ _ ⟨u0, (.agg #[.int .i64 2, .int .i64 1, .int .i64 0, .int .i64 3, .int .i64 0, .slice (some ⟨db, 0, none⟩) 1 c]), _, u3, u4, u5, u6, u7, ?_, ⟨⟨B2, d2, _, (by rw [show dset Ld 2 8 = false from h8]; exact ho), (fun h => by cases h), (fun _ => ⟨rfl, rfl⟩)⟩, hC.h0, hC.h1, hC.h3, hC.h4, hC.h5, hC.h6, hC.h7⟩⟩
        (simp only [Act.put, List.setIfInBounds_toArray, List.set_cons_zero, List.set_cons_succ]) <;> rfl
      · clear hd hcl
        refine wpOp_step rfl (fun K hK => ?_)
        go_simp
        refine hK _ _ ⟨u0, u1, u2, _, u4, u5, u6, u7, ?_, ⟨hC.ow, hC.h0, hC.h1, fun _ => rfl, hC.h4, hC.h5, hC.h6, hC.h7⟩⟩
        (simp only [Act.put, List.setIfInBounds_toArray, List.set_cons_zero, List.set_cons_succ]) <;> rfl
      · obtain rfl := hC.h3 (hd 3 (by kernel_rfl))
        obtain ⟨A2, c2, l, how, h1, h2⟩ := hC.ow
        have her := how.row 0 rfl
        have y0 : W.cell? ⟨w.heap.size, 0, none⟩ = some (.int .i64 1) := her.cellAt 0 (by decide)
        clear hd hcl
        refine wpOp_step rfl (fun K hK => ?_)
        go_simp
        refine hK _ _ ⟨u0, u1, u2, (.pointer (some ⟨w.heap.size, 0, none⟩)), _, u5, u6, u7, ?_, ⟨hC.ow, hC.h0, hC.h1, hC.h3, fun _ => rfl, hC.h5, hC.h6, hC.h7⟩⟩
        (simp only [Act.put, List.setIfInBounds_toArray, List.set_cons_zero, List.set_cons_succ]) <;> rfl
      · clear hd hcl
        refine wpOp_step rfl (fun K hK => ?_)
        go_simp
        refine hK _ _ ⟨u0, u1, u2, u3, u4, _, u6, u7, ?_, ⟨hC.ow, hC.h0, hC.h1, hC.h3, hC.h4, fun _ => rfl, hC.h6, hC.h7⟩⟩
        (simp only [Act.put, List.setIfInBounds_toArray, List.set_cons_zero, List.set_cons_succ]) <;> rfl
      · obtain rfl := hC.h5 (hd 5 (by kernel_rfl))
        obtain ⟨A2, c2, l, how, h1, h2⟩ := hC.ow
        have her := how.row 0 rfl
        have y3 : W.cell? ⟨w.heap.size, 3, none⟩ = some (.int .i64 2) := her.cellAt 3 (by decide)
        have y4 : W.cell? ⟨w.heap.size, 4, none⟩ = some (.int .i64 1) := her.cellAt 4 (by decide)
        have y5 : W.cell? ⟨w.heap.size, 5, none⟩ = some (.int .i64 0) := her.cellAt 5 (by decide)
        have y6 : W.cell? ⟨w.heap.size, 6, none⟩ = some (.int .i64 3) := her.cellAt 6 (by decide)
        have y7 : W.cell? ⟨w.heap.size, 7, none⟩ = some (.int .i64 0) := her.cellAt 7 (by decide)
        have y8 : W.cell? ⟨w.heap.size, 8, none⟩ = some (.slice (some ⟨db, 0, none⟩) 1 c) := her.cellAt 8 (by decide)
        clear hd hcl
        refine wpOp_step rfl (fun K hK => ?_)
        go_simp
        refine hK _ _ ⟨u0, u1, u2, u3, u4, (.pointer (some ⟨w.heap.size, 3, none⟩)), _, u7, ?_, ⟨hC.ow, hC.h0, hC.h1, hC.h3, hC.h4, hC.h5, fun _ => rfl, hC.h7⟩⟩
        (simp only [Act.put, List.setIfInBounds_toArray, List.set_cons_zero, List.set_cons_succ]) <;> rfl
      · obtain rfl := hC.h4 (hd 4 (by kernel_rfl))
        obtain rfl := hC.h6 (hd 6 (by kernel_rfl))
        clear hd hcl
        refine wpOp_step rfl (fun K hK => ?_)
        go_simp
        refine hK _ _ ⟨u0, u1, u2, u3, (.int .i64 1), u5, (.agg #[.int .i64 2, .int .i64 1, .int .i64 0, .int .i64 3, .int .i64 0, .slice (some ⟨db, 0, none⟩) 1 c]), _, ?_, ⟨hC.ow, hC.h0, hC.h1, hC.h3, hC.h4, hC.h5, hC.h6, fun _ => rfl⟩⟩
        (simp only [Act.put, List.setIfInBounds_toArray, List.set_cons_zero, List.set_cons_succ]) <;> rfl
      · obtain ⟨A2, c2, l, how, h1, h2⟩ := hC.ow
        have e2 := hd 2 (by kernel_rfl)
        obtain ⟨rfl, rfl⟩ := h2 e2
        rw [hf] at how
        simp only [cond_false] at how
        have hg := (how.rowHeap 1 rfl).1
        have ho := how.putRow (k := 3) 1 rfl #[.string ⟨#[119, 114, 105, 116, 101]⟩, .slice A2 3 c2, .string ⟨#[48, 48]⟩] rfl (by omega)
        simp only [List.set_cons_zero, List.set_cons_succ] at ho
        clear hd hcl
        refine wpOp_step rfl (fun K hK => ?_)
        rw [if_pos (by rfl)]
        refine wp_store_row 69 (.tmp 2) (.tmp 24) rfl (w.heap.size + 1) #[.string ⟨#[119, 114, 105, 116, 101]⟩, .slice A2 3 c2, .string ⟨#[48, 48]⟩] rfl rfl 69 _ hg sizeWd rfl (by simp [Value.oneCell']) ?_
        refine hK _ _ ⟨u0, u1, (.agg #[.string ⟨#[119, 114, 105, 116, 101]⟩, .slice A2 3 c2, .string ⟨#[48, 48]⟩]), u3, u4, u5, u6, u7, ?_, ⟨⟨A2, c2, _, ho, (fun h => absurd (e2.symm.trans h) (by decide)), (fun _ => ⟨rfl, rfl⟩)⟩, hC.h0, hC.h1, hC.h3, hC.h4, hC.h5, hC.h6, hC.h7⟩⟩
        (simp only [Act.put, List.setIfInBounds_toArray, List.set_cons_zero, List.set_cons_succ]) <;> rfl
      · obtain rfl := hC.h7 (hd 7 (by kernel_rfl))
        obtain ⟨A2, c2, l, how, h1, h2⟩ := hC.ow
        rw [hf] at how
        simp only [cond_false] at how
        have hg := (how.rowHeap 2 rfl).1
        have ho := how.putRow (k := 26) 2 rfl #[.int .i64 1, .int .i64 0, .int .i64 0, .int .i64 2, .int .i64 1, .int .i64 0, .int .i64 3, .int .i64 0, .slice (some ⟨db, 0, none⟩) 1 c, .int .i64 0, .int .i64 0, .int .i64 0, .int .i64 0, .int .i64 0, .int .i64 0, .int .i64 0, .int .i64 0, .int .u8 0, .int .u8 0, .bool false, .int .i64 0, .int .i64 0, .int .i64 0, .int .i64 0, .bool false, .bool false] rfl (by omega)
        simp only [List.set_cons_zero, List.set_cons_succ] at ho
        clear hd hcl
        refine wpOp_step rfl (fun K hK => ?_)
        rw [if_pos (by rfl)]
        refine wp_store_row 37 (.tmp 3) (.tmp 29) rfl (w.heap.size + 1 + 1) #[.int .i64 1, .int .i64 0, .int .i64 0, .int .i64 2, .int .i64 1, .int .i64 0, .int .i64 3, .int .i64 0, .slice (some ⟨db, 0, none⟩) 1 c, .int .i64 0, .int .i64 0, .int .i64 0, .int .i64 0, .int .i64 0, .int .i64 0, .int .i64 0, .int .i64 0, .int .u8 0, .int .u8 0, .bool false, .int .i64 0, .int .i64 0, .int .i64 0, .int .i64 0, .bool false, .bool false] rfl rfl 37 _ hg sizeEv rfl (by simp [Value.oneCell']) ?_
        refine hK _ _ ⟨u0, u1, u2, u3, u4, u5, u6, (.agg #[.int .i64 1, .int .i64 0, .int .i64 0, .int .i64 2, .int .i64 1, .int .i64 0, .int .i64 3, .int .i64 0, .slice (some ⟨db, 0, none⟩) 1 c, .int .i64 0, .int .i64 0, .int .i64 0, .int .i64 0, .int .i64 0, .int .i64 0, .int .i64 0, .int .i64 0, .int .u8 0, .int .u8 0, .bool false, .int .i64 0, .int .i64 0, .int .i64 0, .int .i64 0, .bool false, .bool false]), ?_, ⟨⟨A2, c2, _, ho, h1, h2⟩, hC.h0, hC.h1, hC.h3, hC.h4, hC.h5, hC.h6, hC.h7⟩⟩
        (simp only [Act.put, List.setIfInBounds_toArray, List.set_cons_zero, List.set_cons_succ]) <;> rfl
    · rintro Ld b W hL ⟨u0, u1, u2, u3, u4, u5, u6, u7, rfl, hC⟩
      obtain ⟨A2, c2, l, how, -, h2⟩ := hC.ow
      obtain ⟨-, rfl⟩ := h2 (hL 2 (by show 2 < 10; decide))
      rw [hL 8 (by show 8 < 10; decide), hL 9 (by show 9 < 10; decide)] at how
      simp only [cond_true] at how
      have HE := Lib.hid how
      clear hC hL how h2
      have l3 := run_loadVar_row (P := Tryd.prog) W (w.heap.size + 1) 69 69 #[.string ⟨#[119, 114, 105, 116, 101]⟩, .slice A2 3 c2, .string ⟨#[48, 48]⟩] (0, 0) _ (HE.out.rowHeap 1 rfl).1 Tryd.underlying69 rfl sizeWd
      have l26 := run_loadVar_row (P := Tryd.prog) W (w.heap.size + 1 + 1) 37 37 #[.int .i64 1, .int .i64 0, .int .i64 0, .int .i64 2, .int .i64 1, .int .i64 0, .int .i64 3, .int .i64 0, .slice (some ⟨db, 0, none⟩) 1 c, .int .i64 0, .int .i64 0, .int .i64 0, .int .i64 0, .int .i64 0, .int .i64 0, .int .i64 0, .int .i64 0, .int .u8 0, .int .u8 0, .bool false, .int .i64 0, .int .i64 0, .int .i64 0, .int .i64 0, .bool false, .bool false] (0, 0) _ (HE.out.rowHeap 2 rfl).1 Tryd.underlying37 rfl sizeEv
      have has : ∀ (ad : Addr) (W : World), (asAddr (.pointer (some ad))).run Tryd.prog W = .ok ad W := fun _ _ => rfl
      simp only [Act.put, List.setIfInBounds_toArray, List.set_cons_zero, List.set_cons_succ]
      go_wp2_with fail
      refine bodyPost_ret (v := .tuple #[.agg #[.string ⟨#[119, 114, 105, 116, 101]⟩, .slice A2 3 c2, .string ⟨#[48, 48]⟩], .agg #[.int .i64 1, .int .i64 0, .int .i64 0, .int .i64 2, .int .i64 1, .int .i64 0, .int .i64 3, .int .i64 0, .slice (some ⟨db, 0, none⟩) 1 c, .int .i64 0, .int .i64 0, .int .i64 0, .int .i64 0, .int .i64 0, .int .i64 0, .int .i64 0, .int .i64 0, .int .u8 0, .int .u8 0, .bool false, .int .i64 0, .int .i64 0, .int .i64 0, .int .i64 0, .bool false, .bool false]]) (by simp [results, Tryd.results21, asAddr, l3, l26]) rfl ?_
      exact ⟨A2, c2, rfl, HE.out.below, HE.out.row 3 rfl⟩
end Go.Proofs.YtpcmbmabmfghkaaDoor

namespace Go.Proofs.YtpcmbmabmfghkaaDoor
open Go.RowKit
set_option linter.unusedVariables false
set_option maxRecDepth 100000
theorem itoa_0 (w : World) :
    Calls Tryd.prog 24 #[.int .i64 0] w fun e w' => e = .returned (.string ⟨#[48]⟩) ∧ w' = w := by
  have h := Tryd.strconv_Itoa_small 0 (by omega) w
  have hv : (⟨(Lib.decDigits 0).toArray⟩ : ByteArray) = ⟨#[48]⟩ := by decide +kernel
  rw [hv] at h
  exact h
theorem itoa_1 (w : World) :
    Calls Tryd.prog 24 #[.int .i64 1] w fun e w' => e = .returned (.string ⟨#[49]⟩) ∧ w' = w := by
  have h := Tryd.strconv_Itoa_small 1 (by omega) w
  have hv : (⟨(Lib.decDigits 1).toArray⟩ : ByteArray) = ⟨#[49]⟩ := by decide +kernel
  rw [hv] at h
  exact h
theorem itoa_3 (w : World) :
    Calls Tryd.prog 24 #[.int .i64 3] w fun e w' => e = .returned (.string ⟨#[51]⟩) ∧ w' = w := by
  have h := Tryd.strconv_Itoa_small 3 (by omega) w
  have hv : (⟨(Lib.decDigits 3).toArray⟩ : ByteArray) = ⟨#[51]⟩ := by decide +kernel
  rw [hv] at h
  exact h
set_option maxHeartbeats 4000000 in
theorem format_two (w : World) (db c : Nat) (hdb : db < w.heap.size) (c0 : w.cell? ⟨db, 0, none⟩ = some (.int .u8 0)) (c1 : w.cell? ⟨db, 1, none⟩ = some (.int .u8 255)) :
    Calls Tryd.prog 12 #[.int .i64 2, .agg #[.int .i64 1, .int .i64 0, .int .i64 0, .int .i64 2, .int .i64 1, .int .i64 0, .int .i64 3, .int .i64 0, .slice (some ⟨db, 0, none⟩) 2 c, .int .i64 0, .int .i64 0, .int .i64 0, .int .i64 0, .int .i64 0, .int .i64 0, .int .i64 0, .int .i64 0, .int .u8 0, .int .u8 0, .bool false, .int .i64 0, .int .i64 0, .int .i64 0, .int .i64 0, .bool false, .bool false]] w fun e w' => e = .returned (.tuple #[.string ⟨#[119, 114, 105, 116, 101, 32, 49, 32, 48, 32, 51, 32, 48, 48, 102, 102]⟩, .bool true]) ∧ Below w.heap.size w w' := by
  have H0 := (Ow.of (St.refl w)).arr #[.int .i64 1, .int .i64 0, .int .i64 0, .int .i64 2, .int .i64 1, .int .i64 0, .int .i64 3, .int .i64 0, .slice (some ⟨db, 0, none⟩) 2 c, .int .i64 0, .int .i64 0, .int .i64 0, .int .i64 0, .int .i64 0, .int .i64 0, .int .i64 0, .int .i64 0, .int .u8 0, .int .u8 0, .bool false, .int .i64 0, .int .i64 0, .int .i64 0, .int .i64 0, .bool false, .bool false] 26 rfl (by omega) 37
  simp only [List.nil_append] at H0
  have HO0 := Lib.hid H0
  have HD := Lib.hid hdb
  clear H0
  go_enter Tryd.func12, Tryd.ntmps12
  have hg0 := Lib.hid ((HO0.out.rowHeap 0 rfl).1)
  go_upto_region 1 with fail
  repeat (first | refine wpList_load_row rfl 37 (.tmp 3) rfl w.heap.size rfl 37 #[.int .i64 1, .int .i64 0, .int .i64 0, .int .i64 2, .int .i64 1, .int .i64 0, .int .i64 3, .int .i64 0, .slice (some ⟨db, 0, none⟩) 2 c, .int .i64 0, .int .i64 0, .int .i64 0, .int .i64 0, .int .i64 0, .int .i64 0, .int .i64 0, .int .i64 0, .int .u8 0, .int .u8 0, .bool false, .int .i64 0, .int .i64 0, .int .i64 0, .int .i64 0, .bool false, .bool false] (0, 0) _ hg0.out Tryd.underlying37 rfl sizeEv ?_ | go_step)
  refine (line_two (w.alloc (.cells #[.int .i64 1, .int .i64 0, .int .i64 0, .int .i64 2, .int .i64 1, .int .i64 0, .int .i64 3, .int .i64 0, .slice (some ⟨db, 0, none⟩) 2 c, .int .i64 0, .int .i64 0, .int .i64 0, .int .i64 0, .int .i64 0, .int .i64 0, .int .i64 0, .int .i64 0, .int .u8 0, .int .u8 0, .bool false, .int .i64 0, .int .i64 0, .int .i64 0, .int .i64 0, .bool false, .bool false] 37)) db c (by rw [World.size_alloc]; omega) (((Below.refl w.heap.size w).alloc (Nat.le_refl _) _).cell hdb |>.trans c0) (((Below.refl w.heap.size w).alloc (Nat.le_refl _) _).cell hdb |>.trans c1)).mono ?_
  rintro e w1 ⟨A2, c2, rfl, hb, hown⟩
  have H1 := (HO0.out.add hown hb).arr #[.string ⟨#[]⟩, .slice none 0 0, .string ⟨#[]⟩] 3 rfl (by omega) 69
  have H2 := H1.arr #[.int .i64 0, .int .i64 0, .int .i64 0, .int .i64 0, .int .i64 0, .int .i64 0, .int .i64 0, .int .i64 0, .slice none 0 0, .int .i64 0, .int .i64 0, .int .i64 0, .int .i64 0, .int .i64 0, .int .i64 0, .int .i64 0, .int .i64 0, .int .u8 0, .int .u8 0, .bool false, .int .i64 0, .int .i64 0, .int .i64 0, .int .i64 0, .bool false, .bool false] 26 rfl (by omega) 37
  simp only [World.size_alloc, List.cons_append, List.nil_append] at H2
  have hg1 := (H2.rowHeap 2 rfl).1
  have hp1 := H2.putRow (k := 3) 2 rfl #[.string ⟨#[119, 114, 105, 116, 101]⟩, .slice A2 3 c2, .string ⟨#[48, 48, 102, 102]⟩] rfl (by omega)
  simp only [List.set_cons_zero, List.set_cons_succ] at hp1
  have hg2 := (hp1.rowHeap 3 rfl).1
  have hp2 := hp1.putRow (k := 26) 3 rfl #[.int .i64 1, .int .i64 0, .int .i64 0, .int .i64 2, .int .i64 1, .int .i64 0, .int .i64 3, .int .i64 0, .slice (some ⟨db, 0, none⟩) 2 c, .int .i64 0, .int .i64 0, .int .i64 0, .int .i64 0, .int .i64 0, .int .i64 0, .int .i64 0, .int .i64 0, .int .u8 0, .int .u8 0, .bool false, .int .i64 0, .int .i64 0, .int .i64 0, .int .i64 0, .bool false, .bool false] rfl (by omega)
  simp only [List.set_cons_zero, List.set_cons_succ] at hp2
  have HG1 := Lib.hid hg1
  have HG2 := Lib.hid hg2
  have HE := Lib.hid hp2
  clear hg1 hp1 hg2 hp2 H1 H2 HO0 hg0
  dsimp only
  repeat (first | refine wpList_store_row rfl 69 (.tmp 6) (.tmp 14) rfl w1.heap.size #[.string ⟨#[119, 114, 105, 116, 101]⟩, .slice A2 3 c2, .string ⟨#[48, 48, 102, 102]⟩] rfl rfl 69 _ HG1.out sizeWd rfl (by simp [Value.oneCell']) ?_ | refine wpList_store_row rfl 37 (.tmp 7) (.tmp 15) rfl (w1.heap.size + 1) #[.int .i64 1, .int .i64 0, .int .i64 0, .int .i64 2, .int .i64 1, .int .i64 0, .int .i64 3, .int .i64 0, .slice (some ⟨db, 0, none⟩) 2 c, .int .i64 0, .int .i64 0, .int .i64 0, .int .i64 0, .int .i64 0, .int .i64 0, .int .i64 0, .int .i64 0, .int .u8 0, .int .u8 0, .bool false, .int .i64 0, .int .i64 0, .int .i64 0, .int .i64 0, .bool false, .bool false] rfl rfl 37 _ HG2.out sizeEv rfl (by simp [Value.oneCell']) ?_ | go_step)
  generalize hWW : (World.setRow (World.setRow _ _ _) _ _) = WW at *
  clear hWW HG1 HG2
  have y0 : WW.cell? ⟨w.heap.size, 0, none⟩ = some (.int .i64 1) := (HE.out.row 0 rfl).cellAt 0 (by decide)
  have y1 : WW.cell? ⟨w.heap.size, 1, none⟩ = some (.int .i64 0) := (HE.out.row 0 rfl).cellAt 1 (by decide)
  have y2 : WW.cell? ⟨w.heap.size, 2, none⟩ = some (.int .i64 0) := (HE.out.row 0 rfl).cellAt 2 (by decide)
  have y3 : WW.cell? ⟨w.heap.size, 3, none⟩ = some (.int .i64 2) := (HE.out.row 0 rfl).cellAt 3 (by decide)
  have y4 : WW.cell? ⟨w.heap.size, 4, none⟩ = some (.int .i64 1) := (HE.out.row 0 rfl).cellAt 4 (by decide)
  have y5 : WW.cell? ⟨w.heap.size, 5, none⟩ = some (.int .i64 0) := (HE.out.row 0 rfl).cellAt 5 (by decide)
  have y6 : WW.cell? ⟨w.heap.size, 6, none⟩ = some (.int .i64 3) := (HE.out.row 0 rfl).cellAt 6 (by decide)
  have y7 : WW.cell? ⟨w.heap.size, 7, none⟩ = some (.int .i64 0) := (HE.out.row 0 rfl).cellAt 7 (by decide)
  have y8 : WW.cell? ⟨w.heap.size, 8, none⟩ = some (.slice (some ⟨db, 0, none⟩) 2 c) := (HE.out.row 0 rfl).cellAt 8 (by decide)
  have y9 : WW.cell? ⟨w.heap.size, 9, none⟩ = some (.int .i64 0) := (HE.out.row 0 rfl).cellAt 9 (by decide)
  have y10 : WW.cell? ⟨w.heap.size, 10, none⟩ = some (.int .i64 0) := (HE.out.row 0 rfl).cellAt 10 (by decide)
  have y11 : WW.cell? ⟨w.heap.size, 11, none⟩ = some (.int .i64 0) := (HE.out.row 0 rfl).cellAt 11 (by decide)
  have y12 : WW.cell? ⟨w.heap.size, 12, none⟩ = some (.int .i64 0) := (HE.out.row 0 rfl).cellAt 12 (by decide)
  have y13 : WW.cell? ⟨w.heap.size, 13, none⟩ = some (.int .i64 0) := (HE.out.row 0 rfl).cellAt 13 (by decide)
  have y14 : WW.cell? ⟨w.heap.size, 14, none⟩ = some (.int .i64 0) := (HE.out.row 0 rfl).cellAt 14 (by decide)
  have y15 : WW.cell? ⟨w.heap.size, 15, none⟩ = some (.int .i64 0) := (HE.out.row 0 rfl).cellAt 15 (by decide)
  have y16 : WW.cell? ⟨w.heap.size, 16, none⟩ = some (.int .i64 0) := (HE.out.row 0 rfl).cellAt 16 (by decide)
  have y17 : WW.cell? ⟨w.heap.size, 17, none⟩ = some (.int .u8 0) := (HE.out.row 0 rfl).cellAt 17 (by decide)
  have y18 : WW.cell? ⟨w.heap.size, 18, none⟩ = some (.int .u8 0) := (HE.out.row 0 rfl).cellAt 18 (by decide)
  have y19 : WW.cell? ⟨w.heap.size, 19, none⟩ = some (.bool false) := (HE.out.row 0 rfl).cellAt 19 (by decide)
  have y20 : WW.cell? ⟨w.heap.size, 20, none⟩ = some (.int .i64 0) := (HE.out.row 0 rfl).cellAt 20 (by decide)
  have y21 : WW.cell? ⟨w.heap.size, 21, none⟩ = some (.int .i64 0) := (HE.out.row 0 rfl).cellAt 21 (by decide)
  have y22 : WW.cell? ⟨w.heap.size, 22, none⟩ = some (.int .i64 0) := (HE.out.row 0 rfl).cellAt 22 (by decide)
  have y23 : WW.cell? ⟨w.heap.size, 23, none⟩ = some (.int .i64 0) := (HE.out.row 0 rfl).cellAt 23 (by decide)
  have y24 : WW.cell? ⟨w.heap.size, 24, none⟩ = some (.bool false) := (HE.out.row 0 rfl).cellAt 24 (by decide)
  have y25 : WW.cell? ⟨w.heap.size, 25, none⟩ = some (.bool false) := (HE.out.row 0 rfl).cellAt 25 (by decide)
  have x0 : WW.cell? ⟨w1.heap.size, 0, none⟩ = some (.string ⟨#[119, 114, 105, 116, 101]⟩) := (HE.out.row 2 rfl).cellAt 0 (by decide)
  have x1 : WW.cell? ⟨w1.heap.size, 1, none⟩ = some (.slice A2 3 c2) := (HE.out.row 2 rfl).cellAt 1 (by decide)
  have x2 : WW.cell? ⟨w1.heap.size, 2, none⟩ = some (.string ⟨#[48, 48, 102, 102]⟩) := (HE.out.row 2 rfl).cellAt 2 (by decide)
  have z1 : WW.cell? ⟨(w1.heap.size + 1), 1, none⟩ = some (.int .i64 0) := (HE.out.row 3 rfl).cellAt 1 (by decide)
  have z2 : WW.cell? ⟨(w1.heap.size + 1), 2, none⟩ = some (.int .i64 0) := (HE.out.row 3 rfl).cellAt 2 (by decide)
  have z9 : WW.cell? ⟨(w1.heap.size + 1), 9, none⟩ = some (.int .i64 0) := (HE.out.row 3 rfl).cellAt 9 (by decide)
  have z10 : WW.cell? ⟨(w1.heap.size + 1), 10, none⟩ = some (.int .i64 0) := (HE.out.row 3 rfl).cellAt 10 (by decide)
  have z11 : WW.cell? ⟨(w1.heap.size + 1), 11, none⟩ = some (.int .i64 0) := (HE.out.row 3 rfl).cellAt 11 (by decide)
  have z12 : WW.cell? ⟨(w1.heap.size + 1), 12, none⟩ = some (.int .i64 0) := (HE.out.row 3 rfl).cellAt 12 (by decide)
  have z13 : WW.cell? ⟨(w1.heap.size + 1), 13, none⟩ = some (.int .i64 0) := (HE.out.row 3 rfl).cellAt 13 (by decide)
  have z14 : WW.cell? ⟨(w1.heap.size + 1), 14, none⟩ = some (.int .i64 0) := (HE.out.row 3 rfl).cellAt 14 (by decide)
  have z15 : WW.cell? ⟨(w1.heap.size + 1), 15, none⟩ = some (.int .i64 0) := (HE.out.row 3 rfl).cellAt 15 (by decide)
  have z16 : WW.cell? ⟨(w1.heap.size + 1), 16, none⟩ = some (.int .i64 0) := (HE.out.row 3 rfl).cellAt 16 (by decide)
  have z17 : WW.cell? ⟨(w1.heap.size + 1), 17, none⟩ = some (.int .u8 0) := (HE.out.row 3 rfl).cellAt 17 (by decide)
  have z18 : WW.cell? ⟨(w1.heap.size + 1), 18, none⟩ = some (.int .u8 0) := (HE.out.row 3 rfl).cellAt 18 (by decide)
  have z19 : WW.cell? ⟨(w1.heap.size + 1), 19, none⟩ = some (.bool false) := (HE.out.row 3 rfl).cellAt 19 (by decide)
  have z20 : WW.cell? ⟨(w1.heap.size + 1), 20, none⟩ = some (.int .i64 0) := (HE.out.row 3 rfl).cellAt 20 (by decide)
  have z21 : WW.cell? ⟨(w1.heap.size + 1), 21, none⟩ = some (.int .i64 0) := (HE.out.row 3 rfl).cellAt 21 (by decide)
  have z22 : WW.cell? ⟨(w1.heap.size + 1), 22, none⟩ = some (.int .i64 0) := (HE.out.row 3 rfl).cellAt 22 (by decide)
  have z23 : WW.cell? ⟨(w1.heap.size + 1), 23, none⟩ = some (.int .i64 0) := (HE.out.row 3 rfl).cellAt 23 (by decide)
  have z24 : WW.cell? ⟨(w1.heap.size + 1), 24, none⟩ = some (.bool false) := (HE.out.row 3 rfl).cellAt 24 (by decide)
  have z25 : WW.cell? ⟨(w1.heap.size + 1), 25, none⟩ = some (.bool false) := (HE.out.row 3 rfl).cellAt 25 (by decide)
  go_wp2_with (with_reducible refine upon_id ?_; go_simp)
  refine (valid_two 2 c (some ⟨db, 0, none⟩) true (by decide) _).mono ?_
  rintro e w3 ⟨rfl, hb3⟩
  have HE3 := Lib.hid (HE.out.go hb3)
  obtain ⟨gn, rfl, -, -⟩ := own_form (HE3.out.row 1 rfl) (by omega)
  have v0 : w3.cell? ⟨w1.heap.size, 0, none⟩ = some (.string ⟨#[119, 114, 105, 116, 101]⟩) := (HE3.out.row 2 rfl).cellAt 0 (by decide)
  have v1 : w3.cell? ⟨w1.heap.size, 1, none⟩ = some (.slice (some ⟨gn, 0, none⟩) 3 c2) := (HE3.out.row 2 rfl).cellAt 1 (by decide)
  have v2 : w3.cell? ⟨w1.heap.size, 2, none⟩ = some (.string ⟨#[48, 48, 102, 102]⟩) := (HE3.out.row 2 rfl).cellAt 2 (by decide)
  have n0 : w3.cell? ⟨gn, 0, none⟩ = some (.int .i64 1) := (HE3.out.row 1 rfl).cellAt 0 (by decide)
  have n1 : w3.cell? ⟨gn, 1, none⟩ = some (.int .i64 0) := (HE3.out.row 1 rfl).cellAt 1 (by decide)
  have n2 : w3.cell? ⟨gn, 2, none⟩ = some (.int .i64 3) := (HE3.out.row 1 rfl).cellAt 2 (by decide)
  have k0 : w3.cell? ⟨w.heap.size, 0, none⟩ = some (.int .i64 1) := (HE3.out.row 0 rfl).cellAt 0 (by decide)
  clear hb3
  go_wp2_with (with_reducible refine upon_id ?_; go_simp)
  refine wp_loop_rounds 4 ?_
  rw [rounds_succ]
  go_wp2_with (with_reducible refine upon_id ?_; go_simp)
  refine (itoa_1 _).mono ?_
  rintro e w4 ⟨rfl, rfl⟩
  go_wp2_with (with_reducible refine upon_id ?_; go_simp)
  rw [rounds_succ]
  go_wp2_with (with_reducible refine upon_id ?_; go_simp)
  refine (itoa_0 _).mono ?_
  rintro e w4 ⟨rfl, rfl⟩
  go_wp2_with (with_reducible refine upon_id ?_; go_simp)
  rw [rounds_succ]
  go_wp2_with (with_reducible refine upon_id ?_; go_simp)
  refine (itoa_3 _).mono ?_
  rintro e w4 ⟨rfl, rfl⟩
  go_wp2_with (with_reducible refine upon_id ?_; go_simp)
  rw [rounds_succ]
  go_wp2_with (with_reducible refine upon_id ?_; go_simp)
  refine bodyPost_ret (v := .tuple #[.string ⟨#[119, 114, 105, 116, 101, 32, 49, 32, 48, 32, 51, 32, 48, 48, 102, 102]⟩, .bool true]) (by simp [results, Tryd.results12]; decide +kernel) rfl ?_
  exact ⟨rfl, HE3.out.below⟩
set_option maxHeartbeats 4000000 in
theorem format_one (w : World) (db c : Nat) (hdb : db < w.heap.size) (c0 : w.cell? ⟨db, 0, none⟩ = some (.int .u8 0)) :
    Calls Tryd.prog 12 #[.int .i64 2, .agg #[.int .i64 1, .int .i64 0, .int .i64 0, .int .i64 2, .int .i64 1, .int .i64 0, .int .i64 3, .int .i64 0, .slice (some ⟨db, 0, none⟩) 1 c, .int .i64 0, .int .i64 0, .int .i64 0, .int .i64 0, .int .i64 0, .int .i64 0, .int .i64 0, .int .i64 0, .int .u8 0, .int .u8 0, .bool false, .int .i64 0, .int .i64 0, .int .i64 0, .int .i64 0, .bool false, .bool false]] w fun e w' => e = .returned (.tuple #[.string ⟨#[]⟩, .bool false]) ∧ Below w.heap.size w w' := by
  have H0 := (Ow.of (St.refl w)).arr #[.int .i64 1, .int .i64 0, .int .i64 0, .int .i64 2, .int .i64 1, .int .i64 0, .int .i64 3, .int .i64 0, .slice (some ⟨db, 0, none⟩) 1 c, .int .i64 0, .int .i64 0, .int .i64 0, .int .i64 0, .int .i64 0, .int .i64 0, .int .i64 0, .int .i64 0, .int .u8 0, .int .u8 0, .bool false, .int .i64 0, .int .i64 0, .int .i64 0, .int .i64 0, .bool false, .bool false] 26 rfl (by omega) 37
  simp only [List.nil_append] at H0
  have HO0 := Lib.hid H0
  have HD := Lib.hid hdb
  clear H0
  go_enter Tryd.func12, Tryd.ntmps12
  have hg0 := Lib.hid ((HO0.out.rowHeap 0 rfl).1)
  go_upto_region 1 with fail
  repeat (first | refine wpList_load_row rfl 37 (.tmp 3) rfl w.heap.size rfl 37 #[.int .i64 1, .int .i64 0, .int .i64 0, .int .i64 2, .int .i64 1, .int .i64 0, .int .i64 3, .int .i64 0, .slice (some ⟨db, 0, none⟩) 1 c, .int .i64 0, .int .i64 0, .int .i64 0, .int .i64 0, .int .i64 0, .int .i64 0, .int .i64 0, .int .i64 0, .int .u8 0, .int .u8 0, .bool false, .int .i64 0, .int .i64 0, .int .i64 0, .int .i64 0, .bool false, .bool false] (0, 0) _ hg0.out Tryd.underlying37 rfl sizeEv ?_ | go_step)
  refine (line_one (w.alloc (.cells #[.int .i64 1, .int .i64 0, .int .i64 0, .int .i64 2, .int .i64 1, .int .i64 0, .int .i64 3, .int .i64 0, .slice (some ⟨db, 0, none⟩) 1 c, .int .i64 0, .int .i64 0, .int .i64 0, .int .i64 0, .int .i64 0, .int .i64 0, .int .i64 0, .int .i64 0, .int .u8 0, .int .u8 0, .bool false, .int .i64 0, .int .i64 0, .int .i64 0, .int .i64 0, .bool false, .bool false] 37)) db c (by rw [World.size_alloc]; omega) (((Below.refl w.heap.size w).alloc (Nat.le_refl _) _).cell hdb |>.trans c0)).mono ?_
  rintro e w1 ⟨A2, c2, rfl, hb, hown⟩
  have H1 := (HO0.out.add hown hb).arr #[.string ⟨#[]⟩, .slice none 0 0, .string ⟨#[]⟩] 3 rfl (by omega) 69
  have H2 := H1.arr #[.int .i64 0, .int .i64 0, .int .i64 0, .int .i64 0, .int .i64 0, .int .i64 0, .int .i64 0, .int .i64 0, .slice none 0 0, .int .i64 0, .int .i64 0, .int .i64 0, .int .i64 0, .int .i64 0, .int .i64 0, .int .i64 0, .int .i64 0, .int .u8 0, .int .u8 0, .bool false, .int .i64 0, .int .i64 0, .int .i64 0, .int .i64 0, .bool false, .bool false] 26 rfl (by omega) 37
  simp only [World.size_alloc, List.cons_append, List.nil_append] at H2
  have hg1 := (H2.rowHeap 2 rfl).1
  have hp1 := H2.putRow (k := 3) 2 rfl #[.string ⟨#[119, 114, 105, 116, 101]⟩, .slice A2 3 c2, .string ⟨#[48, 48]⟩] rfl (by omega)
  simp only [List.set_cons_zero, List.set_cons_succ] at hp1
  have hg2 := (hp1.rowHeap 3 rfl).1
  have hp2 := hp1.putRow (k := 26) 3 rfl #[.int .i64 1, .int .i64 0, .int .i64 0, .int .i64 2, .int .i64 1, .int .i64 0, .int .i64 3, .int .i64 0, .slice (some ⟨db, 0, none⟩) 1 c, .int .i64 0, .int .i64 0, .int .i64 0, .int .i64 0, .int .i64 0, .int .i64 0, .int .i64 0, .int .i64 0, .int .u8 0, .int .u8 0, .bool false, .int .i64 0, .int .i64 0, .int .i64 0, .int .i64 0, .bool false, .bool false] rfl (by omega)
  simp only [List.set_cons_zero, List.set_cons_succ] at hp2
  have HG1 := Lib.hid hg1
  have HG2 := Lib.hid hg2
  have HE := Lib.hid hp2
  clear hg1 hp1 hg2 hp2 H1 H2 HO0 hg0
  dsimp only
  repeat (first | refine wpList_store_row rfl 69 (.tmp 6) (.tmp 14) rfl w1.heap.size #[.string ⟨#[119, 114, 105, 116, 101]⟩, .slice A2 3 c2, .string ⟨#[48, 48]⟩] rfl rfl 69 _ HG1.out sizeWd rfl (by simp [Value.oneCell']) ?_ | refine wpList_store_row rfl 37 (.tmp 7) (.tmp 15) rfl (w1.heap.size + 1) #[.int .i64 1, .int .i64 0, .int .i64 0, .int .i64 2, .int .i64 1, .int .i64 0, .int .i64 3, .int .i64 0, .slice (some ⟨db, 0, none⟩) 1 c, .int .i64 0, .int .i64 0, .int .i64 0, .int .i64 0, .int .i64 0, .int .i64 0, .int .i64 0, .int .i64 0, .int .u8 0, .int .u8 0, .bool false, .int .i64 0, .int .i64 0, .int .i64 0, .int .i64 0, .bool false, .bool false] rfl rfl 37 _ HG2.out sizeEv rfl (by simp [Value.oneCell']) ?_ | go_step)
  generalize hWW : (World.setRow (World.setRow _ _ _) _ _) = WW at *
  clear hWW HG1 HG2
  have y0 : WW.cell? ⟨w.heap.size, 0, none⟩ = some (.int .i64 1) := (HE.out.row 0 rfl).cellAt 0 (by decide)
  have y1 : WW.cell? ⟨w.heap.size, 1, none⟩ = some (.int .i64 0) := (HE.out.row 0 rfl).cellAt 1 (by decide)
  have y2 : WW.cell? ⟨w.heap.size, 2, none⟩ = some (.int .i64 0) := (HE.out.row 0 rfl).cellAt 2 (by decide)
  have y3 : WW.cell? ⟨w.heap.size, 3, none⟩ = some (.int .i64 2) := (HE.out.row 0 rfl).cellAt 3 (by decide)
  have y4 : WW.cell? ⟨w.heap.size, 4, none⟩ = some (.int .i64 1) := (HE.out.row 0 rfl).cellAt 4 (by decide)
  have y5 : WW.cell? ⟨w.heap.size, 5, none⟩ = some (.int .i64 0) := (HE.out.row 0 rfl).cellAt 5 (by decide)
  have y6 : WW.cell? ⟨w.heap.size, 6, none⟩ = some (.int .i64 3) := (HE.out.row 0 rfl).cellAt 6 (by decide)
  have y7 : WW.cell? ⟨w.heap.size, 7, none⟩ = some (.int .i64 0) := (HE.out.row 0 rfl).cellAt 7 (by decide)
  have y8 : WW.cell? ⟨w.heap.size, 8, none⟩ = some (.slice (some ⟨db, 0, none⟩) 1 c) := (HE.out.row 0 rfl).cellAt 8 (by decide)
  have y9 : WW.cell? ⟨w.heap.size, 9, none⟩ = some (.int .i64 0) := (HE.out.row 0 rfl).cellAt 9 (by decide)
  have y10 : WW.cell? ⟨w.heap.size, 10, none⟩ = some (.int .i64 0) := (HE.out.row 0 rfl).cellAt 10 (by decide)
  have y11 : WW.cell? ⟨w.heap.size, 11, none⟩ = some (.int .i64 0) := (HE.out.row 0 rfl).cellAt 11 (by decide)
  have y12 : WW.cell? ⟨w.heap.size, 12, none⟩ = some (.int .i64 0) := (HE.out.row 0 rfl).cellAt 12 (by decide)
  have y13 : WW.cell? ⟨w.heap.size, 13, none⟩ = some (.int .i64 0) := (HE.out.row 0 rfl).cellAt 13 (by decide)
  have y14 : WW.cell? ⟨w.heap.size, 14, none⟩ = some (.int .i64 0) := (HE.out.row 0 rfl).cellAt 14 (by decide)
  have y15 : WW.cell? ⟨w.heap.size, 15, none⟩ = some (.int .i64 0) := (HE.out.row 0 rfl).cellAt 15 (by decide)
  have y16 : WW.cell? ⟨w.heap.size, 16, none⟩ = some (.int .i64 0) := (HE.out.row 0 rfl).cellAt 16 (by decide)
  have y17 : WW.cell? ⟨w.heap.size, 17, none⟩ = some (.int .u8 0) := (HE.out.row 0 rfl).cellAt 17 (by decide)
  have y18 : WW.cell? ⟨w.heap.size, 18, none⟩ = some (.int .u8 0) := (HE.out.row 0 rfl).cellAt 18 (by decide)
  have y19 : WW.cell? ⟨w.heap.size, 19, none⟩ = some (.bool false) := (HE.out.row 0 rfl).cellAt 19 (by decide)
  have y20 : WW.cell? ⟨w.heap.size, 20, none⟩ = some (.int .i64 0) := (HE.out.row 0 rfl).cellAt 20 (by decide)
  have y21 : WW.cell? ⟨w.heap.size, 21, none⟩ = some (.int .i64 0) := (HE.out.row 0 rfl).cellAt 21 (by decide)
  have y22 : WW.cell? ⟨w.heap.size, 22, none⟩ = some (.int .i64 0) := (HE.out.row 0 rfl).cellAt 22 (by decide)
  have y23 : WW.cell? ⟨w.heap.size, 23, none⟩ = some (.int .i64 0) := (HE.out.row 0 rfl).cellAt 23 (by decide)
  have y24 : WW.cell? ⟨w.heap.size, 24, none⟩ = some (.bool false) := (HE.out.row 0 rfl).cellAt 24 (by decide)
  have y25 : WW.cell? ⟨w.heap.size, 25, none⟩ = some (.bool false) := (HE.out.row 0 rfl).cellAt 25 (by decide)
  have x0 : WW.cell? ⟨w1.heap.size, 0, none⟩ = some (.string ⟨#[119, 114, 105, 116, 101]⟩) := (HE.out.row 2 rfl).cellAt 0 (by decide)
  have x1 : WW.cell? ⟨w1.heap.size, 1, none⟩ = some (.slice A2 3 c2) := (HE.out.row 2 rfl).cellAt 1 (by decide)
  have x2 : WW.cell? ⟨w1.heap.size, 2, none⟩ = some (.string ⟨#[48, 48]⟩) := (HE.out.row 2 rfl).cellAt 2 (by decide)
  have z1 : WW.cell? ⟨(w1.heap.size + 1), 1, none⟩ = some (.int .i64 0) := (HE.out.row 3 rfl).cellAt 1 (by decide)
  have z2 : WW.cell? ⟨(w1.heap.size + 1), 2, none⟩ = some (.int .i64 0) := (HE.out.row 3 rfl).cellAt 2 (by decide)
  have z9 : WW.cell? ⟨(w1.heap.size + 1), 9, none⟩ = some (.int .i64 0) := (HE.out.row 3 rfl).cellAt 9 (by decide)
  have z10 : WW.cell? ⟨(w1.heap.size + 1), 10, none⟩ = some (.int .i64 0) := (HE.out.row 3 rfl).cellAt 10 (by decide)
  have z11 : WW.cell? ⟨(w1.heap.size + 1), 11, none⟩ = some (.int .i64 0) := (HE.out.row 3 rfl).cellAt 11 (by decide)
  have z12 : WW.cell? ⟨(w1.heap.size + 1), 12, none⟩ = some (.int .i64 0) := (HE.out.row 3 rfl).cellAt 12 (by decide)
  have z13 : WW.cell? ⟨(w1.heap.size + 1), 13, none⟩ = some (.int .i64 0) := (HE.out.row 3 rfl).cellAt 13 (by decide)
  have z14 : WW.cell? ⟨(w1.heap.size + 1), 14, none⟩ = some (.int .i64 0) := (HE.out.row 3 rfl).cellAt 14 (by decide)
  have z15 : WW.cell? ⟨(w1.heap.size + 1), 15, none⟩ = some (.int .i64 0) := (HE.out.row 3 rfl).cellAt 15 (by decide)
  have z16 : WW.cell? ⟨(w1.heap.size + 1), 16, none⟩ = some (.int .i64 0) := (HE.out.row 3 rfl).cellAt 16 (by decide)
  have z17 : WW.cell? ⟨(w1.heap.size + 1), 17, none⟩ = some (.int .u8 0) := (HE.out.row 3 rfl).cellAt 17 (by decide)
  have z18 : WW.cell? ⟨(w1.heap.size + 1), 18, none⟩ = some (.int .u8 0) := (HE.out.row 3 rfl).cellAt 18 (by decide)
  have z19 : WW.cell? ⟨(w1.heap.size + 1), 19, none⟩ = some (.bool false) := (HE.out.row 3 rfl).cellAt 19 (by decide)
  have z20 : WW.cell? ⟨(w1.heap.size + 1), 20, none⟩ = some (.int .i64 0) := (HE.out.row 3 rfl).cellAt 20 (by decide)
  have z21 : WW.cell? ⟨(w1.heap.size + 1), 21, none⟩ = some (.int .i64 0) := (HE.out.row 3 rfl).cellAt 21 (by decide)
  have z22 : WW.cell? ⟨(w1.heap.size + 1), 22, none⟩ = some (.int .i64 0) := (HE.out.row 3 rfl).cellAt 22 (by decide)
  have z23 : WW.cell? ⟨(w1.heap.size + 1), 23, none⟩ = some (.int .i64 0) := (HE.out.row 3 rfl).cellAt 23 (by decide)
  have z24 : WW.cell? ⟨(w1.heap.size + 1), 24, none⟩ = some (.bool false) := (HE.out.row 3 rfl).cellAt 24 (by decide)
  have z25 : WW.cell? ⟨(w1.heap.size + 1), 25, none⟩ = some (.bool false) := (HE.out.row 3 rfl).cellAt 25 (by decide)
  go_wp2_with (with_reducible refine upon_id ?_; go_simp)
  refine (valid_two 1 c (some ⟨db, 0, none⟩) false (by decide) _).mono ?_
  rintro e w3 ⟨rfl, hb3⟩
  have HE3 := Lib.hid (HE.out.go hb3)
  go_wp2_with (with_reducible refine upon_id ?_; go_simp)
  refine bodyPost_ret (v := .tuple #[.string ⟨#[]⟩, .bool false]) (by simp [results, Tryd.results12]) rfl ?_
  exact ⟨rfl, HE3.out.below⟩
end Go.Proofs.YtpcmbmabmfghkaaDoor

namespace Go.Proofs.YtpcmbmabmfghkaaDoor
open Go.RowKit
set_option linter.unusedVariables false
set_option maxRecDepth 100000
theorem infoEv : (Tryd.prog.info? 37).map (fun i => (i.zero.map (fun z => z.cells.size), i.size, i.bytes)) = some (some 26, 26, 200) := by kernel_rfl
theorem elemEv : ElemX Tryd.prog 38 37 26 200 := by
  have h := infoEv
  obtain ⟨i, hi⟩ : ∃ i, Tryd.prog.info? 37 = some i := by
    cases e : Tryd.prog.info? 37 with
    | none => rw [e] at h; cases h
    | some i => exact ⟨i, rfl⟩
  rw [hi] at h
  simp only [Option.map_some, Option.some.injEq, Prod.mk.injEq] at h
  obtain ⟨h1, h2, h3⟩ := h
  obtain ⟨z, hz⟩ : ∃ z, i.zero = some z := by
    cases e : i.zero with
    | none => rw [e] at h1; cases h1
    | some z => exact ⟨z, rfl⟩
  rw [hz] at h1
  exact ⟨Tryd.underlying38, by omega, i, z, hi, hz, h2, h3, by simpa using h1⟩
theorem below_less {B B' : Nat} {w w' : World} (h : Below B w w') (hB : B' ≤ B) : Below B' w w' := ⟨h.os, h.tape, h.output, h.size, fun k hk => h.block k (Nat.lt_of_lt_of_le hk hB)⟩
theorem Ox.addO {w0 w w' : World} {g : Option Nat} {M : List (Nat × Value)} {L : List Ob} {O : List Rw} {X : List Rx} (h : Ox w0 w g M L O X) {A : Option Addr} {n c : Nat} {e : TypeId} {vs : List Value} (ho : w'.ownsRow w.heap.size e 1 (.slice A n c) n vs) (hb : Below w.heap.size w w') : Ox w0 w' g M L (O ++ [⟨A, n, c, e, vs⟩]) X := by
  have h' := h.go hb
  refine ⟨h.ow.add ho hb, h'.own, fun i r hi b hbk => ?_, h'.two⟩
  obtain ⟨a1, a2, a3, a4⟩ := h'.ap i r hi b hbk
  refine ⟨a1, a2, a3, fun j q hj hq => ?_⟩
  by_cases hlt : j < O.length
  · exact a4 j q (by rw [List.getElem?_append_left hlt] at hj; exact hj) hq
  · have h1 := (h.lt hi hbk).1
    have hjk : j - O.length = 0 := by
      have := get_lt hj
      rw [List.length_append, List.length_singleton] at this
      omega
    rw [List.getElem?_append_right (by omega), hjk] at hj
    injection hj with hj
    subst hj
    have h2 := (ho.lt b hq).1
    omega
end Go.Proofs.YtpcmbmabmfghkaaDoor

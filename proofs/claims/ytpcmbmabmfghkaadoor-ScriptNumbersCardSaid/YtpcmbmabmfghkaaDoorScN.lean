/- script.line at a write. -/
import Derived.Test.YtpcmbmabmfghkaaDoorScM
namespace Go.Proofs.YtpcmbmabmfghkaaDoor
open Go.RowKit
set_option linter.unusedVariables false
set_option maxRecDepth 100000
structure LaK (w0 : World) (eb db c : Nat) (Ld : Nat → Bool) (u0 u1 u2 u3 u4 u5 u6 u7 : Value) (W : World) : Prop where
  ow : ∃ (A2 : Option Addr) (c2 : Nat) (l : List Rw), Ow w0 W none [] [] ((⟨some ⟨eb, 0, none⟩, 26, 26, 37, [.int .i64 1, .int .i64 0, .int .i64 0, .int .i64 2, .int .i64 1, .int .i64 0, .int .i64 3, .int .i64 0, .slice (some ⟨db, 0, none⟩) 2 c, .int .i64 0, .int .i64 0, .int .i64 0, .int .i64 0, .int .i64 0, .int .i64 0, .int .i64 0, .int .i64 0, .int .u8 0, .int .u8 0, .bool false, .int .i64 0, .int .i64 0, .int .i64 0, .int .i64 0, .bool false, .bool false]⟩ : Rw) :: (⟨some ⟨(eb + 1), 0, none⟩, 3, 3, 69, (cond (Ld 8) [.string ⟨#[119, 114, 105, 116, 101]⟩, .slice A2 3 c2, .string ⟨#[48, 48, 102, 102]⟩] [.string ⟨#[]⟩, .slice none 0 0, .string ⟨#[]⟩])⟩ : Rw) :: (⟨some ⟨(eb + 1 + 1), 0, none⟩, 26, 26, 37, (cond (Ld 9) [.int .i64 1, .int .i64 0, .int .i64 0, .int .i64 2, .int .i64 1, .int .i64 0, .int .i64 3, .int .i64 0, .slice (some ⟨db, 0, none⟩) 2 c, .int .i64 0, .int .i64 0, .int .i64 0, .int .i64 0, .int .i64 0, .int .i64 0, .int .i64 0, .int .i64 0, .int .u8 0, .int .u8 0, .bool false, .int .i64 0, .int .i64 0, .int .i64 0, .int .i64 0, .bool false, .bool false] [.int .i64 0, .int .i64 0, .int .i64 0, .int .i64 0, .int .i64 0, .int .i64 0, .int .i64 0, .int .i64 0, .slice none 0 0, .int .i64 0, .int .i64 0, .int .i64 0, .int .i64 0, .int .i64 0, .int .i64 0, .int .i64 0, .int .i64 0, .int .u8 0, .int .u8 0, .bool false, .int .i64 0, .int .i64 0, .int .i64 0, .int .i64 0, .bool false, .bool false])⟩ : Rw) :: l) ∧ (Ld 2 = false → l = []) ∧ (Ld 2 = true → u2 = .agg #[.string ⟨#[119, 114, 105, 116, 101]⟩, .slice A2 3 c2, .string ⟨#[48, 48, 102, 102]⟩] ∧ l = [(⟨A2, 3, c2, 3, [.int .i64 1, .int .i64 0, .int .i64 3]⟩ : Rw)])
  h0 : Ld 0 = true → u0 = .pointer (some ⟨eb, 3, none⟩)
  h1 : Ld 1 = true → u1 = .agg #[.int .i64 2, .int .i64 1, .int .i64 0, .int .i64 3, .int .i64 0, .slice (some ⟨db, 0, none⟩) 2 c]
  h3 : Ld 3 = true → u3 = .pointer (some ⟨eb, 0, none⟩)
  h4 : Ld 4 = true → u4 = .int .i64 1
  h5 : Ld 5 = true → u5 = .pointer (some ⟨eb, 3, none⟩)
  h6 : Ld 6 = true → u6 = .agg #[.int .i64 2, .int .i64 1, .int .i64 0, .int .i64 3, .int .i64 0, .slice (some ⟨db, 0, none⟩) 2 c]
  h7 : Ld 7 = true → u7 = .agg #[.int .i64 1, .int .i64 0, .int .i64 0, .int .i64 2, .int .i64 1, .int .i64 0, .int .i64 3, .int .i64 0, .slice (some ⟨db, 0, none⟩) 2 c, .int .i64 0, .int .i64 0, .int .i64 0, .int .i64 0, .int .i64 0, .int .i64 0, .int .i64 0, .int .i64 0, .int .u8 0, .int .u8 0, .bool false, .int .i64 0, .int .i64 0, .int .i64 0, .int .i64 0, .bool false, .bool false]
def LaI (w0 : World) (eb db c : Nat) (A0 : Act) (Ld : Nat → Bool) (a : Act) (W : World) : Prop :=
  ∃ (u0 u1 u2 u3 u4 u5 u6 u7 : Value), a = ((((((((A0.put (some 22) u0).put (some 23) u1).put (some 24) u2).put (some 25) u3).put (some 26) u4).put (some 27) u5).put (some 28) u6).put (some 29) u7) ∧ LaK w0 eb db c Ld u0 u1 u2 u3 u4 u5 u6 u7 W
set_option maxHeartbeats 4000000 in
theorem line_two (w : World) (db c : Nat) (hdb : db < w.heap.size) (c0 : w.cell? ⟨db, 0, none⟩ = some (.int .u8 0)) (c1 : w.cell? ⟨db, 1, none⟩ = some (.int .u8 255)) :
    Calls Tryd.prog 21 #[.agg #[.int .i64 1, .int .i64 0, .int .i64 0, .int .i64 2, .int .i64 1, .int .i64 0, .int .i64 3, .int .i64 0, .slice (some ⟨db, 0, none⟩) 2 c, .int .i64 0, .int .i64 0, .int .i64 0, .int .i64 0, .int .i64 0, .int .i64 0, .int .i64 0, .int .i64 0, .int .u8 0, .int .u8 0, .bool false, .int .i64 0, .int .i64 0, .int .i64 0, .int .i64 0, .bool false, .bool false]] w fun e w' => ∃ (A2 : Option Addr) (c2 : Nat), e = .returned (.tuple #[.agg #[.string ⟨#[119, 114, 105, 116, 101]⟩, .slice A2 3 c2, .string ⟨#[48, 48, 102, 102]⟩], .agg #[.int .i64 1, .int .i64 0, .int .i64 0, .int .i64 2, .int .i64 1, .int .i64 0, .int .i64 3, .int .i64 0, .slice (some ⟨db, 0, none⟩) 2 c, .int .i64 0, .int .i64 0, .int .i64 0, .int .i64 0, .int .i64 0, .int .i64 0, .int .i64 0, .int .i64 0, .int .u8 0, .int .u8 0, .bool false, .int .i64 0, .int .i64 0, .int .i64 0, .int .i64 0, .bool false, .bool false]]) ∧ Below w.heap.size w w' ∧ w'.ownsRow w.heap.size 3 1 (.slice A2 3 c2) 3 [.int .i64 1, .int .i64 0, .int .i64 3] := by
  have HD := Lib.hid hdb
  clear hdb
  have H0 := (((Ow.of (St.refl w)).arr #[.int .i64 1, .int .i64 0, .int .i64 0, .int .i64 2, .int .i64 1, .int .i64 0, .int .i64 3, .int .i64 0, .slice (some ⟨db, 0, none⟩) 2 c, .int .i64 0, .int .i64 0, .int .i64 0, .int .i64 0, .int .i64 0, .int .i64 0, .int .i64 0, .int .i64 0, .int .u8 0, .int .u8 0, .bool false, .int .i64 0, .int .i64 0, .int .i64 0, .int .i64 0, .bool false, .bool false] 26 rfl (by omega) 37).arr #[.string ⟨#[]⟩, .slice none 0 0, .string ⟨#[]⟩] 3 rfl (by omega) 69).arr #[.int .i64 0, .int .i64 0, .int .i64 0, .int .i64 0, .int .i64 0, .int .i64 0, .int .i64 0, .int .i64 0, .slice none 0 0, .int .i64 0, .int .i64 0, .int .i64 0, .int .i64 0, .int .i64 0, .int .i64 0, .int .i64 0, .int .i64 0, .int .u8 0, .int .u8 0, .bool false, .int .i64 0, .int .i64 0, .int .i64 0, .int .i64 0, .bool false, .bool false] 26 rfl (by omega) 37
  simp only [World.size_alloc, List.cons_append, List.nil_append] at H0
  have HO0 := Lib.hid H0
  clear H0
  go_enter Tryd.func21, Tryd.ntmps21
  go_wp2_with fail
  refine reg_inv34 (L1I (((w.alloc (.cells #[.int .i64 1, .int .i64 0, .int .i64 0, .int .i64 2, .int .i64 1, .int .i64 0, .int .i64 3, .int .i64 0, .slice (some ⟨db, 0, none⟩) 2 c, .int .i64 0, .int .i64 0, .int .i64 0, .int .i64 0, .int .i64 0, .int .i64 0, .int .i64 0, .int .i64 0, .int .u8 0, .int .u8 0, .bool false, .int .i64 0, .int .i64 0, .int .i64 0, .int .i64 0, .bool false, .bool false] 37)).alloc (.cells #[.string ⟨#[]⟩, .slice none 0 0, .string ⟨#[]⟩] 69)).alloc (.cells #[.int .i64 0, .int .i64 0, .int .i64 0, .int .i64 0, .int .i64 0, .int .i64 0, .int .i64 0, .int .i64 0, .slice none 0 0, .int .i64 0, .int .i64 0, .int .i64 0, .int .i64 0, .int .i64 0, .int .i64 0, .int .i64 0, .int .i64 0, .int .u8 0, .int .u8 0, .bool false, .int .i64 0, .int .i64 0, .int .i64 0, .int .i64 0, .bool false, .bool false] 37)) w.heap.size) (by kernel_rfl) (by kernel_rfl) ?_ ?_ ?_
  · refine ⟨undef, undef, undef, undef, undef, undef, undef, undef, undef, undef, ?_, ⟨(Below.refl _ _).drew, ?_, ?_, ?_, ?_, ?_, ?_, ?_, ?_, ?_, ?_⟩⟩
    · simp only [Act.put, List.setIfInBounds_toArray, List.set_cons_zero, List.set_cons_succ]
    all_goals (intro h; cases h)
  · rintro jj Ld b W hj hf hcl hd ⟨u0, u1, u2, u3, u4, u5, u6, u7, u8, u9, rfl, hC⟩
    have hj' : jj < 13 := hj
    have hcase : jj = 0 ∨ jj = 1 ∨ jj = 2 ∨ jj = 3 ∨ jj = 4 ∨ jj = 5 ∨ jj = 6 ∨ jj = 7 ∨ jj = 8 ∨ jj = 9 ∨ jj = 10 ∨ jj = 11 ∨ jj = 12 := by omega
    clear hj hj'
    simp only [Act.put, List.setIfInBounds_toArray, List.set_cons_zero, List.set_cons_succ]
    rcases hcase with rfl | rfl | rfl | rfl | rfl | rfl | rfl | rfl | rfl | rfl | rfl | rfl | rfl
    · clear hd hcl
      refine wpOp_step rfl (fun K hK => ?_)
      go_simp
      refine hK _ _ ⟨_, u1, u2, u3, u4, u5, u6, u7, u8, u9, ?_, ⟨hC.bw, fun _ => rfl, hC.h1, hC.h2, hC.h3, hC.h4, hC.h5, hC.h6, hC.h7, hC.h8, hC.h9⟩⟩
      simp only [Act.put, List.setIfInBounds_toArray, List.set_cons_zero, List.set_cons_succ]
    · obtain rfl := hC.h0 (hd 0 (by kernel_rfl))
      have her := (HO0.out.go hC.bw).row 0 rfl
      have y9 := her.cellAt 9 (by decide)
      have y10 := her.cellAt 10 (by decide)
      have y11 := her.cellAt 11 (by decide)
      have y12 := her.cellAt 12 (by decide)
      have y13 := her.cellAt 13 (by decide)
      have y14 := her.cellAt 14 (by decide)
      have y15 := her.cellAt 15 (by decide)
      have y16 := her.cellAt 16 (by decide)
      have y17 := her.cellAt 17 (by decide)
      have y18 := her.cellAt 18 (by decide)
      have y19 := her.cellAt 19 (by decide)
      clear hd hcl
      refine wpOp_step rfl (fun K hK => ?_)
      go_simp
      refine hK _ _ ⟨_, _, u2, u3, u4, u5, u6, u7, u8, u9, ?_, ⟨hC.bw, hC.h0, fun _ => rfl, hC.h2, hC.h3, hC.h4, hC.h5, hC.h6, hC.h7, hC.h8, hC.h9⟩⟩
      simp only [Act.put, List.setIfInBounds_toArray, List.set_cons_zero, List.set_cons_succ]
    · clear hd hcl
      refine wpOp_step rfl (fun K hK => ?_)
      go_simp
      refine hK _ _ ⟨u0, u1, _, u3, u4, u5, u6, u7, u8, u9, ?_, ⟨hC.bw, hC.h0, hC.h1, fun _ => rfl, hC.h3, hC.h4, hC.h5, hC.h6, hC.h7, hC.h8, hC.h9⟩⟩
      simp only [Act.put, List.setIfInBounds_toArray, List.set_cons_zero, List.set_cons_succ]
    · obtain rfl := hC.h2 (hd 2 (by kernel_rfl))
      have her := (HO0.out.go hC.bw).row 0 rfl
      have y20 := her.cellAt 20 (by decide)
      have y21 := her.cellAt 21 (by decide)
      have y22 := her.cellAt 22 (by decide)
      have y23 := her.cellAt 23 (by decide)
      have y24 := her.cellAt 24 (by decide)
      have y25 := her.cellAt 25 (by decide)
      clear hd hcl
      refine wpOp_step rfl (fun K hK => ?_)
      go_simp
      refine hK _ _ ⟨u0, u1, _, _, u4, u5, u6, u7, u8, u9, ?_, ⟨hC.bw, hC.h0, hC.h1, hC.h2, fun _ => rfl, hC.h4, hC.h5, hC.h6, hC.h7, hC.h8, hC.h9⟩⟩
      simp only [Act.put, List.setIfInBounds_toArray, List.set_cons_zero, List.set_cons_succ]
    · clear hd hcl
      refine wpOp_step rfl (fun K hK => ?_)
      go_simp
      refine hK _ _ ⟨u0, u1, u2, u3, _, u5, u6, u7, u8, u9, ?_, ⟨hC.bw, hC.h0, hC.h1, hC.h2, hC.h3, fun _ => rfl, hC.h5, hC.h6, hC.h7, hC.h8, hC.h9⟩⟩
      simp only [Act.put, List.setIfInBounds_toArray, List.set_cons_zero, List.set_cons_succ]
    · obtain rfl := hC.h4 (hd 4 (by kernel_rfl))
      clear hd hcl
      refine wpOp_step rfl (fun K hK => ?_)
      go_simp
      refine hK _ _ ⟨u0, u1, u2, u3, _, _, u6, u7, u8, u9, ?_, ⟨hC.bw, hC.h0, hC.h1, hC.h2, hC.h3, hC.h4, fun _ => rfl, hC.h6, hC.h7, hC.h8, hC.h9⟩⟩
      simp only [Act.put, List.setIfInBounds_toArray, List.set_cons_zero, List.set_cons_succ]
    · obtain rfl := hC.h5 (hd 5 (by kernel_rfl))
      have her := (HO0.out.go hC.bw).row 0 rfl
      have y10 := her.cellAt 10 (by decide)
      have y11 := her.cellAt 11 (by decide)
      have y12 := her.cellAt 12 (by decide)
      have y13 := her.cellAt 13 (by decide)
      have y14 := her.cellAt 14 (by decide)
      have y15 := her.cellAt 15 (by decide)
      clear hd hcl
      refine wpOp_step rfl (fun K hK => ?_)
      go_simp
      refine hK _ _ ⟨u0, u1, u2, u3, u4, _, _, u7, u8, u9, ?_, ⟨hC.bw, hC.h0, hC.h1, hC.h2, hC.h3, hC.h4, hC.h5, fun _ => rfl, hC.h7, hC.h8, hC.h9⟩⟩
      simp only [Act.put, List.setIfInBounds_toArray, List.set_cons_zero, List.set_cons_succ]
    · clear hd hcl
      refine wpOp_step rfl (fun K hK => ?_)
      go_simp
      refine hK _ _ ⟨u0, u1, u2, u3, u4, u5, u6, _, u8, u9, ?_, ⟨(below_allocX hC.bw _), hC.h0, hC.h1, hC.h2, hC.h3, hC.h4, hC.h5, hC.h6, fun _ => ⟨_, ⟨hC.bw.size, Cel.new _ _ _⟩, rfl⟩, fun h => by obtain ⟨b, hb, e⟩ := hC.h8 h; exact ⟨b, ⟨hb.1, hb.2.alloc _⟩, e⟩, fun h => by obtain ⟨b, hb, e⟩ := hC.h9 h; exact ⟨b, ⟨hb.1, hb.2.alloc _⟩, e⟩⟩⟩
      simp only [Act.put, List.setIfInBounds_toArray, List.set_cons_zero, List.set_cons_succ]
    · clear hd hcl
      refine wpOp_step rfl (fun K hK => ?_)
      go_simp
      refine hK _ _ ⟨u0, u1, u2, u3, u4, u5, u6, u7, _, u9, ?_, ⟨(below_allocX hC.bw _), hC.h0, hC.h1, hC.h2, hC.h3, hC.h4, hC.h5, hC.h6, fun h => by obtain ⟨b, hb, e⟩ := hC.h7 h; exact ⟨b, ⟨hb.1, hb.2.alloc _⟩, e⟩, fun _ => ⟨_, ⟨hC.bw.size, Cel.new _ _ _⟩, rfl⟩, fun h => by obtain ⟨b, hb, e⟩ := hC.h9 h; exact ⟨b, ⟨hb.1, hb.2.alloc _⟩, e⟩⟩⟩
      simp only [Act.put, List.setIfInBounds_toArray, List.set_cons_zero, List.set_cons_succ]
    · clear hd hcl
      refine wpOp_step rfl (fun K hK => ?_)
      go_simp
      refine hK _ _ ⟨u0, u1, u2, u3, u4, u5, u6, u7, u8, _, ?_, ⟨(below_allocX hC.bw _), hC.h0, hC.h1, hC.h2, hC.h3, hC.h4, hC.h5, hC.h6, fun h => by obtain ⟨b, hb, e⟩ := hC.h7 h; exact ⟨b, ⟨hb.1, hb.2.alloc _⟩, e⟩, fun h => by obtain ⟨b, hb, e⟩ := hC.h8 h; exact ⟨b, ⟨hb.1, hb.2.alloc _⟩, e⟩, fun _ => ⟨_, ⟨hC.bw.size, Cel.new _ _ _⟩, rfl⟩⟩⟩
      simp only [Act.put, List.setIfInBounds_toArray, List.set_cons_zero, List.set_cons_succ]
    · obtain ⟨z, ⟨hzB, hzC⟩, rfl⟩ := hC.h7 (hd 7 (by kernel_rfl))
      obtain rfl := hC.h1 (hd 1 (by kernel_rfl))
      have hzC2 := hzC
      obtain ⟨old, hg, ho⟩ := hzC
      clear hd hcl
      refine wpOp_step rfl (fun K hK => ?_)
      rw [if_pos (by rfl)]
      refine wp_store_row 33 (.tmp 4) (.tmp 11) rfl z #[.int .i64 0, .int .i64 0, .int .i64 0, .int .i64 0, .int .i64 0, .int .i64 0, .int .i64 0, .int .i64 0, .int .u8 0, .int .u8 0, .bool false] rfl rfl 33 _ hg sizeFa ho (by simp [Value.oneCell']) ?_
      refine hK _ _ ⟨u0, (.agg #[.int .i64 0, .int .i64 0, .int .i64 0, .int .i64 0, .int .i64 0, .int .i64 0, .int .i64 0, .int .i64 0, .int .u8 0, .int .u8 0, .bool false]), u2, u3, u4, u5, u6, (.pointer (some ⟨z, 0, none⟩)), u8, u9, ?_, ⟨(below_setRow hC.bw hzB _), hC.h0, hC.h1, hC.h2, hC.h3, hC.h4, hC.h5, hC.h6, fun h => by obtain ⟨b, hb, e⟩ := hC.h7 h; exact ⟨b, ⟨hb.1, hb.2.row hzC2⟩, e⟩, fun h => by obtain ⟨b, hb, e⟩ := hC.h8 h; exact ⟨b, ⟨hb.1, hb.2.row hzC2⟩, e⟩, fun h => by obtain ⟨b, hb, e⟩ := hC.h9 h; exact ⟨b, ⟨hb.1, hb.2.row hzC2⟩, e⟩⟩⟩
      simp only [Act.put, List.setIfInBounds_toArray, List.set_cons_zero, List.set_cons_succ]
      rfl
    · obtain ⟨z, ⟨hzB, hzC⟩, rfl⟩ := hC.h8 (hd 8 (by kernel_rfl))
      obtain rfl := hC.h3 (hd 3 (by kernel_rfl))
      have hzC2 := hzC
      obtain ⟨old, hg, ho⟩ := hzC
      clear hd hcl
      refine wpOp_step rfl (fun K hK => ?_)
      rw [if_pos (by rfl)]
      refine wp_store_row 35 (.tmp 5) (.tmp 13) rfl z #[.int .i64 0, .int .i64 0, .int .i64 0, .int .i64 0, .bool false, .bool false] rfl rfl 35 _ hg sizeTr ho (by simp [Value.oneCell']) ?_
      refine hK _ _ ⟨u0, u1, u2, (.agg #[.int .i64 0, .int .i64 0, .int .i64 0, .int .i64 0, .bool false, .bool false]), u4, u5, u6, u7, (.pointer (some ⟨z, 0, none⟩)), u9, ?_, ⟨(below_setRow hC.bw hzB _), hC.h0, hC.h1, hC.h2, hC.h3, hC.h4, hC.h5, hC.h6, fun h => by obtain ⟨b, hb, e⟩ := hC.h7 h; exact ⟨b, ⟨hb.1, hb.2.row hzC2⟩, e⟩, fun h => by obtain ⟨b, hb, e⟩ := hC.h8 h; exact ⟨b, ⟨hb.1, hb.2.row hzC2⟩, e⟩, fun h => by obtain ⟨b, hb, e⟩ := hC.h9 h; exact ⟨b, ⟨hb.1, hb.2.row hzC2⟩, e⟩⟩⟩
      simp only [Act.put, List.setIfInBounds_toArray, List.set_cons_zero, List.set_cons_succ]
      rfl
    · obtain ⟨z, ⟨hzB, hzC⟩, rfl⟩ := hC.h9 (hd 9 (by kernel_rfl))
      obtain rfl := hC.h6 (hd 6 (by kernel_rfl))
      have hzC2 := hzC
      obtain ⟨old, hg, ho⟩ := hzC
      clear hd hcl
      refine wpOp_step rfl (fun K hK => ?_)
      rw [if_pos (by rfl)]
      refine wp_store_row 31 (.tmp 6) (.tmp 16) rfl z #[.int .i64 0, .int .i64 0, .int .i64 0, .int .i64 0, .int .i64 0, .int .i64 0] rfl rfl 31 _ hg sizePl ho (by simp [Value.oneCell']) ?_
      refine hK _ _ ⟨u0, u1, u2, u3, u4, u5, (.agg #[.int .i64 0, .int .i64 0, .int .i64 0, .int .i64 0, .int .i64 0, .int .i64 0]), u7, u8, (.pointer (some ⟨z, 0, none⟩)), ?_, ⟨(below_setRow hC.bw hzB _), hC.h0, hC.h1, hC.h2, hC.h3, hC.h4, hC.h5, hC.h6, fun h => by obtain ⟨b, hb, e⟩ := hC.h7 h; exact ⟨b, ⟨hb.1, hb.2.row hzC2⟩, e⟩, fun h => by obtain ⟨b, hb, e⟩ := hC.h8 h; exact ⟨b, ⟨hb.1, hb.2.row hzC2⟩, e⟩, fun h => by obtain ⟨b, hb, e⟩ := hC.h9 h; exact ⟨b, ⟨hb.1, hb.2.row hzC2⟩, e⟩⟩⟩
      simp only [Act.put, List.setIfInBounds_toArray, List.set_cons_zero, List.set_cons_succ]
      rfl
  · rintro Ld b W hL ⟨u0, u1, u2, u3, u4, u5, u6, u7, u8, u9, rfl, hC⟩
    obtain ⟨fb, -, rfl⟩ := hC.h7 (hL 7 (by show 7 < 13; decide))
    obtain ⟨tb, -, rfl⟩ := hC.h8 (hL 8 (by show 8 < 13; decide))
    obtain ⟨pb, -, rfl⟩ := hC.h9 (hL 9 (by show 9 < 13; decide))
    have HO1 := Lib.hid (HO0.out.go hC.bw)
    have her := HO1.out.row 0 rfl
    have y0 := her.cellAt 0 (by decide)
    clear hC hL her HO0
    simp only [Act.put, List.setIfInBounds_toArray, List.set_cons_zero, List.set_cons_succ]
    go_upto_region 5 with fail
    refine reg_inv34 (LaI w w.heap.size db c) (by kernel_rfl) (by kernel_rfl) ?_ ?_ ?_
    · refine ⟨undef, undef, undef, undef, undef, undef, undef, undef, ?_, ⟨⟨none, 0, [], HO1.out.drew, (fun _ => rfl), (fun h => by cases h)⟩, ?_, ?_, ?_, ?_, ?_, ?_, ?_⟩⟩
      · simp only [Act.put, List.setIfInBounds_toArray, List.set_cons_zero, List.set_cons_succ]
      all_goals (intro h; cases h)
    · rintro jj Ld b W hj hf hcl hd ⟨u0, u1, u2, u3, u4, u5, u6, u7, rfl, hC⟩
      have hj' : jj < 10 := hj
      have hcase : jj = 0 ∨ jj = 1 ∨ jj = 2 ∨ jj = 3 ∨ jj = 4 ∨ jj = 5 ∨ jj = 6 ∨ jj = 7 ∨ jj = 8 ∨ jj = 9 := by omega
      clear hj hj'
      simp only [Act.put, List.setIfInBounds_toArray, List.set_cons_zero, List.set_cons_succ]
      rcases hcase with rfl | rfl | rfl | rfl | rfl | rfl | rfl | rfl | rfl | rfl
      · clear hd hcl
        refine wpOp_step rfl (fun K hK => ?_)
        go_simp
        refine hK _ _ ⟨_, u1, u2, u3, u4, u5, u6, u7, ?_, ⟨hC.ow, fun _ => rfl, hC.h1, hC.h3, hC.h4, hC.h5, hC.h6, hC.h7⟩⟩
        (simp only [Act.put, List.setIfInBounds_toArray, List.set_cons_zero, List.set_cons_succ]) <;> rfl
      · obtain rfl := hC.h0 (hd 0 (by kernel_rfl))
        obtain ⟨A2, c2, l, how, h1, h2⟩ := hC.ow
        have her := how.row 0 rfl
        have y3 : W.cell? ⟨w.heap.size, 3, none⟩ = some (.int .i64 2) := her.cellAt 3 (by decide)
        have y4 : W.cell? ⟨w.heap.size, 4, none⟩ = some (.int .i64 1) := her.cellAt 4 (by decide)
        have y5 : W.cell? ⟨w.heap.size, 5, none⟩ = some (.int .i64 0) := her.cellAt 5 (by decide)
        have y6 : W.cell? ⟨w.heap.size, 6, none⟩ = some (.int .i64 3) := her.cellAt 6 (by decide)
        have y7 : W.cell? ⟨w.heap.size, 7, none⟩ = some (.int .i64 0) := her.cellAt 7 (by decide)
        have y8 : W.cell? ⟨w.heap.size, 8, none⟩ = some (.slice (some ⟨db, 0, none⟩) 2 c) := her.cellAt 8 (by decide)
        clear hd hcl
        refine wpOp_step rfl (fun K hK => ?_)
        go_simp
        refine hK _ _ ⟨(.pointer (some ⟨w.heap.size, 3, none⟩)), _, u2, u3, u4, u5, u6, u7, ?_, ⟨hC.ow, hC.h0, fun _ => rfl, hC.h3, hC.h4, hC.h5, hC.h6, hC.h7⟩⟩
        (simp only [Act.put, List.setIfInBounds_toArray, List.set_cons_zero, List.set_cons_succ]) <;> rfl
      · obtain rfl := hC.h1 (hd 1 (by kernel_rfl))
        obtain ⟨A2, c2, l, how, h1, h2⟩ := hC.ow
        obtain rfl := h1 hf
        have h8 : Ld 8 = false := cl_no hcl hf (by kernel_rfl)
        rw [h8] at how
        have cc0 := (how.below.cell HD.out).trans c0
        have cc1 := (how.below.cell HD.out).trans c1
        have hdw := Nat.lt_of_lt_of_le HD.out how.size
        clear hd hcl
        refine wpOp_step rfl (fun K hK => ?_)
        go_simp
        refine (operation_two W db c hdw cc0 cc1).mono ?_
        rintro e W2 ⟨B2, d2, rfl, hb, hown⟩
        have ho := how.add hown hb
        simp only [List.cons_append, List.nil_append] at ho
        refine hK _ _ ⟨u0, (.agg #[.int .i64 2, .int .i64 1, .int .i64 0, .int .i64 3, .int .i64 0, .slice (some ⟨db, 0, none⟩) 2 c]), _, u3, u4, u5, u6, u7, ?_, ⟨⟨B2, d2, _, (by rw [show dset Ld 2 8 = false from h8]; exact ho), (fun h => by cases h), (fun _ => ⟨rfl, rfl⟩)⟩, hC.h0, hC.h1, hC.h3, hC.h4, hC.h5, hC.h6, hC.h7⟩⟩
        (simp only [Act.put, List.setIfInBounds_toArray, List.set_cons_zero, List.set_cons_succ]) <;> rfl
      · clear hd hcl
        refine wpOp_step rfl (fun K hK => ?_)
        go_simp
        refine hK _ _ ⟨u0, u1, u2, _, u4, u5, u6, u7, ?_, ⟨hC.ow, hC.h0, hC.h1, fun _ => rfl, hC.h4, hC.h5, hC.h6, hC.h7⟩⟩
        (simp only [Act.put, List.setIfInBounds_toArray, List.set_cons_zero, List.set_cons_succ]) <;> rfl
      · obtain rfl := hC.h3 (hd 3 (by kernel_rfl))
        obtain ⟨A2, c2, l, how, h1, h2⟩ := hC.ow
        have her := how.row 0 rfl
        have y0 : W.cell? ⟨w.heap.size, 0, none⟩ = some (.int .i64 1) := her.cellAt 0 (by decide)
        clear hd hcl
        refine wpOp_step rfl (fun K hK => ?_)
        go_simp
        refine hK _ _ ⟨u0, u1, u2, (.pointer (some ⟨w.heap.size, 0, none⟩)), _, u5, u6, u7, ?_, ⟨hC.ow, hC.h0, hC.h1, hC.h3, fun _ => rfl, hC.h5, hC.h6, hC.h7⟩⟩
        (simp only [Act.put, List.setIfInBounds_toArray, List.set_cons_zero, List.set_cons_succ]) <;> rfl
      · clear hd hcl
        refine wpOp_step rfl (fun K hK => ?_)
        go_simp
        refine hK _ _ ⟨u0, u1, u2, u3, u4, _, u6, u7, ?_, ⟨hC.ow, hC.h0, hC.h1, hC.h3, hC.h4, fun _ => rfl, hC.h6, hC.h7⟩⟩
        (simp only [Act.put, List.setIfInBounds_toArray, List.set_cons_zero, List.set_cons_succ]) <;> rfl
      · obtain rfl := hC.h5 (hd 5 (by kernel_rfl))
        obtain ⟨A2, c2, l, how, h1, h2⟩ := hC.ow
        have her := how.row 0 rfl
        have y3 : W.cell? ⟨w.heap.size, 3, none⟩ = some (.int .i64 2) := her.cellAt 3 (by decide)
        have y4 : W.cell? ⟨w.heap.size, 4, none⟩ = some (.int .i64 1) := her.cellAt 4 (by decide)
        have y5 : W.cell? ⟨w.heap.size, 5, none⟩ = some (.int .i64 0) := her.cellAt 5 (by decide)
        have y6 : W.cell? ⟨w.heap.size, 6, none⟩ = some (.int .i64 3) := her.cellAt 6 (by decide)
        have y7 : W.cell? ⟨w.heap.size, 7, none⟩ = some (.int .i64 0) := her.cellAt 7 (by decide)
        have y8 : W.cell? ⟨w.heap.size, 8, none⟩ = some (.slice (some ⟨db, 0, none⟩) 2 c) := her.cellAt 8 (by decide)
        clear hd hcl
        refine wpOp_step rfl (fun K hK => ?_)
        go_simp
        refine hK _ _ ⟨u0, u1, u2, u3, u4, (.pointer (some ⟨w.heap.size, 3, none⟩)), _, u7, ?_, ⟨hC.ow, hC.h0, hC.h1, hC.h3, hC.h4, hC.h5, fun _ => rfl, hC.h7⟩⟩
        (simp only [Act.put, List.setIfInBounds_toArray, List.set_cons_zero, List.set_cons_succ]) <;> rfl
      · obtain rfl := hC.h4 (hd 4 (by kernel_rfl))
        obtain rfl := hC.h6 (hd 6 (by kernel_rfl))
        clear hd hcl
        refine wpOp_step rfl (fun K hK => ?_)
        go_simp
        refine hK _ _ ⟨u0, u1, u2, u3, (.int .i64 1), u5, (.agg #[.int .i64 2, .int .i64 1, .int .i64 0, .int .i64 3, .int .i64 0, .slice (some ⟨db, 0, none⟩) 2 c]), _, ?_, ⟨hC.ow, hC.h0, hC.h1, hC.h3, hC.h4, hC.h5, hC.h6, fun _ => rfl⟩⟩
        (simp only [Act.put, List.setIfInBounds_toArray, List.set_cons_zero, List.set_cons_succ]) <;> rfl
      · obtain ⟨A2, c2, l, how, h1, h2⟩ := hC.ow
        have e2 := hd 2 (by kernel_rfl)
        obtain ⟨rfl, rfl⟩ := h2 e2
        rw [hf] at how
        simp only [cond_false] at how
        have hg := (how.rowHeap 1 rfl).1
        have ho := how.putRow (k := 3) 1 rfl #[.string ⟨#[119, 114, 105, 116, 101]⟩, .slice A2 3 c2, .string ⟨#[48, 48, 102, 102]⟩] rfl (by omega)
        simp only [List.set_cons_zero, List.set_cons_succ] at ho
        clear hd hcl
        refine wpOp_step rfl (fun K hK => ?_)
        rw [if_pos (by rfl)]
        refine wp_store_row 69 (.tmp 2) (.tmp 24) rfl (w.heap.size + 1) #[.string ⟨#[119, 114, 105, 116, 101]⟩, .slice A2 3 c2, .string ⟨#[48, 48, 102, 102]⟩] rfl rfl 69 _ hg sizeWd rfl (by simp [Value.oneCell']) ?_
        refine hK _ _ ⟨u0, u1, (.agg #[.string ⟨#[119, 114, 105, 116, 101]⟩, .slice A2 3 c2, .string ⟨#[48, 48, 102, 102]⟩]), u3, u4, u5, u6, u7, ?_, ⟨⟨A2, c2, _, ho, (fun h => absurd (e2.symm.trans h) (by decide)), (fun _ => ⟨rfl, rfl⟩)⟩, hC.h0, hC.h1, hC.h3, hC.h4, hC.h5, hC.h6, hC.h7⟩⟩
        (simp only [Act.put, List.setIfInBounds_toArray, List.set_cons_zero, List.set_cons_succ]) <;> rfl
      · obtain rfl := hC.h7 (hd 7 (by kernel_rfl))
        obtain ⟨A2, c2, l, how, h1, h2⟩ := hC.ow
        rw [hf] at how
        simp only [cond_false] at how
        have hg := (how.rowHeap 2 rfl).1
        have ho := how.putRow (k := 26) 2 rfl #[.int .i64 1, .int .i64 0, .int .i64 0, .int .i64 2, .int .i64 1, .int .i64 0, .int .i64 3, .int .i64 0, .slice (some ⟨db, 0, none⟩) 2 c, .int .i64 0, .int .i64 0, .int .i64 0, .int .i64 0, .int .i64 0, .int .i64 0, .int .i64 0, .int .i64 0, .int .u8 0, .int .u8 0, .bool false, .int .i64 0, .int .i64 0, .int .i64 0, .int .i64 0, .bool false, .bool false] rfl (by omega)
        simp only [List.set_cons_zero, List.set_cons_succ] at ho
        clear hd hcl
        refine wpOp_step rfl (fun K hK => ?_)
        rw [if_pos (by rfl)]
        refine wp_store_row 37 (.tmp 3) (.tmp 29) rfl (w.heap.size + 1 + 1) #[.int .i64 1, .int .i64 0, .int .i64 0, .int .i64 2, .int .i64 1, .int .i64 0, .int .i64 3, .int .i64 0, .slice (some ⟨db, 0, none⟩) 2 c, .int .i64 0, .int .i64 0, .int .i64 0, .int .i64 0, .int .i64 0, .int .i64 0, .int .i64 0, .int .i64 0, .int .u8 0, .int .u8 0, .bool false, .int .i64 0, .int .i64 0, .int .i64 0, .int .i64 0, .bool false, .bool false] rfl rfl 37 _ hg sizeEv rfl (by simp [Value.oneCell']) ?_
        refine hK _ _ ⟨u0, u1, u2, u3, u4, u5, u6, (.agg #[.int .i64 1, .int .i64 0, .int .i64 0, .int .i64 2, .int .i64 1, .int .i64 0, .int .i64 3, .int .i64 0, .slice (some ⟨db, 0, none⟩) 2 c, .int .i64 0, .int .i64 0, .int .i64 0, .int .i64 0, .int .i64 0, .int .i64 0, .int .i64 0, .int .i64 0, .int .u8 0, .int .u8 0, .bool false, .int .i64 0, .int .i64 0, .int .i64 0, .int .i64 0, .bool false, .bool false]), ?_, ⟨⟨A2, c2, _, ho, h1, h2⟩, hC.h0, hC.h1, hC.h3, hC.h4, hC.h5, hC.h6, hC.h7⟩⟩
        (simp only [Act.put, List.setIfInBounds_toArray, List.set_cons_zero, List.set_cons_succ]) <;> rfl
    · rintro Ld b W hL ⟨u0, u1, u2, u3, u4, u5, u6, u7, rfl, hC⟩
      obtain ⟨A2, c2, l, how, -, h2⟩ := hC.ow
      obtain ⟨-, rfl⟩ := h2 (hL 2 (by show 2 < 10; decide))
      rw [hL 8 (by show 8 < 10; decide), hL 9 (by show 9 < 10; decide)] at how
      simp only [cond_true] at how
      have HE := Lib.hid how
      clear hC hL how h2
      have l3 := run_loadVar_row (P := Tryd.prog) W (w.heap.size + 1) 69 69 #[.string ⟨#[119, 114, 105, 116, 101]⟩, .slice A2 3 c2, .string ⟨#[48, 48, 102, 102]⟩] (0, 0) _ (HE.out.rowHeap 1 rfl).1 Tryd.underlying69 rfl sizeWd
      have l26 := run_loadVar_row (P := Tryd.prog) W (w.heap.size + 1 + 1) 37 37 #[.int .i64 1, .int .i64 0, .int .i64 0, .int .i64 2, .int .i64 1, .int .i64 0, .int .i64 3, .int .i64 0, .slice (some ⟨db, 0, none⟩) 2 c, .int .i64 0, .int .i64 0, .int .i64 0, .int .i64 0, .int .i64 0, .int .i64 0, .int .i64 0, .int .i64 0, .int .u8 0, .int .u8 0, .bool false, .int .i64 0, .int .i64 0, .int .i64 0, .int .i64 0, .bool false, .bool false] (0, 0) _ (HE.out.rowHeap 2 rfl).1 Tryd.underlying37 rfl sizeEv
      have has : ∀ (ad : Addr) (W : World), (asAddr (.pointer (some ad))).run Tryd.prog W = .ok ad W := fun _ _ => rfl
      simp only [Act.put, List.setIfInBounds_toArray, List.set_cons_zero, List.set_cons_succ]
      go_wp2_with fail
      refine bodyPost_ret (v := .tuple #[.agg #[.string ⟨#[119, 114, 105, 116, 101]⟩, .slice A2 3 c2, .string ⟨#[48, 48, 102, 102]⟩], .agg #[.int .i64 1, .int .i64 0, .int .i64 0, .int .i64 2, .int .i64 1, .int .i64 0, .int .i64 3, .int .i64 0, .slice (some ⟨db, 0, none⟩) 2 c, .int .i64 0, .int .i64 0, .int .i64 0, .int .i64 0, .int .i64 0, .int .i64 0, .int .i64 0, .int .i64 0, .int .u8 0, .int .u8 0, .bool false, .int .i64 0, .int .i64 0, .int .i64 0, .int .i64 0, .bool false, .bool false]]) (by simp [results, Tryd.results21, asAddr, l3, l26]) rfl ?_
      exact ⟨A2, c2, rfl, HE.out.below, HE.out.row 3 rfl⟩
structure LbK (w0 : World) (eb db c : Nat) (Ld : Nat → Bool) (u0 u1 u2 u3 u4 u5 u6 u7 : Value) (W : World) : Prop where
  ow : ∃ (A2 : Option Addr) (c2 : Nat) (l : List Rw), Ow w0 W none [] [] ((⟨some ⟨eb, 0, none⟩, 26, 26, 37, [.int .i64 1, .int .i64 0, .int .i64 0, .int .i64 2, .int .i64 1, .int .i64 0, .int .i64 3, .int .i64 0, .slice (some ⟨db, 0, none⟩) 1 c, .int .i64 0, .int .i64 0, .int .i64 0, .int .i64 0, .int .i64 0, .int .i64 0, .int .i64 0, .int .i64 0, .int .u8 0, .int .u8 0, .bool false, .int .i64 0, .int .i64 0, .int .i64 0, .int .i64 0, .bool false, .bool false]⟩ : Rw) :: (⟨some ⟨(eb + 1), 0, none⟩, 3, 3, 69, (cond (Ld 8) [.string ⟨#[119, 114, 105, 116, 101]⟩, .slice A2 3 c2, .string ⟨#[48, 48]⟩] [.string ⟨#[]⟩, .slice none 0 0, .string ⟨#[]⟩])⟩ : Rw) :: (⟨some ⟨(eb + 1 + 1), 0, none⟩, 26, 26, 37, (cond (Ld 9) [.int .i64 1, .int .i64 0, .int .i64 0, .int .i64 2, .int .i64 1, .int .i64 0, .int .i64 3, .int .i64 0, .slice (some ⟨db, 0, none⟩) 1 c, .int .i64 0, .int .i64 0, .int .i64 0, .int .i64 0, .int .i64 0, .int .i64 0, .int .i64 0, .int .i64 0, .int .u8 0, .int .u8 0, .bool false, .int .i64 0, .int .i64 0, .int .i64 0, .int .i64 0, .bool false, .bool false] [.int .i64 0, .int .i64 0, .int .i64 0, .int .i64 0, .int .i64 0, .int .i64 0, .int .i64 0, .int .i64 0, .slice none 0 0, .int .i64 0, .int .i64 0, .int .i64 0, .int .i64 0, .int .i64 0, .int .i64 0, .int .i64 0, .int .i64 0, .int .u8 0, .int .u8 0, .bool false, .int .i64 0, .int .i64 0, .int .i64 0, .int .i64 0, .bool false, .bool false])⟩ : Rw) :: l) ∧ (Ld 2 = false → l = []) ∧ (Ld 2 = true → u2 = .agg #[.string ⟨#[119, 114, 105, 116, 101]⟩, .slice A2 3 c2, .string ⟨#[48, 48]⟩] ∧ l = [(⟨A2, 3, c2, 3, [.int .i64 1, .int .i64 0, .int .i64 3]⟩ : Rw)])
  h0 : Ld 0 = true → u0 = .pointer (some ⟨eb, 3, none⟩)
  h1 : Ld 1 = true → u1 = .agg #[.int .i64 2, .int .i64 1, .int .i64 0, .int .i64 3, .int .i64 0, .slice (some ⟨db, 0, none⟩) 1 c]
  h3 : Ld 3 = true → u3 = .pointer (some ⟨eb, 0, none⟩)
  h4 : Ld 4 = true → u4 = .int .i64 1
  h5 : Ld 5 = true → u5 = .pointer (some ⟨eb, 3, none⟩)
  h6 : Ld 6 = true → u6 = .agg #[.int .i64 2, .int .i64 1, .int .i64 0, .int .i64 3, .int .i64 0, .slice (some ⟨db, 0, none⟩) 1 c]
  h7 : Ld 7 = true → u7 = .agg #[.int .i64 1, .int .i64 0, .int .i64 0, .int .i64 2, .int .i64 1, .int .i64 0, .int .i64 3, .int .i64 0, .slice (some ⟨db, 0, none⟩) 1 c, .int .i64 0, .int .i64 0, .int .i64 0, .int .i64 0, .int .i64 0, .int .i64 0, .int .i64 0, .int .i64 0, .int .u8 0, .int .u8 0, .bool false, .int .i64 0, .int .i64 0, .int .i64 0, .int .i64 0, .bool false, .bool false]
def LbI (w0 : World) (eb db c : Nat) (A0 : Act) (Ld : Nat → Bool) (a : Act) (W : World) : Prop :=
  ∃ (u0 u1 u2 u3 u4 u5 u6 u7 : Value), a = ((((((((A0.put (some 22) u0).put (some 23) u1).put (some 24) u2).put (some 25) u3).put (some 26) u4).put (some 27) u5).put (some 28) u6).put (some 29) u7) ∧ LbK w0 eb db c Ld u0 u1 u2 u3 u4 u5 u6 u7 W
set_option maxHeartbeats 4000000 in
theorem line_one (w : World) (db c : Nat) (hdb : db < w.heap.size) (c0 : w.cell? ⟨db, 0, none⟩ = some (.int .u8 0)) :
    Calls Tryd.prog 21 #[.agg #[.int .i64 1, .int .i64 0, .int .i64 0, .int .i64 2, .int .i64 1, .int .i64 0, .int .i64 3, .int .i64 0, .slice (some ⟨db, 0, none⟩) 1 c, .int .i64 0, .int .i64 0, .int .i64 0, .int .i64 0, .int .i64 0, .int .i64 0, .int .i64 0, .int .i64 0, .int .u8 0, .int .u8 0, .bool false, .int .i64 0, .int .i64 0, .int .i64 0, .int .i64 0, .bool false, .bool false]] w fun e w' => ∃ (A2 : Option Addr) (c2 : Nat), e = .returned (.tuple #[.agg #[.string ⟨#[119, 114, 105, 116, 101]⟩, .slice A2 3 c2, .string ⟨#[48, 48]⟩], .agg #[.int .i64 1, .int .i64 0, .int .i64 0, .int .i64 2, .int .i64 1, .int .i64 0, .int .i64 3, .int .i64 0, .slice (some ⟨db, 0, none⟩) 1 c, .int .i64 0, .int .i64 0, .int .i64 0, .int .i64 0, .int .i64 0, .int .i64 0, .int .i64 0, .int .i64 0, .int .u8 0, .int .u8 0, .bool false, .int .i64 0, .int .i64 0, .int .i64 0, .int .i64 0, .bool false, .bool false]]) ∧ Below w.heap.size w w' ∧ w'.ownsRow w.heap.size 3 1 (.slice A2 3 c2) 3 [.int .i64 1, .int .i64 0, .int .i64 3] := by
  have HD := Lib.hid hdb
  clear hdb
  have H0 := (((Ow.of (St.refl w)).arr #[.int .i64 1, .int .i64 0, .int .i64 0, .int .i64 2, .int .i64 1, .int .i64 0, .int .i64 3, .int .i64 0, .slice (some ⟨db, 0, none⟩) 1 c, .int .i64 0, .int .i64 0, .int .i64 0, .int .i64 0, .int .i64 0, .int .i64 0, .int .i64 0, .int .i64 0, .int .u8 0, .int .u8 0, .bool false, .int .i64 0, .int .i64 0, .int .i64 0, .int .i64 0, .bool false, .bool false] 26 rfl (by omega) 37).arr #[.string ⟨#[]⟩, .slice none 0 0, .string ⟨#[]⟩] 3 rfl (by omega) 69).arr #[.int .i64 0, .int .i64 0, .int .i64 0, .int .i64 0, .int .i64 0, .int .i64 0, .int .i64 0, .int .i64 0, .slice none 0 0, .int .i64 0, .int .i64 0, .int .i64 0, .int .i64 0, .int .i64 0, .int .i64 0, .int .i64 0, .int .i64 0, .int .u8 0, .int .u8 0, .bool false, .int .i64 0, .int .i64 0, .int .i64 0, .int .i64 0, .bool false, .bool false] 26 rfl (by omega) 37
  simp only [World.size_alloc, List.cons_append, List.nil_append] at H0
  have HO0 := Lib.hid H0
  clear H0
  go_enter Tryd.func21, Tryd.ntmps21
  go_wp2_with fail
  refine reg_inv34 (L1I (((w.alloc (.cells #[.int .i64 1, .int .i64 0, .int .i64 0, .int .i64 2, .int .i64 1, .int .i64 0, .int .i64 3, .int .i64 0, .slice (some ⟨db, 0, none⟩) 1 c, .int .i64 0, .int .i64 0, .int .i64 0, .int .i64 0, .int .i64 0, .int .i64 0, .int .i64 0, .int .i64 0, .int .u8 0, .int .u8 0, .bool false, .int .i64 0, .int .i64 0, .int .i64 0, .int .i64 0, .bool false, .bool false] 37)).alloc (.cells #[.string ⟨#[]⟩, .slice none 0 0, .string ⟨#[]⟩] 69)).alloc (.cells #[.int .i64 0, .int .i64 0, .int .i64 0, .int .i64 0, .int .i64 0, .int .i64 0, .int .i64 0, .int .i64 0, .slice none 0 0, .int .i64 0, .int .i64 0, .int .i64 0, .int .i64 0, .int .i64 0, .int .i64 0, .int .i64 0, .int .i64 0, .int .u8 0, .int .u8 0, .bool false, .int .i64 0, .int .i64 0, .int .i64 0, .int .i64 0, .bool false, .bool false] 37)) w.heap.size) (by kernel_rfl) (by kernel_rfl) ?_ ?_ ?_
  · refine ⟨undef, undef, undef, undef, undef, undef, undef, undef, undef, undef, ?_, ⟨(Below.refl _ _).drew, ?_, ?_, ?_, ?_, ?_, ?_, ?_, ?_, ?_, ?_⟩⟩
    · simp only [Act.put, List.setIfInBounds_toArray, List.set_cons_zero, List.set_cons_succ]
    all_goals (intro h; cases h)
  · rintro jj Ld b W hj hf hcl hd ⟨u0, u1, u2, u3, u4, u5, u6, u7, u8, u9, rfl, hC⟩
    have hj' : jj < 13 := hj
    have hcase : jj = 0 ∨ jj = 1 ∨ jj = 2 ∨ jj = 3 ∨ jj = 4 ∨ jj = 5 ∨ jj = 6 ∨ jj = 7 ∨ jj = 8 ∨ jj = 9 ∨ jj = 10 ∨ jj = 11 ∨ jj = 12 := by omega
    clear hj hj'
    simp only [Act.put, List.setIfInBounds_toArray, List.set_cons_zero, List.set_cons_succ]
    rcases hcase with rfl | rfl | rfl | rfl | rfl | rfl | rfl | rfl | rfl | rfl | rfl | rfl | rfl
    · clear hd hcl
      refine wpOp_step rfl (fun K hK => ?_)
      go_simp
      refine hK _ _ ⟨_, u1, u2, u3, u4, u5, u6, u7, u8, u9, ?_, ⟨hC.bw, fun _ => rfl, hC.h1, hC.h2, hC.h3, hC.h4, hC.h5, hC.h6, hC.h7, hC.h8, hC.h9⟩⟩
      simp only [Act.put, List.setIfInBounds_toArray, List.set_cons_zero, List.set_cons_succ]
    · obtain rfl := hC.h0 (hd 0 (by kernel_rfl))
      have her := (HO0.out.go hC.bw).row 0 rfl
      have y9 := her.cellAt 9 (by decide)
      have y10 := her.cellAt 10 (by decide)
      have y11 := her.cellAt 11 (by decide)
      have y12 := her.cellAt 12 (by decide)
      have y13 := her.cellAt 13 (by decide)
      have y14 := her.cellAt 14 (by decide)
      have y15 := her.cellAt 15 (by decide)
      have y16 := her.cellAt 16 (by decide)
      have y17 := her.cellAt 17 (by decide)
      have y18 := her.cellAt 18 (by decide)
      have y19 := her.cellAt 19 (by decide)
      clear hd hcl
      refine wpOp_step rfl (fun K hK => ?_)
      go_simp
      refine hK _ _ ⟨_, _, u2, u3, u4, u5, u6, u7, u8, u9, ?_, ⟨hC.bw, hC.h0, fun _ => rfl, hC.h2, hC.h3, hC.h4, hC.h5, hC.h6, hC.h7, hC.h8, hC.h9⟩⟩
      simp only [Act.put, List.setIfInBounds_toArray, List.set_cons_zero, List.set_cons_succ]
    · clear hd hcl
      refine wpOp_step rfl (fun K hK => ?_)
      go_simp
      refine hK _ _ ⟨u0, u1, _, u3, u4, u5, u6, u7, u8, u9, ?_, ⟨hC.bw, hC.h0, hC.h1, fun _ => rfl, hC.h3, hC.h4, hC.h5, hC.h6, hC.h7, hC.h8, hC.h9⟩⟩
      simp only [Act.put, List.setIfInBounds_toArray, List.set_cons_zero, List.set_cons_succ]
    · obtain rfl := hC.h2 (hd 2 (by kernel_rfl))
      have her := (HO0.out.go hC.bw).row 0 rfl
      have y20 := her.cellAt 20 (by decide)
      have y21 := her.cellAt 21 (by decide)
      have y22 := her.cellAt 22 (by decide)
      have y23 := her.cellAt 23 (by decide)
      have y24 := her.cellAt 24 (by decide)
      have y25 := her.cellAt 25 (by decide)
      clear hd hcl
      refine wpOp_step rfl (fun K hK => ?_)
      go_simp
      refine hK _ _ ⟨u0, u1, _, _, u4, u5, u6, u7, u8, u9, ?_, ⟨hC.bw, hC.h0, hC.h1, hC.h2, fun _ => rfl, hC.h4, hC.h5, hC.h6, hC.h7, hC.h8, hC.h9⟩⟩
      simp only [Act.put, List.setIfInBounds_toArray, List.set_cons_zero, List.set_cons_succ]
    · clear hd hcl
      refine wpOp_step rfl (fun K hK => ?_)
      go_simp
      refine hK _ _ ⟨u0, u1, u2, u3, _, u5, u6, u7, u8, u9, ?_, ⟨hC.bw, hC.h0, hC.h1, hC.h2, hC.h3, fun _ => rfl, hC.h5, hC.h6, hC.h7, hC.h8, hC.h9⟩⟩
      simp only [Act.put, List.setIfInBounds_toArray, List.set_cons_zero, List.set_cons_succ]
    · obtain rfl := hC.h4 (hd 4 (by kernel_rfl))
      clear hd hcl
      refine wpOp_step rfl (fun K hK => ?_)
      go_simp
      refine hK _ _ ⟨u0, u1, u2, u3, _, _, u6, u7, u8, u9, ?_, ⟨hC.bw, hC.h0, hC.h1, hC.h2, hC.h3, hC.h4, fun _ => rfl, hC.h6, hC.h7, hC.h8, hC.h9⟩⟩
      simp only [Act.put, List.setIfInBounds_toArray, List.set_cons_zero, List.set_cons_succ]
    · obtain rfl := hC.h5 (hd 5 (by kernel_rfl))
      have her := (HO0.out.go hC.bw).row 0 rfl
      have y10 := her.cellAt 10 (by decide)
      have y11 := her.cellAt 11 (by decide)
      have y12 := her.cellAt 12 (by decide)
      have y13 := her.cellAt 13 (by decide)
      have y14 := her.cellAt 14 (by decide)
      have y15 := her.cellAt 15 (by decide)
      clear hd hcl
      refine wpOp_step rfl (fun K hK => ?_)
      go_simp
      refine hK _ _ ⟨u0, u1, u2, u3, u4, _, _, u7, u8, u9, ?_, ⟨hC.bw, hC.h0, hC.h1, hC.h2, hC.h3, hC.h4, hC.h5, fun _ => rfl, hC.h7, hC.h8, hC.h9⟩⟩
      simp only [Act.put, List.setIfInBounds_toArray, List.set_cons_zero, List.set_cons_succ]
    · clear hd hcl
      refine wpOp_step rfl (fun K hK => ?_)
      go_simp
      refine hK _ _ ⟨u0, u1, u2, u3, u4, u5, u6, _, u8, u9, ?_, ⟨(below_allocX hC.bw _), hC.h0, hC.h1, hC.h2, hC.h3, hC.h4, hC.h5, hC.h6, fun _ => ⟨_, ⟨hC.bw.size, Cel.new _ _ _⟩, rfl⟩, fun h => by obtain ⟨b, hb, e⟩ := hC.h8 h; exact ⟨b, ⟨hb.1, hb.2.alloc _⟩, e⟩, fun h => by obtain ⟨b, hb, e⟩ := hC.h9 h; exact ⟨b, ⟨hb.1, hb.2.alloc _⟩, e⟩⟩⟩
      simp only [Act.put, List.setIfInBounds_toArray, List.set_cons_zero, List.set_cons_succ]
    · clear hd hcl
      refine wpOp_step rfl (fun K hK => ?_)
      go_simp
      refine hK _ _ ⟨u0, u1, u2, u3, u4, u5, u6, u7, _, u9, ?_, ⟨(below_allocX hC.bw _), hC.h0, hC.h1, hC.h2, hC.h3, hC.h4, hC.h5, hC.h6, fun h => by obtain ⟨b, hb, e⟩ := hC.h7 h; exact ⟨b, ⟨hb.1, hb.2.alloc _⟩, e⟩, fun _ => ⟨_, ⟨hC.bw.size, Cel.new _ _ _⟩, rfl⟩, fun h => by obtain ⟨b, hb, e⟩ := hC.h9 h; exact ⟨b, ⟨hb.1, hb.2.alloc _⟩, e⟩⟩⟩
      simp only [Act.put, List.setIfInBounds_toArray, List.set_cons_zero, List.set_cons_succ]
    · clear hd hcl
      refine wpOp_step rfl (fun K hK => ?_)
      go_simp
      refine hK _ _ ⟨u0, u1, u2, u3, u4, u5, u6, u7, u8, _, ?_, ⟨(below_allocX hC.bw _), hC.h0, hC.h1, hC.h2, hC.h3, hC.h4, hC.h5, hC.h6, fun h => by obtain ⟨b, hb, e⟩ := hC.h7 h; exact ⟨b, ⟨hb.1, hb.2.alloc _⟩, e⟩, fun h => by obtain ⟨b, hb, e⟩ := hC.h8 h; exact ⟨b, ⟨hb.1, hb.2.alloc _⟩, e⟩, fun _ => ⟨_, ⟨hC.bw.size, Cel.new _ _ _⟩, rfl⟩⟩⟩
      simp only [Act.put, List.setIfInBounds_toArray, List.set_cons_zero, List.set_cons_succ]
    · obtain ⟨z, ⟨hzB, hzC⟩, rfl⟩ := hC.h7 (hd 7 (by kernel_rfl))
      obtain rfl := hC.h1 (hd 1 (by kernel_rfl))
      have hzC2 := hzC
      obtain ⟨old, hg, ho⟩ := hzC
      clear hd hcl
      refine wpOp_step rfl (fun K hK => ?_)
      rw [if_pos (by rfl)]
      refine wp_store_row 33 (.tmp 4) (.tmp 11) rfl z #[.int .i64 0, .int .i64 0, .int .i64 0, .int .i64 0, .int .i64 0, .int .i64 0, .int .i64 0, .int .i64 0, .int .u8 0, .int .u8 0, .bool false] rfl rfl 33 _ hg sizeFa ho (by simp [Value.oneCell']) ?_
      refine hK _ _ ⟨u0, (.agg #[.int .i64 0, .int .i64 0, .int .i64 0, .int .i64 0, .int .i64 0, .int .i64 0, .int .i64 0, .int .i64 0, .int .u8 0, .int .u8 0, .bool false]), u2, u3, u4, u5, u6, (.pointer (some ⟨z, 0, none⟩)), u8, u9, ?_, ⟨(below_setRow hC.bw hzB _), hC.h0, hC.h1, hC.h2, hC.h3, hC.h4, hC.h5, hC.h6, fun h => by obtain ⟨b, hb, e⟩ := hC.h7 h; exact ⟨b, ⟨hb.1, hb.2.row hzC2⟩, e⟩, fun h => by obtain ⟨b, hb, e⟩ := hC.h8 h; exact ⟨b, ⟨hb.1, hb.2.row hzC2⟩, e⟩, fun h => by obtain ⟨b, hb, e⟩ := hC.h9 h; exact ⟨b, ⟨hb.1, hb.2.row hzC2⟩, e⟩⟩⟩
      simp only [Act.put, List.setIfInBounds_toArray, List.set_cons_zero, List.set_cons_succ]
      rfl
    · obtain ⟨z, ⟨hzB, hzC⟩, rfl⟩ := hC.h8 (hd 8 (by kernel_rfl))
      obtain rfl := hC.h3 (hd 3 (by kernel_rfl))
      have hzC2 := hzC
      obtain ⟨old, hg, ho⟩ := hzC
      clear hd hcl
      refine wpOp_step rfl (fun K hK => ?_)
      rw [if_pos (by rfl)]
      refine wp_store_row 35 (.tmp 5) (.tmp 13) rfl z #[.int .i64 0, .int .i64 0, .int .i64 0, .int .i64 0, .bool false, .bool false] rfl rfl 35 _ hg sizeTr ho (by simp [Value.oneCell']) ?_
      refine hK _ _ ⟨u0, u1, u2, (.agg #[.int .i64 0, .int .i64 0, .int .i64 0, .int .i64 0, .bool false, .bool false]), u4, u5, u6, u7, (.pointer (some ⟨z, 0, none⟩)), u9, ?_, ⟨(below_setRow hC.bw hzB _), hC.h0, hC.h1, hC.h2, hC.h3, hC.h4, hC.h5, hC.h6, fun h => by obtain ⟨b, hb, e⟩ := hC.h7 h; exact ⟨b, ⟨hb.1, hb.2.row hzC2⟩, e⟩, fun h => by obtain ⟨b, hb, e⟩ := hC.h8 h; exact ⟨b, ⟨hb.1, hb.2.row hzC2⟩, e⟩, fun h => by obtain ⟨b, hb, e⟩ := hC.h9 h; exact ⟨b, ⟨hb.1, hb.2.row hzC2⟩, e⟩⟩⟩
      simp only [Act.put, List.setIfInBounds_toArray, List.set_cons_zero, List.set_cons_succ]
      rfl
    · obtain ⟨z, ⟨hzB, hzC⟩, rfl⟩ := hC.h9 (hd 9 (by kernel_rfl))
      obtain rfl := hC.h6 (hd 6 (by kernel_rfl))
      have hzC2 := hzC
      obtain ⟨old, hg, ho⟩ := hzC
      clear hd hcl
      refine wpOp_step rfl (fun K hK => ?_)
      rw [if_pos (by rfl)]
      refine wp_store_row 31 (.tmp 6) (.tmp 16) rfl z #[.int .i64 0, .int .i64 0, .int .i64 0, .int .i64 0, .int .i64 0, .int .i64 0] rfl rfl 31 _ hg sizePl ho (by simp [Value.oneCell']) ?_
      refine hK _ _ ⟨u0, u1, u2, u3, u4, u5, (.agg #[.int .i64 0, .int .i64 0, .int .i64 0, .int .i64 0, .int .i64 0, .int .i64 0]), u7, u8, (.pointer (some ⟨z, 0, none⟩)), ?_, ⟨(below_setRow hC.bw hzB _), hC.h0, hC.h1, hC.h2, hC.h3, hC.h4, hC.h5, hC.h6, fun h => by obtain ⟨b, hb, e⟩ := hC.h7 h; exact ⟨b, ⟨hb.1, hb.2.row hzC2⟩, e⟩, fun h => by obtain ⟨b, hb, e⟩ := hC.h8 h; exact ⟨b, ⟨hb.1, hb.2.row hzC2⟩, e⟩, fun h => by obtain ⟨b, hb, e⟩ := hC.h9 h; exact ⟨b, ⟨hb.1, hb.2.row hzC2⟩, e⟩⟩⟩
      simp only [Act.put, List.setIfInBounds_toArray, List.set_cons_zero, List.set_cons_succ]
      rfl
  · rintro Ld b W hL ⟨u0, u1, u2, u3, u4, u5, u6, u7, u8, u9, rfl, hC⟩
    obtain ⟨fb, -, rfl⟩ := hC.h7 (hL 7 (by show 7 < 13; decide))
    obtain ⟨tb, -, rfl⟩ := hC.h8 (hL 8 (by show 8 < 13; decide))
    obtain ⟨pb, -, rfl⟩ := hC.h9 (hL 9 (by show 9 < 13; decide))
    have HO1 := Lib.hid (HO0.out.go hC.bw)
    have her := HO1.out.row 0 rfl
    have y0 := her.cellAt 0 (by decide)
    clear hC hL her HO0
    simp only [Act.put, List.setIfInBounds_toArray, List.set_cons_zero, List.set_cons_succ]
    go_upto_region 5 with fail
    refine reg_inv34 (LbI w w.heap.size db c) (by kernel_rfl) (by kernel_rfl) ?_ ?_ ?_
    · refine ⟨undef, undef, undef, undef, undef, undef, undef, undef, ?_, ⟨⟨none, 0, [], HO1.out.drew, (fun _ => rfl), (fun h => by cases h)⟩, ?_, ?_, ?_, ?_, ?_, ?_, ?_⟩⟩
      · simp only [Act.put, List.setIfInBounds_toArray, List.set_cons_zero, List.set_cons_succ]
      all_goals (intro h; cases h)
    · rintro jj Ld b W hj hf hcl hd ⟨u0, u1, u2, u3, u4, u5, u6, u7, rfl, hC⟩
      have hj' : jj < 10 := hj
      have hcase : jj = 0 ∨ jj = 1 ∨ jj = 2 ∨ jj = 3 ∨ jj = 4 ∨ jj = 5 ∨ jj = 6 ∨ jj = 7 ∨ jj = 8 ∨ jj = 9 := by omega
      clear hj hj'
      simp only [Act.put, List.setIfInBounds_toArray, List.set_cons_zero, List.set_cons_succ]
      rcases hcase with rfl | rfl | rfl | rfl | rfl | rfl | rfl | rfl | rfl | rfl
      · clear hd hcl
        refine wpOp_step rfl (fun K hK => ?_)
        go_simp
        refine hK _ _ ⟨_, u1, u2, u3, u4, u5, u6, u7, ?_, ⟨hC.ow, fun _ => rfl, hC.h1, hC.h3, hC.h4, hC.h5, hC.h6, hC.h7⟩⟩
        (simp only [Act.put, List.setIfInBounds_toArray, List.set_cons_zero, List.set_cons_succ]) <;> rfl
      · obtain rfl := hC.h0 (hd 0 (by kernel_rfl))
        obtain ⟨A2, c2, l, how, h1, h2⟩ := hC.ow
        have her := how.row 0 rfl
        have y3 : W.cell? ⟨w.heap.size, 3, none⟩ = some (.int .i64 2) := her.cellAt 3 (by decide)
        have y4 : W.cell? ⟨w.heap.size, 4, none⟩ = some (.int .i64 1) := her.cellAt 4 (by decide)
        have y5 : W.cell? ⟨w.heap.size, 5, none⟩ = some (.int .i64 0) := her.cellAt 5 (by decide)
        have y6 : W.cell? ⟨w.heap.size, 6, none⟩ = some (.int .i64 3) := her.cellAt 6 (by decide)
        have y7 : W.cell? ⟨w.heap.size, 7, none⟩ = some (.int .i64 0) := her.cellAt 7 (by decide)
        have y8 : W.cell? ⟨w.heap.size, 8, none⟩ = some (.slice (some ⟨db, 0, none⟩) 1 c) := her.cellAt 8 (by decide)
        clear hd hcl
        refine wpOp_step rfl (fun K hK => ?_)
        go_simp
        refine hK _ _ ⟨(.pointer (some ⟨w.heap.size, 3, none⟩)), _, u2, u3, u4, u5, u6, u7, ?_, ⟨hC.ow, hC.h0, fun _ => rfl, hC.h3, hC.h4, hC.h5, hC.h6, hC.h7⟩⟩
        (simp only [Act.put, List.setIfInBounds_toArray, List.set_cons_zero, List.set_cons_succ]) <;> rfl
      · obtain rfl := hC.h1 (hd 1 (by kernel_rfl))
        obtain ⟨A2, c2, l, how, h1, h2⟩ := hC.ow
        obtain rfl := h1 hf
        have h8 : Ld 8 = false := cl_no hcl hf (by kernel_rfl)
        rw [h8] at how
        have cc0 := (how.below.cell HD.out).trans c0
        have hdw := Nat.lt_of_lt_of_le HD.out how.size
        clear hd hcl
        refine wpOp_step rfl (fun K hK => ?_)
        go_simp
        refine (operation_one W db c hdw cc0).mono ?_
        rintro e W2 ⟨B2, d2, rfl, hb, hown⟩
        have ho := how.add hown hb
        simp only [List.cons_append, List.nil_append] at ho
        refine hK _ _ ⟨u0, (.agg #[.int .i64 2, .int .i64 1, .int .i64 0, .int .i64 3, .int .i64 0, .slice (some ⟨db, 0, none⟩) 1 c]), _, u3, u4, u5, u6, u7, ?_, ⟨⟨B2, d2, _, (by rw [show dset Ld 2 8 = false from h8]; exact ho), (fun h => by cases h), (fun _ => ⟨rfl, rfl⟩)⟩, hC.h0, hC.h1, hC.h3, hC.h4, hC.h5, hC.h6, hC.h7⟩⟩
        (simp only [Act.put, List.setIfInBounds_toArray, List.set_cons_zero, List.set_cons_succ]) <;> rfl
      · clear hd hcl
        refine wpOp_step rfl (fun K hK => ?_)
        go_simp
        refine hK _ _ ⟨u0, u1, u2, _, u4, u5, u6, u7, ?_, ⟨hC.ow, hC.h0, hC.h1, fun _ => rfl, hC.h4, hC.h5, hC.h6, hC.h7⟩⟩
        (simp only [Act.put, List.setIfInBounds_toArray, List.set_cons_zero, List.set_cons_succ]) <;> rfl
      · obtain rfl := hC.h3 (hd 3 (by kernel_rfl))
        obtain ⟨A2, c2, l, how, h1, h2⟩ := hC.ow
        have her := how.row 0 rfl
        have y0 : W.cell? ⟨w.heap.size, 0, none⟩ = some (.int .i64 1) := her.cellAt 0 (by decide)
        clear hd hcl
        refine wpOp_step rfl (fun K hK => ?_)
        go_simp
        refine hK _ _ ⟨u0, u1, u2, (.pointer (some ⟨w.heap.size, 0, none⟩)), _, u5, u6, u7, ?_, ⟨hC.ow, hC.h0, hC.h1, hC.h3, fun _ => rfl, hC.h5, hC.h6, hC.h7⟩⟩
        (simp only [Act.put, List.setIfInBounds_toArray, List.set_cons_zero, List.set_cons_succ]) <;> rfl
      · clear hd hcl
        refine wpOp_step rfl (fun K hK => ?_)
        go_simp
        refine hK _ _ ⟨u0, u1, u2, u3, u4, _, u6, u7, ?_, ⟨hC.ow, hC.h0, hC.h1, hC.h3, hC.h4, fun _ => rfl, hC.h6, hC.h7⟩⟩
        (simp only [Act.put, List.setIfInBounds_toArray, List.set_cons_zero, List.set_cons_succ]) <;> rfl
      · obtain rfl := hC.h5 (hd 5 (by kernel_rfl))
        obtain ⟨A2, c2, l, how, h1, h2⟩ := hC.ow
        have her := how.row 0 rfl
        have y3 : W.cell? ⟨w.heap.size, 3, none⟩ = some (.int .i64 2) := her.cellAt 3 (by decide)
        have y4 : W.cell? ⟨w.heap.size, 4, none⟩ = some (.int .i64 1) := her.cellAt 4 (by decide)
        have y5 : W.cell? ⟨w.heap.size, 5, none⟩ = some (.int .i64 0) := her.cellAt 5 (by decide)
        have y6 : W.cell? ⟨w.heap.size, 6, none⟩ = some (.int .i64 3) := her.cellAt 6 (by decide)
        have y7 : W.cell? ⟨w.heap.size, 7, none⟩ = some (.int .i64 0) := her.cellAt 7 (by decide)
        have y8 : W.cell? ⟨w.heap.size, 8, none⟩ = some (.slice (some ⟨db, 0, none⟩) 1 c) := her.cellAt 8 (by decide)
        clear hd hcl
        refine wpOp_step rfl (fun K hK => ?_)
        go_simp
        refine hK _ _ ⟨u0, u1, u2, u3, u4, (.pointer (some ⟨w.heap.size, 3, none⟩)), _, u7, ?_, ⟨hC.ow, hC.h0, hC.h1, hC.h3, hC.h4, hC.h5, fun _ => rfl, hC.h7⟩⟩
        (simp only [Act.put, List.setIfInBounds_toArray, List.set_cons_zero, List.set_cons_succ]) <;> rfl
      · obtain rfl := hC.h4 (hd 4 (by kernel_rfl))
        obtain rfl := hC.h6 (hd 6 (by kernel_rfl))
        clear hd hcl
        refine wpOp_step rfl (fun K hK => ?_)
        go_simp
        refine hK _ _ ⟨u0, u1, u2, u3, (.int .i64 1), u5, (.agg #[.int .i64 2, .int .i64 1, .int .i64 0, .int .i64 3, .int .i64 0, .slice (some ⟨db, 0, none⟩) 1 c]), _, ?_, ⟨hC.ow, hC.h0, hC.h1, hC.h3, hC.h4, hC.h5, hC.h6, fun _ => rfl⟩⟩
        (simp only [Act.put, List.setIfInBounds_toArray, List.set_cons_zero, List.set_cons_succ]) <;> rfl
      · obtain ⟨A2, c2, l, how, h1, h2⟩ := hC.ow
        have e2 := hd 2 (by kernel_rfl)
        obtain ⟨rfl, rfl⟩ := h2 e2
        rw [hf] at how
        simp only [cond_false] at how
        have hg := (how.rowHeap 1 rfl).1
        have ho := how.putRow (k := 3) 1 rfl #[.string ⟨#[119, 114, 105, 116, 101]⟩, .slice A2 3 c2, .string ⟨#[48, 48]⟩] rfl (by omega)
        simp only [List.set_cons_zero, List.set_cons_succ] at ho
        clear hd hcl
        refine wpOp_step rfl (fun K hK => ?_)
        rw [if_pos (by rfl)]
        refine wp_store_row 69 (.tmp 2) (.tmp 24) rfl (w.heap.size + 1) #[.string ⟨#[119, 114, 105, 116, 101]⟩, .slice A2 3 c2, .string ⟨#[48, 48]⟩] rfl rfl 69 _ hg sizeWd rfl (by simp [Value.oneCell']) ?_
        refine hK _ _ ⟨u0, u1, (.agg #[.string ⟨#[119, 114, 105, 116, 101]⟩, .slice A2 3 c2, .string ⟨#[48, 48]⟩]), u3, u4, u5, u6, u7, ?_, ⟨⟨A2, c2, _, ho, (fun h => absurd (e2.symm.trans h) (by decide)), (fun _ => ⟨rfl, rfl⟩)⟩, hC.h0, hC.h1, hC.h3, hC.h4, hC.h5, hC.h6, hC.h7⟩⟩
        (simp only [Act.put, List.setIfInBounds_toArray, List.set_cons_zero, List.set_cons_succ]) <;> rfl
      · obtain rfl := hC.h7 (hd 7 (by kernel_rfl))
        obtain ⟨A2, c2, l, how, h1, h2⟩ := hC.ow
        rw [hf] at how
        simp only [cond_false] at how
        have hg := (how.rowHeap 2 rfl).1
        have ho := how.putRow (k := 26) 2 rfl #[.int .i64 1, .int .i64 0, .int .i64 0, .int .i64 2, .int .i64 1, .int .i64 0, .int .i64 3, .int .i64 0, .slice (some ⟨db, 0, none⟩) 1 c, .int .i64 0, .int .i64 0, .int .i64 0, .int .i64 0, .int .i64 0, .int .i64 0, .int .i64 0, .int .i64 0, .int .u8 0, .int .u8 0, .bool false, .int .i64 0, .int .i64 0, .int .i64 0, .int .i64 0, .bool false, .bool false] rfl (by omega)
        simp only [List.set_cons_zero, List.set_cons_succ] at ho
        clear hd hcl
        refine wpOp_step rfl (fun K hK => ?_)
        rw [if_pos (by rfl)]
        refine wp_store_row 37 (.tmp 3) (.tmp 29) rfl (w.heap.size + 1 + 1) #[.int .i64 1, .int .i64 0, .int .i64 0, .int .i64 2, .int .i64 1, .int .i64 0, .int .i64 3, .int .i64 0, .slice (some ⟨db, 0, none⟩) 1 c, .int .i64 0, .int .i64 0, .int .i64 0, .int .i64 0, .int .i64 0, .int .i64 0, .int .i64 0, .int .i64 0, .int .u8 0, .int .u8 0, .bool false, .int .i64 0, .int .i64 0, .int .i64 0, .int .i64 0, .bool false, .bool false] rfl rfl 37 _ hg sizeEv rfl (by simp [Value.oneCell']) ?_
        refine hK _ _ ⟨u0, u1, u2, u3, u4, u5, u6, (.agg #[.int .i64 1, .int .i64 0, .int .i64 0, .int .i64 2, .int .i64 1, .int .i64 0, .int .i64 3, .int .i64 0, .slice (some ⟨db, 0, none⟩) 1 c, .int .i64 0, .int .i64 0, .int .i64 0, .int .i64 0, .int .i64 0, .int .i64 0, .int .i64 0, .int .i64 0, .int .u8 0, .int .u8 0, .bool false, .int .i64 0, .int .i64 0, .int .i64 0, .int .i64 0, .bool false, .bool false]), ?_, ⟨⟨A2, c2, _, ho, h1, h2⟩, hC.h0, hC.h1, hC.h3, hC.h4, hC.h5, hC.h6, hC.h7⟩⟩
        (simp only [Act.put, List.setIfInBounds_toArray, List.set_cons_zero, List.set_cons_succ]) <;> rfl
    · rintro Ld b W hL ⟨u0, u1, u2, u3, u4, u5, u6, u7, rfl, hC⟩
      obtain ⟨A2, c2, l, how, -, h2⟩ := hC.ow
      obtain ⟨-, rfl⟩ := h2 (hL 2 (by show 2 < 10; decide))
      rw [hL 8 (by show 8 < 10; decide), hL 9 (by show 9 < 10; decide)] at how
      simp only [cond_true] at how
      have HE := Lib.hid how
      clear hC hL how h2
      have l3 := run_loadVar_row (P := Tryd.prog) W (w.heap.size + 1) 69 69 #[.string ⟨#[119, 114, 105, 116, 101]⟩, .slice A2 3 c2, .string ⟨#[48, 48]⟩] (0, 0) _ (HE.out.rowHeap 1 rfl).1 Tryd.underlying69 rfl sizeWd
      have l26 := run_loadVar_row (P := Tryd.prog) W (w.heap.size + 1 + 1) 37 37 #[.int .i64 1, .int .i64 0, .int .i64 0, .int .i64 2, .int .i64 1, .int .i64 0, .int .i64 3, .int .i64 0, .slice (some ⟨db, 0, none⟩) 1 c, .int .i64 0, .int .i64 0, .int .i64 0, .int .i64 0, .int .i64 0, .int .i64 0, .int .i64 0, .int .i64 0, .int .u8 0, .int .u8 0, .bool false, .int .i64 0, .int .i64 0, .int .i64 0, .int .i64 0, .bool false, .bool false] (0, 0) _ (HE.out.rowHeap 2 rfl).1 Tryd.underlying37 rfl sizeEv
      have has : ∀ (ad : Addr) (W : World), (asAddr (.pointer (some ad))).run Tryd.prog W = .ok ad W := fun _ _ => rfl
      simp only [Act.put, List.setIfInBounds_toArray, List.set_cons_zero, List.set_cons_succ]
      go_wp2_with fail
      refine bodyPost_ret (v := .tuple #[.agg #[.string ⟨#[119, 114, 105, 116, 101]⟩, .slice A2 3 c2, .string ⟨#[48, 48]⟩], .agg #[.int .i64 1, .int .i64 0, .int .i64 0, .int .i64 2, .int .i64 1, .int .i64 0, .int .i64 3, .int .i64 0, .slice (some ⟨db, 0, none⟩) 1 c, .int .i64 0, .int .i64 0, .int .i64 0, .int .i64 0, .int .i64 0, .int .i64 0, .int .i64 0, .int .i64 0, .int .u8 0, .int .u8 0, .bool false, .int .i64 0, .int .i64 0, .int .i64 0, .int .i64 0, .bool false, .bool false]]) (by simp [results, Tryd.results21, asAddr, l3, l26]) rfl ?_
      exact ⟨A2, c2, rfl, HE.out.below, HE.out.row 3 rfl⟩
end Go.Proofs.YtpcmbmabmfghkaaDoor

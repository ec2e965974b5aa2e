/- ScX ScK ScL -/
import Derived.Test.YtpcmbmabmfghkaaDoorL04
namespace Go.Proofs.YtpcmbmabmfghkaaDoor
open Go.RowKit
set_option linter.unusedVariables false
set_option maxRecDepth 100000
theorem idx_0 (w : World) :
    Calls Tryd.prog 67 #[.string ⟨#[48, 49, 50, 51, 52, 53, 54, 55, 56, 57, 97, 98, 99, 100, 101, 102]⟩, .int .u8 48] w fun e w' => e = .returned (.int .i64 0) ∧ w' = w := by
  have h := Tryd.strings_IndexByte ⟨#[48, 49, 50, 51, 52, 53, 54, 55, 56, 57, 97, 98, 99, 100, 101, 102]⟩ 48 w
  have hv : Lib.indexByte ((⟨#[48, 49, 50, 51, 52, 53, 54, 55, 56, 57, 97, 98, 99, 100, 101, 102]⟩ : ByteArray)).data.toList (48 : Int).toNat.toUInt8 = 0 := by kernel_rfl
  rw [hv] at h
  exact h
theorem idx_f (w : World) :
    Calls Tryd.prog 67 #[.string ⟨#[48, 49, 50, 51, 52, 53, 54, 55, 56, 57, 97, 98, 99, 100, 101, 102]⟩, .int .u8 102] w fun e w' => e = .returned (.int .i64 15) ∧ w' = w := by
  have h := Tryd.strings_IndexByte ⟨#[48, 49, 50, 51, 52, 53, 54, 55, 56, 57, 97, 98, 99, 100, 101, 102]⟩ 102 w
  have hv : Lib.indexByte ((⟨#[48, 49, 50, 51, 52, 53, 54, 55, 56, 57, 97, 98, 99, 100, 101, 102]⟩ : ByteArray)).data.toList (102 : Int).toNat.toUInt8 = 15 := by kernel_rfl
  rw [hv] at h
  exact h
structure Bx0K (w0 : World) (A : Option Addr) (c : Nat) (Ld : Nat → Bool) (u0 u1 u2 u3 u4 u5 u6 u7 u8 u9 u10 u11 u12 u13 : Value) (W : World) : Prop where
  ow : ∃ l : List Rw, Ow w0 W none [] [] (l) ∧ (Ld 11 = false → l = [(⟨none, 0, 0, 5, []⟩ : Rw)]) ∧ (Ld 11 = true → Ld 12 = false → ∃ lb : Nat, u11 = .slice (some ⟨lb, 0, none⟩) 1 1 ∧ l = [(⟨none, 0, 0, 5, []⟩ : Rw), (⟨some ⟨lb, 0, none⟩, 1, 1, 5, [.int .u8 0]⟩ : Rw)]) ∧ (Ld 12 = true → ∃ (A2 : Option Addr) (c2 : Nat), u12 = .slice A2 1 c2 ∧ l = [(⟨A2, 1, c2, 5, [.int .u8 0]⟩ : Rw)])
  n13 : Ld 13 = false → u13 = .slice none 0 0
  h0 : Ld 0 = true → u0 = .slice none 0 0
  h1 : Ld 1 = true → u1 = .string ⟨#[48, 48, 102, 102]⟩
  h2 : Ld 2 = true → u2 = .int .u8 48
  h3 : Ld 3 = true → u3 = .int .i64 0
  h4 : Ld 4 = true → u4 = .int .i64 0
  h5 : Ld 5 = true → u5 = .string ⟨#[48, 48, 102, 102]⟩
  h6 : Ld 6 = true → u6 = .int .u8 48
  h7 : Ld 7 = true → u7 = .int .i64 0
  h8 : Ld 8 = true → u8 = .int .i64 0
  h9 : Ld 9 = true → u9 = .int .i64 0
  h10 : Ld 10 = true → u10 = .int .u8 0
  h13 : Ld 13 = true → u13 = u12
def Bx0I (w0 : World) (A : Option Addr) (c : Nat) (A0 : Act) (Ld : Nat → Bool) (a : Act) (W : World) : Prop :=
  ∃ (u0 u1 u2 u3 u4 u5 u6 u7 u8 u9 u10 u11 u12 u13 : Value), a = ((((((((((((((A0.put (some 12) u0).put (some 13) u1).put (some 14) u2).put (some 15) u3).put (some 16) u4).put (some 17) u5).put (some 18) u6).put (some 19) u7).put (some 20) u8).put (some 21) u9).put (some 22) u10).put (some 23) u11).put (some 24) u12).put (some 4) u13) ∧ Bx0K w0 A c Ld u0 u1 u2 u3 u4 u5 u6 u7 u8 u9 u10 u11 u12 u13 W
structure Bx1K (w0 : World) (A : Option Addr) (c : Nat) (Ld : Nat → Bool) (u0 u1 u2 u3 u4 u5 u6 u7 u8 u9 u10 u11 u12 u13 : Value) (W : World) : Prop where
  ow : ∃ l : List Rw, Ow w0 W none [] [] (l) ∧ (Ld 11 = false → l = [(⟨A, 1, c, 5, [.int .u8 0]⟩ : Rw)]) ∧ (Ld 11 = true → Ld 12 = false → ∃ lb : Nat, u11 = .slice (some ⟨lb, 0, none⟩) 1 1 ∧ l = [(⟨A, 1, c, 5, [.int .u8 0]⟩ : Rw), (⟨some ⟨lb, 0, none⟩, 1, 1, 5, [.int .u8 255]⟩ : Rw)]) ∧ (Ld 12 = true → ∃ (A2 : Option Addr) (c2 : Nat), u12 = .slice A2 2 c2 ∧ l = [(⟨A2, 2, c2, 5, [.int .u8 0, .int .u8 255]⟩ : Rw)])
  n13 : Ld 13 = false → u13 = .slice A 1 c
  h0 : Ld 0 = true → u0 = .slice A 1 c
  h1 : Ld 1 = true → u1 = .string ⟨#[102, 102]⟩
  h2 : Ld 2 = true → u2 = .int .u8 102
  h3 : Ld 3 = true → u3 = .int .i64 15
  h4 : Ld 4 = true → u4 = .int .i64 240
  h5 : Ld 5 = true → u5 = .string ⟨#[102, 102]⟩
  h6 : Ld 6 = true → u6 = .int .u8 102
  h7 : Ld 7 = true → u7 = .int .i64 15
  h8 : Ld 8 = true → u8 = .int .i64 15
  h9 : Ld 9 = true → u9 = .int .i64 255
  h10 : Ld 10 = true → u10 = .int .u8 255
  h13 : Ld 13 = true → u13 = u12
def Bx1I (w0 : World) (A : Option Addr) (c : Nat) (A0 : Act) (Ld : Nat → Bool) (a : Act) (W : World) : Prop :=
  ∃ (u0 u1 u2 u3 u4 u5 u6 u7 u8 u9 u10 u11 u12 u13 : Value), a = ((((((((((((((A0.put (some 12) u0).put (some 13) u1).put (some 14) u2).put (some 15) u3).put (some 16) u4).put (some 17) u5).put (some 18) u6).put (some 19) u7).put (some 20) u8).put (some 21) u9).put (some 22) u10).put (some 23) u11).put (some 24) u12).put (some 4) u13) ∧ Bx1K w0 A c Ld u0 u1 u2 u3 u4 u5 u6 u7 u8 u9 u10 u11 u12 u13 W
structure Bx2K (w0 : World) (A : Option Addr) (c : Nat) (Ld : Nat → Bool) (u0 u1 u2 u3 u4 u5 u6 u7 u8 u9 u10 u11 u12 u13 : Value) (W : World) : Prop where
  ow : ∃ l : List Rw, Ow w0 W none [] [] (l) ∧ (Ld 11 = false → l = [(⟨none, 0, 0, 5, []⟩ : Rw)]) ∧ (Ld 11 = true → Ld 12 = false → ∃ lb : Nat, u11 = .slice (some ⟨lb, 0, none⟩) 1 1 ∧ l = [(⟨none, 0, 0, 5, []⟩ : Rw), (⟨some ⟨lb, 0, none⟩, 1, 1, 5, [.int .u8 0]⟩ : Rw)]) ∧ (Ld 12 = true → ∃ (A2 : Option Addr) (c2 : Nat), u12 = .slice A2 1 c2 ∧ l = [(⟨A2, 1, c2, 5, [.int .u8 0]⟩ : Rw)])
  n13 : Ld 13 = false → u13 = .slice none 0 0
  h0 : Ld 0 = true → u0 = .slice none 0 0
  h1 : Ld 1 = true → u1 = .string ⟨#[48, 48, 102]⟩
  h2 : Ld 2 = true → u2 = .int .u8 48
  h3 : Ld 3 = true → u3 = .int .i64 0
  h4 : Ld 4 = true → u4 = .int .i64 0
  h5 : Ld 5 = true → u5 = .string ⟨#[48, 48, 102]⟩
  h6 : Ld 6 = true → u6 = .int .u8 48
  h7 : Ld 7 = true → u7 = .int .i64 0
  h8 : Ld 8 = true → u8 = .int .i64 0
  h9 : Ld 9 = true → u9 = .int .i64 0
  h10 : Ld 10 = true → u10 = .int .u8 0
  h13 : Ld 13 = true → u13 = u12
def Bx2I (w0 : World) (A : Option Addr) (c : Nat) (A0 : Act) (Ld : Nat → Bool) (a : Act) (W : World) : Prop :=
  ∃ (u0 u1 u2 u3 u4 u5 u6 u7 u8 u9 u10 u11 u12 u13 : Value), a = ((((((((((((((A0.put (some 12) u0).put (some 13) u1).put (some 14) u2).put (some 15) u3).put (some 16) u4).put (some 17) u5).put (some 18) u6).put (some 19) u7).put (some 20) u8).put (some 21) u9).put (some 22) u10).put (some 23) u11).put (some 24) u12).put (some 4) u13) ∧ Bx2K w0 A c Ld u0 u1 u2 u3 u4 u5 u6 u7 u8 u9 u10 u11 u12 u13 W
set_option maxHeartbeats 2000000 in
theorem bytes_two {w0 w : World} {g : Option Nat} {M : List (Nat × Value)} {L : List Ob} {O' : List Rw} (rb : Nat)
    (HN : Calls Tryd.prog 28 #[.pointer (some ⟨rb, 0, none⟩)] w fun e w' => e = .returned (.string ⟨#[48, 48, 102, 102]⟩) ∧ Ow w0 w' g M L O') :
    Calls Tryd.prog 50 #[.pointer (some ⟨rb, 0, none⟩)] w fun e w' => ∃ (A : Option Addr) (c : Nat), e = .returned (.slice A 2 c) ∧ Ow w0 w' g M L (O' ++ [⟨A, 2, c, 5, [.int .u8 0, .int .u8 255]⟩]) := by
  have HNx := Lib.hid HN
  clear HN
  go_enter Tryd.func50, Tryd.ntmps50
  go_wp2_with fail
  refine HNx.out.mono ?_
  rintro e w1 ⟨rfl, ho1⟩
  have HP := Lib.hid ho1
  have HO0 := Lib.hid ((Ow.of (St.refl w1)).nil 5)
  clear ho1 HNx
  go_wp2_with fail
  refine wp_loop_rounds 3 ?_
  rw [rounds_succ]
  go_upto_region 5 with (with_reducible refine upon_id ?_; go_simp)
  refine reg_inv34 (Bx0I w1 none 0) (by kernel_rfl) (by kernel_rfl) ?_ ?_ ?_
  · refine ⟨undef, undef, undef, undef, undef, undef, undef, undef, undef, undef, undef, undef, undef, .slice none 0 0, ?_, ⟨⟨_, HO0.out.drew, (fun _ => rfl), (fun h => by cases h), (fun h => by cases h)⟩, (fun _ => rfl), ?_, ?_, ?_, ?_, ?_, ?_, ?_, ?_, ?_, ?_, ?_, ?_⟩⟩
    · simp only [Act.put, List.setIfInBounds_toArray, List.set_cons_zero, List.set_cons_succ]
    all_goals (intro h; cases h)
  · rintro jj Ld b W hj hf hcl hd ⟨u0, u1, u2, u3, u4, u5, u6, u7, u8, u9, u10, u11, u12, u13, rfl, hC⟩
    have hj' : jj < 14 := hj
    have hcase : jj = 0 ∨ jj = 1 ∨ jj = 2 ∨ jj = 3 ∨ jj = 4 ∨ jj = 5 ∨ jj = 6 ∨ jj = 7 ∨ jj = 8 ∨ jj = 9 ∨ jj = 10 ∨ jj = 11 ∨ jj = 12 ∨ jj = 13 := by omega
    clear hj hj'
    simp only [Act.put, List.setIfInBounds_toArray, List.set_cons_zero, List.set_cons_succ]
    rcases hcase with rfl | rfl | rfl | rfl | rfl | rfl | rfl | rfl | rfl | rfl | rfl | rfl | rfl | rfl
    · obtain rfl := hC.n13 (cl_no hcl hf (by kernel_rfl))
      clear hd hcl
      refine wpOp_step rfl (fun K hK => ?_)
      go_simp
      refine hK _ _ ⟨_, u1, u2, u3, u4, u5, u6, u7, u8, u9, u10, u11, u12, _, ?_, ⟨hC.ow, hC.n13, fun _ => rfl, hC.h1, hC.h2, hC.h3, hC.h4, hC.h5, hC.h6, hC.h7, hC.h8, hC.h9, hC.h10, hC.h13⟩⟩
      (simp only [Act.put, List.setIfInBounds_toArray, List.set_cons_zero, List.set_cons_succ]) <;> rfl
    · clear hd hcl
      refine wpOp_step rfl (fun K hK => ?_)
      go_simp
      refine hK _ _ ⟨u0, _, u2, u3, u4, u5, u6, u7, u8, u9, u10, u11, u12, u13, ?_, ⟨hC.ow, hC.n13, hC.h0, fun _ => rfl, hC.h2, hC.h3, hC.h4, hC.h5, hC.h6, hC.h7, hC.h8, hC.h9, hC.h10, hC.h13⟩⟩
      (simp only [Act.put, List.setIfInBounds_toArray, List.set_cons_zero, List.set_cons_succ]) <;> rfl
    · obtain rfl := hC.h1 (hd 1 (by kernel_rfl))
      clear hd hcl
      refine wpOp_step rfl (fun K hK => ?_)
      go_simp
      refine hK _ _ ⟨u0, _, _, u3, u4, u5, u6, u7, u8, u9, u10, u11, u12, u13, ?_, ⟨hC.ow, hC.n13, hC.h0, hC.h1, fun _ => rfl, hC.h3, hC.h4, hC.h5, hC.h6, hC.h7, hC.h8, hC.h9, hC.h10, hC.h13⟩⟩
      (simp only [Act.put, List.setIfInBounds_toArray, List.set_cons_zero, List.set_cons_succ]) <;> rfl
    · obtain rfl := hC.h2 (hd 2 (by kernel_rfl))
      clear hd hcl
      refine wpOp_step rfl (fun K hK => ?_)
      go_simp
      refine (idx_0 W).mono ?_
      rintro e W' ⟨rfl, rfl⟩
      refine hK _ _ ⟨u0, u1, _, _, u4, u5, u6, u7, u8, u9, u10, u11, u12, u13, ?_, ⟨hC.ow, hC.n13, hC.h0, hC.h1, hC.h2, fun _ => rfl, hC.h4, hC.h5, hC.h6, hC.h7, hC.h8, hC.h9, hC.h10, hC.h13⟩⟩
      (simp only [Act.put, List.setIfInBounds_toArray, List.set_cons_zero, List.set_cons_succ]) <;> rfl
    · obtain rfl := hC.h3 (hd 3 (by kernel_rfl))
      clear hd hcl
      refine wpOp_step rfl (fun K hK => ?_)
      go_simp
      refine hK _ _ ⟨u0, u1, u2, _, _, u5, u6, u7, u8, u9, u10, u11, u12, u13, ?_, ⟨hC.ow, hC.n13, hC.h0, hC.h1, hC.h2, hC.h3, fun _ => rfl, hC.h5, hC.h6, hC.h7, hC.h8, hC.h9, hC.h10, hC.h13⟩⟩
      (simp only [Act.put, List.setIfInBounds_toArray, List.set_cons_zero, List.set_cons_succ]) <;> rfl
    · clear hd hcl
      refine wpOp_step rfl (fun K hK => ?_)
      go_simp
      refine hK _ _ ⟨u0, u1, u2, u3, u4, _, u6, u7, u8, u9, u10, u11, u12, u13, ?_, ⟨hC.ow, hC.n13, hC.h0, hC.h1, hC.h2, hC.h3, hC.h4, fun _ => rfl, hC.h6, hC.h7, hC.h8, hC.h9, hC.h10, hC.h13⟩⟩
      (simp only [Act.put, List.setIfInBounds_toArray, List.set_cons_zero, List.set_cons_succ]) <;> rfl
    · obtain rfl := hC.h5 (hd 5 (by kernel_rfl))
      clear hd hcl
      refine wpOp_step rfl (fun K hK => ?_)
      go_simp
      refine hK _ _ ⟨u0, u1, u2, u3, u4, _, _, u7, u8, u9, u10, u11, u12, u13, ?_, ⟨hC.ow, hC.n13, hC.h0, hC.h1, hC.h2, hC.h3, hC.h4, hC.h5, fun _ => rfl, hC.h7, hC.h8, hC.h9, hC.h10, hC.h13⟩⟩
      (simp only [Act.put, List.setIfInBounds_toArray, List.set_cons_zero, List.set_cons_succ]) <;> rfl
    · obtain rfl := hC.h6 (hd 6 (by kernel_rfl))
      clear hd hcl
      refine wpOp_step rfl (fun K hK => ?_)
      go_simp
      refine (idx_0 W).mono ?_
      rintro e W' ⟨rfl, rfl⟩
      refine hK _ _ ⟨u0, u1, u2, u3, u4, u5, _, _, u8, u9, u10, u11, u12, u13, ?_, ⟨hC.ow, hC.n13, hC.h0, hC.h1, hC.h2, hC.h3, hC.h4, hC.h5, hC.h6, fun _ => rfl, hC.h8, hC.h9, hC.h10, hC.h13⟩⟩
      (simp only [Act.put, List.setIfInBounds_toArray, List.set_cons_zero, List.set_cons_succ]) <;> rfl
    · obtain rfl := hC.h7 (hd 7 (by kernel_rfl))
      clear hd hcl
      refine wpOp_step rfl (fun K hK => ?_)
      go_simp
      refine hK _ _ ⟨u0, u1, u2, u3, u4, u5, u6, _, _, u9, u10, u11, u12, u13, ?_, ⟨hC.ow, hC.n13, hC.h0, hC.h1, hC.h2, hC.h3, hC.h4, hC.h5, hC.h6, hC.h7, fun _ => rfl, hC.h9, hC.h10, hC.h13⟩⟩
      (simp only [Act.put, List.setIfInBounds_toArray, List.set_cons_zero, List.set_cons_succ]) <;> rfl
    · obtain rfl := hC.h4 (hd 4 (by kernel_rfl))
      obtain rfl := hC.h8 (hd 8 (by kernel_rfl))
      clear hd hcl
      refine wpOp_step rfl (fun K hK => ?_)
      go_simp
      refine hK _ _ ⟨u0, u1, u2, u3, _, u5, u6, u7, _, _, u10, u11, u12, u13, ?_, ⟨hC.ow, hC.n13, hC.h0, hC.h1, hC.h2, hC.h3, hC.h4, hC.h5, hC.h6, hC.h7, hC.h8, fun _ => rfl, hC.h10, hC.h13⟩⟩
      (simp only [Act.put, List.setIfInBounds_toArray, List.set_cons_zero, List.set_cons_succ]) <;> rfl
    · obtain rfl := hC.h9 (hd 9 (by kernel_rfl))
      clear hd hcl
      refine wpOp_step rfl (fun K hK => ?_)
      go_simp
      refine hK _ _ ⟨u0, u1, u2, u3, u4, u5, u6, u7, u8, _, _, u11, u12, u13, ?_, ⟨hC.ow, hC.n13, hC.h0, hC.h1, hC.h2, hC.h3, hC.h4, hC.h5, hC.h6, hC.h7, hC.h8, hC.h9, fun _ => rfl, hC.h13⟩⟩
      (simp only [Act.put, List.setIfInBounds_toArray, List.set_cons_zero, List.set_cons_succ]) <;> rfl
    · obtain rfl := hC.h10 (hd 10 (by kernel_rfl))
      obtain ⟨l, how, h0, h1, h2⟩ := hC.ow
      obtain rfl := h0 hf
      have h8 : Ld 12 = false := cl_no hcl hf (by kernel_rfl)
      have ho := how.arr #[.int .u8 0] 1 rfl (by omega) 5
      simp only [List.cons_append, List.nil_append] at ho
      clear hd hcl
      refine wpOp_step rfl (fun K hK => ?_)
      go_simp
      refine hK _ _ ⟨u0, u1, u2, u3, u4, u5, u6, u7, u8, u9, _, _, u12, u13, ?_, ⟨⟨_, ho, (fun h => by cases h), (fun _ _ => ⟨_, rfl, rfl⟩), (fun h => absurd (h8.symm.trans h) (by decide))⟩, hC.n13, hC.h0, hC.h1, hC.h2, hC.h3, hC.h4, hC.h5, hC.h6, hC.h7, hC.h8, hC.h9, hC.h10, hC.h13⟩⟩
      (simp only [Act.put, List.setIfInBounds_toArray, List.set_cons_zero, List.set_cons_succ]) <;> rfl
    · obtain rfl := hC.h0 (hd 0 (by kernel_rfl))
      obtain ⟨l, how, h0, h1, h2⟩ := hC.ow
      have hl7 := hd 11 (by kernel_rfl)
      obtain ⟨lb, rfl, rfl⟩ := h1 hl7 hf
      have hsl := Sl.of_own (how.row 1 rfl)
      have hz13 : Ld 13 = false := cl_no hcl hf (by kernel_rfl)
      clear hd hcl
      refine wpOp_step rfl (fun K hK => ?_)
      rw [if_pos (by rfl)]
      refine owp_append elemU8 how 0 (.tmp 12) (.tmp 23) (m := 1) rfl rfl hsl (by intro u hu; simp at hu; subst hu; rfl) (by unfold maxLen; omega) (by omega) rfl rfl rfl ?_
      intro A2 c2 W2 hv
      have hv2 := hv.few 1
      refine hK _ _ ⟨(.slice none 0 0), u1, u2, u3, u4, u5, u6, u7, u8, u9, u10, (.slice (some ⟨lb, 0, none⟩) 1 1), (.slice A2 1 c2), u13, ?_, ⟨⟨_, hv2, (fun h => absurd (hl7.symm.trans h) (by decide)), (fun _ h => by cases h), (fun _ => ⟨A2, c2, rfl, rfl⟩)⟩, hC.n13, hC.h0, hC.h1, hC.h2, hC.h3, hC.h4, hC.h5, hC.h6, hC.h7, hC.h8, hC.h9, hC.h10, (fun h => absurd (hz13.symm.trans h) (by decide))⟩⟩
      (simp only [Act.put, List.setIfInBounds_toArray, List.set_cons_zero, List.set_cons_succ]) <;> rfl
    · obtain ⟨l, how, h0, h1, h2⟩ := hC.ow
      have ha := hd 12 (by kernel_rfl)
      obtain ⟨A2, c2, rfl, rfl⟩ := h2 ha
      have hl7 := hcl 12 11 ha (by kernel_rfl)
      clear hd hcl
      refine wpOp_step rfl (fun K hK => ?_)
      go_simp
      refine hK _ _ ⟨u0, u1, u2, u3, u4, u5, u6, u7, u8, u9, u10, u11, _, _, ?_, ⟨⟨_, how, (fun h => absurd (hl7.symm.trans h) (by decide)), (fun _ h => absurd (ha.symm.trans h) (by decide)), (fun _ => ⟨A2, c2, rfl, rfl⟩)⟩, (fun h => by cases h), hC.h0, hC.h1, hC.h2, hC.h3, hC.h4, hC.h5, hC.h6, hC.h7, hC.h8, hC.h9, hC.h10, fun _ => rfl⟩⟩
      (simp only [Act.put, List.setIfInBounds_toArray, List.set_cons_zero, List.set_cons_succ]) <;> rfl
  · rintro Ld b W hL ⟨u0, u1, u2, u3, u4, u5, u6, u7, u8, u9, u10, u11, u12, u13, rfl, hC⟩
    obtain ⟨l, how, -, -, h2⟩ := hC.ow
    obtain ⟨A1, q1, rfl, rfl⟩ := h2 (hL 12 (by show 12 < 14; decide))
    obtain rfl := hC.h13 (hL 13 (by show 13 < 14; decide))
    have HO1 := Lib.hid how
    clear hC hL how h2
    simp only [Act.put, List.setIfInBounds_toArray, List.set_cons_zero, List.set_cons_succ]
    go_wp2_with (with_reducible refine upon_id ?_; go_simp)
    rw [rounds_succ]
    go_upto_region 5 with (with_reducible refine upon_id ?_; go_simp)
    refine reg_inv34 (Bx1I w1 A1 q1) (by kernel_rfl) (by kernel_rfl) ?_ ?_ ?_
    · refine ⟨u0, u1, u2, u3, u4, u5, u6, u7, u8, u9, u10, u11, .slice A1 1 q1, .slice A1 1 q1, ?_, ⟨⟨_, HO1.out.drew, (fun _ => rfl), (fun h => by cases h), (fun h => by cases h)⟩, (fun _ => rfl), ?_, ?_, ?_, ?_, ?_, ?_, ?_, ?_, ?_, ?_, ?_, ?_⟩⟩
      · simp only [Act.put, List.setIfInBounds_toArray, List.set_cons_zero, List.set_cons_succ]
      all_goals (intro h; cases h)
    · rintro jj Ld b W hj hf hcl hd ⟨u0, u1, u2, u3, u4, u5, u6, u7, u8, u9, u10, u11, u12, u13, rfl, hC⟩
      have hj' : jj < 14 := hj
      have hcase : jj = 0 ∨ jj = 1 ∨ jj = 2 ∨ jj = 3 ∨ jj = 4 ∨ jj = 5 ∨ jj = 6 ∨ jj = 7 ∨ jj = 8 ∨ jj = 9 ∨ jj = 10 ∨ jj = 11 ∨ jj = 12 ∨ jj = 13 := by omega
      clear hj hj'
      simp only [Act.put, List.setIfInBounds_toArray, List.set_cons_zero, List.set_cons_succ]
      rcases hcase with rfl | rfl | rfl | rfl | rfl | rfl | rfl | rfl | rfl | rfl | rfl | rfl | rfl | rfl
      · obtain rfl := hC.n13 (cl_no hcl hf (by kernel_rfl))
        clear hd hcl
        refine wpOp_step rfl (fun K hK => ?_)
        go_simp
        refine hK _ _ ⟨_, u1, u2, u3, u4, u5, u6, u7, u8, u9, u10, u11, u12, _, ?_, ⟨hC.ow, hC.n13, fun _ => rfl, hC.h1, hC.h2, hC.h3, hC.h4, hC.h5, hC.h6, hC.h7, hC.h8, hC.h9, hC.h10, hC.h13⟩⟩
        (simp only [Act.put, List.setIfInBounds_toArray, List.set_cons_zero, List.set_cons_succ]) <;> rfl
      · clear hd hcl
        refine wpOp_step rfl (fun K hK => ?_)
        go_simp
        refine hK _ _ ⟨u0, _, u2, u3, u4, u5, u6, u7, u8, u9, u10, u11, u12, u13, ?_, ⟨hC.ow, hC.n13, hC.h0, fun _ => rfl, hC.h2, hC.h3, hC.h4, hC.h5, hC.h6, hC.h7, hC.h8, hC.h9, hC.h10, hC.h13⟩⟩
        (simp only [Act.put, List.setIfInBounds_toArray, List.set_cons_zero, List.set_cons_succ]) <;> rfl
      · obtain rfl := hC.h1 (hd 1 (by kernel_rfl))
        clear hd hcl
        refine wpOp_step rfl (fun K hK => ?_)
        go_simp
        refine hK _ _ ⟨u0, _, _, u3, u4, u5, u6, u7, u8, u9, u10, u11, u12, u13, ?_, ⟨hC.ow, hC.n13, hC.h0, hC.h1, fun _ => rfl, hC.h3, hC.h4, hC.h5, hC.h6, hC.h7, hC.h8, hC.h9, hC.h10, hC.h13⟩⟩
        (simp only [Act.put, List.setIfInBounds_toArray, List.set_cons_zero, List.set_cons_succ]) <;> rfl
      · obtain rfl := hC.h2 (hd 2 (by kernel_rfl))
        clear hd hcl
        refine wpOp_step rfl (fun K hK => ?_)
        go_simp
        refine (idx_f W).mono ?_
        rintro e W' ⟨rfl, rfl⟩
        refine hK _ _ ⟨u0, u1, _, _, u4, u5, u6, u7, u8, u9, u10, u11, u12, u13, ?_, ⟨hC.ow, hC.n13, hC.h0, hC.h1, hC.h2, fun _ => rfl, hC.h4, hC.h5, hC.h6, hC.h7, hC.h8, hC.h9, hC.h10, hC.h13⟩⟩
        (simp only [Act.put, List.setIfInBounds_toArray, List.set_cons_zero, List.set_cons_succ]) <;> rfl
      · obtain rfl := hC.h3 (hd 3 (by kernel_rfl))
        clear hd hcl
        refine wpOp_step rfl (fun K hK => ?_)
        go_simp
        refine hK _ _ ⟨u0, u1, u2, _, _, u5, u6, u7, u8, u9, u10, u11, u12, u13, ?_, ⟨hC.ow, hC.n13, hC.h0, hC.h1, hC.h2, hC.h3, fun _ => rfl, hC.h5, hC.h6, hC.h7, hC.h8, hC.h9, hC.h10, hC.h13⟩⟩
        (simp only [Act.put, List.setIfInBounds_toArray, List.set_cons_zero, List.set_cons_succ]) <;> rfl
      · clear hd hcl
        refine wpOp_step rfl (fun K hK => ?_)
        go_simp
        refine hK _ _ ⟨u0, u1, u2, u3, u4, _, u6, u7, u8, u9, u10, u11, u12, u13, ?_, ⟨hC.ow, hC.n13, hC.h0, hC.h1, hC.h2, hC.h3, hC.h4, fun _ => rfl, hC.h6, hC.h7, hC.h8, hC.h9, hC.h10, hC.h13⟩⟩
        (simp only [Act.put, List.setIfInBounds_toArray, List.set_cons_zero, List.set_cons_succ]) <;> rfl
      · obtain rfl := hC.h5 (hd 5 (by kernel_rfl))
        clear hd hcl
        refine wpOp_step rfl (fun K hK => ?_)
        go_simp
        refine hK _ _ ⟨u0, u1, u2, u3, u4, _, _, u7, u8, u9, u10, u11, u12, u13, ?_, ⟨hC.ow, hC.n13, hC.h0, hC.h1, hC.h2, hC.h3, hC.h4, hC.h5, fun _ => rfl, hC.h7, hC.h8, hC.h9, hC.h10, hC.h13⟩⟩
        (simp only [Act.put, List.setIfInBounds_toArray, List.set_cons_zero, List.set_cons_succ]) <;> rfl
      · obtain rfl := hC.h6 (hd 6 (by kernel_rfl))
        clear hd hcl
        refine wpOp_step rfl (fun K hK => ?_)
        go_simp
        refine (idx_f W).mono ?_
        rintro e W' ⟨rfl, rfl⟩
        refine hK _ _ ⟨u0, u1, u2, u3, u4, u5, _, _, u8, u9, u10, u11, u12, u13, ?_, ⟨hC.ow, hC.n13, hC.h0, hC.h1, hC.h2, hC.h3, hC.h4, hC.h5, hC.h6, fun _ => rfl, hC.h8, hC.h9, hC.h10, hC.h13⟩⟩
        (simp only [Act.put, List.setIfInBounds_toArray, List.set_cons_zero, List.set_cons_succ]) <;> rfl
      · obtain rfl := hC.h7 (hd 7 (by kernel_rfl))
        clear hd hcl
        refine wpOp_step rfl (fun K hK => ?_)
        go_simp
        refine hK _ _ ⟨u0, u1, u2, u3, u4, u5, u6, _, _, u9, u10, u11, u12, u13, ?_, ⟨hC.ow, hC.n13, hC.h0, hC.h1, hC.h2, hC.h3, hC.h4, hC.h5, hC.h6, hC.h7, fun _ => rfl, hC.h9, hC.h10, hC.h13⟩⟩
        (simp only [Act.put, List.setIfInBounds_toArray, List.set_cons_zero, List.set_cons_succ]) <;> rfl
      · obtain rfl := hC.h4 (hd 4 (by kernel_rfl))
        obtain rfl := hC.h8 (hd 8 (by kernel_rfl))
        clear hd hcl
        refine wpOp_step rfl (fun K hK => ?_)
        go_simp
        refine hK _ _ ⟨u0, u1, u2, u3, _, u5, u6, u7, _, _, u10, u11, u12, u13, ?_, ⟨hC.ow, hC.n13, hC.h0, hC.h1, hC.h2, hC.h3, hC.h4, hC.h5, hC.h6, hC.h7, hC.h8, fun _ => rfl, hC.h10, hC.h13⟩⟩
        (simp only [Act.put, List.setIfInBounds_toArray, List.set_cons_zero, List.set_cons_succ]) <;> rfl
      · obtain rfl := hC.h9 (hd 9 (by kernel_rfl))
        clear hd hcl
        refine wpOp_step rfl (fun K hK => ?_)
        go_simp
        refine hK _ _ ⟨u0, u1, u2, u3, u4, u5, u6, u7, u8, _, _, u11, u12, u13, ?_, ⟨hC.ow, hC.n13, hC.h0, hC.h1, hC.h2, hC.h3, hC.h4, hC.h5, hC.h6, hC.h7, hC.h8, hC.h9, fun _ => rfl, hC.h13⟩⟩
        (simp only [Act.put, List.setIfInBounds_toArray, List.set_cons_zero, List.set_cons_succ]) <;> rfl
      · obtain rfl := hC.h10 (hd 10 (by kernel_rfl))
        obtain ⟨l, how, h0, h1, h2⟩ := hC.ow
        obtain rfl := h0 hf
        have h8 : Ld 12 = false := cl_no hcl hf (by kernel_rfl)
        have ho := how.arr #[.int .u8 255] 1 rfl (by omega) 5
        simp only [List.cons_append, List.nil_append] at ho
        clear hd hcl
        refine wpOp_step rfl (fun K hK => ?_)
        go_simp
        refine hK _ _ ⟨u0, u1, u2, u3, u4, u5, u6, u7, u8, u9, _, _, u12, u13, ?_, ⟨⟨_, ho, (fun h => by cases h), (fun _ _ => ⟨_, rfl, rfl⟩), (fun h => absurd (h8.symm.trans h) (by decide))⟩, hC.n13, hC.h0, hC.h1, hC.h2, hC.h3, hC.h4, hC.h5, hC.h6, hC.h7, hC.h8, hC.h9, hC.h10, hC.h13⟩⟩
        (simp only [Act.put, List.setIfInBounds_toArray, List.set_cons_zero, List.set_cons_succ]) <;> rfl
      · obtain rfl := hC.h0 (hd 0 (by kernel_rfl))
        obtain ⟨l, how, h0, h1, h2⟩ := hC.ow
        have hl7 := hd 11 (by kernel_rfl)
        obtain ⟨lb, rfl, rfl⟩ := h1 hl7 hf
        have hsl := Sl.of_own (how.row 1 rfl)
        have hz13 : Ld 13 = false := cl_no hcl hf (by kernel_rfl)
        clear hd hcl
        refine wpOp_step rfl (fun K hK => ?_)
        rw [if_pos (by rfl)]
        refine owp_append elemU8 how 0 (.tmp 12) (.tmp 23) (m := 1) rfl rfl hsl (by intro u hu; simp at hu; subst hu; rfl) (by unfold maxLen; omega) (by omega) rfl rfl rfl ?_
        intro A2 c2 W2 hv
        have hv2 := hv.few 1
        refine hK _ _ ⟨(.slice A1 1 q1), u1, u2, u3, u4, u5, u6, u7, u8, u9, u10, (.slice (some ⟨lb, 0, none⟩) 1 1), (.slice A2 2 c2), u13, ?_, ⟨⟨_, hv2, (fun h => absurd (hl7.symm.trans h) (by decide)), (fun _ h => by cases h), (fun _ => ⟨A2, c2, rfl, rfl⟩)⟩, hC.n13, hC.h0, hC.h1, hC.h2, hC.h3, hC.h4, hC.h5, hC.h6, hC.h7, hC.h8, hC.h9, hC.h10, (fun h => absurd (hz13.symm.trans h) (by decide))⟩⟩
        (simp only [Act.put, List.setIfInBounds_toArray, List.set_cons_zero, List.set_cons_succ]) <;> rfl
      · obtain ⟨l, how, h0, h1, h2⟩ := hC.ow
        have ha := hd 12 (by kernel_rfl)
        obtain ⟨A2, c2, rfl, rfl⟩ := h2 ha
        have hl7 := hcl 12 11 ha (by kernel_rfl)
        clear hd hcl
        refine wpOp_step rfl (fun K hK => ?_)
        go_simp
        refine hK _ _ ⟨u0, u1, u2, u3, u4, u5, u6, u7, u8, u9, u10, u11, _, _, ?_, ⟨⟨_, how, (fun h => absurd (hl7.symm.trans h) (by decide)), (fun _ h => absurd (ha.symm.trans h) (by decide)), (fun _ => ⟨A2, c2, rfl, rfl⟩)⟩, (fun h => by cases h), hC.h0, hC.h1, hC.h2, hC.h3, hC.h4, hC.h5, hC.h6, hC.h7, hC.h8, hC.h9, hC.h10, fun _ => rfl⟩⟩
        (simp only [Act.put, List.setIfInBounds_toArray, List.set_cons_zero, List.set_cons_succ]) <;> rfl
    · rintro Ld b W hL ⟨u0, u1, u2, u3, u4, u5, u6, u7, u8, u9, u10, u11, u12, u13, rfl, hC⟩
      obtain ⟨l, how, -, -, h2⟩ := hC.ow
      obtain ⟨A2, q2, rfl, rfl⟩ := h2 (hL 12 (by show 12 < 14; decide))
      obtain rfl := hC.h13 (hL 13 (by show 13 < 14; decide))
      have HO2 := Lib.hid how
      clear hC hL how h2
      simp only [Act.put, List.setIfInBounds_toArray, List.set_cons_zero, List.set_cons_succ]
      go_wp2_with (with_reducible refine upon_id ?_; go_simp)
      rw [rounds_succ]
      go_wp2_with (with_reducible refine upon_id ?_; go_simp)
      go_ret
      exact ⟨_, _, rfl, HP.out.add (HO2.out.row 0 rfl) HO2.out.below⟩
set_option maxHeartbeats 2000000 in
theorem bytes_one {w0 w : World} {g : Option Nat} {M : List (Nat × Value)} {L : List Ob} {O' : List Rw} (rb : Nat)
    (HN : Calls Tryd.prog 28 #[.pointer (some ⟨rb, 0, none⟩)] w fun e w' => e = .returned (.string ⟨#[48, 48, 102]⟩) ∧ Ow w0 w' g M L O') :
    Calls Tryd.prog 50 #[.pointer (some ⟨rb, 0, none⟩)] w fun e w' => ∃ (A : Option Addr) (c : Nat), e = .returned (.slice A 1 c) ∧ Ow w0 w' g M L (O' ++ [⟨A, 1, c, 5, [.int .u8 0]⟩]) := by
  have HNx := Lib.hid HN
  clear HN
  go_enter Tryd.func50, Tryd.ntmps50
  go_wp2_with fail
  refine HNx.out.mono ?_
  rintro e w1 ⟨rfl, ho1⟩
  have HP := Lib.hid ho1
  have HO0 := Lib.hid ((Ow.of (St.refl w1)).nil 5)
  clear ho1 HNx
  go_wp2_with fail
  refine wp_loop_rounds 2 ?_
  rw [rounds_succ]
  go_upto_region 5 with (with_reducible refine upon_id ?_; go_simp)
  refine reg_inv34 (Bx2I w1 none 0) (by kernel_rfl) (by kernel_rfl) ?_ ?_ ?_
  · refine ⟨undef, undef, undef, undef, undef, undef, undef, undef, undef, undef, undef, undef, undef, .slice none 0 0, ?_, ⟨⟨_, HO0.out.drew, (fun _ => rfl), (fun h => by cases h), (fun h => by cases h)⟩, (fun _ => rfl), ?_, ?_, ?_, ?_, ?_, ?_, ?_, ?_, ?_, ?_, ?_, ?_⟩⟩
    · simp only [Act.put, List.setIfInBounds_toArray, List.set_cons_zero, List.set_cons_succ]
    all_goals (intro h; cases h)
  · rintro jj Ld b W hj hf hcl hd ⟨u0, u1, u2, u3, u4, u5, u6, u7, u8, u9, u10, u11, u12, u13, rfl, hC⟩
    have hj' : jj < 14 := hj
    have hcase : jj = 0 ∨ jj = 1 ∨ jj = 2 ∨ jj = 3 ∨ jj = 4 ∨ jj = 5 ∨ jj = 6 ∨ jj = 7 ∨ jj = 8 ∨ jj = 9 ∨ jj = 10 ∨ jj = 11 ∨ jj = 12 ∨ jj = 13 := by omega
    clear hj hj'
    simp only [Act.put, List.setIfInBounds_toArray, List.set_cons_zero, List.set_cons_succ]
    rcases hcase with rfl | rfl | rfl | rfl | rfl | rfl | rfl | rfl | rfl | rfl | rfl | rfl | rfl | rfl
    · obtain rfl := hC.n13 (cl_no hcl hf (by kernel_rfl))
      clear hd hcl
      refine wpOp_step rfl (fun K hK => ?_)
      go_simp
      refine hK _ _ ⟨_, u1, u2, u3, u4, u5, u6, u7, u8, u9, u10, u11, u12, _, ?_, ⟨hC.ow, hC.n13, fun _ => rfl, hC.h1, hC.h2, hC.h3, hC.h4, hC.h5, hC.h6, hC.h7, hC.h8, hC.h9, hC.h10, hC.h13⟩⟩
      (simp only [Act.put, List.setIfInBounds_toArray, List.set_cons_zero, List.set_cons_succ]) <;> rfl
    · clear hd hcl
      refine wpOp_step rfl (fun K hK => ?_)
      go_simp
      refine hK _ _ ⟨u0, _, u2, u3, u4, u5, u6, u7, u8, u9, u10, u11, u12, u13, ?_, ⟨hC.ow, hC.n13, hC.h0, fun _ => rfl, hC.h2, hC.h3, hC.h4, hC.h5, hC.h6, hC.h7, hC.h8, hC.h9, hC.h10, hC.h13⟩⟩
      (simp only [Act.put, List.setIfInBounds_toArray, List.set_cons_zero, List.set_cons_succ]) <;> rfl
    · obtain rfl := hC.h1 (hd 1 (by kernel_rfl))
      clear hd hcl
      refine wpOp_step rfl (fun K hK => ?_)
      go_simp
      refine hK _ _ ⟨u0, _, _, u3, u4, u5, u6, u7, u8, u9, u10, u11, u12, u13, ?_, ⟨hC.ow, hC.n13, hC.h0, hC.h1, fun _ => rfl, hC.h3, hC.h4, hC.h5, hC.h6, hC.h7, hC.h8, hC.h9, hC.h10, hC.h13⟩⟩
      (simp only [Act.put, List.setIfInBounds_toArray, List.set_cons_zero, List.set_cons_succ]) <;> rfl
    · obtain rfl := hC.h2 (hd 2 (by kernel_rfl))
      clear hd hcl
      refine wpOp_step rfl (fun K hK => ?_)
      go_simp
      refine (idx_0 W).mono ?_
      rintro e W' ⟨rfl, rfl⟩
      refine hK _ _ ⟨u0, u1, _, _, u4, u5, u6, u7, u8, u9, u10, u11, u12, u13, ?_, ⟨hC.ow, hC.n13, hC.h0, hC.h1, hC.h2, fun _ => rfl, hC.h4, hC.h5, hC.h6, hC.h7, hC.h8, hC.h9, hC.h10, hC.h13⟩⟩
      (simp only [Act.put, List.setIfInBounds_toArray, List.set_cons_zero, List.set_cons_succ]) <;> rfl
    · obtain rfl := hC.h3 (hd 3 (by kernel_rfl))
      clear hd hcl
      refine wpOp_step rfl (fun K hK => ?_)
      go_simp
      refine hK _ _ ⟨u0, u1, u2, _, _, u5, u6, u7, u8, u9, u10, u11, u12, u13, ?_, ⟨hC.ow, hC.n13, hC.h0, hC.h1, hC.h2, hC.h3, fun _ => rfl, hC.h5, hC.h6, hC.h7, hC.h8, hC.h9, hC.h10, hC.h13⟩⟩
      (simp only [Act.put, List.setIfInBounds_toArray, List.set_cons_zero, List.set_cons_succ]) <;> rfl
    · clear hd hcl
      refine wpOp_step rfl (fun K hK => ?_)
      go_simp
      refine hK _ _ ⟨u0, u1, u2, u3, u4, _, u6, u7, u8, u9, u10, u11, u12, u13, ?_, ⟨hC.ow, hC.n13, hC.h0, hC.h1, hC.h2, hC.h3, hC.h4, fun _ => rfl, hC.h6, hC.h7, hC.h8, hC.h9, hC.h10, hC.h13⟩⟩
      (simp only [Act.put, List.setIfInBounds_toArray, List.set_cons_zero, List.set_cons_succ]) <;> rfl
    · obtain rfl := hC.h5 (hd 5 (by kernel_rfl))
      clear hd hcl
      refine wpOp_step rfl (fun K hK => ?_)
      go_simp
      refine hK _ _ ⟨u0, u1, u2, u3, u4, _, _, u7, u8, u9, u10, u11, u12, u13, ?_, ⟨hC.ow, hC.n13, hC.h0, hC.h1, hC.h2, hC.h3, hC.h4, hC.h5, fun _ => rfl, hC.h7, hC.h8, hC.h9, hC.h10, hC.h13⟩⟩
      (simp only [Act.put, List.setIfInBounds_toArray, List.set_cons_zero, List.set_cons_succ]) <;> rfl
    · obtain rfl := hC.h6 (hd 6 (by kernel_rfl))
      clear hd hcl
      refine wpOp_step rfl (fun K hK => ?_)
      go_simp
      refine (idx_0 W).mono ?_
      rintro e W' ⟨rfl, rfl⟩
      refine hK _ _ ⟨u0, u1, u2, u3, u4, u5, _, _, u8, u9, u10, u11, u12, u13, ?_, ⟨hC.ow, hC.n13, hC.h0, hC.h1, hC.h2, hC.h3, hC.h4, hC.h5, hC.h6, fun _ => rfl, hC.h8, hC.h9, hC.h10, hC.h13⟩⟩
      (simp only [Act.put, List.setIfInBounds_toArray, List.set_cons_zero, List.set_cons_succ]) <;> rfl
    · obtain rfl := hC.h7 (hd 7 (by kernel_rfl))
      clear hd hcl
      refine wpOp_step rfl (fun K hK => ?_)
      go_simp
      refine hK _ _ ⟨u0, u1, u2, u3, u4, u5, u6, _, _, u9, u10, u11, u12, u13, ?_, ⟨hC.ow, hC.n13, hC.h0, hC.h1, hC.h2, hC.h3, hC.h4, hC.h5, hC.h6, hC.h7, fun _ => rfl, hC.h9, hC.h10, hC.h13⟩⟩
      (simp only [Act.put, List.setIfInBounds_toArray, List.set_cons_zero, List.set_cons_succ]) <;> rfl
    · obtain rfl := hC.h4 (hd 4 (by kernel_rfl))
      obtain rfl := hC.h8 (hd 8 (by kernel_rfl))
      clear hd hcl
      refine wpOp_step rfl (fun K hK => ?_)
      go_simp
      refine hK _ _ ⟨u0, u1, u2, u3, _, u5, u6, u7, _, _, u10, u11, u12, u13, ?_, ⟨hC.ow, hC.n13, hC.h0, hC.h1, hC.h2, hC.h3, hC.h4, hC.h5, hC.h6, hC.h7, hC.h8, fun _ => rfl, hC.h10, hC.h13⟩⟩
      (simp only [Act.put, List.setIfInBounds_toArray, List.set_cons_zero, List.set_cons_succ]) <;> rfl
    · obtain rfl := hC.h9 (hd 9 (by kernel_rfl))
      clear hd hcl
      refine wpOp_step rfl (fun K hK => ?_)
      go_simp
      refine hK _ _ ⟨u0, u1, u2, u3, u4, u5, u6, u7, u8, _, _, u11, u12, u13, ?_, ⟨hC.ow, hC.n13, hC.h0, hC.h1, hC.h2, hC.h3, hC.h4, hC.h5, hC.h6, hC.h7, hC.h8, hC.h9, fun _ => rfl, hC.h13⟩⟩
      (simp only [Act.put, List.setIfInBounds_toArray, List.set_cons_zero, List.set_cons_succ]) <;> rfl
    · obtain rfl := hC.h10 (hd 10 (by kernel_rfl))
      obtain ⟨l, how, h0, h1, h2⟩ := hC.ow
      obtain rfl := h0 hf
      have h8 : Ld 12 = false := cl_no hcl hf (by kernel_rfl)
      have ho := how.arr #[.int .u8 0] 1 rfl (by omega) 5
      simp only [List.cons_append, List.nil_append] at ho
      clear hd hcl
      refine wpOp_step rfl (fun K hK => ?_)
      go_simp
      refine hK _ _ ⟨u0, u1, u2, u3, u4, u5, u6, u7, u8, u9, _, _, u12, u13, ?_, ⟨⟨_, ho, (fun h => by cases h), (fun _ _ => ⟨_, rfl, rfl⟩), (fun h => absurd (h8.symm.trans h) (by decide))⟩, hC.n13, hC.h0, hC.h1, hC.h2, hC.h3, hC.h4, hC.h5, hC.h6, hC.h7, hC.h8, hC.h9, hC.h10, hC.h13⟩⟩
      (simp only [Act.put, List.setIfInBounds_toArray, List.set_cons_zero, List.set_cons_succ]) <;> rfl
    · obtain rfl := hC.h0 (hd 0 (by kernel_rfl))
      obtain ⟨l, how, h0, h1, h2⟩ := hC.ow
      have hl7 := hd 11 (by kernel_rfl)
      obtain ⟨lb, rfl, rfl⟩ := h1 hl7 hf
      have hsl := Sl.of_own (how.row 1 rfl)
      have hz13 : Ld 13 = false := cl_no hcl hf (by kernel_rfl)
      clear hd hcl
      refine wpOp_step rfl (fun K hK => ?_)
      rw [if_pos (by rfl)]
      refine owp_append elemU8 how 0 (.tmp 12) (.tmp 23) (m := 1) rfl rfl hsl (by intro u hu; simp at hu; subst hu; rfl) (by unfold maxLen; omega) (by omega) rfl rfl rfl ?_
      intro A2 c2 W2 hv
      have hv2 := hv.few 1
      refine hK _ _ ⟨(.slice none 0 0), u1, u2, u3, u4, u5, u6, u7, u8, u9, u10, (.slice (some ⟨lb, 0, none⟩) 1 1), (.slice A2 1 c2), u13, ?_, ⟨⟨_, hv2, (fun h => absurd (hl7.symm.trans h) (by decide)), (fun _ h => by cases h), (fun _ => ⟨A2, c2, rfl, rfl⟩)⟩, hC.n13, hC.h0, hC.h1, hC.h2, hC.h3, hC.h4, hC.h5, hC.h6, hC.h7, hC.h8, hC.h9, hC.h10, (fun h => absurd (hz13.symm.trans h) (by decide))⟩⟩
      (simp only [Act.put, List.setIfInBounds_toArray, List.set_cons_zero, List.set_cons_succ]) <;> rfl
    · obtain ⟨l, how, h0, h1, h2⟩ := hC.ow
      have ha := hd 12 (by kernel_rfl)
      obtain ⟨A2, c2, rfl, rfl⟩ := h2 ha
      have hl7 := hcl 12 11 ha (by kernel_rfl)
      clear hd hcl
      refine wpOp_step rfl (fun K hK => ?_)
      go_simp
      refine hK _ _ ⟨u0, u1, u2, u3, u4, u5, u6, u7, u8, u9, u10, u11, _, _, ?_, ⟨⟨_, how, (fun h => absurd (hl7.symm.trans h) (by decide)), (fun _ h => absurd (ha.symm.trans h) (by decide)), (fun _ => ⟨A2, c2, rfl, rfl⟩)⟩, (fun h => by cases h), hC.h0, hC.h1, hC.h2, hC.h3, hC.h4, hC.h5, hC.h6, hC.h7, hC.h8, hC.h9, hC.h10, fun _ => rfl⟩⟩
      (simp only [Act.put, List.setIfInBounds_toArray, List.set_cons_zero, List.set_cons_succ]) <;> rfl
  · rintro Ld b W hL ⟨u0, u1, u2, u3, u4, u5, u6, u7, u8, u9, u10, u11, u12, u13, rfl, hC⟩
    obtain ⟨l, how, -, -, h2⟩ := hC.ow
    obtain ⟨A1, q1, rfl, rfl⟩ := h2 (hL 12 (by show 12 < 14; decide))
    obtain rfl := hC.h13 (hL 13 (by show 13 < 14; decide))
    have HO1 := Lib.hid how
    clear hC hL how h2
    simp only [Act.put, List.setIfInBounds_toArray, List.set_cons_zero, List.set_cons_succ]
    go_wp2_with (with_reducible refine upon_id ?_; go_simp)
    rw [rounds_succ]
    go_wp2_with (with_reducible refine upon_id ?_; go_simp)
    go_ret
    exact ⟨_, _, rfl, HP.out.add (HO1.out.row 0 rfl) HO1.out.below⟩
end Go.Proofs.YtpcmbmabmfghkaaDoor

namespace Go.Proofs.YtpcmbmabmfghkaaDoor
open Go.RowKit
set_option linter.unusedVariables false
set_option maxRecDepth 100000
set_option maxHeartbeats 2000000 in
theorem op_write {w0 w : World} {g : Option Nat} {M : List (Nat × Value)} {L : List Ob} {O O1 O2 O3 O4 : List Rw} (rb : Nat) (p q s : Int) (n : Nat) (vs : List Value)
    (h : Ow w0 w g M L O)
    (HN1 : ∀ w1 R, Ow w0 w1 g M L (O ++ R) → Calls Tryd.prog 32 #[.pointer (some ⟨rb, 0, none⟩)] w1 fun e w' => e = .returned (.int .i64 p) ∧ Ow w0 w' g M L (O1 ++ R))
    (HN2 : ∀ w1 R, Ow w0 w1 g M L (O1 ++ R) → Calls Tryd.prog 32 #[.pointer (some ⟨rb, 0, none⟩)] w1 fun e w' => e = .returned (.int .i64 q) ∧ Ow w0 w' g M L (O2 ++ R))
    (HN3 : ∀ w1 R, Ow w0 w1 g M L (O2 ++ R) → Calls Tryd.prog 32 #[.pointer (some ⟨rb, 0, none⟩)] w1 fun e w' => e = .returned (.int .i64 s) ∧ Ow w0 w' g M L (O3 ++ R))
    (HB : ∀ w1 R, Ow w0 w1 g M L (O3 ++ R) → Calls Tryd.prog 50 #[.pointer (some ⟨rb, 0, none⟩)] w1 fun e w' => ∃ (A : Option Addr) (c : Nat), e = .returned (.slice A n c) ∧ Ow w0 w' g M L (O4 ++ (R ++ [⟨A, n, c, 5, vs⟩]))) :
    Calls Tryd.prog 30 #[.pointer (some ⟨rb, 0, none⟩), .int .i64 2] w fun e w' => ∃ (A : Option Addr) (c : Nat), e = .returned (.agg #[.int .i64 2, .int .i64 p, .int .i64 q, .int .i64 s, .int .i64 0, .slice A n c]) ∧ Ow w0 w' g M L (O4 ++ [⟨A, n, c, 5, vs⟩]) := by
  have H0 := Lib.hid (h.arr #[.int .i64 0, .int .i64 0, .int .i64 0, .int .i64 0, .int .i64 0, .slice none 0 0] 6 rfl (by omega) 29)
  have X1 := Lib.hid HN1
  have X2 := Lib.hid HN2
  have X3 := Lib.hid HN3
  have XB := Lib.hid HB
  clear h HN1 HN2 HN3 HB
  go_enter Tryd.func30, Tryd.ntmps30
  go_wp2_with fail
  refine (X1.out _ _ H0.out).mono ?_
  rintro e w1 ⟨rfl, h1⟩
  have h2 := h1.arr #[.int .i64 0, .int .i64 0, .int .i64 0, .int .i64 0, .int .i64 0, .slice none 0 0] 6 rfl (by omega) 29
  simp only [List.append_assoc, List.cons_append, List.nil_append] at h2
  have hg5 := (h2.rowHeap (O1.length + 1) (by rw [get_r]; rfl)).1
  have h3 := h2.putRow (k := 6) (O1.length + 1) (by rw [get_r]; rfl) #[.int .i64 2, .int .i64 p, .int .i64 0, .int .i64 0, .int .i64 0, .slice none 0 0] rfl (by omega)
  rw [set_r] at h3
  simp only [List.set_cons_zero, List.set_cons_succ] at h3
  have HG := Lib.hid hg5
  have H1 := Lib.hid h3
  clear h1 h2 h3 hg5 H0 X1
  dsimp only
  repeat (first | refine wpList_store_row rfl 29 (.tmp 5) (.tmp 9) rfl w1.heap.size #[.int .i64 2, .int .i64 p, .int .i64 0, .int .i64 0, .int .i64 0, .slice none 0 0] rfl rfl 29 _ HG.out sizeOp rfl (by simp [Value.oneCell']) ?_ | go_step)
  go_wp2_with fail
  refine (X2.out _ _ H1.out).mono ?_
  rintro e w2 ⟨rfl, h1⟩
  have y2 : w2.cell? ⟨w1.heap.size, 2, none⟩ = some (.int .i64 0) := (h1.row (O2.length + 1) (by rw [get_r]; rfl)).cellAt 2 (by decide)
  have f2 := h1.thaw (O2.length + 1) (by rw [get_r]; rfl) 2
  have h2 := h1.put (O2.length + 1) (by rw [get_r]; rfl) 2 (.int .i64 q)
  rw [set_r] at h2
  simp only [List.set_cons_zero, List.set_cons_succ] at h2
  have H2 := Lib.hid h2
  clear h1 h2 H1 X2 HG
  go_wp2_with (with_reducible refine upon_id ?_; go_simp)
  refine (X3.out _ _ H2.out).mono ?_
  rintro e w3 ⟨rfl, h1⟩
  have y3 : w3.cell? ⟨w1.heap.size, 3, none⟩ = some (.int .i64 0) := (h1.row (O3.length + 1) (by rw [get_r]; rfl)).cellAt 3 (by decide)
  have f3 := h1.thaw (O3.length + 1) (by rw [get_r]; rfl) 3
  have h2 := h1.put (O3.length + 1) (by rw [get_r]; rfl) 3 (.int .i64 s)
  rw [set_r] at h2
  simp only [List.set_cons_zero, List.set_cons_succ] at h2
  have H3 := Lib.hid h2
  clear h1 h2 H2 X3 y2 f2
  go_wp2_with (with_reducible refine upon_id ?_; go_simp)
  refine (XB.out _ _ H3.out).mono ?_
  rintro e w4 ⟨A, c, rfl, h1⟩
  simp only [List.cons_append, List.nil_append] at h1
  have y5 : w4.cell? ⟨w1.heap.size, 5, none⟩ = some (.slice none 0 0) := (h1.row (O4.length + 1) (by rw [get_r]; rfl)).cellAt 5 (by decide)
  have f5 := h1.thaw (O4.length + 1) (by rw [get_r]; rfl) 5
  have h2 := h1.put (O4.length + 1) (by rw [get_r]; rfl) 5 (.slice A n c)
  rw [set_r] at h2
  simp only [List.set_cons_zero, List.set_cons_succ] at h2
  have hg5 := (h2.rowHeap (O4.length + 1) (by rw [get_r]; rfl)).1
  have hg4 := (h2.rowHeap (O4.length + 0) (by rw [get_r]; rfl)).1
  have h3 := h2.putRow (k := 6) (O4.length + 0) (by rw [get_r]; rfl) #[.int .i64 2, .int .i64 p, .int .i64 q, .int .i64 s, .int .i64 0, .slice A n c] rfl (by omega)
  rw [set_r] at h3
  simp only [List.set_cons_zero] at h3
  have hg6 := (h3.rowHeap (O4.length + 0) (by rw [get_r]; rfl)).1
  have hfin := h3.re (O' := O4 ++ [⟨A, n, c, 5, vs⟩]) (fun i => if i < O4.length then i else i + 2) (fun i j hi hj e => by
    split at e <;> split at e <;> omega) (fun i r hr => by
    by_cases hlt : i < O4.length
    · rw [if_pos hlt, get_l _ _ hlt]
      rwa [get_l _ _ hlt] at hr
    · rw [if_neg hlt]
      have hk : i = O4.length + 0 := by
        have := get_lt hr
        rw [List.length_append, List.length_singleton] at this
        omega
      subst hk
      rw [get_r] at hr
      rw [show O4.length + 0 + 2 = O4.length + 2 from rfl, get_r]
      exact hr)
  have HF := Lib.hid hfin
  have G5 := Lib.hid hg5
  have G4 := Lib.hid hg4
  have G6 := Lib.hid hg6
  clear h1 h2 h3 hg5 hg4 hg6 hfin H3 XB y3 f3
  go_upto_region 10 with (with_reducible refine upon_id ?_; go_simp)
  repeat (first | refine wpList_load_row rfl 29 (.tmp 5) rfl w1.heap.size rfl 29 #[.int .i64 2, .int .i64 p, .int .i64 q, .int .i64 s, .int .i64 0, .slice A n c] (0, 0) _ G5.out Tryd.underlying29 rfl sizeOp ?_ | refine wpList_store_row rfl 29 (.tmp 4) (.tmp 33) rfl w.heap.size #[.int .i64 2, .int .i64 p, .int .i64 q, .int .i64 s, .int .i64 0, .slice A n c] rfl rfl 29 _ G4.out sizeOp rfl (by simp [Value.oneCell']) ?_ | go_step)
  have l6 := run_loadVar_row (P := Tryd.prog) _ w.heap.size 29 29 #[.int .i64 2, .int .i64 p, .int .i64 q, .int .i64 s, .int .i64 0, .slice A n c] (0, 0) _ G6.out Tryd.underlying29 rfl sizeOp
  have has : ∀ (ad : Addr) (W : World), (asAddr (.pointer (some ad))).run Tryd.prog W = .ok ad W := fun _ _ => rfl
  go_wp2_with fail
  refine bodyPost_ret (v := .agg #[.int .i64 2, .int .i64 p, .int .i64 q, .int .i64 s, .int .i64 0, .slice A n c]) (by simp [results, Tryd.results30, asAddr, l6, Act.put]) rfl ?_
  exact ⟨_, _, rfl, HF.out⟩
end Go.Proofs.YtpcmbmabmfghkaaDoor

namespace Go.Proofs.YtpcmbmabmfghkaaDoor
open Go.RowKit
set_option linter.unusedVariables false
set_option maxRecDepth 100000
theorem left_none {es : Array MapEntry} {seen : Array Nat} (h : (leftOf es seen).size = 0) {x : MapEntry} (hx : x ∈ es.toList) : x.born ∈ seen.toList := by
  have h2 : leftOf es seen = #[] := Array.eq_empty_of_size_eq_zero h
  by_cases hb : x.born ∈ seen.toList
  · exact hb
  · exfalso
    have : x ∈ (leftOf es seen).toList := by
      unfold leftOf
      simp at hx hb ⊢
      exact ⟨hx, hb⟩
    rw [h2] at this
    simp at this
theorem nodup_born {l : List MapEntry} (h : (l.map (·.born)).Nodup) {x y : MapEntry} (hx : x ∈ l) (hy : y ∈ l) (hb : x.born = y.born) : x = y := by
  induction l with
  | nil => cases hx
  | cons a l ih =>
    rw [List.map_cons, List.nodup_cons] at h
    rcases List.mem_cons.1 hx with rfl | hx'
    · rcases List.mem_cons.1 hy with rfl | hy'
      · rfl
      · exact absurd (List.mem_map.2 ⟨y, hy', hb.symm⟩) h.1
    · rcases List.mem_cons.1 hy with rfl | hy'
      · exact absurd (List.mem_map.2 ⟨x, hx', hb⟩) h.1
      · exact ih h.2 hx' hy'
set_option maxHeartbeats 2000000 in
/-- the line of a write -/
theorem event_write {w0 w : World} {g : Option Nat} {M : List (Nat × Value)} {L : List Ob} {O O' O'' : List Rw} (rb : Nat) (p q s : Int) (n : Nat) (vs : List Value)
    (h : Ow w0 w g M L O) (HN : ∀ w1 R, Ow w0 w1 g M L (O ++ R) → Calls Tryd.prog 28 #[.pointer (some ⟨rb, 0, none⟩)] w1 fun e w' => e = .returned (.string ⟨#[119, 114, 105, 116, 101]⟩) ∧ Ow w0 w' g M L (O' ++ R))
    (HM : ∀ w1 R, Ow w0 w1 g M L (O' ++ R) → Calls Tryd.prog 30 #[.pointer (some ⟨rb, 0, none⟩), .int .i64 2] w1 fun e w' => ∃ (A : Option Addr) (c : Nat), e = .returned (.agg #[.int .i64 2, .int .i64 p, .int .i64 q, .int .i64 s, .int .i64 0, .slice A n c]) ∧ Ow w0 w' g M L (O'' ++ (R ++ [⟨A, n, c, 5, vs⟩]))) :
    Calls Tryd.prog 17 #[.pointer (some ⟨rb, 0, none⟩)] w fun e w' => ∃ (A : Option Addr) (c : Nat), e = .returned (.agg #[.int .i64 1, .int .i64 0, .int .i64 0, .int .i64 2, .int .i64 p, .int .i64 q, .int .i64 s, .int .i64 0, .slice A n c, .int .i64 0, .int .i64 0, .int .i64 0, .int .i64 0, .int .i64 0, .int .i64 0, .int .i64 0, .int .i64 0, .int .u8 0, .int .u8 0, .bool false, .int .i64 0, .int .i64 0, .int .i64 0, .int .i64 0, .bool false, .bool false]) ∧ Ow w0 w' g M L (O'' ++ [⟨A, n, c, 5, vs⟩]) := by
  have hs : ∀ i, i < 6 → i ≠ 1 → ((nm i).toList == [119, 114, 105, 116, 101]) = false := by
    intro i hi hn
    have : i = 0 ∨ i = 2 ∨ i = 3 ∨ i = 4 ∨ i = 5 := by omega
    rcases this with rfl | rfl | rfl | rfl | rfl
    all_goals decide +kernel
  have hw : ((nm 1).toList == [119, 114, 105, 116, 101]) = true := by decide +kernel
  have H0 := h.arr #[.int .i64 0, .int .i64 0, .int .i64 0, .int .i64 0, .int .i64 0, .int .i64 0, .int .i64 0, .int .i64 0, .slice none 0 0, .int .i64 0, .int .i64 0, .int .i64 0, .int .i64 0, .int .i64 0, .int .i64 0, .int .i64 0, .int .i64 0, .int .u8 0, .int .u8 0, .bool false, .int .i64 0, .int .i64 0, .int .i64 0, .int .i64 0, .bool false, .bool false] 26 rfl (by omega) 37
  have HO := Lib.hid H0
  have HNx := Lib.hid HN
  have HMx := Lib.hid HM
  have HS := Lib.hid hs
  clear h H0 HN HM hs
  go_enter Tryd.func17, Tryd.ntmps17
  go_wp2_with fail
  refine (HNx.out _ _ HO.out).mono ?_
  rintro e w1 ⟨rfl, ho1⟩
  have HO1 := Lib.hid ho1
  clear ho1
  go_wp2_with fail
  refine (verbs_any w1).mono ?_
  rintro e w2 ⟨nb, rfl, hnb, hvm, hb2⟩
  have HO2 := Lib.hid (HO1.out.go hb2)
  obtain ⟨es, clock, hbk, hst, hx, hall⟩ := hvm
  obtain ⟨x0, hx0, hk0⟩ := hall 1 (by decide) rfl
  have HX0 := Lib.hid (And.intro hx0 hk0)
  clear hall hx0 hk0
  obtain ⟨kt, et, d, hm, hd, -⟩ := underVM
  have hrg := run_range_map (P := Tryd.prog) w2 _ kt et nb es clock hm hbk
  go_wp2_with fail
  all_goals
    go_loopw [] (fun w' => ∃ (wa : World) (seen : Array Nat), wa.Alike w2 ∧ Below w2.heap.size w2 wa ∧ Hid (∀ x ∈ es.toList, x.born ∈ seen.toList → x.key ≠ .int .i64 2) ∧ w' = wa.alloc (.mapIter (some nb) clock seen clock)) (fun w' => (leftOf es (w'.iterSeen w2.heap.size)).size)
    case atStart => exact ⟨w2, #[], ⟨rfl, rfl, rfl⟩, Below.refl _ _, (by unfold Hid; intro x _ h; simp at h), rfl⟩
    case round =>
      obtain ⟨wa, seen, hal, hba, HNK, rfl⟩ := hrel
      have hsz : wa.heap.size = w2.heap.size := by rw [hal.1]
      have hb1 : wa.heap[nb]? = some (.map es clock) := by rw [hal.1]; exact hbk
      have law := run_next_map (P := Tryd.prog) wa 0 nb clock clock seen es clock hb1 hst.1 (Nat.le_refl _)
      rw [hsz] at law
      rcases law with ⟨h0, hrun⟩ | ⟨e, he, wb, hal2, hrun⟩
      · exact absurd HX0.out.2 (HNK.out x0 HX0.out.1 (left_none h0 HX0.out.1))
      · obtain ⟨i, hi, -, hkx, hval⟩ := hx e (mem_leftV he)
        rw [hval, hkx] at hrun
        have hsz2 : wb.heap.size = w2.heap.size := by rw [hal2.1, hal.1]
        have hb3 : wb.heap[nb]? = some (.map es clock) := by rw [hal2.1]; exact hb1
        have hen := run_entry_map (P := Tryd.prog) wb nb clock seen es clock e hb3 (mem_leftV he) hst.2.1
        rw [hsz2, hval, hkx] at hen
        have hal3 : wb.Alike w2 := ⟨hal2.1.trans hal.1, hal2.2.1.trans hal.2.1, hal2.2.2.trans hal.2.2⟩
        have hbb := hba.trans (next_below hal2 hrun w2.heap.size)
        clear hx
        by_cases h1 : i = 1
        · subst h1
          rw [show (((1 : Nat) : Int) + 1) = 2 from rfl] at hrun hen
          have hnx : ∀ ty, (Instr.next (.pointer (some ⟨w2.heap.size, 0, none⟩)) false ty).run Tryd.prog (wa.alloc (.mapIter (some nb) clock seen clock)) = _ := fun _ => hrun
          have HO4 := Lib.hid ((HO2.out.go hbb).go (w' := wb.alloc (.mapIter (some nb) clock (seen.push e.born) clock)) ⟨rfl, rfl, rfl, by rw [World.size_alloc]; omega, fun k hk => (MapKept.heap_alloc wb _).2 k hk⟩)
          clear hst hal hba hbk hb1 hrun hb2 hm hd HNx HO HO1 he hkx hval hi hal2 hal3 hb3 hbb
          go_wp2_with fail
          refine (HMx.out _ _ HO4.out).mono ?_
          rintro e5 w4 ⟨A, c, rfl, ho5⟩
          simp only [List.cons_append, List.nil_append] at ho5
          have hg := (ho5.rowHeap (O''.length + 0) (by rw [get_r]; rfl)).1
          have hp := ho5.putRow (k := 26) (O''.length + 0) (by rw [get_r]; rfl) #[.int .i64 1, .int .i64 0, .int .i64 0, .int .i64 2, .int .i64 p, .int .i64 q, .int .i64 s, .int .i64 0, .slice A n c, .int .i64 0, .int .i64 0, .int .i64 0, .int .i64 0, .int .i64 0, .int .i64 0, .int .i64 0, .int .i64 0, .int .u8 0, .int .u8 0, .bool false, .int .i64 0, .int .i64 0, .int .i64 0, .int .i64 0, .bool false, .bool false] rfl (by omega)
          rw [set_r] at hp
          simp only [List.set_cons_zero] at hp
          have l26 := run_loadVar_row (P := Tryd.prog) _ w.heap.size 37 37 #[.int .i64 1, .int .i64 0, .int .i64 0, .int .i64 2, .int .i64 p, .int .i64 q, .int .i64 s, .int .i64 0, .slice A n c, .int .i64 0, .int .i64 0, .int .i64 0, .int .i64 0, .int .i64 0, .int .i64 0, .int .i64 0, .int .i64 0, .int .u8 0, .int .u8 0, .bool false, .int .i64 0, .int .i64 0, .int .i64 0, .int .i64 0, .bool false, .bool false] (0, 0) _ (hp.rowHeap (O''.length + 0) (by rw [get_r]; rfl)).1 Tryd.underlying37 rfl sizeEv
          have hfin := hp.re (O' := O'' ++ [⟨A, n, c, 5, vs⟩]) (fun i => if i < O''.length then i else i + 1) (fun i j hi hj e => by
            split at e <;> split at e <;> omega) (fun i r hr => by
            by_cases hlt : i < O''.length
            · rw [if_pos hlt, get_l _ _ hlt]
              rwa [get_l _ _ hlt] at hr
            · rw [if_neg hlt]
              have hk : i = O''.length + 0 := by
                have := get_lt hr
                rw [List.length_append, List.length_singleton] at this
                omega
              subst hk
              rw [get_r] at hr
              rw [show O''.length + 0 + 1 = O''.length + 1 from rfl, get_r]
              exact hr)
          have has : ∀ (ad : Addr) (W : World), (asAddr (.pointer (some ad))).run Tryd.prog W = .ok ad W := fun _ _ => rfl
          have HG := Lib.hid hg
          have HP := Lib.hid hfin
          clear hp hg ho5 hfin HO4 HMx
          dsimp only
          repeat (first | refine wpList_store_row rfl 37 (.tmp 2) (.tmp 21) rfl w.heap.size #[.int .i64 1, .int .i64 0, .int .i64 0, .int .i64 2, .int .i64 p, .int .i64 q, .int .i64 s, .int .i64 0, .slice A n c, .int .i64 0, .int .i64 0, .int .i64 0, .int .i64 0, .int .i64 0, .int .i64 0, .int .i64 0, .int .i64 0, .int .u8 0, .int .u8 0, .bool false, .int .i64 0, .int .i64 0, .int .i64 0, .int .i64 0, .bool false, .bool false] rfl rfl 37 _ HG.out sizeEv rfl (by simp [Value.oneCell']) ?_ | go_step)
          go_wp2_with fail
          refine bodyPost_ret (v := .agg #[.int .i64 1, .int .i64 0, .int .i64 0, .int .i64 2, .int .i64 p, .int .i64 q, .int .i64 s, .int .i64 0, .slice A n c, .int .i64 0, .int .i64 0, .int .i64 0, .int .i64 0, .int .i64 0, .int .i64 0, .int .i64 0, .int .i64 0, .int .u8 0, .int .u8 0, .bool false, .int .i64 0, .int .i64 0, .int .i64 0, .int .i64 0, .bool false, .bool false]) (by simp [results, Tryd.results17, asAddr, l26, Act.put]) rfl ?_
          exact ⟨A, c, rfl, HP.out⟩
        · have hcmp := HS.out i hi h1
          have hnx : ∀ ty, (Instr.next (.pointer (some ⟨w2.heap.size, 0, none⟩)) false ty).run Tryd.prog (wa.alloc (.mapIter (some nb) clock seen clock)) = _ := fun _ => hrun
          have HNK2 : Hid (∀ x ∈ es.toList, x.born ∈ (seen.push e.born).toList → x.key ≠ .int .i64 2) := by
            unfold Hid
            intro x hxm hxb
            rw [Array.toList_push, List.mem_append, List.mem_singleton] at hxb
            rcases hxb with h | h
            · exact HNK.out x hxm h
            · have := nodup_born hst.2.1 hxm (mem_leftV he) h
              subst this
              rw [hkx]
              intro e2
              injection e2 with _ e3
              omega
          clear h1 hkx hval
          go_wp2_with fail
          go_roundw
          case rel => exact ⟨wb, seen.push e.born, hal3, hbb, HNK2, rfl⟩
          case measure =>
            rw [← hsz2, World.iterSeen_alloc, hsz2, ← hsz, World.iterSeen_alloc]
            exact left_shrinks es seen e he
end Go.Proofs.YtpcmbmabmfghkaaDoor

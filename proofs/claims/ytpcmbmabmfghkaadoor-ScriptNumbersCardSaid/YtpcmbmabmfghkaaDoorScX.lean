/- script.reader.bytes at two texts. -/
import Derived.Test.YtpcmbmabmfghkaaDoorScW
import Derived.Test.YtpcmbmabmfghkaaDoorShelf
namespace Go.Proofs.YtpcmbmabmfghkaaDoor
open Go.RowKit
set_option linter.unusedVariables false
set_option maxRecDepth 100000
theorem idx_0 (w : World) :
    Calls Tryd.prog 67 #[.string ⟨#[48, 49, 50, 51, 52, 53, 54, 55, 56, 57, 97, 98, 99, 100, 101, 102]⟩, .int .u8 48] w fun e w' => e = .returned (.int .i64 0) ∧ w' = w := by
  have h := Tryd.strings_IndexByte ⟨#[48, 49, 50, 51, 52, 53, 54, 55, 56, 57, 97, 98, 99, 100, 101, 102]⟩ 48 w
  have hv : Lib.indexByte ((⟨#[48, 49, 50, 51, 52, 53, 54, 55, 56, 57, 97, 98, 99, 100, 101, 102]⟩ : ByteArray)).data.toList (48 : Int).toNat.toUInt8 = 0 := by kernel_rfl
  rw [hv] at h
  exact h
theorem idx_f (w : World) :
    Calls Tryd.prog 67 #[.string ⟨#[48, 49, 50, 51, 52, 53, 54, 55, 56, 57, 97, 98, 99, 100, 101, 102]⟩, .int .u8 102] w fun e w' => e = .returned (.int .i64 15) ∧ w' = w := by
  have h := Tryd.strings_IndexByte ⟨#[48, 49, 50, 51, 52, 53, 54, 55, 56, 57, 97, 98, 99, 100, 101, 102]⟩ 102 w
  have hv : Lib.indexByte ((⟨#[48, 49, 50, 51, 52, 53, 54, 55, 56, 57, 97, 98, 99, 100, 101, 102]⟩ : ByteArray)).data.toList (102 : Int).toNat.toUInt8 = 15 := by kernel_rfl
  rw [hv] at h
  exact h
structure Bx0K (w0 : World) (A : Option Addr) (c : Nat) (Ld : Nat → Bool) (u0 u1 u2 u3 u4 u5 u6 u7 u8 u9 u10 u11 u12 u13 : Value) (W : World) : Prop where
  ow : ∃ l : List Rw, Ow w0 W none [] [] (l) ∧ (Ld 11 = false → l = [(⟨none, 0, 0, 5, []⟩ : Rw)]) ∧ (Ld 11 = true → Ld 12 = false → ∃ lb : Nat, u11 = .slice (some ⟨lb, 0, none⟩) 1 1 ∧ l = [(⟨none, 0, 0, 5, []⟩ : Rw), (⟨some ⟨lb, 0, none⟩, 1, 1, 5, [.int .u8 0]⟩ : Rw)]) ∧ (Ld 12 = true → ∃ (A2 : Option Addr) (c2 : Nat), u12 = .slice A2 1 c2 ∧ l = [(⟨A2, 1, c2, 5, [.int .u8 0]⟩ : Rw)])
  n13 : Ld 13 = false → u13 = .slice none 0 0
  h0 : Ld 0 = true → u0 = .slice none 0 0
  h1 : Ld 1 = true → u1 = .string ⟨#[48, 48, 102, 102]⟩
  h2 : Ld 2 = true → u2 = .int .u8 48
  h3 : Ld 3 = true → u3 = .int .i64 0
  h4 : Ld 4 = true → u4 = .int .i64 0
  h5 : Ld 5 = true → u5 = .string ⟨#[48, 48, 102, 102]⟩
  h6 : Ld 6 = true → u6 = .int .u8 48
  h7 : Ld 7 = true → u7 = .int .i64 0
  h8 : Ld 8 = true → u8 = .int .i64 0
  h9 : Ld 9 = true → u9 = .int .i64 0
  h10 : Ld 10 = true → u10 = .int .u8 0
  h13 : Ld 13 = true → u13 = u12
def Bx0I (w0 : World) (A : Option Addr) (c : Nat) (A0 : Act) (Ld : Nat → Bool) (a : Act) (W : World) : Prop :=
  ∃ (u0 u1 u2 u3 u4 u5 u6 u7 u8 u9 u10 u11 u12 u13 : Value), a = ((((((((((((((A0.put (some 12) u0).put (some 13) u1).put (some 14) u2).put (some 15) u3).put (some 16) u4).put (some 17) u5).put (some 18) u6).put (some 19) u7).put (some 20) u8).put (some 21) u9).put (some 22) u10).put (some 23) u11).put (some 24) u12).put (some 4) u13) ∧ Bx0K w0 A c Ld u0 u1 u2 u3 u4 u5 u6 u7 u8 u9 u10 u11 u12 u13 W
structure Bx1K (w0 : World) (A : Option Addr) (c : Nat) (Ld : Nat → Bool) (u0 u1 u2 u3 u4 u5 u6 u7 u8 u9 u10 u11 u12 u13 : Value) (W : World) : Prop where
  ow : ∃ l : List Rw, Ow w0 W none [] [] (l) ∧ (Ld 11 = false → l = [(⟨A, 1, c, 5, [.int .u8 0]⟩ : Rw)]) ∧ (Ld 11 = true → Ld 12 = false → ∃ lb : Nat, u11 = .slice (some ⟨lb, 0, none⟩) 1 1 ∧ l = [(⟨A, 1, c, 5, [.int .u8 0]⟩ : Rw), (⟨some ⟨lb, 0, none⟩, 1, 1, 5, [.int .u8 255]⟩ : Rw)]) ∧ (Ld 12 = true → ∃ (A2 : Option Addr) (c2 : Nat), u12 = .slice A2 2 c2 ∧ l = [(⟨A2, 2, c2, 5, [.int .u8 0, .int .u8 255]⟩ : Rw)])
  n13 : Ld 13 = false → u13 = .slice A 1 c
  h0 : Ld 0 = true → u0 = .slice A 1 c
  h1 : Ld 1 = true → u1 = .string ⟨#[102, 102]⟩
  h2 : Ld 2 = true → u2 = .int .u8 102
  h3 : Ld 3 = true → u3 = .int .i64 15
  h4 : Ld 4 = true → u4 = .int .i64 240
  h5 : Ld 5 = true → u5 = .string ⟨#[102, 102]⟩
  h6 : Ld 6 = true → u6 = .int .u8 102
  h7 : Ld 7 = true → u7 = .int .i64 15
  h8 : Ld 8 = true → u8 = .int .i64 15
  h9 : Ld 9 = true → u9 = .int .i64 255
  h10 : Ld 10 = true → u10 = .int .u8 255
  h13 : Ld 13 = true → u13 = u12
def Bx1I (w0 : World) (A : Option Addr) (c : Nat) (A0 : Act) (Ld : Nat → Bool) (a : Act) (W : World) : Prop :=
  ∃ (u0 u1 u2 u3 u4 u5 u6 u7 u8 u9 u10 u11 u12 u13 : Value), a = ((((((((((((((A0.put (some 12) u0).put (some 13) u1).put (some 14) u2).put (some 15) u3).put (some 16) u4).put (some 17) u5).put (some 18) u6).put (some 19) u7).put (some 20) u8).put (some 21) u9).put (some 22) u10).put (some 23) u11).put (some 24) u12).put (some 4) u13) ∧ Bx1K w0 A c Ld u0 u1 u2 u3 u4 u5 u6 u7 u8 u9 u10 u11 u12 u13 W
structure Bx2K (w0 : World) (A : Option Addr) (c : Nat) (Ld : Nat → Bool) (u0 u1 u2 u3 u4 u5 u6 u7 u8 u9 u10 u11 u12 u13 : Value) (W : World) : Prop where
  ow : ∃ l : List Rw, Ow w0 W none [] [] (l) ∧ (Ld 11 = false → l = [(⟨none, 0, 0, 5, []⟩ : Rw)]) ∧ (Ld 11 = true → Ld 12 = false → ∃ lb : Nat, u11 = .slice (some ⟨lb, 0, none⟩) 1 1 ∧ l = [(⟨none, 0, 0, 5, []⟩ : Rw), (⟨some ⟨lb, 0, none⟩, 1, 1, 5, [.int .u8 0]⟩ : Rw)]) ∧ (Ld 12 = true → ∃ (A2 : Option Addr) (c2 : Nat), u12 = .slice A2 1 c2 ∧ l = [(⟨A2, 1, c2, 5, [.int .u8 0]⟩ : Rw)])
  n13 : Ld 13 = false → u13 = .slice none 0 0
  h0 : Ld 0 = true → u0 = .slice none 0 0
  h1 : Ld 1 = true → u1 = .string ⟨#[48, 48, 102]⟩
  h2 : Ld 2 = true → u2 = .int .u8 48
  h3 : Ld 3 = true → u3 = .int .i64 0
  h4 : Ld 4 = true → u4 = .int .i64 0
  h5 : Ld 5 = true → u5 = .string ⟨#[48, 48, 102]⟩
  h6 : Ld 6 = true → u6 = .int .u8 48
  h7 : Ld 7 = true → u7 = .int .i64 0
  h8 : Ld 8 = true → u8 = .int .i64 0
  h9 : Ld 9 = true → u9 = .int .i64 0
  h10 : Ld 10 = true → u10 = .int .u8 0
  h13 : Ld 13 = true → u13 = u12
def Bx2I (w0 : World) (A : Option Addr) (c : Nat) (A0 : Act) (Ld : Nat → Bool) (a : Act) (W : World) : Prop :=
  ∃ (u0 u1 u2 u3 u4 u5 u6 u7 u8 u9 u10 u11 u12 u13 : Value), a = ((((((((((((((A0.put (some 12) u0).put (some 13) u1).put (some 14) u2).put (some 15) u3).put (some 16) u4).put (some 17) u5).put (some 18) u6).put (some 19) u7).put (some 20) u8).put (some 21) u9).put (some 22) u10).put (some 23) u11).put (some 24) u12).put (some 4) u13) ∧ Bx2K w0 A c Ld u0 u1 u2 u3 u4 u5 u6 u7 u8 u9 u10 u11 u12 u13 W
set_option maxHeartbeats 2000000 in
theorem bytes_two {w0 w : World} {g : Option Nat} {M : List (Nat × Value)} {L : List Ob} {O' : List Rw} (rb : Nat)
    (HN : Calls Tryd.prog 28 #[.pointer (some ⟨rb, 0, none⟩)] w fun e w' => e = .returned (.string ⟨#[48, 48, 102, 102]⟩) ∧ Ow w0 w' g M L O') :
    Calls Tryd.prog 50 #[.pointer (some ⟨rb, 0, none⟩)] w fun e w' => ∃ (A : Option Addr) (c : Nat), e = .returned (.slice A 2 c) ∧ Ow w0 w' g M L (O' ++ [⟨A, 2, c, 5, [.int .u8 0, .int .u8 255]⟩]) := by
  have HNx := Lib.hid HN
  clear HN
  go_enter Tryd.func50, Tryd.ntmps50
  go_wp2_with fail
  refine HNx.out.mono ?_
  rintro e w1 ⟨rfl, ho1⟩
  have HP := Lib.hid ho1
  have HO0 := Lib.hid ((Ow.of (St.refl w1)).nil 5)
  clear ho1 HNx
  go_wp2_with fail
  refine wp_loop_rounds 3 ?_
  rw [rounds_succ]
  go_upto_region 5 with (with_reducible refine upon_id ?_; go_simp)
  refine reg_inv34 (Bx0I w1 none 0) (by kernel_rfl) (by kernel_rfl) ?_ ?_ ?_
  · refine ⟨undef, undef, undef, undef, undef, undef, undef, undef, undef, undef, undef, undef, undef, .slice none 0 0, ?_, ⟨⟨_, HO0.out.drew, (fun _ => rfl), (fun h => by cases h), (fun h => by cases h)⟩, (fun _ => rfl), ?_, ?_, ?_, ?_, ?_, ?_, ?_, ?_, ?_, ?_, ?_, ?_⟩⟩
    · simp only [Act.put, List.setIfInBounds_toArray, List.set_cons_zero, List.set_cons_succ]
    all_goals (intro h; cases h)
  · rintro jj Ld b W hj hf hcl hd ⟨u0, u1, u2, u3, u4, u5, u6, u7, u8, u9, u10, u11, u12, u13, rfl, hC⟩
    have hj' : jj < 14 := hj
    have hcase : jj = 0 ∨ jj = 1 ∨ jj = 2 ∨ jj = 3 ∨ jj = 4 ∨ jj = 5 ∨ jj = 6 ∨ jj = 7 ∨ jj = 8 ∨ jj = 9 ∨ jj = 10 ∨ jj = 11 ∨ jj = 12 ∨ jj = 13 := by omega
    clear hj hj'
    simp only [Act.put, List.setIfInBounds_toArray, List.set_cons_zero, List.set_cons_succ]
    rcases hcase with rfl | rfl | rfl | rfl | rfl | rfl | rfl | rfl | rfl | rfl | rfl | rfl | rfl | rfl
    · obtain rfl := hC.n13 (cl_no hcl hf (by kernel_rfl))
      clear hd hcl
      refine wpOp_step rfl (fun K hK => ?_)
      go_simp
      refine hK _ _ ⟨_, u1, u2, u3, u4, u5, u6, u7, u8, u9, u10, u11, u12, _, ?_, ⟨hC.ow, hC.n13, fun _ => rfl, hC.h1, hC.h2, hC.h3, hC.h4, hC.h5, hC.h6, hC.h7, hC.h8, hC.h9, hC.h10, hC.h13⟩⟩
      (simp only [Act.put, List.setIfInBounds_toArray, List.set_cons_zero, List.set_cons_succ]) <;> rfl
    · clear hd hcl
      refine wpOp_step rfl (fun K hK => ?_)
      go_simp
      refine hK _ _ ⟨u0, _, u2, u3, u4, u5, u6, u7, u8, u9, u10, u11, u12, u13, ?_, ⟨hC.ow, hC.n13, hC.h0, fun _ => rfl, hC.h2, hC.h3, hC.h4, hC.h5, hC.h6, hC.h7, hC.h8, hC.h9, hC.h10, hC.h13⟩⟩
      (simp only [Act.put, List.setIfInBounds_toArray, List.set_cons_zero, List.set_cons_succ]) <;> rfl
    · obtain rfl := hC.h1 (hd 1 (by kernel_rfl))
      clear hd hcl
      refine wpOp_step rfl (fun K hK => ?_)
      go_simp
      refine hK _ _ ⟨u0, _, _, u3, u4, u5, u6, u7, u8, u9, u10, u11, u12, u13, ?_, ⟨hC.ow, hC.n13, hC.h0, hC.h1, fun _ => rfl, hC.h3, hC.h4, hC.h5, hC.h6, hC.h7, hC.h8, hC.h9, hC.h10, hC.h13⟩⟩
      (simp only [Act.put, List.setIfInBounds_toArray, List.set_cons_zero, List.set_cons_succ]) <;> rfl
    · obtain rfl := hC.h2 (hd 2 (by kernel_rfl))
      clear hd hcl
      refine wpOp_step rfl (fun K hK => ?_)
      go_simp
      refine (idx_0 W).mono ?_
      rintro e W' ⟨rfl, rfl⟩
      refine hK _ _ ⟨u0, u1, _, _, u4, u5, u6, u7, u8, u9, u10, u11, u12, u13, ?_, ⟨hC.ow, hC.n13, hC.h0, hC.h1, hC.h2, fun _ => rfl, hC.h4, hC.h5, hC.h6, hC.h7, hC.h8, hC.h9, hC.h10, hC.h13⟩⟩
      (simp only [Act.put, List.setIfInBounds_toArray, List.set_cons_zero, List.set_cons_succ]) <;> rfl
    · obtain rfl := hC.h3 (hd 3 (by kernel_rfl))
      clear hd hcl
      refine wpOp_step rfl (fun K hK => ?_)
      go_simp
      refine hK _ _ ⟨u0, u1, u2, _, _, u5, u6, u7, u8, u9, u10, u11, u12, u13, ?_, ⟨hC.ow, hC.n13, hC.h0, hC.h1, hC.h2, hC.h3, fun _ => rfl, hC.h5, hC.h6, hC.h7, hC.h8, hC.h9, hC.h10, hC.h13⟩⟩
      (simp only [Act.put, List.setIfInBounds_toArray, List.set_cons_zero, List.set_cons_succ]) <;> rfl
    · clear hd hcl
      refine wpOp_step rfl (fun K hK => ?_)
      go_simp
      refine hK _ _ ⟨u0, u1, u2, u3, u4, _, u6, u7, u8, u9, u10, u11, u12, u13, ?_, ⟨hC.ow, hC.n13, hC.h0, hC.h1, hC.h2, hC.h3, hC.h4, fun _ => rfl, hC.h6, hC.h7, hC.h8, hC.h9, hC.h10, hC.h13⟩⟩
      (simp only [Act.put, List.setIfInBounds_toArray, List.set_cons_zero, List.set_cons_succ]) <;> rfl
    · obtain rfl := hC.h5 (hd 5 (by kernel_rfl))
      clear hd hcl
      refine wpOp_step rfl (fun K hK => ?_)
      go_simp
      refine hK _ _ ⟨u0, u1, u2, u3, u4, _, _, u7, u8, u9, u10, u11, u12, u13, ?_, ⟨hC.ow, hC.n13, hC.h0, hC.h1, hC.h2, hC.h3, hC.h4, hC.h5, fun _ => rfl, hC.h7, hC.h8, hC.h9, hC.h10, hC.h13⟩⟩
      (simp only [Act.put, List.setIfInBounds_toArray, List.set_cons_zero, List.set_cons_succ]) <;> rfl
    · obtain rfl := hC.h6 (hd 6 (by kernel_rfl))
      clear hd hcl
      refine wpOp_step rfl (fun K hK => ?_)
      go_simp
      refine (idx_0 W).mono ?_
      rintro e W' ⟨rfl, rfl⟩
      refine hK _ _ ⟨u0, u1, u2, u3, u4, u5, _, _, u8, u9, u10, u11, u12, u13, ?_, ⟨hC.ow, hC.n13, hC.h0, hC.h1, hC.h2, hC.h3, hC.h4, hC.h5, hC.h6, fun _ => rfl, hC.h8, hC.h9, hC.h10, hC.h13⟩⟩
      (simp only [Act.put, List.setIfInBounds_toArray, List.set_cons_zero, List.set_cons_succ]) <;> rfl
    · obtain rfl := hC.h7 (hd 7 (by kernel_rfl))
      clear hd hcl
      refine wpOp_step rfl (fun K hK => ?_)
      go_simp
      refine hK _ _ ⟨u0, u1, u2, u3, u4, u5, u6, _, _, u9, u10, u11, u12, u13, ?_, ⟨hC.ow, hC.n13, hC.h0, hC.h1, hC.h2, hC.h3, hC.h4, hC.h5, hC.h6, hC.h7, fun _ => rfl, hC.h9, hC.h10, hC.h13⟩⟩
      (simp only [Act.put, List.setIfInBounds_toArray, List.set_cons_zero, List.set_cons_succ]) <;> rfl
    · obtain rfl := hC.h4 (hd 4 (by kernel_rfl))
      obtain rfl := hC.h8 (hd 8 (by kernel_rfl))
      clear hd hcl
      refine wpOp_step rfl (fun K hK => ?_)
      go_simp
      refine hK _ _ ⟨u0, u1, u2, u3, _, u5, u6, u7, _, _, u10, u11, u12, u13, ?_, ⟨hC.ow, hC.n13, hC.h0, hC.h1, hC.h2, hC.h3, hC.h4, hC.h5, hC.h6, hC.h7, hC.h8, fun _ => rfl, hC.h10, hC.h13⟩⟩
      (simp only [Act.put, List.setIfInBounds_toArray, List.set_cons_zero, List.set_cons_succ]) <;> rfl
    · obtain rfl := hC.h9 (hd 9 (by kernel_rfl))
      clear hd hcl
      refine wpOp_step rfl (fun K hK => ?_)
      go_simp
      refine hK _ _ ⟨u0, u1, u2, u3, u4, u5, u6, u7, u8, _, _, u11, u12, u13, ?_, ⟨hC.ow, hC.n13, hC.h0, hC.h1, hC.h2, hC.h3, hC.h4, hC.h5, hC.h6, hC.h7, hC.h8, hC.h9, fun _ => rfl, hC.h13⟩⟩
      (simp only [Act.put, List.setIfInBounds_toArray, List.set_cons_zero, List.set_cons_succ]) <;> rfl
    · obtain rfl := hC.h10 (hd 10 (by kernel_rfl))
      obtain ⟨l, how, h0, h1, h2⟩ := hC.ow
      obtain rfl := h0 hf
      have h8 : Ld 12 = false := cl_no hcl hf (by kernel_rfl)
      have ho := how.arr #[.int .u8 0] 1 rfl (by omega) 5
      simp only [List.cons_append, List.nil_append] at ho
      clear hd hcl
      refine wpOp_step rfl (fun K hK => ?_)
      go_simp
      refine hK _ _ ⟨u0, u1, u2, u3, u4, u5, u6, u7, u8, u9, _, _, u12, u13, ?_, ⟨⟨_, ho, (fun h => by cases h), (fun _ _ => ⟨_, rfl, rfl⟩), (fun h => absurd (h8.symm.trans h) (by decide))⟩, hC.n13, hC.h0, hC.h1, hC.h2, hC.h3, hC.h4, hC.h5, hC.h6, hC.h7, hC.h8, hC.h9, hC.h10, hC.h13⟩⟩
      (simp only [Act.put, List.setIfInBounds_toArray, List.set_cons_zero, List.set_cons_succ]) <;> rfl
    · obtain rfl := hC.h0 (hd 0 (by kernel_rfl))
      obtain ⟨l, how, h0, h1, h2⟩ := hC.ow
      have hl7 := hd 11 (by kernel_rfl)
      obtain ⟨lb, rfl, rfl⟩ := h1 hl7 hf
      have hsl := Sl.of_own (how.row 1 rfl)
      have hz13 : Ld 13 = false := cl_no hcl hf (by kernel_rfl)
      clear hd hcl
      refine wpOp_step rfl (fun K hK => ?_)
      rw [if_pos (by rfl)]
      refine owp_append elemU8 how 0 (.tmp 12) (.tmp 23) (m := 1) rfl rfl hsl (by intro u hu; simp at hu; subst hu; rfl) (by unfold maxLen; omega) (by omega) rfl rfl rfl ?_
      intro A2 c2 W2 hv
      have hv2 := hv.few 1
      refine hK _ _ ⟨(.slice none 0 0), u1, u2, u3, u4, u5, u6, u7, u8, u9, u10, (.slice (some ⟨lb, 0, none⟩) 1 1), (.slice A2 1 c2), u13, ?_, ⟨⟨_, hv2, (fun h => absurd (hl7.symm.trans h) (by decide)), (fun _ h => by cases h), (fun _ => ⟨A2, c2, rfl, rfl⟩)⟩, hC.n13, hC.h0, hC.h1, hC.h2, hC.h3, hC.h4, hC.h5, hC.h6, hC.h7, hC.h8, hC.h9, hC.h10, (fun h => absurd (hz13.symm.trans h) (by decide))⟩⟩
      (simp only [Act.put, List.setIfInBounds_toArray, List.set_cons_zero, List.set_cons_succ]) <;> rfl
    · obtain ⟨l, how, h0, h1, h2⟩ := hC.ow
      have ha := hd 12 (by kernel_rfl)
      obtain ⟨A2, c2, rfl, rfl⟩ := h2 ha
      have hl7 := hcl 12 11 ha (by kernel_rfl)
      clear hd hcl
      refine wpOp_step rfl (fun K hK => ?_)
      go_simp
      refine hK _ _ ⟨u0, u1, u2, u3, u4, u5, u6, u7, u8, u9, u10, u11, _, _, ?_, ⟨⟨_, how, (fun h => absurd (hl7.symm.trans h) (by decide)), (fun _ h => absurd (ha.symm.trans h) (by decide)), (fun _ => ⟨A2, c2, rfl, rfl⟩)⟩, (fun h => by cases h), hC.h0, hC.h1, hC.h2, hC.h3, hC.h4, hC.h5, hC.h6, hC.h7, hC.h8, hC.h9, hC.h10, fun _ => rfl⟩⟩
      (simp only [Act.put, List.setIfInBounds_toArray, List.set_cons_zero, List.set_cons_succ]) <;> rfl
  · rintro Ld b W hL ⟨u0, u1, u2, u3, u4, u5, u6, u7, u8, u9, u10, u11, u12, u13, rfl, hC⟩
    obtain ⟨l, how, -, -, h2⟩ := hC.ow
    obtain ⟨A1, q1, rfl, rfl⟩ := h2 (hL 12 (by show 12 < 14; decide))
    obtain rfl := hC.h13 (hL 13 (by show 13 < 14; decide))
    have HO1 := Lib.hid how
    clear hC hL how h2
    simp only [Act.put, List.setIfInBounds_toArray, List.set_cons_zero, List.set_cons_succ]
    go_wp2_with (with_reducible refine upon_id ?_; go_simp)
    rw [rounds_succ]
    go_upto_region 5 with (with_reducible refine upon_id ?_; go_simp)
    refine reg_inv34 (Bx1I w1 A1 q1) (by kernel_rfl) (by kernel_rfl) ?_ ?_ ?_
    · refine ⟨u0, u1, u2, u3, u4, u5, u6, u7, u8, u9, u10, u11, .slice A1 1 q1, .slice A1 1 q1, ?_, ⟨⟨_, HO1.out.drew, (fun _ => rfl), (fun h => by cases h), (fun h => by cases h)⟩, (fun _ => rfl), ?_, ?_, ?_, ?_, ?_, ?_, ?_, ?_, ?_, ?_, ?_, ?_⟩⟩
      · simp only [Act.put, List.setIfInBounds_toArray, List.set_cons_zero, List.set_cons_succ]
      all_goals (intro h; cases h)
    · rintro jj Ld b W hj hf hcl hd ⟨u0, u1, u2, u3, u4, u5, u6, u7, u8, u9, u10, u11, u12, u13, rfl, hC⟩
      have hj' : jj < 14 := hj
      have hcase : jj = 0 ∨ jj = 1 ∨ jj = 2 ∨ jj = 3 ∨ jj = 4 ∨ jj = 5 ∨ jj = 6 ∨ jj = 7 ∨ jj = 8 ∨ jj = 9 ∨ jj = 10 ∨ jj = 11 ∨ jj = 12 ∨ jj = 13 := by omega
      clear hj hj'
      simp only [Act.put, List.setIfInBounds_toArray, List.set_cons_zero, List.set_cons_succ]
      rcases hcase with rfl | rfl | rfl | rfl | rfl | rfl | rfl | rfl | rfl | rfl | rfl | rfl | rfl | rfl
      · obtain rfl := hC.n13 (cl_no hcl hf (by kernel_rfl))
        clear hd hcl
        refine wpOp_step rfl (fun K hK => ?_)
        go_simp
        refine hK _ _ ⟨_, u1, u2, u3, u4, u5, u6, u7, u8, u9, u10, u11, u12, _, ?_, ⟨hC.ow, hC.n13, fun _ => rfl, hC.h1, hC.h2, hC.h3, hC.h4, hC.h5, hC.h6, hC.h7, hC.h8, hC.h9, hC.h10, hC.h13⟩⟩
        (simp only [Act.put, List.setIfInBounds_toArray, List.set_cons_zero, List.set_cons_succ]) <;> rfl
      · clear hd hcl
        refine wpOp_step rfl (fun K hK => ?_)
        go_simp
        refine hK _ _ ⟨u0, _, u2, u3, u4, u5, u6, u7, u8, u9, u10, u11, u12, u13, ?_, ⟨hC.ow, hC.n13, hC.h0, fun _ => rfl, hC.h2, hC.h3, hC.h4, hC.h5, hC.h6, hC.h7, hC.h8, hC.h9, hC.h10, hC.h13⟩⟩
        (simp only [Act.put, List.setIfInBounds_toArray, List.set_cons_zero, List.set_cons_succ]) <;> rfl
      · obtain rfl := hC.h1 (hd 1 (by kernel_rfl))
        clear hd hcl
        refine wpOp_step rfl (fun K hK => ?_)
        go_simp
        refine hK _ _ ⟨u0, _, _, u3, u4, u5, u6, u7, u8, u9, u10, u11, u12, u13, ?_, ⟨hC.ow, hC.n13, hC.h0, hC.h1, fun _ => rfl, hC.h3, hC.h4, hC.h5, hC.h6, hC.h7, hC.h8, hC.h9, hC.h10, hC.h13⟩⟩
        (simp only [Act.put, List.setIfInBounds_toArray, List.set_cons_zero, List.set_cons_succ]) <;> rfl
      · obtain rfl := hC.h2 (hd 2 (by kernel_rfl))
        clear hd hcl
        refine wpOp_step rfl (fun K hK => ?_)
        go_simp
        refine (idx_f W).mono ?_
        rintro e W' ⟨rfl, rfl⟩
        refine hK _ _ ⟨u0, u1, _, _, u4, u5, u6, u7, u8, u9, u10, u11, u12, u13, ?_, ⟨hC.ow, hC.n13, hC.h0, hC.h1, hC.h2, fun _ => rfl, hC.h4, hC.h5, hC.h6, hC.h7, hC.h8, hC.h9, hC.h10, hC.h13⟩⟩
        (simp only [Act.put, List.setIfInBounds_toArray, List.set_cons_zero, List.set_cons_succ]) <;> rfl
      · obtain rfl := hC.h3 (hd 3 (by kernel_rfl))
        clear hd hcl
        refine wpOp_step rfl (fun K hK => ?_)
        go_simp
        refine hK _ _ ⟨u0, u1, u2, _, _, u5, u6, u7, u8, u9, u10, u11, u12, u13, ?_, ⟨hC.ow, hC.n13, hC.h0, hC.h1, hC.h2, hC.h3, fun _ => rfl, hC.h5, hC.h6, hC.h7, hC.h8, hC.h9, hC.h10, hC.h13⟩⟩
        (simp only [Act.put, List.setIfInBounds_toArray, List.set_cons_zero, List.set_cons_succ]) <;> rfl
      · clear hd hcl
        refine wpOp_step rfl (fun K hK => ?_)
        go_simp
        refine hK _ _ ⟨u0, u1, u2, u3, u4, _, u6, u7, u8, u9, u10, u11, u12, u13, ?_, ⟨hC.ow, hC.n13, hC.h0, hC.h1, hC.h2, hC.h3, hC.h4, fun _ => rfl, hC.h6, hC.h7, hC.h8, hC.h9, hC.h10, hC.h13⟩⟩
        (simp only [Act.put, List.setIfInBounds_toArray, List.set_cons_zero, List.set_cons_succ]) <;> rfl
      · obtain rfl := hC.h5 (hd 5 (by kernel_rfl))
        clear hd hcl
        refine wpOp_step rfl (fun K hK => ?_)
        go_simp
        refine hK _ _ ⟨u0, u1, u2, u3, u4, _, _, u7, u8, u9, u10, u11, u12, u13, ?_, ⟨hC.ow, hC.n13, hC.h0, hC.h1, hC.h2, hC.h3, hC.h4, hC.h5, fun _ => rfl, hC.h7, hC.h8, hC.h9, hC.h10, hC.h13⟩⟩
        (simp only [Act.put, List.setIfInBounds_toArray, List.set_cons_zero, List.set_cons_succ]) <;> rfl
      · obtain rfl := hC.h6 (hd 6 (by kernel_rfl))
        clear hd hcl
        refine wpOp_step rfl (fun K hK => ?_)
        go_simp
        refine (idx_f W).mono ?_
        rintro e W' ⟨rfl, rfl⟩
        refine hK _ _ ⟨u0, u1, u2, u3, u4, u5, _, _, u8, u9, u10, u11, u12, u13, ?_, ⟨hC.ow, hC.n13, hC.h0, hC.h1, hC.h2, hC.h3, hC.h4, hC.h5, hC.h6, fun _ => rfl, hC.h8, hC.h9, hC.h10, hC.h13⟩⟩
        (simp only [Act.put, List.setIfInBounds_toArray, List.set_cons_zero, List.set_cons_succ]) <;> rfl
      · obtain rfl := hC.h7 (hd 7 (by kernel_rfl))
        clear hd hcl
        refine wpOp_step rfl (fun K hK => ?_)
        go_simp
        refine hK _ _ ⟨u0, u1, u2, u3, u4, u5, u6, _, _, u9, u10, u11, u12, u13, ?_, ⟨hC.ow, hC.n13, hC.h0, hC.h1, hC.h2, hC.h3, hC.h4, hC.h5, hC.h6, hC.h7, fun _ => rfl, hC.h9, hC.h10, hC.h13⟩⟩
        (simp only [Act.put, List.setIfInBounds_toArray, List.set_cons_zero, List.set_cons_succ]) <;> rfl
      · obtain rfl := hC.h4 (hd 4 (by kernel_rfl))
        obtain rfl := hC.h8 (hd 8 (by kernel_rfl))
        clear hd hcl
        refine wpOp_step rfl (fun K hK => ?_)
        go_simp
        refine hK _ _ ⟨u0, u1, u2, u3, _, u5, u6, u7, _, _, u10, u11, u12, u13, ?_, ⟨hC.ow, hC.n13, hC.h0, hC.h1, hC.h2, hC.h3, hC.h4, hC.h5, hC.h6, hC.h7, hC.h8, fun _ => rfl, hC.h10, hC.h13⟩⟩
        (simp only [Act.put, List.setIfInBounds_toArray, List.set_cons_zero, List.set_cons_succ]) <;> rfl
      · obtain rfl := hC.h9 (hd 9 (by kernel_rfl))
        clear hd hcl
        refine wpOp_step rfl (fun K hK => ?_)
        go_simp
        refine hK _ _ ⟨u0, u1, u2, u3, u4, u5, u6, u7, u8, _, _, u11, u12, u13, ?_, ⟨hC.ow, hC.n13, hC.h0, hC.h1, hC.h2, hC.h3, hC.h4, hC.h5, hC.h6, hC.h7, hC.h8, hC.h9, fun _ => rfl, hC.h13⟩⟩
        (simp only [Act.put, List.setIfInBounds_toArray, List.set_cons_zero, List.set_cons_succ]) <;> rfl
      · obtain rfl := hC.h10 (hd 10 (by kernel_rfl))
        obtain ⟨l, how, h0, h1, h2⟩ := hC.ow
        obtain rfl := h0 hf
        have h8 : Ld 12 = false := cl_no hcl hf (by kernel_rfl)
        have ho := how.arr #[.int .u8 255] 1 rfl (by omega) 5
        simp only [List.cons_append, List.nil_append] at ho
        clear hd hcl
        refine wpOp_step rfl (fun K hK => ?_)
        go_simp
        refine hK _ _ ⟨u0, u1, u2, u3, u4, u5, u6, u7, u8, u9, _, _, u12, u13, ?_, ⟨⟨_, ho, (fun h => by cases h), (fun _ _ => ⟨_, rfl, rfl⟩), (fun h => absurd (h8.symm.trans h) (by decide))⟩, hC.n13, hC.h0, hC.h1, hC.h2, hC.h3, hC.h4, hC.h5, hC.h6, hC.h7, hC.h8, hC.h9, hC.h10, hC.h13⟩⟩
        (simp only [Act.put, List.setIfInBounds_toArray, List.set_cons_zero, List.set_cons_succ]) <;> rfl
      · obtain rfl := hC.h0 (hd 0 (by kernel_rfl))
        obtain ⟨l, how, h0, h1, h2⟩ := hC.ow
        have hl7 := hd 11 (by kernel_rfl)
        obtain ⟨lb, rfl, rfl⟩ := h1 hl7 hf
        have hsl := Sl.of_own (how.row 1 rfl)
        have hz13 : Ld 13 = false := cl_no hcl hf (by kernel_rfl)
        clear hd hcl
        refine wpOp_step rfl (fun K hK => ?_)
        rw [if_pos (by rfl)]
        refine owp_append elemU8 how 0 (.tmp 12) (.tmp 23) (m := 1) rfl rfl hsl (by intro u hu; simp at hu; subst hu; rfl) (by unfold maxLen; omega) (by omega) rfl rfl rfl ?_
        intro A2 c2 W2 hv
        have hv2 := hv.few 1
        refine hK _ _ ⟨(.slice A1 1 q1), u1, u2, u3, u4, u5, u6, u7, u8, u9, u10, (.slice (some ⟨lb, 0, none⟩) 1 1), (.slice A2 2 c2), u13, ?_, ⟨⟨_, hv2, (fun h => absurd (hl7.symm.trans h) (by decide)), (fun _ h => by cases h), (fun _ => ⟨A2, c2, rfl, rfl⟩)⟩, hC.n13, hC.h0, hC.h1, hC.h2, hC.h3, hC.h4, hC.h5, hC.h6, hC.h7, hC.h8, hC.h9, hC.h10, (fun h => absurd (hz13.symm.trans h) (by decide))⟩⟩
        (simp only [Act.put, List.setIfInBounds_toArray, List.set_cons_zero, List.set_cons_succ]) <;> rfl
      · obtain ⟨l, how, h0, h1, h2⟩ := hC.ow
        have ha := hd 12 (by kernel_rfl)
        obtain ⟨A2, c2, rfl, rfl⟩ := h2 ha
        have hl7 := hcl 12 11 ha (by kernel_rfl)
        clear hd hcl
        refine wpOp_step rfl (fun K hK => ?_)
        go_simp
        refine hK _ _ ⟨u0, u1, u2, u3, u4, u5, u6, u7, u8, u9, u10, u11, _, _, ?_, ⟨⟨_, how, (fun h => absurd (hl7.symm.trans h) (by decide)), (fun _ h => absurd (ha.symm.trans h) (by decide)), (fun _ => ⟨A2, c2, rfl, rfl⟩)⟩, (fun h => by cases h), hC.h0, hC.h1, hC.h2, hC.h3, hC.h4, hC.h5, hC.h6, hC.h7, hC.h8, hC.h9, hC.h10, fun _ => rfl⟩⟩
        (simp only [Act.put, List.setIfInBounds_toArray, List.set_cons_zero, List.set_cons_succ]) <;> rfl
    · rintro Ld b W hL ⟨u0, u1, u2, u3, u4, u5, u6, u7, u8, u9, u10, u11, u12, u13, rfl, hC⟩
      obtain ⟨l, how, -, -, h2⟩ := hC.ow
      obtain ⟨A2, q2, rfl, rfl⟩ := h2 (hL 12 (by show 12 < 14; decide))
      obtain rfl := hC.h13 (hL 13 (by show 13 < 14; decide))
      have HO2 := Lib.hid how
      clear hC hL how h2
      simp only [Act.put, List.setIfInBounds_toArray, List.set_cons_zero, List.set_cons_succ]
      go_wp2_with (with_reducible refine upon_id ?_; go_simp)
      rw [rounds_succ]
      go_wp2_with (with_reducible refine upon_id ?_; go_simp)
      go_ret
      exact ⟨_, _, rfl, HP.out.add (HO2.out.row 0 rfl) HO2.out.below⟩
set_option maxHeartbeats 2000000 in
theorem bytes_one {w0 w : World} {g : Option Nat} {M : List (Nat × Value)} {L : List Ob} {O' : List Rw} (rb : Nat)
    (HN : Calls Tryd.prog 28 #[.pointer (some ⟨rb, 0, none⟩)] w fun e w' => e = .returned (.string ⟨#[48, 48, 102]⟩) ∧ Ow w0 w' g M L O') :
    Calls Tryd.prog 50 #[.pointer (some ⟨rb, 0, none⟩)] w fun e w' => ∃ (A : Option Addr) (c : Nat), e = .returned (.slice A 1 c) ∧ Ow w0 w' g M L (O' ++ [⟨A, 1, c, 5, [.int .u8 0]⟩]) := by
  have HNx := Lib.hid HN
  clear HN
  go_enter Tryd.func50, Tryd.ntmps50
  go_wp2_with fail
  refine HNx.out.mono ?_
  rintro e w1 ⟨rfl, ho1⟩
  have HP := Lib.hid ho1
  have HO0 := Lib.hid ((Ow.of (St.refl w1)).nil 5)
  clear ho1 HNx
  go_wp2_with fail
  refine wp_loop_rounds 2 ?_
  rw [rounds_succ]
  go_upto_region 5 with (with_reducible refine upon_id ?_; go_simp)
  refine reg_inv34 (Bx2I w1 none 0) (by kernel_rfl) (by kernel_rfl) ?_ ?_ ?_
  · refine ⟨undef, undef, undef, undef, undef, undef, undef, undef, undef, undef, undef, undef, undef, .slice none 0 0, ?_, ⟨⟨_, HO0.out.drew, (fun _ => rfl), (fun h => by cases h), (fun h => by cases h)⟩, (fun _ => rfl), ?_, ?_, ?_, ?_, ?_, ?_, ?_, ?_, ?_, ?_, ?_, ?_⟩⟩
    · simp only [Act.put, List.setIfInBounds_toArray, List.set_cons_zero, List.set_cons_succ]
    all_goals (intro h; cases h)
  · rintro jj Ld b W hj hf hcl hd ⟨u0, u1, u2, u3, u4, u5, u6, u7, u8, u9, u10, u11, u12, u13, rfl, hC⟩
    have hj' : jj < 14 := hj
    have hcase : jj = 0 ∨ jj = 1 ∨ jj = 2 ∨ jj = 3 ∨ jj = 4 ∨ jj = 5 ∨ jj = 6 ∨ jj = 7 ∨ jj = 8 ∨ jj = 9 ∨ jj = 10 ∨ jj = 11 ∨ jj = 12 ∨ jj = 13 := by omega
    clear hj hj'
    simp only [Act.put, List.setIfInBounds_toArray, List.set_cons_zero, List.set_cons_succ]
    rcases hcase with rfl | rfl | rfl | rfl | rfl | rfl | rfl | rfl | rfl | rfl | rfl | rfl | rfl | rfl
    · obtain rfl := hC.n13 (cl_no hcl hf (by kernel_rfl))
      clear hd hcl
      refine wpOp_step rfl (fun K hK => ?_)
      go_simp
      refine hK _ _ ⟨_, u1, u2, u3, u4, u5, u6, u7, u8, u9, u10, u11, u12, _, ?_, ⟨hC.ow, hC.n13, fun _ => rfl, hC.h1, hC.h2, hC.h3, hC.h4, hC.h5, hC.h6, hC.h7, hC.h8, hC.h9, hC.h10, hC.h13⟩⟩
      (simp only [Act.put, List.setIfInBounds_toArray, List.set_cons_zero, List.set_cons_succ]) <;> rfl
    · clear hd hcl
      refine wpOp_step rfl (fun K hK => ?_)
      go_simp
      refine hK _ _ ⟨u0, _, u2, u3, u4, u5, u6, u7, u8, u9, u10, u11, u12, u13, ?_, ⟨hC.ow, hC.n13, hC.h0, fun _ => rfl, hC.h2, hC.h3, hC.h4, hC.h5, hC.h6, hC.h7, hC.h8, hC.h9, hC.h10, hC.h13⟩⟩
      (simp only [Act.put, List.setIfInBounds_toArray, List.set_cons_zero, List.set_cons_succ]) <;> rfl
    · obtain rfl := hC.h1 (hd 1 (by kernel_rfl))
      clear hd hcl
      refine wpOp_step rfl (fun K hK => ?_)
      go_simp
      refine hK _ _ ⟨u0, _, _, u3, u4, u5, u6, u7, u8, u9, u10, u11, u12, u13, ?_, ⟨hC.ow, hC.n13, hC.h0, hC.h1, fun _ => rfl, hC.h3, hC.h4, hC.h5, hC.h6, hC.h7, hC.h8, hC.h9, hC.h10, hC.h13⟩⟩
      (simp only [Act.put, List.setIfInBounds_toArray, List.set_cons_zero, List.set_cons_succ]) <;> rfl
    · obtain rfl := hC.h2 (hd 2 (by kernel_rfl))
      clear hd hcl
      refine wpOp_step rfl (fun K hK => ?_)
      go_simp
      refine (idx_0 W).mono ?_
      rintro e W' ⟨rfl, rfl⟩
      refine hK _ _ ⟨u0, u1, _, _, u4, u5, u6, u7, u8, u9, u10, u11, u12, u13, ?_, ⟨hC.ow, hC.n13, hC.h0, hC.h1, hC.h2, fun _ => rfl, hC.h4, hC.h5, hC.h6, hC.h7, hC.h8, hC.h9, hC.h10, hC.h13⟩⟩
      (simp only [Act.put, List.setIfInBounds_toArray, List.set_cons_zero, List.set_cons_succ]) <;> rfl
    · obtain rfl := hC.h3 (hd 3 (by kernel_rfl))
      clear hd hcl
      refine wpOp_step rfl (fun K hK => ?_)
      go_simp
      refine hK _ _ ⟨u0, u1, u2, _, _, u5, u6, u7, u8, u9, u10, u11, u12, u13, ?_, ⟨hC.ow, hC.n13, hC.h0, hC.h1, hC.h2, hC.h3, fun _ => rfl, hC.h5, hC.h6, hC.h7, hC.h8, hC.h9, hC.h10, hC.h13⟩⟩
      (simp only [Act.put, List.setIfInBounds_toArray, List.set_cons_zero, List.set_cons_succ]) <;> rfl
    · clear hd hcl
      refine wpOp_step rfl (fun K hK => ?_)
      go_simp
      refine hK _ _ ⟨u0, u1, u2, u3, u4, _, u6, u7, u8, u9, u10, u11, u12, u13, ?_, ⟨hC.ow, hC.n13, hC.h0, hC.h1, hC.h2, hC.h3, hC.h4, fun _ => rfl, hC.h6, hC.h7, hC.h8, hC.h9, hC.h10, hC.h13⟩⟩
      (simp only [Act.put, List.setIfInBounds_toArray, List.set_cons_zero, List.set_cons_succ]) <;> rfl
    · obtain rfl := hC.h5 (hd 5 (by kernel_rfl))
      clear hd hcl
      refine wpOp_step rfl (fun K hK => ?_)
      go_simp
      refine hK _ _ ⟨u0, u1, u2, u3, u4, _, _, u7, u8, u9, u10, u11, u12, u13, ?_, ⟨hC.ow, hC.n13, hC.h0, hC.h1, hC.h2, hC.h3, hC.h4, hC.h5, fun _ => rfl, hC.h7, hC.h8, hC.h9, hC.h10, hC.h13⟩⟩
      (simp only [Act.put, List.setIfInBounds_toArray, List.set_cons_zero, List.set_cons_succ]) <;> rfl
    · obtain rfl := hC.h6 (hd 6 (by kernel_rfl))
      clear hd hcl
      refine wpOp_step rfl (fun K hK => ?_)
      go_simp
      refine (idx_0 W).mono ?_
      rintro e W' ⟨rfl, rfl⟩
      refine hK _ _ ⟨u0, u1, u2, u3, u4, u5, _, _, u8, u9, u10, u11, u12, u13, ?_, ⟨hC.ow, hC.n13, hC.h0, hC.h1, hC.h2, hC.h3, hC.h4, hC.h5, hC.h6, fun _ => rfl, hC.h8, hC.h9, hC.h10, hC.h13⟩⟩
      (simp only [Act.put, List.setIfInBounds_toArray, List.set_cons_zero, List.set_cons_succ]) <;> rfl
    · obtain rfl := hC.h7 (hd 7 (by kernel_rfl))
      clear hd hcl
      refine wpOp_step rfl (fun K hK => ?_)
      go_simp
      refine hK _ _ ⟨u0, u1, u2, u3, u4, u5, u6, _, _, u9, u10, u11, u12, u13, ?_, ⟨hC.ow, hC.n13, hC.h0, hC.h1, hC.h2, hC.h3, hC.h4, hC.h5, hC.h6, hC.h7, fun _ => rfl, hC.h9, hC.h10, hC.h13⟩⟩
      (simp only [Act.put, List.setIfInBounds_toArray, List.set_cons_zero, List.set_cons_succ]) <;> rfl
    · obtain rfl := hC.h4 (hd 4 (by kernel_rfl))
      obtain rfl := hC.h8 (hd 8 (by kernel_rfl))
      clear hd hcl
      refine wpOp_step rfl (fun K hK => ?_)
      go_simp
      refine hK _ _ ⟨u0, u1, u2, u3, _, u5, u6, u7, _, _, u10, u11, u12, u13, ?_, ⟨hC.ow, hC.n13, hC.h0, hC.h1, hC.h2, hC.h3, hC.h4, hC.h5, hC.h6, hC.h7, hC.h8, fun _ => rfl, hC.h10, hC.h13⟩⟩
      (simp only [Act.put, List.setIfInBounds_toArray, List.set_cons_zero, List.set_cons_succ]) <;> rfl
    · obtain rfl := hC.h9 (hd 9 (by kernel_rfl))
      clear hd hcl
      refine wpOp_step rfl (fun K hK => ?_)
      go_simp
      refine hK _ _ ⟨u0, u1, u2, u3, u4, u5, u6, u7, u8, _, _, u11, u12, u13, ?_, ⟨hC.ow, hC.n13, hC.h0, hC.h1, hC.h2, hC.h3, hC.h4, hC.h5, hC.h6, hC.h7, hC.h8, hC.h9, fun _ => rfl, hC.h13⟩⟩
      (simp only [Act.put, List.setIfInBounds_toArray, List.set_cons_zero, List.set_cons_succ]) <;> rfl
    · obtain rfl := hC.h10 (hd 10 (by kernel_rfl))
      obtain ⟨l, how, h0, h1, h2⟩ := hC.ow
      obtain rfl := h0 hf
      have h8 : Ld 12 = false := cl_no hcl hf (by kernel_rfl)
      have ho := how.arr #[.int .u8 0] 1 rfl (by omega) 5
      simp only [List.cons_append, List.nil_append] at ho
      clear hd hcl
      refine wpOp_step rfl (fun K hK => ?_)
      go_simp
      refine hK _ _ ⟨u0, u1, u2, u3, u4, u5, u6, u7, u8, u9, _, _, u12, u13, ?_, ⟨⟨_, ho, (fun h => by cases h), (fun _ _ => ⟨_, rfl, rfl⟩), (fun h => absurd (h8.symm.trans h) (by decide))⟩, hC.n13, hC.h0, hC.h1, hC.h2, hC.h3, hC.h4, hC.h5, hC.h6, hC.h7, hC.h8, hC.h9, hC.h10, hC.h13⟩⟩
      (simp only [Act.put, List.setIfInBounds_toArray, List.set_cons_zero, List.set_cons_succ]) <;> rfl
    · obtain rfl := hC.h0 (hd 0 (by kernel_rfl))
      obtain ⟨l, how, h0, h1, h2⟩ := hC.ow
      have hl7 := hd 11 (by kernel_rfl)
      obtain ⟨lb, rfl, rfl⟩ := h1 hl7 hf
      have hsl := Sl.of_own (how.row 1 rfl)
      have hz13 : Ld 13 = false := cl_no hcl hf (by kernel_rfl)
      clear hd hcl
      refine wpOp_step rfl (fun K hK => ?_)
      rw [if_pos (by rfl)]
      refine owp_append elemU8 how 0 (.tmp 12) (.tmp 23) (m := 1) rfl rfl hsl (by intro u hu; simp at hu; subst hu; rfl) (by unfold maxLen; omega) (by omega) rfl rfl rfl ?_
      intro A2 c2 W2 hv
      have hv2 := hv.few 1
      refine hK _ _ ⟨(.slice none 0 0), u1, u2, u3, u4, u5, u6, u7, u8, u9, u10, (.slice (some ⟨lb, 0, none⟩) 1 1), (.slice A2 1 c2), u13, ?_, ⟨⟨_, hv2, (fun h => absurd (hl7.symm.trans h) (by decide)), (fun _ h => by cases h), (fun _ => ⟨A2, c2, rfl, rfl⟩)⟩, hC.n13, hC.h0, hC.h1, hC.h2, hC.h3, hC.h4, hC.h5, hC.h6, hC.h7, hC.h8, hC.h9, hC.h10, (fun h => absurd (hz13.symm.trans h) (by decide))⟩⟩
      (simp only [Act.put, List.setIfInBounds_toArray, List.set_cons_zero, List.set_cons_succ]) <;> rfl
    · obtain ⟨l, how, h0, h1, h2⟩ := hC.ow
      have ha := hd 12 (by kernel_rfl)
      obtain ⟨A2, c2, rfl, rfl⟩ := h2 ha
      have hl7 := hcl 12 11 ha (by kernel_rfl)
      clear hd hcl
      refine wpOp_step rfl (fun K hK => ?_)
      go_simp
      refine hK _ _ ⟨u0, u1, u2, u3, u4, u5, u6, u7, u8, u9, u10, u11, _, _, ?_, ⟨⟨_, how, (fun h => absurd (hl7.symm.trans h) (by decide)), (fun _ h => absurd (ha.symm.trans h) (by decide)), (fun _ => ⟨A2, c2, rfl, rfl⟩)⟩, (fun h => by cases h), hC.h0, hC.h1, hC.h2, hC.h3, hC.h4, hC.h5, hC.h6, hC.h7, hC.h8, hC.h9, hC.h10, fun _ => rfl⟩⟩
      (simp only [Act.put, List.setIfInBounds_toArray, List.set_cons_zero, List.set_cons_succ]) <;> rfl
  · rintro Ld b W hL ⟨u0, u1, u2, u3, u4, u5, u6, u7, u8, u9, u10, u11, u12, u13, rfl, hC⟩
    obtain ⟨l, how, -, -, h2⟩ := hC.ow
    obtain ⟨A1, q1, rfl, rfl⟩ := h2 (hL 12 (by show 12 < 14; decide))
    obtain rfl := hC.h13 (hL 13 (by show 13 < 14; decide))
    have HO1 := Lib.hid how
    clear hC hL how h2
    simp only [Act.put, List.setIfInBounds_toArray, List.set_cons_zero, List.set_cons_succ]
    go_wp2_with (with_reducible refine upon_id ?_; go_simp)
    rw [rounds_succ]
    go_wp2_with (with_reducible refine upon_id ?_; go_simp)
    go_ret
    exact ⟨_, _, rfl, HP.out.add (HO1.out.row 0 rfl) HO1.out.below⟩
end Go.Proofs.YtpcmbmabmfghkaaDoor

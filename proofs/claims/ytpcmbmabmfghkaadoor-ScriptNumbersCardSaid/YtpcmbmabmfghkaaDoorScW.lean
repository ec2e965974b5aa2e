/- script.text at two lists of bytes. -/
import Derived.Test.YtpcmbmabmfghkaaDoorScV
import Derived.BigQuiet
namespace Go.Proofs.YtpcmbmabmfghkaaDoor
open Go.RowKit
set_option linter.unusedVariables false
set_option maxRecDepth 100000
theorem elemU8 : Elem Tryd.prog 27 5 (.int .u8 0) 1 := by
  obtain ⟨i0, hi, hz0, hz1, hz2⟩ := info_parts infoB'
  exact ⟨Tryd.underlying27, rfl, i0, hi, hz0, hz1, hz2⟩
structure Tx0K (w0 : World) (A : Option Addr) (c : Nat) (Ld : Nat → Bool) (u0 u1 u2 u3 u4 u5 u6 u7 u8 u9 : Value) (W : World) : Prop where
  ow : ∃ l : List Rw, Ow w0 W none [] [] (l) ∧ (Ld 7 = false → l = [(⟨none, 0, 0, 5, []⟩ : Rw)]) ∧ (Ld 7 = true → Ld 8 = false → ∃ lb : Nat, u7 = .slice (some ⟨lb, 0, none⟩) 2 2 ∧ l = [(⟨none, 0, 0, 5, []⟩ : Rw), (⟨some ⟨lb, 0, none⟩, 2, 2, 5, [.int .u8 48, .int .u8 48]⟩ : Rw)]) ∧ (Ld 8 = true → ∃ (A2 : Option Addr) (c2 : Nat), u8 = .slice A2 2 c2 ∧ l = [(⟨A2, 2, c2, 5, [.int .u8 48, .int .u8 48]⟩ : Rw)])
  n9 : Ld 9 = false → u9 = .slice none 0 0
  h0 : Ld 0 = true → u0 = .slice none 0 0
  h1 : Ld 1 = true → u1 = .int .u8 0
  h2 : Ld 2 = true → u2 = .int .u8 0
  h3 : Ld 3 = true → u3 = .int .u8 48
  h4 : Ld 4 = true → u4 = .int .u8 0
  h5 : Ld 5 = true → u5 = .int .u8 0
  h6 : Ld 6 = true → u6 = .int .u8 48
  h9 : Ld 9 = true → u9 = u8
def Tx0I (w0 : World) (A : Option Addr) (c : Nat) (A0 : Act) (Ld : Nat → Bool) (a : Act) (W : World) : Prop :=
  ∃ (u0 u1 u2 u3 u4 u5 u6 u7 u8 u9 : Value), a = ((((((((((A0.put (some 12) u0).put (some 13) u1).put (some 14) u2).put (some 15) u3).put (some 16) u4).put (some 17) u5).put (some 18) u6).put (some 19) u7).put (some 20) u8).put (some 3) u9) ∧ Tx0K w0 A c Ld u0 u1 u2 u3 u4 u5 u6 u7 u8 u9 W
structure Tx1K (w0 : World) (A : Option Addr) (c : Nat) (Ld : Nat → Bool) (u0 u1 u2 u3 u4 u5 u6 u7 u8 u9 : Value) (W : World) : Prop where
  ow : ∃ l : List Rw, Ow w0 W none [] [] (l) ∧ (Ld 7 = false → l = [(⟨A, 2, c, 5, [.int .u8 48, .int .u8 48]⟩ : Rw)]) ∧ (Ld 7 = true → Ld 8 = false → ∃ lb : Nat, u7 = .slice (some ⟨lb, 0, none⟩) 2 2 ∧ l = [(⟨A, 2, c, 5, [.int .u8 48, .int .u8 48]⟩ : Rw), (⟨some ⟨lb, 0, none⟩, 2, 2, 5, [.int .u8 102, .int .u8 102]⟩ : Rw)]) ∧ (Ld 8 = true → ∃ (A2 : Option Addr) (c2 : Nat), u8 = .slice A2 4 c2 ∧ l = [(⟨A2, 4, c2, 5, [.int .u8 48, .int .u8 48, .int .u8 102, .int .u8 102]⟩ : Rw)])
  n9 : Ld 9 = false → u9 = .slice A 2 c
  h0 : Ld 0 = true → u0 = .slice A 2 c
  h1 : Ld 1 = true → u1 = .int .u8 255
  h2 : Ld 2 = true → u2 = .int .u8 15
  h3 : Ld 3 = true → u3 = .int .u8 102
  h4 : Ld 4 = true → u4 = .int .u8 255
  h5 : Ld 5 = true → u5 = .int .u8 15
  h6 : Ld 6 = true → u6 = .int .u8 102
  h9 : Ld 9 = true → u9 = u8
def Tx1I (w0 : World) (A : Option Addr) (c : Nat) (A0 : Act) (Ld : Nat → Bool) (a : Act) (W : World) : Prop :=
  ∃ (u0 u1 u2 u3 u4 u5 u6 u7 u8 u9 : Value), a = ((((((((((A0.put (some 12) u0).put (some 13) u1).put (some 14) u2).put (some 15) u3).put (some 16) u4).put (some 17) u5).put (some 18) u6).put (some 19) u7).put (some 20) u8).put (some 3) u9) ∧ Tx1K w0 A c Ld u0 u1 u2 u3 u4 u5 u6 u7 u8 u9 W
set_option maxHeartbeats 2000000 in
theorem text_two (w : World) (db c : Nat) (hdb : db < w.heap.size) (c0 : w.cell? ⟨db, 0, none⟩ = some (.int .u8 0)) (c1 : w.cell? ⟨db, 1, none⟩ = some (.int .u8 255)) :
    Calls Tryd.prog 58 #[.slice (some ⟨db, 0, none⟩) 2 c] w fun e w' => e = .returned (.string ⟨#[48, 48, 102, 102]⟩) ∧ Below w.heap.size w w' := by
  have HO0 := Lib.hid ((Ow.of (St.refl w)).nil 5)
  have HD := Lib.hid hdb
  clear hdb
  go_enter Tryd.func58, Tryd.ntmps58
  go_wp2_with fail
  refine wp_loop_rounds 3 ?_
  rw [rounds_succ]
  go_upto_region 5 with (with_reducible refine upon_id ?_; go_simp)
  refine reg_inv34 (Tx0I w none 0) (by kernel_rfl) (by kernel_rfl) ?_ ?_ ?_
  · refine ⟨undef, undef, undef, undef, undef, undef, undef, undef, undef, .slice none 0 0, ?_, ⟨⟨_, HO0.out.drew, (fun _ => rfl), (fun h => by cases h), (fun h => by cases h)⟩, (fun _ => rfl), ?_, ?_, ?_, ?_, ?_, ?_, ?_, ?_⟩⟩
    · simp only [Act.put, List.setIfInBounds_toArray, List.set_cons_zero, List.set_cons_succ]
    all_goals (intro h; cases h)
  · rintro jj Ld b W hj hf hcl hd ⟨u0, u1, u2, u3, u4, u5, u6, u7, u8, u9, rfl, hC⟩
    have hj' : jj < 10 := hj
    have hcase : jj = 0 ∨ jj = 1 ∨ jj = 2 ∨ jj = 3 ∨ jj = 4 ∨ jj = 5 ∨ jj = 6 ∨ jj = 7 ∨ jj = 8 ∨ jj = 9 := by omega
    clear hj hj'
    simp only [Act.put, List.setIfInBounds_toArray, List.set_cons_zero, List.set_cons_succ]
    rcases hcase with rfl | rfl | rfl | rfl | rfl | rfl | rfl | rfl | rfl | rfl
    · obtain rfl := hC.n9 (cl_no hcl hf (by kernel_rfl))
      clear hd hcl
      refine wpOp_step rfl (fun K hK => ?_)
      go_simp
      refine hK _ _ ⟨_, u1, u2, u3, u4, u5, u6, u7, u8, _, ?_, ⟨hC.ow, hC.n9, fun _ => rfl, hC.h1, hC.h2, hC.h3, hC.h4, hC.h5, hC.h6, hC.h9⟩⟩
      (simp only [Act.put, List.setIfInBounds_toArray, List.set_cons_zero, List.set_cons_succ]) <;> rfl
    · clear hd hcl
      refine wpOp_step rfl (fun K hK => ?_)
      go_simp
      refine hK _ _ ⟨u0, _, u2, u3, u4, u5, u6, u7, u8, u9, ?_, ⟨hC.ow, hC.n9, hC.h0, fun _ => rfl, hC.h2, hC.h3, hC.h4, hC.h5, hC.h6, hC.h9⟩⟩
      (simp only [Act.put, List.setIfInBounds_toArray, List.set_cons_zero, List.set_cons_succ]) <;> rfl
    · obtain rfl := hC.h1 (hd 1 (by kernel_rfl))
      clear hd hcl
      refine wpOp_step rfl (fun K hK => ?_)
      go_simp
      refine hK _ _ ⟨u0, _, _, u3, u4, u5, u6, u7, u8, u9, ?_, ⟨hC.ow, hC.n9, hC.h0, hC.h1, fun _ => rfl, hC.h3, hC.h4, hC.h5, hC.h6, hC.h9⟩⟩
      (simp only [Act.put, List.setIfInBounds_toArray, List.set_cons_zero, List.set_cons_succ]) <;> rfl
    · obtain rfl := hC.h2 (hd 2 (by kernel_rfl))
      clear hd hcl
      refine wpOp_step rfl (fun K hK => ?_)
      go_simp
      refine hK _ _ ⟨u0, u1, _, _, u4, u5, u6, u7, u8, u9, ?_, ⟨hC.ow, hC.n9, hC.h0, hC.h1, hC.h2, fun _ => rfl, hC.h4, hC.h5, hC.h6, hC.h9⟩⟩
      (simp only [Act.put, List.setIfInBounds_toArray, List.set_cons_zero, List.set_cons_succ]) <;> rfl
    · clear hd hcl
      refine wpOp_step rfl (fun K hK => ?_)
      go_simp
      refine hK _ _ ⟨u0, u1, u2, u3, _, u5, u6, u7, u8, u9, ?_, ⟨hC.ow, hC.n9, hC.h0, hC.h1, hC.h2, hC.h3, fun _ => rfl, hC.h5, hC.h6, hC.h9⟩⟩
      (simp only [Act.put, List.setIfInBounds_toArray, List.set_cons_zero, List.set_cons_succ]) <;> rfl
    · obtain rfl := hC.h4 (hd 4 (by kernel_rfl))
      clear hd hcl
      refine wpOp_step rfl (fun K hK => ?_)
      go_simp
      refine hK _ _ ⟨u0, u1, u2, u3, _, _, u6, u7, u8, u9, ?_, ⟨hC.ow, hC.n9, hC.h0, hC.h1, hC.h2, hC.h3, hC.h4, fun _ => rfl, hC.h6, hC.h9⟩⟩
      (simp only [Act.put, List.setIfInBounds_toArray, List.set_cons_zero, List.set_cons_succ]) <;> rfl
    · obtain rfl := hC.h5 (hd 5 (by kernel_rfl))
      clear hd hcl
      refine wpOp_step rfl (fun K hK => ?_)
      go_simp
      refine hK _ _ ⟨u0, u1, u2, u3, u4, _, _, u7, u8, u9, ?_, ⟨hC.ow, hC.n9, hC.h0, hC.h1, hC.h2, hC.h3, hC.h4, hC.h5, fun _ => rfl, hC.h9⟩⟩
      (simp only [Act.put, List.setIfInBounds_toArray, List.set_cons_zero, List.set_cons_succ]) <;> rfl
    · obtain rfl := hC.h3 (hd 3 (by kernel_rfl))
      obtain rfl := hC.h6 (hd 6 (by kernel_rfl))
      obtain ⟨l, how, h0, h1, h2⟩ := hC.ow
      obtain rfl := h0 hf
      have h8 : Ld 8 = false := cl_no hcl hf (by kernel_rfl)
      have ho := how.arr #[.int .u8 48, .int .u8 48] 2 rfl (by omega) 5
      simp only [List.cons_append, List.nil_append] at ho
      clear hd hcl
      refine wpOp_step rfl (fun K hK => ?_)
      go_simp
      refine hK _ _ ⟨u0, u1, u2, _, u4, u5, _, _, u8, u9, ?_, ⟨⟨_, ho, (fun h => by cases h), (fun _ _ => ⟨_, rfl, rfl⟩), (fun h => absurd (h8.symm.trans h) (by decide))⟩, hC.n9, hC.h0, hC.h1, hC.h2, hC.h3, hC.h4, hC.h5, hC.h6, hC.h9⟩⟩
      (simp only [Act.put, List.setIfInBounds_toArray, List.set_cons_zero, List.set_cons_succ]) <;> rfl
    · obtain rfl := hC.h0 (hd 0 (by kernel_rfl))
      obtain ⟨l, how, h0, h1, h2⟩ := hC.ow
      have hl7 := hd 7 (by kernel_rfl)
      obtain ⟨lb, rfl, rfl⟩ := h1 hl7 hf
      have hsl := Sl.of_own (how.row 1 rfl)
      have hz9 : Ld 9 = false := cl_no hcl hf (by kernel_rfl)
      clear hd hcl
      refine wpOp_step rfl (fun K hK => ?_)
      rw [if_pos (by rfl)]
      refine owp_append elemU8 how 0 (.tmp 12) (.tmp 19) (m := 2) rfl rfl hsl (by intro u hu; simp at hu; rcases hu with rfl | rfl <;> rfl) (by unfold maxLen; omega) (by omega) rfl rfl rfl ?_
      intro A2 c2 W2 hv
      have hv2 := hv.few 1
      refine hK _ _ ⟨(.slice none 0 0), u1, u2, u3, u4, u5, u6, (.slice (some ⟨lb, 0, none⟩) 2 2), (.slice A2 2 c2), u9, ?_, ⟨⟨_, hv2, (fun h => absurd (hl7.symm.trans h) (by decide)), (fun _ h => by cases h), (fun _ => ⟨A2, c2, rfl, rfl⟩)⟩, hC.n9, hC.h0, hC.h1, hC.h2, hC.h3, hC.h4, hC.h5, hC.h6, (fun h => absurd (hz9.symm.trans h) (by decide))⟩⟩
      (simp only [Act.put, List.setIfInBounds_toArray, List.set_cons_zero, List.set_cons_succ]) <;> rfl
    · obtain ⟨l, how, h0, h1, h2⟩ := hC.ow
      have ha := hd 8 (by kernel_rfl)
      obtain ⟨A2, c2, rfl, rfl⟩ := h2 ha
      have hl7 := hcl 8 7 ha (by kernel_rfl)
      clear hd hcl
      refine wpOp_step rfl (fun K hK => ?_)
      go_simp
      refine hK _ _ ⟨u0, u1, u2, u3, u4, u5, u6, u7, _, _, ?_, ⟨⟨_, how, (fun h => absurd (hl7.symm.trans h) (by decide)), (fun _ h => absurd (ha.symm.trans h) (by decide)), (fun _ => ⟨A2, c2, rfl, rfl⟩)⟩, (fun h => by cases h), hC.h0, hC.h1, hC.h2, hC.h3, hC.h4, hC.h5, hC.h6, fun _ => rfl⟩⟩
      (simp only [Act.put, List.setIfInBounds_toArray, List.set_cons_zero, List.set_cons_succ]) <;> rfl
  · rintro Ld b W hL ⟨u0, u1, u2, u3, u4, u5, u6, u7, u8, u9, rfl, hC⟩
    obtain ⟨l, how, -, -, h2⟩ := hC.ow
    obtain ⟨A1, q1, rfl, rfl⟩ := h2 (hL 8 (by show 8 < 10; decide))
    obtain rfl := hC.h9 (hL 9 (by show 9 < 10; decide))
    have HO1 := Lib.hid how
    have d1_0 : W.cell? ⟨db, 1, none⟩ = some (.int .u8 255) := (HO1.out.below.cell HD.out).trans c1
    clear hC hL how h2
    simp only [Act.put, List.setIfInBounds_toArray, List.set_cons_zero, List.set_cons_succ]
    skip
    go_wp2_with (with_reducible refine upon_id ?_; go_simp)
    rw [rounds_succ]
    go_upto_region 5 with (with_reducible refine upon_id ?_; go_simp)
    refine reg_inv34 (Tx1I w A1 q1) (by kernel_rfl) (by kernel_rfl) ?_ ?_ ?_
    · refine ⟨u0, u1, u2, u3, u4, u5, u6, u7, .slice A1 2 q1, .slice A1 2 q1, ?_, ⟨⟨_, HO1.out.drew, (fun _ => rfl), (fun h => by cases h), (fun h => by cases h)⟩, (fun _ => rfl), ?_, ?_, ?_, ?_, ?_, ?_, ?_, ?_⟩⟩
      · simp only [Act.put, List.setIfInBounds_toArray, List.set_cons_zero, List.set_cons_succ]
      all_goals (intro h; cases h)
    · rintro jj Ld b W hj hf hcl hd ⟨u0, u1, u2, u3, u4, u5, u6, u7, u8, u9, rfl, hC⟩
      have hj' : jj < 10 := hj
      have hcase : jj = 0 ∨ jj = 1 ∨ jj = 2 ∨ jj = 3 ∨ jj = 4 ∨ jj = 5 ∨ jj = 6 ∨ jj = 7 ∨ jj = 8 ∨ jj = 9 := by omega
      clear hj hj'
      simp only [Act.put, List.setIfInBounds_toArray, List.set_cons_zero, List.set_cons_succ]
      rcases hcase with rfl | rfl | rfl | rfl | rfl | rfl | rfl | rfl | rfl | rfl
      · obtain rfl := hC.n9 (cl_no hcl hf (by kernel_rfl))
        clear hd hcl
        refine wpOp_step rfl (fun K hK => ?_)
        go_simp
        refine hK _ _ ⟨_, u1, u2, u3, u4, u5, u6, u7, u8, _, ?_, ⟨hC.ow, hC.n9, fun _ => rfl, hC.h1, hC.h2, hC.h3, hC.h4, hC.h5, hC.h6, hC.h9⟩⟩
        (simp only [Act.put, List.setIfInBounds_toArray, List.set_cons_zero, List.set_cons_succ]) <;> rfl
      · clear hd hcl
        refine wpOp_step rfl (fun K hK => ?_)
        go_simp
        refine hK _ _ ⟨u0, _, u2, u3, u4, u5, u6, u7, u8, u9, ?_, ⟨hC.ow, hC.n9, hC.h0, fun _ => rfl, hC.h2, hC.h3, hC.h4, hC.h5, hC.h6, hC.h9⟩⟩
        (simp only [Act.put, List.setIfInBounds_toArray, List.set_cons_zero, List.set_cons_succ]) <;> rfl
      · obtain rfl := hC.h1 (hd 1 (by kernel_rfl))
        clear hd hcl
        refine wpOp_step rfl (fun K hK => ?_)
        go_simp
        refine hK _ _ ⟨u0, _, _, u3, u4, u5, u6, u7, u8, u9, ?_, ⟨hC.ow, hC.n9, hC.h0, hC.h1, fun _ => rfl, hC.h3, hC.h4, hC.h5, hC.h6, hC.h9⟩⟩
        (simp only [Act.put, List.setIfInBounds_toArray, List.set_cons_zero, List.set_cons_succ]) <;> rfl
      · obtain rfl := hC.h2 (hd 2 (by kernel_rfl))
        clear hd hcl
        refine wpOp_step rfl (fun K hK => ?_)
        go_simp
        refine hK _ _ ⟨u0, u1, _, _, u4, u5, u6, u7, u8, u9, ?_, ⟨hC.ow, hC.n9, hC.h0, hC.h1, hC.h2, fun _ => rfl, hC.h4, hC.h5, hC.h6, hC.h9⟩⟩
        (simp only [Act.put, List.setIfInBounds_toArray, List.set_cons_zero, List.set_cons_succ]) <;> rfl
      · clear hd hcl
        refine wpOp_step rfl (fun K hK => ?_)
        go_simp
        refine hK _ _ ⟨u0, u1, u2, u3, _, u5, u6, u7, u8, u9, ?_, ⟨hC.ow, hC.n9, hC.h0, hC.h1, hC.h2, hC.h3, fun _ => rfl, hC.h5, hC.h6, hC.h9⟩⟩
        (simp only [Act.put, List.setIfInBounds_toArray, List.set_cons_zero, List.set_cons_succ]) <;> rfl
      · obtain rfl := hC.h4 (hd 4 (by kernel_rfl))
        clear hd hcl
        refine wpOp_step rfl (fun K hK => ?_)
        go_simp
        refine hK _ _ ⟨u0, u1, u2, u3, _, _, u6, u7, u8, u9, ?_, ⟨hC.ow, hC.n9, hC.h0, hC.h1, hC.h2, hC.h3, hC.h4, fun _ => rfl, hC.h6, hC.h9⟩⟩
        (simp only [Act.put, List.setIfInBounds_toArray, List.set_cons_zero, List.set_cons_succ]) <;> rfl
      · obtain rfl := hC.h5 (hd 5 (by kernel_rfl))
        clear hd hcl
        refine wpOp_step rfl (fun K hK => ?_)
        go_simp
        refine hK _ _ ⟨u0, u1, u2, u3, u4, _, _, u7, u8, u9, ?_, ⟨hC.ow, hC.n9, hC.h0, hC.h1, hC.h2, hC.h3, hC.h4, hC.h5, fun _ => rfl, hC.h9⟩⟩
        (simp only [Act.put, List.setIfInBounds_toArray, List.set_cons_zero, List.set_cons_succ]) <;> rfl
      · obtain rfl := hC.h3 (hd 3 (by kernel_rfl))
        obtain rfl := hC.h6 (hd 6 (by kernel_rfl))
        obtain ⟨l, how, h0, h1, h2⟩ := hC.ow
        obtain rfl := h0 hf
        have h8 : Ld 8 = false := cl_no hcl hf (by kernel_rfl)
        have ho := how.arr #[.int .u8 102, .int .u8 102] 2 rfl (by omega) 5
        simp only [List.cons_append, List.nil_append] at ho
        clear hd hcl
        refine wpOp_step rfl (fun K hK => ?_)
        go_simp
        refine hK _ _ ⟨u0, u1, u2, _, u4, u5, _, _, u8, u9, ?_, ⟨⟨_, ho, (fun h => by cases h), (fun _ _ => ⟨_, rfl, rfl⟩), (fun h => absurd (h8.symm.trans h) (by decide))⟩, hC.n9, hC.h0, hC.h1, hC.h2, hC.h3, hC.h4, hC.h5, hC.h6, hC.h9⟩⟩
        (simp only [Act.put, List.setIfInBounds_toArray, List.set_cons_zero, List.set_cons_succ]) <;> rfl
      · obtain rfl := hC.h0 (hd 0 (by kernel_rfl))
        obtain ⟨l, how, h0, h1, h2⟩ := hC.ow
        have hl7 := hd 7 (by kernel_rfl)
        obtain ⟨lb, rfl, rfl⟩ := h1 hl7 hf
        have hsl := Sl.of_own (how.row 1 rfl)
        have hz9 : Ld 9 = false := cl_no hcl hf (by kernel_rfl)
        clear hd hcl
        refine wpOp_step rfl (fun K hK => ?_)
        rw [if_pos (by rfl)]
        refine owp_append elemU8 how 0 (.tmp 12) (.tmp 19) (m := 2) rfl rfl hsl (by intro u hu; simp at hu; rcases hu with rfl | rfl <;> rfl) (by unfold maxLen; omega) (by omega) rfl rfl rfl ?_
        intro A2 c2 W2 hv
        have hv2 := hv.few 1
        refine hK _ _ ⟨(.slice A1 2 q1), u1, u2, u3, u4, u5, u6, (.slice (some ⟨lb, 0, none⟩) 2 2), (.slice A2 4 c2), u9, ?_, ⟨⟨_, hv2, (fun h => absurd (hl7.symm.trans h) (by decide)), (fun _ h => by cases h), (fun _ => ⟨A2, c2, rfl, rfl⟩)⟩, hC.n9, hC.h0, hC.h1, hC.h2, hC.h3, hC.h4, hC.h5, hC.h6, (fun h => absurd (hz9.symm.trans h) (by decide))⟩⟩
        (simp only [Act.put, List.setIfInBounds_toArray, List.set_cons_zero, List.set_cons_succ]) <;> rfl
      · obtain ⟨l, how, h0, h1, h2⟩ := hC.ow
        have ha := hd 8 (by kernel_rfl)
        obtain ⟨A2, c2, rfl, rfl⟩ := h2 ha
        have hl7 := hcl 8 7 ha (by kernel_rfl)
        clear hd hcl
        refine wpOp_step rfl (fun K hK => ?_)
        go_simp
        refine hK _ _ ⟨u0, u1, u2, u3, u4, u5, u6, u7, _, _, ?_, ⟨⟨_, how, (fun h => absurd (hl7.symm.trans h) (by decide)), (fun _ h => absurd (ha.symm.trans h) (by decide)), (fun _ => ⟨A2, c2, rfl, rfl⟩)⟩, (fun h => by cases h), hC.h0, hC.h1, hC.h2, hC.h3, hC.h4, hC.h5, hC.h6, fun _ => rfl⟩⟩
        (simp only [Act.put, List.setIfInBounds_toArray, List.set_cons_zero, List.set_cons_succ]) <;> rfl
    · rintro Ld b W hL ⟨u0, u1, u2, u3, u4, u5, u6, u7, u8, u9, rfl, hC⟩
      obtain ⟨l, how, -, -, h2⟩ := hC.ow
      obtain ⟨A2, q2, rfl, rfl⟩ := h2 (hL 8 (by show 8 < 10; decide))
      obtain rfl := hC.h9 (hL 9 (by show 9 < 10; decide))
      have HO2 := Lib.hid how
      clear hC hL how h2
      simp only [Act.put, List.setIfInBounds_toArray, List.set_cons_zero, List.set_cons_succ]
      skip
      go_wp2_with (with_reducible refine upon_id ?_; go_simp)
      rw [rounds_succ]
      obtain ⟨gb, rfl, -, -⟩ := own_form (HO2.out.row 0 rfl) (by omega)
      have z0 : W.cell? ⟨gb, 0, none⟩ = some (.int .u8 48) := (HO2.out.row 0 rfl).cellAt 0 (by decide)
      have z1 : W.cell? ⟨gb, 1, none⟩ = some (.int .u8 48) := (HO2.out.row 0 rfl).cellAt 1 (by decide)
      have z2 : W.cell? ⟨gb, 2, none⟩ = some (.int .u8 102) := (HO2.out.row 0 rfl).cellAt 2 (by decide)
      have z3 : W.cell? ⟨gb, 3, none⟩ = some (.int .u8 102) := (HO2.out.row 0 rfl).cellAt 3 (by decide)
      have hconv : (convert 27 9 (.slice (some ⟨gb, 0, none⟩) 4 q2)).run Tryd.prog W = .ok (.string ⟨#[48, 48, 102, 102]⟩) W := run_convert_bytes_back W 27 9 5 ⟨gb, 0, none⟩ q2 [48, 48, 102, 102] Tryd.underlying27 Tryd.underlying5 Tryd.underlying9 (fun j hj => by
        rw [add_zero]
        rcases j with _ | _ | _ | _ | j
        · exact z0
        · exact z1
        · exact z2
        · exact z3
        · exact absurd hj (by simp))
      go_wp2_with (with_reducible refine upon_id ?_; go_simp)
      go_ret
      exact ⟨rfl, HO2.out.below⟩
set_option maxHeartbeats 2000000 in
theorem text_one (w : World) (db c : Nat) (hdb : db < w.heap.size) (c0 : w.cell? ⟨db, 0, none⟩ = some (.int .u8 0)) :
    Calls Tryd.prog 58 #[.slice (some ⟨db, 0, none⟩) 1 c] w fun e w' => e = .returned (.string ⟨#[48, 48]⟩) ∧ Below w.heap.size w w' := by
  have HO0 := Lib.hid ((Ow.of (St.refl w)).nil 5)
  have HD := Lib.hid hdb
  clear hdb
  go_enter Tryd.func58, Tryd.ntmps58
  go_wp2_with fail
  refine wp_loop_rounds 2 ?_
  rw [rounds_succ]
  go_upto_region 5 with (with_reducible refine upon_id ?_; go_simp)
  refine reg_inv34 (Tx0I w none 0) (by kernel_rfl) (by kernel_rfl) ?_ ?_ ?_
  · refine ⟨undef, undef, undef, undef, undef, undef, undef, undef, undef, .slice none 0 0, ?_, ⟨⟨_, HO0.out.drew, (fun _ => rfl), (fun h => by cases h), (fun h => by cases h)⟩, (fun _ => rfl), ?_, ?_, ?_, ?_, ?_, ?_, ?_, ?_⟩⟩
    · simp only [Act.put, List.setIfInBounds_toArray, List.set_cons_zero, List.set_cons_succ]
    all_goals (intro h; cases h)
  · rintro jj Ld b W hj hf hcl hd ⟨u0, u1, u2, u3, u4, u5, u6, u7, u8, u9, rfl, hC⟩
    have hj' : jj < 10 := hj
    have hcase : jj = 0 ∨ jj = 1 ∨ jj = 2 ∨ jj = 3 ∨ jj = 4 ∨ jj = 5 ∨ jj = 6 ∨ jj = 7 ∨ jj = 8 ∨ jj = 9 := by omega
    clear hj hj'
    simp only [Act.put, List.setIfInBounds_toArray, List.set_cons_zero, List.set_cons_succ]
    rcases hcase with rfl | rfl | rfl | rfl | rfl | rfl | rfl | rfl | rfl | rfl
    · obtain rfl := hC.n9 (cl_no hcl hf (by kernel_rfl))
      clear hd hcl
      refine wpOp_step rfl (fun K hK => ?_)
      go_simp
      refine hK _ _ ⟨_, u1, u2, u3, u4, u5, u6, u7, u8, _, ?_, ⟨hC.ow, hC.n9, fun _ => rfl, hC.h1, hC.h2, hC.h3, hC.h4, hC.h5, hC.h6, hC.h9⟩⟩
      (simp only [Act.put, List.setIfInBounds_toArray, List.set_cons_zero, List.set_cons_succ]) <;> rfl
    · clear hd hcl
      refine wpOp_step rfl (fun K hK => ?_)
      go_simp
      refine hK _ _ ⟨u0, _, u2, u3, u4, u5, u6, u7, u8, u9, ?_, ⟨hC.ow, hC.n9, hC.h0, fun _ => rfl, hC.h2, hC.h3, hC.h4, hC.h5, hC.h6, hC.h9⟩⟩
      (simp only [Act.put, List.setIfInBounds_toArray, List.set_cons_zero, List.set_cons_succ]) <;> rfl
    · obtain rfl := hC.h1 (hd 1 (by kernel_rfl))
      clear hd hcl
      refine wpOp_step rfl (fun K hK => ?_)
      go_simp
      refine hK _ _ ⟨u0, _, _, u3, u4, u5, u6, u7, u8, u9, ?_, ⟨hC.ow, hC.n9, hC.h0, hC.h1, fun _ => rfl, hC.h3, hC.h4, hC.h5, hC.h6, hC.h9⟩⟩
      (simp only [Act.put, List.setIfInBounds_toArray, List.set_cons_zero, List.set_cons_succ]) <;> rfl
    · obtain rfl := hC.h2 (hd 2 (by kernel_rfl))
      clear hd hcl
      refine wpOp_step rfl (fun K hK => ?_)
      go_simp
      refine hK _ _ ⟨u0, u1, _, _, u4, u5, u6, u7, u8, u9, ?_, ⟨hC.ow, hC.n9, hC.h0, hC.h1, hC.h2, fun _ => rfl, hC.h4, hC.h5, hC.h6, hC.h9⟩⟩
      (simp only [Act.put, List.setIfInBounds_toArray, List.set_cons_zero, List.set_cons_succ]) <;> rfl
    · clear hd hcl
      refine wpOp_step rfl (fun K hK => ?_)
      go_simp
      refine hK _ _ ⟨u0, u1, u2, u3, _, u5, u6, u7, u8, u9, ?_, ⟨hC.ow, hC.n9, hC.h0, hC.h1, hC.h2, hC.h3, fun _ => rfl, hC.h5, hC.h6, hC.h9⟩⟩
      (simp only [Act.put, List.setIfInBounds_toArray, List.set_cons_zero, List.set_cons_succ]) <;> rfl
    · obtain rfl := hC.h4 (hd 4 (by kernel_rfl))
      clear hd hcl
      refine wpOp_step rfl (fun K hK => ?_)
      go_simp
      refine hK _ _ ⟨u0, u1, u2, u3, _, _, u6, u7, u8, u9, ?_, ⟨hC.ow, hC.n9, hC.h0, hC.h1, hC.h2, hC.h3, hC.h4, fun _ => rfl, hC.h6, hC.h9⟩⟩
      (simp only [Act.put, List.setIfInBounds_toArray, List.set_cons_zero, List.set_cons_succ]) <;> rfl
    · obtain rfl := hC.h5 (hd 5 (by kernel_rfl))
      clear hd hcl
      refine wpOp_step rfl (fun K hK => ?_)
      go_simp
      refine hK _ _ ⟨u0, u1, u2, u3, u4, _, _, u7, u8, u9, ?_, ⟨hC.ow, hC.n9, hC.h0, hC.h1, hC.h2, hC.h3, hC.h4, hC.h5, fun _ => rfl, hC.h9⟩⟩
      (simp only [Act.put, List.setIfInBounds_toArray, List.set_cons_zero, List.set_cons_succ]) <;> rfl
    · obtain rfl := hC.h3 (hd 3 (by kernel_rfl))
      obtain rfl := hC.h6 (hd 6 (by kernel_rfl))
      obtain ⟨l, how, h0, h1, h2⟩ := hC.ow
      obtain rfl := h0 hf
      have h8 : Ld 8 = false := cl_no hcl hf (by kernel_rfl)
      have ho := how.arr #[.int .u8 48, .int .u8 48] 2 rfl (by omega) 5
      simp only [List.cons_append, List.nil_append] at ho
      clear hd hcl
      refine wpOp_step rfl (fun K hK => ?_)
      go_simp
      refine hK _ _ ⟨u0, u1, u2, _, u4, u5, _, _, u8, u9, ?_, ⟨⟨_, ho, (fun h => by cases h), (fun _ _ => ⟨_, rfl, rfl⟩), (fun h => absurd (h8.symm.trans h) (by decide))⟩, hC.n9, hC.h0, hC.h1, hC.h2, hC.h3, hC.h4, hC.h5, hC.h6, hC.h9⟩⟩
      (simp only [Act.put, List.setIfInBounds_toArray, List.set_cons_zero, List.set_cons_succ]) <;> rfl
    · obtain rfl := hC.h0 (hd 0 (by kernel_rfl))
      obtain ⟨l, how, h0, h1, h2⟩ := hC.ow
      have hl7 := hd 7 (by kernel_rfl)
      obtain ⟨lb, rfl, rfl⟩ := h1 hl7 hf
      have hsl := Sl.of_own (how.row 1 rfl)
      have hz9 : Ld 9 = false := cl_no hcl hf (by kernel_rfl)
      clear hd hcl
      refine wpOp_step rfl (fun K hK => ?_)
      rw [if_pos (by rfl)]
      refine owp_append elemU8 how 0 (.tmp 12) (.tmp 19) (m := 2) rfl rfl hsl (by intro u hu; simp at hu; rcases hu with rfl | rfl <;> rfl) (by unfold maxLen; omega) (by omega) rfl rfl rfl ?_
      intro A2 c2 W2 hv
      have hv2 := hv.few 1
      refine hK _ _ ⟨(.slice none 0 0), u1, u2, u3, u4, u5, u6, (.slice (some ⟨lb, 0, none⟩) 2 2), (.slice A2 2 c2), u9, ?_, ⟨⟨_, hv2, (fun h => absurd (hl7.symm.trans h) (by decide)), (fun _ h => by cases h), (fun _ => ⟨A2, c2, rfl, rfl⟩)⟩, hC.n9, hC.h0, hC.h1, hC.h2, hC.h3, hC.h4, hC.h5, hC.h6, (fun h => absurd (hz9.symm.trans h) (by decide))⟩⟩
      (simp only [Act.put, List.setIfInBounds_toArray, List.set_cons_zero, List.set_cons_succ]) <;> rfl
    · obtain ⟨l, how, h0, h1, h2⟩ := hC.ow
      have ha := hd 8 (by kernel_rfl)
      obtain ⟨A2, c2, rfl, rfl⟩ := h2 ha
      have hl7 := hcl 8 7 ha (by kernel_rfl)
      clear hd hcl
      refine wpOp_step rfl (fun K hK => ?_)
      go_simp
      refine hK _ _ ⟨u0, u1, u2, u3, u4, u5, u6, u7, _, _, ?_, ⟨⟨_, how, (fun h => absurd (hl7.symm.trans h) (by decide)), (fun _ h => absurd (ha.symm.trans h) (by decide)), (fun _ => ⟨A2, c2, rfl, rfl⟩)⟩, (fun h => by cases h), hC.h0, hC.h1, hC.h2, hC.h3, hC.h4, hC.h5, hC.h6, fun _ => rfl⟩⟩
      (simp only [Act.put, List.setIfInBounds_toArray, List.set_cons_zero, List.set_cons_succ]) <;> rfl
  · rintro Ld b W hL ⟨u0, u1, u2, u3, u4, u5, u6, u7, u8, u9, rfl, hC⟩
    obtain ⟨l, how, -, -, h2⟩ := hC.ow
    obtain ⟨A1, q1, rfl, rfl⟩ := h2 (hL 8 (by show 8 < 10; decide))
    obtain rfl := hC.h9 (hL 9 (by show 9 < 10; decide))
    have HO1 := Lib.hid how
    clear hC hL how h2
    simp only [Act.put, List.setIfInBounds_toArray, List.set_cons_zero, List.set_cons_succ]
    skip
    go_wp2_with (with_reducible refine upon_id ?_; go_simp)
    rw [rounds_succ]
    obtain ⟨gb, rfl, -, -⟩ := own_form (HO1.out.row 0 rfl) (by omega)
    have z0 : W.cell? ⟨gb, 0, none⟩ = some (.int .u8 48) := (HO1.out.row 0 rfl).cellAt 0 (by decide)
    have z1 : W.cell? ⟨gb, 1, none⟩ = some (.int .u8 48) := (HO1.out.row 0 rfl).cellAt 1 (by decide)
    have hconv : (convert 27 9 (.slice (some ⟨gb, 0, none⟩) 2 q1)).run Tryd.prog W = .ok (.string ⟨#[48, 48]⟩) W := run_convert_bytes_back W 27 9 5 ⟨gb, 0, none⟩ q1 [48, 48] Tryd.underlying27 Tryd.underlying5 Tryd.underlying9 (fun j hj => by
      rw [add_zero]
      rcases j with _ | _ | j
      · exact z0
      · exact z1
      · exact absurd hj (by simp))
    go_wp2_with (with_reducible refine upon_id ?_; go_simp)
    go_ret
    exact ⟨rfl, HO1.out.below⟩
end Go.Proofs.YtpcmbmabmfghkaaDoor

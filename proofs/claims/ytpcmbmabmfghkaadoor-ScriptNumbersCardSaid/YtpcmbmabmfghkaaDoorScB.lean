/- script.line: the closure 'one'. -/
import Derived.Test.YtpcmbmabmfghkaaDoorScA
import Derived.Test.YtpcmbmabmfghkaaDoorRegB
import Derived.Test.YtpcmbmabmfghkaaDoorRm
import Derived.Test.YtpcmbmabmfghkaaDoorXa
namespace Go.Proofs.YtpcmbmabmfghkaaDoor
open Go.RowKit
open Go.ChangeMaps (setBlock heap_setBlock_same heap_setBlock_other)
set_option linter.unusedVariables false
set_option maxRecDepth 100000
theorem get_set {α : Type} {O : List α} {i : Nat} {r r' : α} (h : O[i]? = some r) : (O.set i r')[i]? = some r' := List.getElem?_set_self (get_lt h)
theorem cl_no {ops : Array Oper} {Ld : Nat → Bool} {i j : Nat} (hcl : Closed ops Ld) (h : Ld i = false) (hp : (preds .any ops j).elem i = true) : Ld j = false := by
  cases e : Ld j with
  | false => rfl
  | true =>
    rw [hcl j i e hp] at h
    cases h
theorem sizeWd : (Tryd.prog.info? 69).map (·.size) = some 3 := by kernel_rfl
theorem sizeEv : (Tryd.prog.info? 37).map (·.size) = some 26 := by kernel_rfl
structure LoK (w0 : World) (g : Option Nat) (M : List (Nat × Value)) (L : List Ob) (P : List Rw) (eb tb sb : Nat) (S : ByteArray) (k av : Int) (Ld : Nat → Bool) (u0 u1 u2 u3 u4 u5 u6 u7 u8 u9 : Value) (W : World) : Prop where
  ow : ∃ l : List Rw, Ow w0 W g M L (P ++ ((⟨some ⟨tb, 0, none⟩, 3, 3, 69, cond (Ld 10) [.string S, u3, .string ⟨#[]⟩] [.string ⟨#[]⟩, .slice none 0 0, .string ⟨#[]⟩]⟩ : Rw) :: (⟨some ⟨sb, 0, none⟩, 26, 26, 37, cond (Ld 11) [.int .i64 k, .int .i64 av, .int .i64 0, .int .i64 0, .int .i64 0, .int .i64 0, .int .i64 0, .int .i64 0, .slice none 0 0, .int .i64 0, .int .i64 0, .int .i64 0, .int .i64 0, .int .i64 0, .int .i64 0, .int .i64 0, .int .i64 0, .int .u8 0, .int .u8 0, .bool false, .int .i64 0, .int .i64 0, .int .i64 0, .int .i64 0, .bool false, .bool false] [.int .i64 0, .int .i64 0, .int .i64 0, .int .i64 0, .int .i64 0, .int .i64 0, .int .i64 0, .int .i64 0, .slice none 0 0, .int .i64 0, .int .i64 0, .int .i64 0, .int .i64 0, .int .i64 0, .int .i64 0, .int .i64 0, .int .i64 0, .int .u8 0, .int .u8 0, .bool false, .int .i64 0, .int .i64 0, .int .i64 0, .int .i64 0, .bool false, .bool false]⟩ : Rw) :: l)) ∧ (Ld 3 = false → l = []) ∧ (Ld 3 = true → ∃ nb : Nat, u3 = .slice (some ⟨nb, 0, none⟩) 1 1 ∧ l = [(⟨some ⟨nb, 0, none⟩, 1, 1, 3, [.int .i64 av]⟩ : Rw)])
  h0 : Ld 0 = true → u0 = .string S
  h1 : Ld 1 = true → u1 = .pointer (some ⟨eb, 1, none⟩)
  h2 : Ld 2 = true → u2 = .int .i64 av
  h4 : Ld 4 = true → u4 = .agg #[.string S, u3, .string ⟨#[]⟩]
  h5 : Ld 5 = true → u5 = .pointer (some ⟨eb, 0, none⟩)
  h6 : Ld 6 = true → u6 = .int .i64 k
  h7 : Ld 7 = true → u7 = .pointer (some ⟨eb, 1, none⟩)
  h8 : Ld 8 = true → u8 = .int .i64 av
  h9 : Ld 9 = true → u9 = .agg #[.int .i64 k, .int .i64 av, .int .i64 0, .int .i64 0, .int .i64 0, .int .i64 0, .int .i64 0, .int .i64 0, .slice none 0 0, .int .i64 0, .int .i64 0, .int .i64 0, .int .i64 0, .int .i64 0, .int .i64 0, .int .i64 0, .int .i64 0, .int .u8 0, .int .u8 0, .bool false, .int .i64 0, .int .i64 0, .int .i64 0, .int .i64 0, .bool false, .bool false]
def LoI (w0 : World) (g : Option Nat) (M : List (Nat × Value)) (L : List Ob) (P : List Rw) (eb tb sb : Nat) (S : ByteArray) (k av : Int) (A0 : Act) (Ld : Nat → Bool) (a : Act) (W : World) : Prop :=
  ∃ (u0 u1 u2 u3 u4 u5 u6 u7 u8 u9 : Value), a = ((((((((((A0.put (some 5) u0).put (some 6) u1).put (some 7) u2).put (some 8) u3).put (some 9) u4).put (some 10) u5).put (some 11) u6).put (some 12) u7).put (some 13) u8).put (some 14) u9) ∧ LoK w0 g M L P eb tb sb S k av Ld u0 u1 u2 u3 u4 u5 u6 u7 u8 u9 W
set_option maxHeartbeats 2000000 in
theorem one_any {w0 w : World} {g : Option Nat} {M : List (Nat × Value)} {L : List Ob} {P : List Rw} (h : Ow w0 w g M L P) (S : ByteArray) (k av : Int) (er : List Value) (ei eb : Nat) (hE : P[ei]? = some (⟨some ⟨eb, 0, none⟩, 26, 26, 37, .int .i64 k :: .int .i64 av :: er⟩ : Rw)) :
    Calls Tryd.prog 40 #[.string S, .pointer (some ⟨eb, 0, none⟩)] w fun e w' => ∃ nb : Nat, e = .returned (.tuple #[.agg #[.string S, .slice (some ⟨nb, 0, none⟩) 1 1, .string ⟨#[]⟩], .agg #[.int .i64 k, .int .i64 av, .int .i64 0, .int .i64 0, .int .i64 0, .int .i64 0, .int .i64 0, .int .i64 0, .slice none 0 0, .int .i64 0, .int .i64 0, .int .i64 0, .int .i64 0, .int .i64 0, .int .i64 0, .int .i64 0, .int .i64 0, .int .u8 0, .int .u8 0, .bool false, .int .i64 0, .int .i64 0, .int .i64 0, .int .i64 0, .bool false, .bool false]]) ∧ ∃ T, Ow w0 w' g M L (P ++ (T ++ [(⟨some ⟨nb, 0, none⟩, 1, 1, 3, [.int .i64 av]⟩ : Rw)])) := by
  have H0 := (h.arr #[.string ⟨#[]⟩, .slice none 0 0, .string ⟨#[]⟩] 3 rfl (by omega) 69).arr #[.int .i64 0, .int .i64 0, .int .i64 0, .int .i64 0, .int .i64 0, .int .i64 0, .int .i64 0, .int .i64 0, .slice none 0 0, .int .i64 0, .int .i64 0, .int .i64 0, .int .i64 0, .int .i64 0, .int .i64 0, .int .i64 0, .int .i64 0, .int .u8 0, .int .u8 0, .bool false, .int .i64 0, .int .i64 0, .int .i64 0, .int .i64 0, .bool false, .bool false] 26 rfl (by omega) 37
  simp only [World.size_alloc, List.append_assoc, List.cons_append, List.nil_append] at H0
  have HO := Lib.hid H0
  have HEr := Lib.hid hE
  clear h hE H0
  go_enter Tryd.func40, Tryd.ntmps40
  go_wp2_with fail
  refine reg_inv34 (LoI w0 g M L P eb w.heap.size (w.heap.size + 1) S k av) (by kernel_rfl) (by kernel_rfl) ?_ ?_ ?_
  · refine ⟨undef, undef, undef, undef, undef, undef, undef, undef, undef, undef, ?_, ⟨⟨[], HO.out.drew, fun _ => rfl, ?_⟩, ?_, ?_, ?_, ?_, ?_, ?_, ?_, ?_, ?_⟩⟩
    · simp only [Act.put, List.setIfInBounds_toArray, List.set_cons_zero, List.set_cons_succ]
    all_goals (intro h; cases h)
  · rintro jj Ld b W hj hf hcl hd ⟨u0, u1, u2, u3, u4, u5, u6, u7, u8, u9, rfl, hC⟩
    have hj' : jj < 12 := hj
    have hcase : jj = 0 ∨ jj = 1 ∨ jj = 2 ∨ jj = 3 ∨ jj = 4 ∨ jj = 5 ∨ jj = 6 ∨ jj = 7 ∨ jj = 8 ∨ jj = 9 ∨ jj = 10 ∨ jj = 11 := by omega
    clear hj hj'
    simp only [Act.put, List.setIfInBounds_toArray, List.set_cons_zero, List.set_cons_succ]
    rcases hcase with rfl | rfl | rfl | rfl | rfl | rfl | rfl | rfl | rfl | rfl | rfl | rfl
    · clear hd hcl
      refine wpOp_step rfl (fun K hK => ?_)
      go_simp
      refine hK _ _ ⟨_, u1, u2, u3, u4, u5, u6, u7, u8, u9, ?_, ⟨hC.ow, fun _ => rfl, hC.h1, hC.h2, hC.h4, hC.h5, hC.h6, hC.h7, hC.h8, hC.h9⟩⟩
      simp only [Act.put, List.setIfInBounds_toArray, List.set_cons_zero, List.set_cons_succ]
    · clear hd hcl
      refine wpOp_step rfl (fun K hK => ?_)
      go_simp
      refine hK _ _ ⟨u0, _, u2, u3, u4, u5, u6, u7, u8, u9, ?_, ⟨hC.ow, hC.h0, fun _ => rfl, hC.h2, hC.h4, hC.h5, hC.h6, hC.h7, hC.h8, hC.h9⟩⟩
      simp only [Act.put, List.setIfInBounds_toArray, List.set_cons_zero, List.set_cons_succ]
    · obtain rfl := hC.h1 (hd 1 (by kernel_rfl))
      obtain ⟨l, how, hl0, hl1⟩ := hC.ow
      have her := how.row ei (by rw [get_l _ _ (get_lt HEr.out)]; exact HEr.out)
      have y1 := her.cellAt 1 (by decide)
      clear hd hcl
      refine wpOp_step rfl (fun K hK => ?_)
      go_simp
      refine hK _ _ ⟨u0, _, _, u3, u4, u5, u6, u7, u8, u9, ?_, ⟨hC.ow, hC.h0, hC.h1, fun _ => rfl, hC.h4, hC.h5, hC.h6, hC.h7, hC.h8, hC.h9⟩⟩
      simp only [Act.put, List.setIfInBounds_toArray, List.set_cons_zero, List.set_cons_succ]
    · obtain rfl := hC.h2 (hd 2 (by kernel_rfl))
      obtain ⟨l, how, hl0, hl1⟩ := hC.ow
      obtain rfl := hl0 hf
      have h10 : Ld 10 = false := cl_no hcl (cl_no hcl hf (by kernel_rfl) : Ld 4 = false) (by kernel_rfl)
      have ho := how.arr #[.int .i64 av] 1 rfl (by omega) 3
      rw [h10] at ho
      simp only [List.append_assoc, List.cons_append, List.nil_append] at ho
      have h4 : Ld 4 = false := cl_no hcl hf (by kernel_rfl)
      clear hd hcl
      refine wpOp_step rfl (fun K hK => ?_)
      go_simp
      refine hK _ _ ⟨u0, u1, _, _, u4, u5, u6, u7, u8, u9, ?_, ⟨⟨[_], (by rw [show dset Ld 3 10 = false from h10]; exact ho), (fun h => by cases h), fun _ => ⟨_, rfl, rfl⟩⟩, hC.h0, hC.h1, hC.h2, (fun h => absurd (h4.symm.trans h) (by decide)), hC.h5, hC.h6, hC.h7, hC.h8, hC.h9⟩⟩
      simp only [Act.put, List.setIfInBounds_toArray, List.set_cons_zero, List.set_cons_succ]
    · obtain rfl := hC.h0 (hd 0 (by kernel_rfl))
      obtain ⟨l, how, hl0, hl1⟩ := hC.ow
      obtain ⟨nb, rfl, rfl⟩ := hl1 (hd 3 (by kernel_rfl))
      have hd3 := hd 3 (by kernel_rfl)
      clear hd hcl
      refine wpOp_step rfl (fun K hK => ?_)
      go_simp
      refine hK _ _ ⟨_, u1, u2, _, _, u5, u6, u7, u8, u9, ?_, ⟨⟨_, how, (fun h => absurd (hd3.symm.trans h) (by decide)), fun _ => ⟨nb, rfl, rfl⟩⟩, hC.h0, hC.h1, hC.h2, fun _ => rfl, hC.h5, hC.h6, hC.h7, hC.h8, hC.h9⟩⟩
      simp only [Act.put, List.setIfInBounds_toArray, List.set_cons_zero, List.set_cons_succ]
    · clear hd hcl
      refine wpOp_step rfl (fun K hK => ?_)
      go_simp
      refine hK _ _ ⟨u0, u1, u2, u3, u4, _, u6, u7, u8, u9, ?_, ⟨hC.ow, hC.h0, hC.h1, hC.h2, hC.h4, fun _ => rfl, hC.h6, hC.h7, hC.h8, hC.h9⟩⟩
      simp only [Act.put, List.setIfInBounds_toArray, List.set_cons_zero, List.set_cons_succ]
    · obtain rfl := hC.h5 (hd 5 (by kernel_rfl))
      obtain ⟨l, how, hl0, hl1⟩ := hC.ow
      have her := how.row ei (by rw [get_l _ _ (get_lt HEr.out)]; exact HEr.out)
      have y0 := her.cellAt 0 (by decide)
      clear hd hcl
      refine wpOp_step rfl (fun K hK => ?_)
      go_simp
      refine hK _ _ ⟨u0, u1, u2, u3, u4, _, _, u7, u8, u9, ?_, ⟨hC.ow, hC.h0, hC.h1, hC.h2, hC.h4, hC.h5, fun _ => rfl, hC.h7, hC.h8, hC.h9⟩⟩
      simp only [Act.put, List.setIfInBounds_toArray, List.set_cons_zero, List.set_cons_succ]
    · clear hd hcl
      refine wpOp_step rfl (fun K hK => ?_)
      go_simp
      refine hK _ _ ⟨u0, u1, u2, u3, u4, u5, u6, _, u8, u9, ?_, ⟨hC.ow, hC.h0, hC.h1, hC.h2, hC.h4, hC.h5, hC.h6, fun _ => rfl, hC.h8, hC.h9⟩⟩
      simp only [Act.put, List.setIfInBounds_toArray, List.set_cons_zero, List.set_cons_succ]
    · obtain rfl := hC.h7 (hd 7 (by kernel_rfl))
      obtain ⟨l, how, hl0, hl1⟩ := hC.ow
      have her := how.row ei (by rw [get_l _ _ (get_lt HEr.out)]; exact HEr.out)
      have y1 := her.cellAt 1 (by decide)
      clear hd hcl
      refine wpOp_step rfl (fun K hK => ?_)
      go_simp
      refine hK _ _ ⟨u0, u1, u2, u3, u4, u5, u6, _, _, u9, ?_, ⟨hC.ow, hC.h0, hC.h1, hC.h2, hC.h4, hC.h5, hC.h6, hC.h7, fun _ => rfl, hC.h9⟩⟩
      simp only [Act.put, List.setIfInBounds_toArray, List.set_cons_zero, List.set_cons_succ]
    · obtain rfl := hC.h6 (hd 6 (by kernel_rfl))
      obtain rfl := hC.h8 (hd 8 (by kernel_rfl))
      clear hd hcl
      refine wpOp_step rfl (fun K hK => ?_)
      go_simp
      refine hK _ _ ⟨u0, u1, u2, u3, u4, u5, _, u7, _, _, ?_, ⟨hC.ow, hC.h0, hC.h1, hC.h2, hC.h4, hC.h5, hC.h6, hC.h7, hC.h8, fun _ => rfl⟩⟩
      simp only [Act.put, List.setIfInBounds_toArray, List.set_cons_zero, List.set_cons_succ]
    · obtain rfl := hC.h4 (hd 4 (by kernel_rfl))
      obtain ⟨l, how, hl0, hl1⟩ := hC.ow
      have e3 := hcl 4 3 (hd 4 (by kernel_rfl)) (by kernel_rfl)
      obtain ⟨nb, rfl, rfl⟩ := hl1 e3
      rw [hf] at how
      simp only [cond_false] at how
      have hg := (how.rowHeap (P.length + 0) (by rw [get_r]; rfl)).1
      have ho := how.putRow (k := 3) (P.length + 0) (by rw [get_r]; rfl) #[.string S, .slice (some ⟨nb, 0, none⟩) 1 1, .string ⟨#[]⟩] rfl (by omega)
      rw [set_r] at ho
      simp only [List.set_cons_zero] at ho
      clear hd hcl
      refine wpOp_step rfl (fun K hK => ?_)
      rw [if_pos (by rfl)]
      refine wp_store_row 69 (.tmp 3) (.tmp 9) rfl w.heap.size #[.string S, .slice (some ⟨nb, 0, none⟩) 1 1, .string ⟨#[]⟩] rfl rfl 69 _ hg sizeWd rfl (by simp [Value.oneCell']) ?_
      refine hK _ _ ⟨u0, u1, u2, (.slice (some ⟨nb, 0, none⟩) 1 1), (.agg #[.string S, .slice (some ⟨nb, 0, none⟩) 1 1, .string ⟨#[]⟩]), u5, u6, u7, u8, u9, ?_, ⟨⟨_, ho, (fun h => absurd (e3.symm.trans h) (by decide)), fun _ => ⟨nb, rfl, rfl⟩⟩, hC.h0, hC.h1, hC.h2, hC.h4, hC.h5, hC.h6, hC.h7, hC.h8, hC.h9⟩⟩
      simp only [Act.put, List.setIfInBounds_toArray, List.set_cons_zero, List.set_cons_succ]
      rfl
    · obtain rfl := hC.h9 (hd 9 (by kernel_rfl))
      obtain ⟨l, how, hl0, hl1⟩ := hC.ow
      rw [hf] at how
      simp only [cond_false] at how
      have hg := (how.rowHeap (P.length + 1) (by rw [get_r]; rfl)).1
      have ho := how.putRow (k := 26) (P.length + 1) (by rw [get_r]; rfl) #[.int .i64 k, .int .i64 av, .int .i64 0, .int .i64 0, .int .i64 0, .int .i64 0, .int .i64 0, .int .i64 0, .slice none 0 0, .int .i64 0, .int .i64 0, .int .i64 0, .int .i64 0, .int .i64 0, .int .i64 0, .int .i64 0, .int .i64 0, .int .u8 0, .int .u8 0, .bool false, .int .i64 0, .int .i64 0, .int .i64 0, .int .i64 0, .bool false, .bool false] rfl (by omega)
      rw [set_r] at ho
      simp only [List.set_cons_zero, List.set_cons_succ] at ho
      clear hd hcl
      refine wpOp_step rfl (fun K hK => ?_)
      rw [if_pos (by rfl)]
      refine wp_store_row 37 (.tmp 4) (.tmp 14) rfl (w.heap.size + 1) #[.int .i64 k, .int .i64 av, .int .i64 0, .int .i64 0, .int .i64 0, .int .i64 0, .int .i64 0, .int .i64 0, .slice none 0 0, .int .i64 0, .int .i64 0, .int .i64 0, .int .i64 0, .int .i64 0, .int .i64 0, .int .i64 0, .int .i64 0, .int .u8 0, .int .u8 0, .bool false, .int .i64 0, .int .i64 0, .int .i64 0, .int .i64 0, .bool false, .bool false] rfl rfl 37 _ hg sizeEv rfl (by simp [Value.oneCell']) ?_
      refine hK _ _ ⟨u0, u1, u2, u3, u4, u5, u6, u7, u8, (.agg #[.int .i64 k, .int .i64 av, .int .i64 0, .int .i64 0, .int .i64 0, .int .i64 0, .int .i64 0, .int .i64 0, .slice none 0 0, .int .i64 0, .int .i64 0, .int .i64 0, .int .i64 0, .int .i64 0, .int .i64 0, .int .i64 0, .int .i64 0, .int .u8 0, .int .u8 0, .bool false, .int .i64 0, .int .i64 0, .int .i64 0, .int .i64 0, .bool false, .bool false]), ?_, ⟨⟨l, ho, hl0, hl1⟩, hC.h0, hC.h1, hC.h2, hC.h4, hC.h5, hC.h6, hC.h7, hC.h8, hC.h9⟩⟩
      simp only [Act.put, List.setIfInBounds_toArray, List.set_cons_zero, List.set_cons_succ]
      rfl
  · rintro Ld b W hL ⟨u0, u1, u2, u3, u4, u5, u6, u7, u8, u9, rfl, hC⟩
    obtain ⟨l, how, -, hl1⟩ := hC.ow
    obtain ⟨nb, rfl, rfl⟩ := hl1 (hL 3 (by show 3 < 12; decide))
    rw [hL 10 (by show 10 < 12; decide), hL 11 (by show 11 < 12; decide)] at how
    simp only [cond_true] at how
    have l3 := run_loadVar_row (P := Tryd.prog) W w.heap.size 69 69 #[.string S, .slice (some ⟨nb, 0, none⟩) 1 1, .string ⟨#[]⟩] (0, 0) _ (how.rowHeap (P.length + 0) (by rw [get_r]; rfl)).1 Tryd.underlying69 rfl sizeWd
    have l26 := run_loadVar_row (P := Tryd.prog) W (w.heap.size + 1) 37 37 #[.int .i64 k, .int .i64 av, .int .i64 0, .int .i64 0, .int .i64 0, .int .i64 0, .int .i64 0, .int .i64 0, .slice none 0 0, .int .i64 0, .int .i64 0, .int .i64 0, .int .i64 0, .int .i64 0, .int .i64 0, .int .i64 0, .int .i64 0, .int .u8 0, .int .u8 0, .bool false, .int .i64 0, .int .i64 0, .int .i64 0, .int .i64 0, .bool false, .bool false] (0, 0) _ (how.rowHeap (P.length + 1) (by rw [get_r]; rfl)).1 Tryd.underlying37 rfl sizeEv
    have has : ∀ (ad : Addr) (W : World), (asAddr (.pointer (some ad))).run Tryd.prog W = .ok ad W := fun _ _ => rfl
    have HE := Lib.hid how
    clear hC hL hl1 how
    simp only [Act.put, List.setIfInBounds_toArray, List.set_cons_zero, List.set_cons_succ]
    go_wp2_with fail
    refine bodyPost_ret (v := .tuple #[.agg #[.string S, .slice (some ⟨nb, 0, none⟩) 1 1, .string ⟨#[]⟩], .agg #[.int .i64 k, .int .i64 av, .int .i64 0, .int .i64 0, .int .i64 0, .int .i64 0, .int .i64 0, .int .i64 0, .slice none 0 0, .int .i64 0, .int .i64 0, .int .i64 0, .int .i64 0, .int .i64 0, .int .i64 0, .int .i64 0, .int .i64 0, .int .u8 0, .int .u8 0, .bool false, .int .i64 0, .int .i64 0, .int .i64 0, .int .i64 0, .bool false, .bool false]]) (by simp [results, Tryd.results40, asAddr, l3, l26]) rfl ?_
    exact ⟨nb, rfl, [_, _], HE.out⟩
end Go.Proofs.YtpcmbmabmfghkaaDoor

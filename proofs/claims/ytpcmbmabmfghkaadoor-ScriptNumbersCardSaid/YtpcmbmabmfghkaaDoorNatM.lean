/- What is held, by membership: for regions whose order is drawn. -/
import Derived.Test.YtpcmbmabmfghkaaDoorNatT
import Derived.Test.YtpcmbmabmfghkaaDoorRegInv
namespace Go.Proofs.YtpcmbmabmfghkaaDoor
open Go.RowKit
set_option linter.unusedVariables false
set_option maxRecDepth 100000
section
variable {w0 w w' : World} {g : Option Nat} {M : List (Nat × Value)} {L : List Ob}
theorem St.sub (h : St w0 w g M L) {M' : List (Nat × Value)} {L' : List Ob} (hM : ∀ x ∈ M', x ∈ M) (h1 : ∀ (i j b : Nat) (u v : Value), M'[i]? = some (b, u) → M'[j]? = some (b, v) → i = j) (hL : ∀ o ∈ L', o ∈ L) : St w0 w g M' L' := by
  have key : ∀ (i : Nat) (x : Nat × Value), M'[i]? = some x → ∃ j, M[j]? = some x := fun i x hi => List.mem_iff_getElem?.1 (hM x (List.mem_of_getElem? hi))
  refine ⟨h.below, h.lt, fun i b v hi => ?_, h1, fun o ho => ?_⟩
  · obtain ⟨j, hj⟩ := key i _ hi
    exact h.box j b v hj
  · obtain ⟨k1, k2, k3, B, hB, hs, hne⟩ := h.held o (hL o ho)
    refine ⟨k1, k2, k3, B, hB, hs, fun ad e h0 => ⟨(hne ad e h0).1, fun i b v hi => ?_⟩⟩
    obtain ⟨j, hj⟩ := key i _ hi
    exact (hne ad e h0).2 j b v hj
/-- the same variables in another order or fewer: their blocks differ -/
theorem one_of {M' : List (Nat × Value)} (h : (M'.map Prod.fst).Nodup) (i j b : Nat) (u v : Value) (hi : M'[i]? = some (b, u)) (hj : M'[j]? = some (b, v)) : i = j := by
  have ei : (M'.map Prod.fst)[i]? = some b := by rw [List.getElem?_map, hi]; rfl
  have ej : (M'.map Prod.fst)[j]? = some b := by rw [List.getElem?_map, hj]; rfl
  exact (List.getElem?_inj (get_lt ei) h).1 (ei.trans ej.symm)
theorem St.var (h : St w0 w g M L) {b : Nat} {v : Value} (hi : (b, v) ∈ M) : w0.heap.size ≤ b ∧ b < w.heap.size ∧ w.cell? ⟨b, 0, none⟩ = some v ∧ w.frozen? ⟨b, 0, none⟩ = false ∧ g ≠ some b := by
  obtain ⟨i, hi⟩ := List.mem_iff_getElem?.1 hi
  obtain ⟨h1, h2, h3, h4, h5⟩ := h.box i b v hi
  exact ⟨h2, h1, h3, h4, h5⟩
/-- the variables behind a store -/
def putV (M : List (Nat × Value)) (b : Nat) (u : Value) : List (Nat × Value) := M.map fun p => if p.1 = b then (b, u) else p
theorem mem_putV_same {b : Nat} {v u : Value} (h : (b, v) ∈ M) : (b, u) ∈ putV M b u := List.mem_map.2 ⟨_, h, if_pos rfl⟩
theorem mem_putV_other {b c : Nat} {v u : Value} (h : (c, v) ∈ M) (hne : c ≠ b) : (c, v) ∈ putV M b u := List.mem_map.2 ⟨_, h, if_neg hne⟩
theorem St.putM (h : St w0 w g M L) {b : Nat} {v : Value} (hi : (b, v) ∈ M) (u : Value) : St w0 (w.setCell ⟨b, 0, none⟩ u) g (putV M b u) L := by
  obtain ⟨i, hi⟩ := List.mem_iff_getElem?.1 hi
  have h1 := h.put i hi u
  have e : M.set i (b, u) = putV M b u := by
    apply List.ext_getElem?
    intro j
    unfold putV
    rw [List.getElem?_map]
    by_cases e : j = i
    · subst e
      rw [List.getElem?_set_self (get_lt hi), hi]
      simp
    · rw [List.getElem?_set_ne (fun e' => e e'.symm)]
      cases hj : M[j]? with
      | none => rfl
      | some p =>
        obtain ⟨c, x⟩ := p
        show _ = some (if c = b then (b, u) else (c, x))
        rw [if_neg (fun e2 : c = b => by subst e2; exact e (h.one j i c x v hj hi))]
  rwa [e] at h1
end
end Go.Proofs.YtpcmbmabmfghkaaDoor

/- Division of limbs in place by a small number: small. -/
import Derived.Test.YtpcmbmabmfghkaaDoorNi
import Derived.RegionIn
namespace Go.Proofs.YtpcmbmabmfghkaaDoor
open Go.RowKit Go.Shelf
attribute [local go_sem] Oper.semAt_some
set_option linter.unusedVariables false
set_option maxRecDepth 100000
namespace Na
theorem small_step (L Q : List Nat) (d k a rest : Nat) (hd : 0 < d) (ha : L[k]? = some a) (hl : Lim L) (hq : Lim Q) (hv : val (L.drop (k + 1)) = d * val Q + rest) (hr : rest < d) :
    Lim ((16777216 * rest + a) / d :: Q) ∧ val (L.drop k) = d * val ((16777216 * rest + a) / d :: Q) + (16777216 * rest + a) % d ∧ (16777216 * rest + a) % d < d := by
  have h1 := hl.at ha
  have h2 : (16777216 * rest + a) / d < 16777216 := by
    rw [Nat.div_lt_iff_lt_mul hd]
    have : rest + 1 ≤ d := hr
    have h3 := Nat.mul_le_mul_left 16777216 this
    omega
  refine ⟨Lim.cons h2 hq, ?_, Nat.mod_lt _ hd⟩
  rw [val_drop_cons L k a ha, hv, val, Nat.mul_add, Nat.mul_add]
  have h4 := Nat.div_add_mod (16777216 * rest + a) d
  have h5 : d * (16777216 * val Q) = 16777216 * (d * val Q) := Nat.mul_left_comm _ _ _
  omega
theorem small_set (L Q : List Nat) (k q : Nat) (h : k < L.length) : (L.take (k + 1) ++ Q).set k q = L.take k ++ (q :: Q) := by
  have h1 : (L.take k).length = k := by rw [List.length_take]; omega
  rw [List.take_add_one, List.getElem?_eq_getElem h, Option.toList_some, List.append_assoc, List.set_append_right _ _ (by omega), h1, Nat.sub_self]
  rfl
end Na
theorem add_zero (b j : Nat) : (⟨b, 0, none⟩ : Addr).add j = ⟨b, j, none⟩ := by
  unfold Addr.add
  split
  · rename_i h
    rw [h]
  · simp
theorem own_from {W W' : World} {base n c B : Nat} {e : TypeId} {A : Option Addr} {xs : List Value} {row : Option Nat} (h : W.ownsRow base e 1 (.slice A n c) n xs) (hb : ∀ g, (Value.slice A n c).ownBlock = some g → g < B) (hg : W.grownBy W' row) (hr : ∀ r, row = some r → B ≤ r ∧ ∃ o : Obj, W.heap[r]? = some o ∧ o.isCells = false) : W'.ownsRow base e 1 (.slice A n c) n xs := by
  refine own_keep h hg ?_
  cases hA : (Value.slice A n c).ownBlock with
  | none => exact .inl rfl
  | some g =>
    refine .inr fun e => ?_
    have h1 := hb g hA
    have h2 := (hr g e.symm).1
    omega
def SmI (w : World) (base : Nat) (A : Option Addr) (n c : Nat) (L : List Nat) (d : Nat) (k : Nat) (W : World) : Prop :=
  ∃ (Q : List Nat) (rest : Nat), (Q.length = k ∧ Na.Lim Q ∧ Na.val (L.drop (n - k)) = d * Na.val Q + rest ∧ rest < d) ∧ W.ownsRow base 3 1 (.slice A n c) n (nats (L.take (n - k) ++ Q)) ∧
    (W.cell? ⟨w.heap.size, 0, none⟩ = some (.slice A n c) ∧ W.cell? ⟨w.heap.size + 1, 0, none⟩ = some (.int .i64 (d : Int)) ∧ W.cell? ⟨w.heap.size + 2, 0, none⟩ = some (.int .i64 (rest : Int)) ∧ W.frozen? ⟨w.heap.size + 2, 0, none⟩ = false ∧ W.cell? ⟨w.heap.size + 3, 0, none⟩ = some (.slice A n c)) ∧
    w.grownBy W (Value.slice A n c).ownBlock
end Go.Proofs.YtpcmbmabmfghkaaDoor

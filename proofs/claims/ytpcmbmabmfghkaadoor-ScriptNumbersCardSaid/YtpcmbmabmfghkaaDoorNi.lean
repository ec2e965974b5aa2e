/- XNatI XNatC joined. -/
import Derived.Test.YtpcmbmabmfghkaaDoorRange
import Derived.Test.YtpcmbmabmfghkaaDoorNatA
/- slices.Backward over ints, and over words of 64 bits: what they hand out, round by round. -/
namespace Go.Proofs.YtpcmbmabmfghkaaDoor
open Go.RowKit Go.Shelf
attribute [local go_sem] Oper.semAt_some
set_option linter.unusedVariables false
set_option maxRecDepth 100000
end Go.Proofs.YtpcmbmabmfghkaaDoor

/- The order of limbs: sign, compare, Cmp. -/
namespace Go.Proofs.YtpcmbmabmfghkaaDoor
open Go.RowKit Go.Shelf
attribute [local go_sem] Oper.semAt_some
set_option linter.unusedVariables false
set_option maxRecDepth 100000
namespace Na
theorem drop_same {X Y : List Nat} {k a : Nat} (hX : X[k]? = some a) (hY : Y[k]? = some a) (h : X.drop (k + 1) = Y.drop (k + 1)) : X.drop k = Y.drop k := by
  have h1 := get_lt hX
  have h2 := get_lt hY
  rw [List.drop_eq_getElem_cons h1, List.drop_eq_getElem_cons h2, h]
  rw [List.getElem?_eq_getElem h1] at hX
  rw [List.getElem?_eq_getElem h2] at hY
  rw [Option.some.inj hX, Option.some.inj hY]
theorem sgn_at {x y k a b : Nat} (hX : (dig x)[k]? = some a) (hY : (dig y)[k]? = some b) (h : (dig x).drop (k + 1) = (dig y).drop (k + 1)) (hab : a ≠ b) : sgn x y = sgn a b := by
  rcases Nat.lt_or_gt_of_ne hab with h1 | h1
  · have := val_cmp (dig_lim x) (dig_lim y) k a b hX hY h h1
    rw [val_dig, val_dig] at this
    rw [sgn_lt this, sgn_lt h1]
  · have := val_cmp (dig_lim y) (dig_lim x) k b a hY hX h.symm h1
    rw [val_dig, val_dig] at this
    rw [sgn_gt this, sgn_gt h1]
theorem sgn_of_len {x y : Nat} (h : (dig x).length ≠ (dig y).length) : sgn x y = sgn (dig x).length (dig y).length := by
  rcases Nat.lt_or_gt_of_ne h with h1 | h1
  · rw [sgn_lt (sgn_len h1), sgn_lt h1]
  · rw [sgn_gt (sgn_len h1), sgn_gt h1]
end Na
def CmpX (w : World) (g : Nat) (r : Int) (W : World) : Prop := W.cell? ⟨g, 0, none⟩ = some (.int .i64 r) ∧ Below w.heap.size w W
def CmpI (w : World) (x y n : Nat) (A2 A : Option Addr) (c2 c : Nat) (k : Nat) (W : World) : Prop :=
  ((Na.dig x).drop (n - k) = (Na.dig y).drop (n - k)) ∧ W.cell? ⟨w.heap.size, 0, none⟩ = some (.slice A2 n c2) ∧ W.cell? ⟨w.heap.size + 1, 0, none⟩ = some (.int .i64 0) ∧ W.frozen? ⟨w.heap.size + 1, 0, none⟩ = false ∧ W.cell? ⟨w.heap.size + 2, 0, none⟩ = some (.slice A n c) ∧ Below w.heap.size w W
theorem below_from {w W W' : World} {B : Nat} {row : Option Nat} (h : Below w.heap.size w W) (hg : W.grownBy W' row) (hB : w.heap.size ≤ B) (hr : ∀ r, row = some r → B ≤ r ∧ ∃ o : Obj, W.heap[r]? = some o ∧ o.isCells = false) : Below w.heap.size w W' :=
  h.grown hg h.size (fun r e => Nat.le_trans hB (hr r e).1)
end Go.Proofs.YtpcmbmabmfghkaaDoor

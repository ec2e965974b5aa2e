/- nat.Int: a number as an int. -/
import Derived.Test.YtnfjnlnphdmdmaaGreatDoorNatS
import Derived.Test.YtnfjnlnphdmdmaaGreatDoorNi
namespace Go.Proofs.YtnfjnlnphdmdmaaGreatDoor
open Go.RowKit Go.Shelf
attribute [local go_sem] Oper.semAt_some
set_option linter.unusedVariables false
set_option maxRecDepth 100000
def intV (x : Nat) : Int := if x ≤ 4611686018427387904 then (x : Int) else 0
def intE (x : Nat) : Int := if x ≤ 4611686018427387904 then 0 else 3
def IntX (w : World) (b x : Nat) (W : World) : Prop := W.cell? ⟨b + 1, 0, none⟩ = some (.int .i64 0) ∧ W.cell? ⟨b + 1 + 1, 0, none⟩ = some (.int .i64 3) ∧ 4611686018427387904 < x ∧ Below w.heap.size w W
def IntI (w : World) (b vb x n : Nat) (A : Option Addr) (c : Nat) (k : Nat) (W : World) : Prop :=
  ∃ v, v = Na.val ((Na.dig x).drop (n - k)) ∧ v ≤ 4611686018444165119 ∧ W.cell? ⟨b + 1, 0, none⟩ = some (.int .i64 0) ∧ W.frozen? ⟨b + 1, 0, none⟩ = false ∧ W.cell? ⟨b + 1 + 1, 0, none⟩ = some (.int .i64 0) ∧ W.frozen? ⟨b + 1 + 1, 0, none⟩ = false ∧
    W.cell? ⟨vb, 0, none⟩ = some (.int .i64 (v : Int)) ∧ W.frozen? ⟨vb, 0, none⟩ = false ∧ W.cell? ⟨vb + 1, 0, none⟩ = some (.slice A n c) ∧ Below w.heap.size w W
theorem int_big {x v k : Nat} (hv : v = Na.val ((Na.dig x).drop (k + 1))) (h : 274877906944 < v) : 4611686018427387904 < x := by
  have e := Na.val_split (Na.dig x) (k + 1) (by
    rcases Nat.lt_or_ge (Na.dig x).length (k + 1) with h1 | h1
    · rw [List.drop_of_length_le (by omega)] at hv; simp [Na.val] at hv; omega
    · exact h1)
  rw [Na.val_dig, ← hv, Nat.pow_succ] at e
  have e2 : 16777216 ^ k * 16777216 * v ≥ 1 * 16777216 * v := Nat.mul_le_mul_right _ (Nat.mul_le_mul_right _ (Nat.pow_pos (by omega)))
  omega
end Go.Proofs.YtnfjnlnphdmdmaaGreatDoor

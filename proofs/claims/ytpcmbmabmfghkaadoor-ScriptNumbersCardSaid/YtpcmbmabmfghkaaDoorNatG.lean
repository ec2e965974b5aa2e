/- The contracts of grow and Choose. -/
import Derived.Test.YtpcmbmabmfghkaaDoorNatF
import Derived.Test.YtpcmbmabmfghkaaDoorNatS
import Derived.Test.YtpcmbmabmfghkaaDoorNp
namespace Go.Proofs.YtpcmbmabmfghkaaDoor
open Go.RowKit
set_option linter.unusedVariables false
set_option maxRecDepth 100000
def NGr (w : World) (base : Nat) (L : List Nat) (A : Option Addr) (n c t m0 : Nat) (i mr : Value) (wr : World) : Prop :=
  ∃ (k r : Nat) (o : List Nat), k ≤ n ∧ i = .int .i64 (k : Int) ∧ mr = .int .i64 (r : Int) ∧ r ≤ 1152921504606846976 ∧ Hid (o.length = k ∧ Na.Lim o ∧ Na.val o + 16777216 ^ k * r = Na.val (L.take k) * t + m0) ∧ wr.ownsRow base 3 1 (.slice A n c) n (nats (o ++ L.drop k)) ∧ Below base w wr ∧ base ≤ wr.heap.size
/-- limbs that were put on do not end in zero -/
def Tight (n : Nat) (o : List Nat) : Prop := o.length = n ∨ ∃ a, o[o.length - 1]? = some a ∧ a ≠ 0
theorem tight_put (n : Nat) (o : List Nat) (d : Nat) (h : d ≠ 0) : Tight n (o ++ [d]) := .inr ⟨d, by rw [List.length_append, List.length_singleton, Nat.add_sub_cancel, List.getElem?_append_right (Nat.le_refl _), Nat.sub_self]; rfl, h⟩
def NGm (w : World) (base : Nat) (V n : Nat) (mr l : Value) (wr : World) : Prop :=
  ∃ (r : Nat) (A : Option Addr) (n' c' j : Nat) (o : List Nat), mr = .int .i64 (r : Int) ∧ l = .slice A n' c' ∧ n' = n + j ∧ ((j = 0 ∧ r ≤ 1152921504606846976) ∨ (j = 1 ∧ r ≤ 68719476736) ∨ (j = 2 ∧ r ≤ 4096) ∨ (j = 3 ∧ r = 0)) ∧
    Hid (o.length = n' ∧ Na.Lim o ∧ Na.val o + 16777216 ^ n' * r = V) ∧ Hid (r = 0 → Tight n o) ∧ wr.ownsRow base 3 1 (.slice A n' c') n' (nats o) ∧ Below base w wr ∧ base ≤ wr.heap.size
/-- what a growth leaves -/
def Grew (w : World) (base n V : Nat) (e : Ending) (w' : World) : Prop :=
  ∃ (A : Option Addr) (n' c' : Nat) (o : List Nat), e = .returned (.slice A n' c') ∧ o.length = n' ∧ n' ≤ n + 3 ∧ Na.Lim o ∧ Na.val o = V ∧ w'.ownsRow base 3 1 (.slice A n' c') n' (nats o) ∧ Below base w w' ∧ base ≤ w'.heap.size ∧ Tight n o
/-- Choose: the numbers that are out of range, and those without a set -/
def choL (n k : Int) : List Nat := if n < 0 ∨ 4096 < n then [] else if k < 0 ∨ n < k then [] else Na.dig (Na.bin n.toNat k.toNat)
def choE (n k : Int) : Int := if n < 0 ∨ 4096 < n then 2 else 0
def NCh (w : World) (B m kk : Nat) (i o : Value) (wr : World) : Prop :=
  ∃ (j : Nat) (A : Option Addr) (n' c' : Nat), j ≤ kk ∧ i = .int .i64 ((j : Int) + 1) ∧ o = .slice A n' c' ∧ n' ≤ 171 ∧ Hid ((Na.dig (Na.bin (m + j) j)).length = n') ∧ wr.ownsRow B 3 1 (.slice A n' c') n' (nats (Na.dig (Na.bin (m + j) j))) ∧ Below B w wr ∧ B ≤ wr.heap.size
theorem below_row {B : Nat} {w w' : World} {row : Option Nat} (hg : w.grownBy w' row) (hB : B ≤ w.heap.size) (hr : ∀ g, row = some g → B ≤ g) : Below B w w' := (Below.refl B w).grown hg hB hr
end Go.Proofs.YtpcmbmabmfghkaaDoor

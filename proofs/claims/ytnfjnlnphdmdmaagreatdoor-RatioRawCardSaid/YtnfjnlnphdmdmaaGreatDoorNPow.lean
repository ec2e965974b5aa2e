/- The contract of Power. -/
import Derived.Test.YtnfjnlnphdmdmaaGreatDoorNatF
import Derived.Test.YtnfjnlnphdmdmaaGreatDoorNPowA
namespace Go.Proofs.YtnfjnlnphdmdmaaGreatDoor
open Go.RowKit
set_option linter.unusedVariables false
set_option maxRecDepth 100000
def NPw (w1 : World) (x m : Nat) (i o : Value) (wr : World) : Prop :=
  ∃ (v : Int) (j : Nat) (A : Option Addr) (n c : Nat), i = .int .i64 v ∧ v = (j : Int) - 1 ∧ o = .slice A n c ∧ j ≤ 13 ∧ n ≤ 401 ∧ Hid ((Na.dig (x ^ (m / 2 ^ j))).length = n) ∧ wr.ownsRow w1.heap.size 3 1 (.slice A n c) n (nats (Na.dig (x ^ (m / 2 ^ j)))) ∧ Below w1.heap.size w1 wr ∧ w1.heap.size ≤ wr.heap.size
end Go.Proofs.YtnfjnlnphdmdmaaGreatDoor

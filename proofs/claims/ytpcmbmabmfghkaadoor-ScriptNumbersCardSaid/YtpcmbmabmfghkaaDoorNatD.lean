/- The contracts of both, Clone, Add of numbers. -/
import Derived.Test.YtpcmbmabmfghkaaDoorNi
import Derived.Test.YtpcmbmabmfghkaaDoorNp
import Derived.StillTailTactics
import Derived.Deep.QuietTactic
import Derived.BigQuiet
namespace Go.Proofs.YtpcmbmabmfghkaaDoor
open Go.RowKit
set_option linter.unusedVariables false
set_option maxRecDepth 100000
/-- what a sum of two lists is -/
def num (zs : List Int) : Nat := Na.val (zs.map Int.toNat)
theorem num_up (l : List Nat) : num (Na.up l) = Na.val l := by
  unfold num Na.up
  rw [List.map_map]
  congr 1
  exact (List.map_congr_left (fun a _ => rfl)).trans (List.map_id l)
theorem num_dig (x : Nat) : num (Na.up (Na.dig x)) = x := by rw [num_up, Na.val_dig]
def NAdd (w : World) (B : Nat) (X Y : List Nat) (n : Nat) (i cr o : Value) (wr : World) : Prop :=
  ∃ (k c : Nat) (A : Option Addr) (ca : Nat) (l : List Nat), k ≤ n ∧ i = .int .i64 (k : Int) ∧ cr = .int .i64 (c : Int) ∧ o = .slice A k ca ∧ c ≤ 1 ∧ Hid (l.length = k ∧ Na.Lim l ∧ Na.val l + 16777216 ^ k * c = Na.val (X.take k) + Na.val (Y.take k)) ∧ wr.ownsRow B 3 1 (.slice A k ca) k (nats l) ∧ Below B w wr
def addL (zs ys : List Int) : List Nat := if Na.vld zs && Na.vld ys then resL (num zs + num ys) else []
def addE (zs ys : List Int) : Int := if Na.vld zs && Na.vld ys then resE (num zs + num ys) else 1
theorem own_zero (w : World) (z : Value) (n : Nat) (e : TypeId) (hz : z.cells = #[z]) (hc : n ≤ maxLen) : (w.alloc (.cells (madeCells z.cells n) e)).ownsRow w.heap.size e 1 (.slice (some ⟨w.heap.size, 0, none⟩) 0 n) 0 [] :=
  own_made w e z 0 n hz (Nat.zero_le _) hc

end Go.Proofs.YtpcmbmabmfghkaaDoor

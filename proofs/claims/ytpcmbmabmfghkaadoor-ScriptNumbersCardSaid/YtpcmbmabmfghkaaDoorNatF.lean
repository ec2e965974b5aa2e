/- The contracts of product and Mul. -/
import Derived.Test.YtpcmbmabmfghkaaDoorNatE
namespace Go.Proofs.YtpcmbmabmfghkaaDoor
open Go.RowKit
set_option linter.unusedVariables false
set_option maxRecDepth 100000
def NPr (w : World) (B : Nat) (X Y : List Nat) (n N g c : Nat) (i : Value) (wr : World) : Prop :=
  ∃ (k : Nat) (out : List Nat), k ≤ n ∧ i = .int .i64 (k : Int) ∧ Hid (out.length = N ∧ Na.Cols out 281474976710656 k 0 ∧ Na.val out = Na.val (X.take k) * Na.val Y) ∧ wr.ownsRow B 3 1 (.slice (some ⟨g, 0, none⟩) N c) N (nats out) ∧ Below B w wr
def NPi (w : World) (B : Nat) (X Y : List Nat) (a i m N g c : Nat) (v : Value) (wr : World) : Prop :=
  ∃ (k : Nat) (out : List Nat), k ≤ m ∧ v = .int .i64 (k : Int) ∧ Hid (out.length = N ∧ Na.Cols out 281474976710656 i k ∧ Na.val out = Na.val (X.take i) * Na.val Y + 16777216 ^ i * (a * Na.val (Y.take k))) ∧ wr.ownsRow B 3 1 (.slice (some ⟨g, 0, none⟩) N c) N (nats out) ∧ Below B w wr
def NPc (w : World) (B : Nat) (out : List Nat) (V N g c : Nat) (i cr : Value) (wr : World) : Prop :=
  ∃ (k r : Nat) (o : List Nat), k ≤ N ∧ i = .int .i64 (k : Int) ∧ cr = .int .i64 (r : Int) ∧ r ≤ 288230376151711744 ∧ Hid (o.length = k ∧ Na.Lim o ∧ Na.val o + 16777216 ^ k * (r + Na.val (out.drop k)) = V) ∧ wr.ownsRow B 3 1 (.slice (some ⟨g, 0, none⟩) N c) N (nats (o ++ out.drop k)) ∧ Below B w wr
theorem made_nats (n : Nat) : nats (List.replicate n 0) = List.replicate n (.int .i64 0) := by simp [nats, encN]
def mulL (zs ys : List Int) : List Nat := if Na.vld zs && Na.vld ys then resL (num zs * num ys) else []
def mulE (zs ys : List Int) : Int := if Na.vld zs && Na.vld ys then resE (num zs * num ys) else 1
theorem mul_ok {x y : Nat} (hx : x < Na.top) (hy : y < Na.top) : mulL (Na.up (Na.dig x)) (Na.up (Na.dig y)) = resL (x * y) ∧ mulE (Na.up (Na.dig x)) (Na.up (Na.dig y)) = resE (x * y) := by
  unfold mulL mulE
  rw [Na.vld_dig hx, Na.vld_dig hy, num_dig, num_dig]
  exact ⟨rfl, rfl⟩
end Go.Proofs.YtpcmbmabmfghkaaDoor

/- The contracts of Add, Sub of numbers, for any lists. -/
import Derived.Test.YtpcmbmabmfghkaaDoorNatD
import Derived.Deep.Cut
namespace Go.Proofs.YtpcmbmabmfghkaaDoor
open Go.RowKit
set_option linter.unusedVariables false
set_option maxRecDepth 100000
theorem flip_same {P : Program} {f : FuncId} {args : Array Value} {w : World} {v : Value} (h : Calls P f args w fun e w' => e = .returned v ∧ w = w') : Calls P f args w fun e w' => e = .returned v ∧ w' = w := h.mono fun _ _ ⟨he, hw⟩ => ⟨he, hw.symm⟩

theorem add_ok {x y : Nat} (hx : x < Na.top) (hy : y < Na.top) : addL (Na.up (Na.dig x)) (Na.up (Na.dig y)) = resL (x + y) ∧ addE (Na.up (Na.dig x)) (Na.up (Na.dig y)) = resE (x + y) := by
  unfold addL addE
  rw [Na.vld_dig hx, Na.vld_dig hy, num_dig, num_dig]
  exact ⟨rfl, rfl⟩
/-- two valid numbers among lists of ints -/
theorem vv_ex {zs ys : List Int} (h : (Na.vld zs && Na.vld ys) = true) : ∃ x y, x < Na.top ∧ y < Na.top ∧ zs = Na.up (Na.dig x) ∧ ys = Na.up (Na.dig y) := by
  rw [Bool.and_eq_true] at h
  obtain ⟨x, hx, rfl⟩ := Na.vld_ex h.1
  obtain ⟨y, hy, rfl⟩ := Na.vld_ex h.2
  exact ⟨x, y, hx, hy, rfl, rfl⟩
def subL (zs ys : List Int) : List Nat := if Na.vld zs && Na.vld ys then (if num zs < num ys then [] else Na.dig (num zs - num ys)) else []
def subE (zs ys : List Int) : Int := if Na.vld zs && Na.vld ys then (if num zs < num ys then 5 else 0) else 1
def NSub (w : World) (B : Nat) (X Y : List Nat) (n : Nat) (A : Option Addr) (ca : Nat) (i bw : Value) (wr : World) : Prop :=
  ∃ (k b : Nat) (l : List Nat), k ≤ n ∧ i = .int .i64 (k : Int) ∧ bw = .int .i64 (b : Int) ∧ b ≤ 1 ∧ Hid (l.length = k ∧ Na.Lim l ∧ Na.val l + Na.val (Y.take k) = Na.val (X.take k) + 16777216 ^ k * b) ∧ wr.ownsRow B 3 1 (.slice A n ca) n (nats (l ++ X.drop k)) ∧ Below B w wr
theorem own_put {W : World} {base n c g : Nat} {e : TypeId} {xs : List Value} (h : W.ownsRow base e 1 (.slice (some ⟨g, 0, none⟩) n c) n xs) (k : Nat) (v : Value) : (W.setCell ⟨g, k, none⟩ v).ownsRow base e 1 (.slice (some ⟨g, 0, none⟩) n c) n (xs.set k v) := (h.stored k v).1

theorem sub_ok {x y : Nat} (hx : x < Na.top) (hy : y < Na.top) : subL (Na.up (Na.dig x)) (Na.up (Na.dig y)) = (if x < y then [] else Na.dig (x - y)) ∧ subE (Na.up (Na.dig x)) (Na.up (Na.dig y)) = (if x < y then 5 else 0) := by
  unfold subL subE
  rw [Na.vld_dig hx, Na.vld_dig hy, num_dig, num_dig]
  exact ⟨rfl, rfl⟩
end Go.Proofs.YtpcmbmabmfghkaaDoor

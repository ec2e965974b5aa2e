/- Interpolation in plain Lean: the rounds. -/
import Derived.Test.YtkolmppfhpcdpaaDoorPolyE
import Derived.Test.YtkolmppfhpcdpaaDoorPolyH
namespace Go.Proofs.YtkolmppfhpcdpaaDoor
namespace Po
/-- the product of x - xs[j] over the first k places -/
def thB (xs : List UInt8) : Nat → List UInt8
  | 0 => [1]
  | k + 1 => addAt (addAt (List.replicate (k + 2) 0) (thB xs k) 1 1) (thB xs k) (xs[k]?.getD 0) 0
/-- P4.4: the polynomial through the first k points -/
def thO (xs ys : List UInt8) : Nat → List UInt8
  | 0 => List.replicate xs.length 0
  | k + 1 => addAt (thO xs ys k) (thB xs k) (Gf.gmul ((ys[k]?.getD 0) ^^^ eval (thO xs ys k) (xs[k]?.getD 0)) (Gf.ginv (eval (thB xs k) (xs[k]?.getD 0)))) 0
theorem thB_length (xs : List UInt8) : ∀ k, (thB xs k).length = k + 1 := by
  intro k
  cases k with
  | zero => rfl
  | succ k => rw [thB, addAt_length, addAt_length, List.length_replicate]
theorem thO_length (xs ys : List UInt8) : ∀ k, (thO xs ys k).length = xs.length := by
  intro k
  induction k with
  | zero => exact List.length_replicate
  | succ k ih => rw [thO, addAt_length, ih]
theorem thO_succ (xs ys : List UInt8) (k : Nat) (x y t : UInt8) (hx : xs[k]? = some x) (hy : ys[k]? = some y) (ht : t = Gf.gmul (y ^^^ eval (thO xs ys k) x) (Gf.ginv (eval (thB xs k) x))) : thO xs ys (k + 1) = addAt (thO xs ys k) (thB xs k) t 0 := by
  rw [thO, hx, hy, ht]
  rfl
theorem thB_succ (xs : List UInt8) (k : Nat) (x : UInt8) (hx : xs[k]? = some x) : thB xs (k + 1) = addAt (addAt (List.replicate (k + 2) 0) (thB xs k) 1 1) (thB xs k) x 0 := by
  rw [thB, hx]
  rfl
/-- among the first k points one has an x that was there before -/
def thBad (xs : List UInt8) : Nat → Bool
  | 0 => false
  | k + 1 => thBad xs k || (eval (thB xs k) (xs[k]?.getD 0) == 0)
def thFit (xs ys : List UInt8) : Bool := decide (xs.length = ys.length) && decide (xs.length ≤ 255)
def thR (xs ys : List UInt8) : List UInt8 := if thFit xs ys then (if thBad xs xs.length then [] else trim (thO xs ys xs.length)) else []
def thE (xs ys : List UInt8) : Int := if thFit xs ys then (if thBad xs xs.length then 8 else 0) else 7
theorem thBad_more (xs : List UInt8) (k : Nat) (h : thBad xs k = true) : ∀ n, k ≤ n → thBad xs n = true := by
  intro n hn
  induction n with
  | zero =>
    have : k = 0 := by omega
    subst this
    exact h
  | succ n ih =>
    rcases Nat.lt_or_ge k (n + 1) with h' | h'
    · rw [thBad, ih (by omega), Bool.true_or]
    · have : k = n + 1 := by omega
      subst this
      exact h
theorem thBad_hit (xs : List UInt8) (k : Nat) (x : UInt8) (hx : xs[k]? = some x) (h : eval (thB xs k) x = 0) : thBad xs (k + 1) = true := by
  rw [thBad, hx]
  show (thBad xs k || (eval (thB xs k) x == 0)) = true
  rw [h]
  simp
theorem thBad_miss (xs : List UInt8) (k : Nat) (x : UInt8) (hx : xs[k]? = some x) (h : eval (thB xs k) x ≠ 0) (h0 : thBad xs k = false) : thBad xs (k + 1) = false := by
  rw [thBad, hx, h0]
  show (false || (eval (thB xs k) x == 0)) = false
  rw [Bool.false_or, beq_eq_false_iff_ne]
  exact h
theorem th_no {xs ys : List UInt8} (h : thFit xs ys = false) : thR xs ys = [] ∧ thE xs ys = 7 := by
  unfold thR thE
  rw [h]
  exact ⟨rfl, rfl⟩
theorem th_twice {xs ys : List UInt8} (h : thFit xs ys = true) (h2 : thBad xs xs.length = true) : thR xs ys = [] ∧ thE xs ys = 8 := by
  unfold thR thE
  rw [h, h2]
  exact ⟨rfl, rfl⟩
theorem th_ok {xs ys : List UInt8} (h : thFit xs ys = true) (h2 : thBad xs xs.length = false) : thR xs ys = trim (thO xs ys xs.length) ∧ thE xs ys = 0 := by
  unfold thR thE
  rw [h, h2]
  exact ⟨rfl, rfl⟩
end Po
end Go.Proofs.YtkolmppfhpcdpaaDoor

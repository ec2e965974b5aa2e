/- Numbers of sets, growth of limbs, in plain Lean. -/
import Derived.Test.YtflgfkelbniblaaDoorNatP
namespace Go.Proofs.YtflgfkelbniblaaDoor
set_option linter.unusedVariables false
namespace Na
/-- the number of sets of k out of n things -/
def bin : Nat → Nat → Nat
  | _, 0 => 1
  | 0, _ + 1 => 0
  | n + 1, k + 1 => bin n k + bin n (k + 1)
theorem bin_zero (n : Nat) : bin n 0 = 1 := by cases n <;> rfl
theorem bin_succ (n k : Nat) : bin (n + 1) (k + 1) = bin n k + bin n (k + 1) := rfl
theorem bin_more {n k : Nat} (h : n < k) : bin n k = 0 := by
  induction n generalizing k with
  | zero =>
    cases k with
    | zero => omega
    | succ k => rfl
  | succ n ih =>
    cases k with
    | zero => omega
    | succ k => rw [bin_succ, ih (by omega), ih (by omega)]
theorem bin_self (n : Nat) : bin n n = 1 := by
  induction n with
  | zero => rfl
  | succ n ih => rw [bin_succ, ih, bin_more (by omega)]
theorem bin_absorb (n k : Nat) : (k + 1) * bin (n + 1) (k + 1) = (n + 1) * bin n k := by
  induction n generalizing k with
  | zero =>
    cases k with
    | zero => rfl
    | succ k => rw [bin_succ, bin_more (show 0 < k + 1 by omega), bin_more (show 0 < k + 1 + 1 by omega)]; simp
  | succ n ih =>
    cases k with
    | zero =>
      have h := ih 0
      rw [bin_zero] at h
      rw [bin_succ, bin_zero]
      omega
    | succ k =>
      have h1 := ih k
      have h2 := ih (k + 1)
      have h3 : bin (n + 1) (k + 1) = bin n k + bin n (k + 1) := rfl
      rw [bin_succ (n + 1) (k + 1), Nat.mul_add, h2]
      have h4 : (k + 1 + 1) * bin (n + 1) (k + 1) = (k + 1) * bin (n + 1) (k + 1) + bin (n + 1) (k + 1) := by rw [Nat.add_mul, Nat.one_mul]
      have h5 : (n + 1 + 1) * bin (n + 1) (k + 1) = (n + 1) * bin (n + 1) (k + 1) + bin (n + 1) (k + 1) := by rw [Nat.add_mul, Nat.one_mul]
      have h6 : (n + 1) * bin (n + 1) (k + 1) = (n + 1) * bin n k + (n + 1) * bin n (k + 1) := by rw [h3, Nat.mul_add]
      rw [h4, h1, h5, h6]
      omega
theorem bin_symm {n k : Nat} (h : k ≤ n) : bin n (n - k) = bin n k := by
  induction n generalizing k with
  | zero =>
    have : k = 0 := by omega
    subst this
    rfl
  | succ n ih =>
    cases k with
    | zero => rw [Nat.sub_zero, bin_self, bin_zero]
    | succ k =>
      rcases Nat.eq_or_lt_of_le h with h1 | h1
      · have : n = k := by omega
        subst this
        rw [Nat.sub_self, bin_zero, bin_self]
      · have e1 : n + 1 - (k + 1) = (n - (k + 1)) + 1 := by omega
        rw [e1, bin_succ, bin_succ, ih (show k + 1 ≤ n by omega), show n - (k + 1) + 1 = n - k by omega, ih (show k ≤ n by omega), Nat.add_comm]
theorem bin_two (n k : Nat) : bin n k ≤ 2 ^ n := by
  induction n generalizing k with
  | zero =>
    cases k with
    | zero => exact Nat.le_refl _
    | succ k => exact Nat.zero_le _
  | succ n ih =>
    cases k with
    | zero => rw [bin_zero]; exact Nat.one_le_two_pow
    | succ k =>
      rw [bin_succ, Nat.pow_succ]
      have := ih k
      have := ih (k + 1)
      omega
/-- the next number of sets along a diagonal -/
theorem bin_next (m i : Nat) : bin (m + i) i * (m + (i + 1)) / (i + 1) = bin (m + (i + 1)) (i + 1) := by
  have h := bin_absorb (m + i) i
  rw [show m + (i + 1) = m + i + 1 by omega, Nat.mul_comm, ← h]
  exact Nat.mul_div_cancel_left _ (by omega)
theorem pow24 (n : Nat) : 16777216 ^ n = 2 ^ (24 * n) := by rw [Nat.pow_mul]
theorem bin_lt (n k m : Nat) (h : n < 24 * m) : bin n k < 16777216 ^ m := by
  rw [pow24]
  exact Nat.lt_of_le_of_lt (bin_two n k) (Nat.pow_lt_pow_right (by omega) h)
theorem bin_top (n k : Nat) (h : n ≤ 4096) : bin n k < top ∧ (dig (bin n k)).length ≤ 171 :=
  ⟨bin_lt n k 200 (by omega), dig_len_le (bin_lt n k 171 (by omega))⟩
/-- growth: one limb -/
theorem grow_step (L o : List Nat) (k a t mr m0 s : Nat) (ho : o.length = k) (ha : L[k]? = some a) (h : val o + 16777216 ^ k * mr = val (L.take k) * t + m0) (hs : s = mr + a * t) :
    val (o ++ [s % 16777216]) + 16777216 ^ (k + 1) * (s / 16777216) = val (L.take (k + 1)) * t + m0 := by
  rw [val_snoc, ho, val_take_succ L k a ha, Nat.pow_succ, Nat.add_mul]
  have h1 := split24 (16777216 ^ k) s
  rw [hs, Nat.mul_add, ← Nat.mul_assoc] at h1
  rw [hs]
  omega
theorem grow_more (o : List Nat) (k mr V : Nat) (ho : o.length = k) (h : val o + 16777216 ^ k * mr = V) : val (o ++ [mr % 16777216]) + 16777216 ^ (k + 1) * (mr / 16777216) = V := by
  rw [val_snoc, ho, Nat.pow_succ]
  have h1 := split24 (16777216 ^ k) mr
  omega
end Na
end Go.Proofs.YtflgfkelbniblaaDoor

/- Powers: the plain part. -/
import Derived.Test.YtnfjnlnphdmdmaaGreatDoorNBits
namespace Go.Proofs.YtnfjnlnphdmdmaaGreatDoor
open Go.RowKit
set_option linter.unusedVariables false
set_option maxRecDepth 100000
theorem and1 (n : Int) : bits .and .i64 n 1 = n % 2 := by
  have hm : (BitVec.ofInt 64 1).toNat = 2 ^ 1 - 1 := by decide
  have key : (BitVec.ofInt 64 n &&& BitVec.ofInt 64 1).toNat = (n % ((2 ^ 64 : Nat) : Int)).toNat % 2 ^ 1 := by
    rw [BitVec.toNat_and, BitVec.toNat_ofInt, hm, Nat.and_two_pow_sub_one_eq_mod]
  show IntKind.i64.wrap ((BitVec.ofInt 64 n &&& BitVec.ofInt 64 1).toNat : Nat) = n % 2
  rw [key, IntKind.wrap_i64]
  omega
namespace Na
theorem pow24' (k : Nat) : 16777216 ^ k = 2 ^ (24 * k) := by rw [Nat.pow_mul]
/-- the bit length of a number out of its greatest limb -/
theorem bitlen (x k a : Nat) (hk : (dig x).length = k + 1) (ha : (dig x)[k]? = some a) : 0 < a ∧ 1 ≤ Nbl a ∧ 2 ^ (k * 24 + Nbl a - 1) ≤ x ∧ x < 2 ^ (k * 24 + Nbl a) := by
  have h24 := (dig_lim x).at ha
  have h0 : 0 < a := by
    rcases dig_last x with h | h
    · omega
    · rw [hk, Nat.add_sub_cancel, ha] at h
      rcases Nat.eq_zero_or_pos a with e | e
      · subst e; exact absurd rfl h
      · exact e
  obtain ⟨b1, b2, b3⟩ := nbl_pos h0 (by omega)
  have hv := val_take_succ (dig x) k a ha
  rw [List.take_of_length_le (by omega), val_dig] at hv
  have hl := val_lt ((dig_lim x).take k)
  rw [List.length_take, Nat.min_eq_left (by omega)] at hl
  rw [pow24'] at hv hl
  have e1 : k * 24 + Nbl a - 1 = 24 * k + (Nbl a - 1) := by omega
  have e2 : k * 24 + Nbl a = 24 * k + Nbl a := by omega
  refine ⟨h0, b1, ?_, ?_⟩
  · rw [e1, Nat.pow_add, hv]
    have := Nat.mul_le_mul_left (2 ^ (24 * k)) b2
    omega
  · rw [e2, Nat.pow_add, hv]
    have := Nat.mul_le_mul_left (2 ^ (24 * k)) (Nat.succ_le_of_lt b3)
    rw [Nat.mul_succ] at this
    omega
theorem top2 : ∃ N, N = 4800 ∧ top = 2 ^ N := ⟨24 * 200, by omega, by unfold top; rw [pow24']⟩
/-- too great a power -/
theorem pow_big {x L n : Nat} (h : 2 ^ L ≤ x) (hn : 4800 ≤ L * n) : top ≤ x ^ n := by
  obtain ⟨N, hN, ht⟩ := top2
  rw [ht]
  calc 2 ^ N ≤ 2 ^ (L * n) := Nat.pow_le_pow_right (by omega) (by omega)
    _ = (2 ^ L) ^ n := Nat.pow_mul ..
    _ ≤ x ^ n := Nat.pow_le_pow_left h n
theorem pow_400' {x L n j m : Nat} (hm : 401 ≤ m) (h1 : 1 ≤ L) (h : x < 2 ^ L) (h2 : (L - 1) * n < 4800) (hx : 0 < x) (hj : j ≤ n) : (dig (x ^ j)).length ≤ m := by
  apply dig_len_le
  have a1 : x ^ j ≤ x ^ n := Nat.pow_le_pow_right hx hj
  rcases Nat.lt_or_ge L 2 with h3 | h3
  · have : L = 1 := by omega
    subst this
    have e : x = 1 := by omega
    rw [e, Nat.one_pow]
    exact Nat.one_lt_pow (by omega) (by omega)
  · have a2 : x ^ n ≤ (2 ^ L) ^ n := Nat.pow_le_pow_left (by omega) n
    rw [← Nat.pow_mul] at a2
    have a3 : L * n ≤ 2 * ((L - 1) * n) := by
      rw [← Nat.mul_assoc]
      exact Nat.mul_le_mul_right n (by omega)
    have a4 : (2 : Nat) ^ (L * n) < 2 ^ (24 * m) := Nat.pow_lt_pow_right (by omega) (by omega)
    rw [pow24']
    omega
theorem pow_400 {x L n j : Nat} (h1 : 1 ≤ L) (h : x < 2 ^ L) (h2 : (L - 1) * n < 4800) (hx : 0 < x) (hj : j ≤ n) : (dig (x ^ j)).length ≤ 401 := pow_400' (Nat.le_refl _) h1 h h2 hx hj
theorem pow_400_zero' (j m : Nat) (hm : 401 ≤ m) : (dig (0 ^ j)).length ≤ m := by
  apply dig_len_le
  have h : 0 ^ j ≤ 1 := by cases j <;> simp
  have : 1 < 16777216 ^ m := Nat.one_lt_pow (by omega) (by omega)
  omega
theorem pow_400_zero (j : Nat) : (dig (0 ^ j)).length ≤ 401 := pow_400_zero' j 401 (Nat.le_refl _)
theorem pow_half (n j : Nat) : n / 2 ^ j = n / 2 ^ (j + 1) + n / 2 ^ (j + 1) + (n / 2 ^ j) % 2 := by
  rw [Nat.pow_succ, ← Nat.div_div_eq_div_mul]
  omega
theorem pow_sq (x n j : Nat) (h : (n / 2 ^ j) % 2 = 0) : x ^ (n / 2 ^ (j + 1)) * x ^ (n / 2 ^ (j + 1)) = x ^ (n / 2 ^ j) := by
  rw [← Nat.pow_add]
  have := pow_half n j
  rw [h, Nat.add_zero] at this
  rw [← this]
theorem pow_sqx (x n j : Nat) (h : (n / 2 ^ j) % 2 = 1) : x ^ (n / 2 ^ (j + 1)) * x ^ (n / 2 ^ (j + 1)) * x = x ^ (n / 2 ^ j) := by
  rw [← Nat.pow_add, ← Nat.pow_add_one]
  have := pow_half n j
  rw [h] at this
  rw [← this]
theorem pow_start (n : Nat) (h : n ≤ 4800) : n / 2 ^ Nbl n = 0 := by
  rcases Nat.eq_zero_or_pos n with e | e
  · subst e; simp
  · exact Nat.div_eq_of_lt (nbl_pos e (by omega)).2.2
end Na
end Go.Proofs.YtnfjnlnphdmdmaaGreatDoor

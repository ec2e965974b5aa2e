/- nat.shift, nat.take, nat.give: the pieces of long division. -/
import Derived.Test.YtflgfkelbniblaaDoorNatD
import Derived.Test.YtflgfkelbniblaaDoorNatE
import Derived.Test.YtflgfkelbniblaaDoorDivP
namespace Go.Proofs.YtflgfkelbniblaaDoor
open Go.RowKit
set_option linter.unusedVariables false
set_option maxRecDepth 100000
namespace Na
theorem shift_step (P x s cr t : Nat) (hc : cr < s) (hs : s ≤ 16777216) (ht : t = x * s + cr) : P * (t % 16777216) + P * 16777216 * (t / 16777216) = P * (x * s) + P * cr := by
  rw [split24, ht, Nat.mul_add]
theorem shift_carry {x s cr : Nat} (hx : x < 16777216) (hc : cr < s) : (x * s + cr) / 16777216 < s := by
  rw [Nat.div_lt_iff_lt_mul (by omega)]
  have : (x + 1) * s ≤ 16777216 * s := Nat.mul_le_mul_right _ hx
  rw [Nat.add_mul, Nat.one_mul] at this
  rw [Nat.mul_comm s]
  omega
end Na
theorem or_i64 (a b : Nat) (ha : a < 9223372036854775808) (hb : b < 9223372036854775808) : bits .or .i64 (a : Int) (b : Int) = ((a ||| b : Nat) : Int) := by
  have hlt : a ||| b < 2 ^ 63 := Nat.or_lt_two_pow (by simpa using ha) (by simpa using hb)
  have key : (BitVec.ofInt 64 (a : Int) ||| BitVec.ofInt 64 (b : Int)).toNat = a ||| b := by
    rw [BitVec.toNat_or, BitVec.toNat_ofInt, BitVec.toNat_ofInt]
    congr 1 <;> omega
  show IntKind.i64.wrap ((BitVec.ofInt 64 (a : Int) ||| BitVec.ofInt 64 (b : Int)).toNat : Nat) = ((a ||| b : Nat) : Int)
  rw [key, IntKind.wrap_i64]
  generalize a ||| b = c at *
  omega
/-- '|=' of a shifted limb and a smaller carry is their sum -/
theorem or_shift (x k cr : Nat) (hx : x < 16777216) (hb : k < 24) (hc : cr < 2 ^ k) : bits .or .i64 (cr : Int) ((x * 2 ^ k : Nat) : Int) = ((x * 2 ^ k + cr : Nat) : Int) := by
  have h2 : 2 ^ k ≤ 2 ^ 23 := Nat.pow_le_pow_right (by omega) (by omega)
  have h3 : x * 2 ^ k ≤ x * 2 ^ 23 := Nat.mul_le_mul_left _ h2
  rw [or_i64 _ _ (by omega) (by omega), Nat.or_comm, Nat.mul_comm x, ← Nat.two_pow_add_eq_or_of_lt hc]
end Go.Proofs.YtflgfkelbniblaaDoor

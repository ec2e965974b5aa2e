/- The contracts of the functions double, Mul, raise and turn of the package field. -/
import Derived.Test.YtkolmppfhpcdpaaDoorChecked
import Derived.Test.YtkolmppfhpcdpaaDoorGf
import Derived.Test.YtkolmppfhpcdpaaDoorMod
import Derived.WalkKit
import Derived.WalkLawsBesides
import Derived.WalkSpells
import Derived.Lib.Hide
import Derived.Laws.BitsAllLaws
namespace Go.Proofs.YtkolmppfhpcdpaaDoor
open Go.RowKit
set_option linter.unusedVariables false
set_option maxRecDepth 100000

/-- a byte as a value -/
theorem u8_lt (a : UInt8) : ((a.toNat : Nat) : Int) < 256 := by have := UInt8.toNat_lt a; omega
theorem ret_u8 {a b : UInt8} (h : a = b) : Ending.returned (.int .u8 (a.toNat : Int)) = .returned (.int .u8 (b.toNat : Int)) := by rw [h]
theorem u8_shl1 (a : UInt8) : IntKind.u8.wrap ((a.toNat : Int) * 2) = ((a <<< 1).toNat : Int) := by
  rw [IntKind.wrap_u8, UInt8.toNat_shiftLeft]
  simp [Nat.shiftLeft_eq]
theorem u8_xor8 (a c : UInt8) : bits .xor .u8 (a.toNat : Int) (c.toNat : Int) = ((a ^^^ c).toNat : Int) := by
  rw [u8_xor_nat _ _ (UInt8.toNat_lt a) (UInt8.toNat_lt c), UInt8.toNat_xor]

theorem dbl_lo0 : ∀ n, n < 256 → n < 128 → n * 2 = (Gf.dbl (UInt8.ofNat n)).toNat := by decide +kernel
theorem dbl_hi0 : ∀ n : Nat, n < 256 → ¬ n < 128 → bits .xor .u8 ((n : Int) * 2 % 256) 29 = ((Gf.dbl (UInt8.ofNat n)).toNat : Int) := by decide +kernel
theorem dbl_lo (a : UInt8) (h : (a.toNat : Int) < 128) : (a.toNat : Int) * 2 = ((Gf.dbl a).toNat : Int) := by
  have := dbl_lo0 a.toNat (UInt8.toNat_lt a) (by omega)
  rw [UInt8.ofNat_toNat] at this
  omega
theorem dbl_hi (a : UInt8) (h : ¬ (a.toNat : Int) < 128) : bits .xor .u8 ((a.toNat : Int) * 2 % 256) 29 = ((Gf.dbl a).toNat : Int) := by
  have := dbl_hi0 a.toNat (UInt8.toNat_lt a) (by omega)
  rwa [UInt8.ofNat_toNat] at this
theorem double_any (a : UInt8) (w : World) : Calls Tryd.prog 50 #[.int .u8 (a.toNat : Int)] w fun e w' => e = .returned (.int .u8 ((Gf.dbl a).toNat : Int)) ∧ w = w' := by
  have hl := u8_lt a
  by_cases h : (a.toNat : Int) < 128
  · have H := Lib.hid (dbl_lo a h)
    go_enter Tryd.func50, Tryd.ntmps50
    go_wp2
    go_ret
    exact ⟨ret_int H.out, rfl⟩
  · have H := Lib.hid (dbl_hi a h)
    go_enter Tryd.func50, Tryd.ntmps50
    go_wp2
    go_ret
    exact ⟨ret_int H.out, rfl⟩

theorem int_eq {k : IntKind} {a b : Int} (h : a = b) : (Value.int k a) = .int k b := by rw [h]
theorem u8_shr1 (y : UInt8) : Value.int .u8 ((y.toNat : Int) / 2) = .int .u8 ((y >>> 1).toNat : Int) := by
  refine int_eq ?_
  rw [UInt8.toNat_shiftRight]
  simp [Nat.shiftRight_eq_div_pow]
theorem i64_shr1 (k : Nat) : Value.int .i64 ((k : Int) / 2) = .int .i64 ((k / 2 : Nat) : Int) := by
  refine int_eq ?_
  omega
theorem ofInt_i64 (a : Nat) (ha : a < 9223372036854775808) : (BitVec.ofInt 64 (a : Int)).toNat = a := by
  rw [BitVec.ofInt_natCast, BitVec.toNat_ofNat]; exact Nat.mod_eq_of_lt (by omega)
theorem i64_and_nat (a b : Nat) (ha : a < 9223372036854775808) (hb : b < 9223372036854775808) : bits .and .i64 (a : Int) (b : Int) = ((a &&& b : Nat) : Int) := by
  have hx : a &&& b < 2 ^ 63 := Nat.and_lt_two_pow _ (by omega)
  show IntKind.i64.wrap ((BitVec.ofInt 64 (a : Int) &&& BitVec.ofInt 64 (b : Int)).toNat : Int) = _
  rw [BitVec.toNat_and, ofInt_i64 a ha, ofInt_i64 b hb, IntKind.wrap_i64]
  omega
theorem xor_ex (a c : UInt8) : ∃ d : UInt8, bits .xor .u8 (a.toNat : Int) (c.toNat : Int) = (d.toNat : Int) ∧ Hid (d = a ^^^ c) := ⟨_, u8_xor8 a c, rfl⟩
/-- the product that is still to come, and what is gathered -/
def MulRel (a0 c0 : UInt8) (a c p : Value) : Prop := ∃ x y z : UInt8, a = .int .u8 (x.toNat : Int) ∧ c = .int .u8 (y.toNat : Int) ∧ p = .int .u8 (z.toNat : Int) ∧ Gf.gmul a0 c0 = z ^^^ Gf.gmul x y
theorem u8_pos {y : UInt8} (h : y ≠ 0) : 0 < (y.toNat : Int) := by
  have : y.toNat ≠ 0 := fun e => h (UInt8.toNat_inj.1 (by simpa using e))
  omega
theorem u8_bit0 (y : UInt8) : bits .and .u8 (y.toNat : Int) 1 = if Gf.bit y 0 then 1 else 0 := by
  have := u8_and_nat y.toNat 1 (UInt8.toNat_lt y) (by decide)
  rw [show ((1 : Nat) : Int) = 1 from rfl] at this
  rw [this]
  unfold Gf.bit
  rw [Nat.and_one_is_mod, Nat.testBit_zero]
  by_cases h : y.toNat % 2 = 1
  · simp [h]
  · have h0 : y.toNat % 2 = 0 := by omega
    simp [h0]
theorem mul_any (a0 c0 : UInt8) (w : World) : Calls Tryd.prog 32 #[.int .u8 (a0.toNat : Int), .int .u8 (c0.toNat : Int)] w fun e w' => e = .returned (.int .u8 ((Gf.gmul a0 c0).toNat : Int)) ∧ w = w' := by
  go_enter Tryd.func32, Tryd.ntmps32
  go_wp2_with fail
  go_loop [0, 1, 5] (fun a c p => MulRel a0 c0 a c p) (fun _ c _ => (intOf c).toNat)
  case atStart => exact ⟨a0, c0, 0, rfl, rfl, rfl, by rw [UInt8.zero_xor]⟩
  case round =>
    obtain ⟨x, y, z, rfl, rfl, rfl, hm⟩ := hrel
    have hx := u8_lt x
    have hy := u8_lt y
    have hz := u8_lt z
    have HM := Lib.hid hm
    clear hm
    by_cases h0 : y = 0
    · subst h0
      go_wp2_with fail
      go_ret
      exact ⟨ret_u8 (by rw [HM.out, Gf.gmul_zero, UInt8.xor_zero]), rfl⟩
    · have h1 := u8_pos h0
      have hs := Lib.hid (Gf.gmul_step x y)
      cases hbit : Gf.bit y 0
      · have hb : bits .and .u8 (y.toNat : Int) 1 = 0 := by rw [u8_bit0, hbit]; rfl
        have HB := Lib.hid hbit
        clear hbit h0
        go_wp2_with (go_at_call 50; refine (double_any _ _).mono ?_; rintro e w' ⟨rfl, rfl⟩)
        go_round
        case rel => exact ⟨Gf.dbl x, y >>> 1, z, rfl, u8_shr1 y, rfl, by rw [HM.out, hs.out, HB.out]; simp [Gf.sel]⟩
        case measure => simp [intOf]; omega
      · have hb : bits .and .u8 (y.toNat : Int) 1 = 1 := by rw [u8_bit0, hbit]; rfl
        have HB := Lib.hid hbit
        clear hbit h0
        go_wp2_with (go_at_call 50; refine (double_any _ _).mono ?_; rintro e w' ⟨rfl, rfl⟩)
        go_round
        case rel => exact ⟨Gf.dbl x, y >>> 1, z ^^^ x, rfl, u8_shr1 y, int_eq (u8_xor8 z x), by rw [HM.out, hs.out, HB.out, ← UInt8.xor_assoc]; simp [Gf.sel]⟩
        case measure => simp [intOf]; omega

/-- what is still to come, and what is gathered -/
def RaiseRel (a0 : UInt8) (n0 : Nat) (a n p : Value) : Prop := ∃ (x z : UInt8) (k : Nat), k ≤ 9223372036854775807 ∧ a = .int .u8 (x.toNat : Int) ∧ n = .int .i64 (k : Int) ∧ p = .int .u8 (z.toNat : Int) ∧ Gf.gpow a0 n0 = Gf.gmul z (Gf.gpow x k)
theorem i64_bit0 (k : Nat) (h : k ≤ 9223372036854775807) : bits .and .i64 (k : Int) 1 = ((k % 2 : Nat) : Int) := by
  have := i64_and_nat k 1 (by omega) (by decide)
  rw [show ((1 : Nat) : Int) = 1 from rfl] at this
  rw [this, Nat.and_one_is_mod]
theorem pow_even (x : UInt8) (k : Nat) (h : k % 2 = 0) : Gf.gpow x k = Gf.gpow (Gf.gmul x x) (k / 2) := by
  rw [← Gf.gpow_two, ← Gf.gpow_mul]
  congr 1
  omega
theorem pow_odd (x : UInt8) (k : Nat) (h : k % 2 = 1) : Gf.gpow x k = Gf.gmul x (Gf.gpow (Gf.gmul x x) (k / 2)) := by
  rw [← Gf.gpow_two, ← Gf.gpow_mul]
  conv => rhs; arg 1; rw [← Gf.gpow_one x]
  rw [← Gf.gpow_add]
  congr 1
  omega
theorem raise_any (a0 : UInt8) (n0 : Int) (h0 : 0 ≤ n0) (hn : n0 ≤ 9223372036854775807) (w : World) : Calls Tryd.prog 53 #[.int .u8 (a0.toNat : Int), .int .i64 n0] w fun e w' => e = .returned (.int .u8 ((Gf.gpow a0 n0.toNat).toNat : Int)) ∧ w = w' := by
  obtain ⟨n, rfl⟩ := Int.eq_ofNat_of_zero_le h0
  rw [Int.toNat_natCast]
  go_enter Tryd.func53, Tryd.ntmps53
  go_wp2_with fail
  go_loop [0, 1, 5] (fun a c p => RaiseRel a0 n a c p) (fun _ c _ => (intOf c).toNat)
  case atStart => exact ⟨a0, 1, n, by omega, rfl, rfl, rfl, by rw [Gf.one_gmul]⟩
  case round =>
    obtain ⟨x, z, k, hk, rfl, rfl, rfl, hm⟩ := hrel
    have hx := u8_lt x
    have hz := u8_lt z
    have HM := Lib.hid hm
    clear hm
    by_cases hk0 : k = 0
    · subst hk0
      go_wp2_with fail
      go_ret
      exact ⟨ret_u8 (by rw [HM.out]; exact (Gf.gmul_one z).symm), rfl⟩
    · have h1 : 0 < (k : Int) := by omega
      by_cases hbit : k % 2 = 1
      · have hb : bits .and .i64 (k : Int) 1 = 1 := by rw [i64_bit0 k hk, hbit]; rfl
        have HB := Lib.hid (pow_odd x k hbit)
        clear hbit hk0
        go_wp2_with (go_at_call 32; refine (mul_any _ _ _).mono ?_; rintro e w' ⟨rfl, rfl⟩)
        go_round
        case rel => exact ⟨Gf.gmul x x, Gf.gmul z x, k / 2, by omega, rfl, i64_shr1 k, rfl, by rw [HM.out, HB.out, Gf.gmul_assoc]⟩
        case measure => simp [intOf]; omega
      · have hb : bits .and .i64 (k : Int) 1 = 0 := by rw [i64_bit0 k hk, show k % 2 = 0 from by omega]; rfl
        have HB := Lib.hid (pow_even x k (by omega))
        clear hbit hk0
        go_wp2_with (go_at_call 32; refine (mul_any _ _ _).mono ?_; rintro e w' ⟨rfl, rfl⟩)
        go_round
        case rel => exact ⟨Gf.gmul x x, z, k / 2, by omega, rfl, i64_shr1 k, rfl, by rw [HM.out, HB.out]⟩
        case measure => simp [intOf]; omega

theorem turn_num (n : Int) : ((n.tmod 255) + 255) % 255 = (Gf.emod n : Int) := by
  rw [Gf.emod_cast]
  have h1 := Int.tmod_eq_emod (a := n) (b := 255)
  split at h1 <;> omega
end Go.Proofs.YtkolmppfhpcdpaaDoor

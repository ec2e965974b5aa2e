/- The contract of the reference's product of the field: it is the plain product. -/
import Derived.Test.YtkolmppfhpcdpaaDoorFieldA
namespace Go.Proofs.YtkolmppfhpcdpaaDoor
open Go.RowKit
set_option linter.unusedVariables false
set_option maxRecDepth 100000

theorem i64_xor_nat (a b : Nat) (ha : a < 9223372036854775808) (hb : b < 9223372036854775808) : bits .xor .i64 (a : Int) (b : Int) = ((a ^^^ b : Nat) : Int) := by
  have hx : a ^^^ b < 2 ^ 63 := Nat.xor_lt_two_pow (by omega) (by omega)
  show IntKind.i64.wrap ((BitVec.ofInt 64 (a : Int) ^^^ BitVec.ofInt 64 (b : Int)).toNat : Int) = _
  rw [BitVec.toNat_xor, ofInt_i64 a ha, ofInt_i64 b hb, IntKind.wrap_i64]
  omega
theorem i64_xor8 (a c : UInt8) : bits .xor .i64 (a.toNat : Int) (c.toNat : Int) = ((a ^^^ c).toNat : Int) := by
  have h1 := UInt8.toNat_lt a
  have h2 := UInt8.toNat_lt c
  rw [i64_xor_nat _ _ (by omega) (by omega), UInt8.toNat_xor]
theorem u8_bitk (y : UInt8) (k : Nat) : bits .and .u8 ((y.toNat : Int) / 2 ^ k) 1 = if Gf.bit y k then 1 else 0 := by
  have hy := UInt8.toNat_lt y
  have e : ((y.toNat : Int) / 2 ^ k) = ((y.toNat / 2 ^ k : Nat) : Int) := by simp
  have hlt : y.toNat / 2 ^ k < 256 := Nat.lt_of_le_of_lt (Nat.div_le_self _ _) hy
  have := u8_and_nat (y.toNat / 2 ^ k) 1 hlt (by decide)
  rw [show ((1 : Nat) : Int) = 1 from rfl] at this
  rw [e, this]
  unfold Gf.bit
  rw [Nat.and_one_is_mod, Nat.testBit_eq_decide_div_mod_eq]
  by_cases h : y.toNat / 2 ^ k % 2 = 1
  · simp [h]
  · have h0 : y.toNat / 2 ^ k % 2 = 0 := by omega
    simp [h0]
theorem dbl_hi1 : ∀ n : Nat, n < 256 → ¬ n < 128 → bits .xor .i64 ((n : Int) * 2) 285 = ((Gf.dbl (UInt8.ofNat n)).toNat : Int) := by decide +kernel
theorem dbl_hi64 (a : UInt8) (h : ¬ (a.toNat : Int) < 128) : bits .xor .i64 ((a.toNat : Int) * 2) 285 = ((Gf.dbl a).toNat : Int) := by
  have := dbl_hi1 a.toNat (UInt8.toNat_lt a) (by omega)
  rwa [UInt8.ofNat_toNat] at this

def RefMulRel (a0 c0 : UInt8) (v x k : Value) : Prop := ∃ (j : Nat) (y z : UInt8), j ≤ 8 ∧ k = .int .i64 (j : Int) ∧ x = .int .i64 (y.toNat : Int) ∧ v = .int .i64 (z.toNat : Int) ∧ y = Gf.dblN j a0 ∧ z = Gf.gpart j a0 c0
theorem refmul_step {a0 c0 : UInt8} {k : Nat} {bit : Bool} {y z y' z' : UInt8} (hy : Hid (y = Gf.dblN k a0)) (hz : Hid (z = Gf.gpart k a0 c0)) (hb : Hid (Gf.bit c0 k = bit)) (hy' : Hid (y' = Gf.dbl y)) (hz' : Hid (z' = if bit then z ^^^ y else z)) :
    y' = Gf.dblN (k + 1) a0 ∧ z' = Gf.gpart (k + 1) a0 c0 := by
  unfold Hid at *
  subst hy hz hy' hz'
  refine ⟨rfl, ?_⟩
  show _ = Gf.gpart k a0 c0 ^^^ Gf.sel (Gf.bit c0 k) (Gf.dblN k a0)
  rw [hb]
  cases bit <;> simp [Gf.sel]
theorem dbl_ex_lo (y : UInt8) (h : (y.toNat : Int) < 128) : ∃ y' : UInt8, Hid ((y.toNat : Int) * 2 = (y'.toNat : Int)) ∧ Hid (y' = Gf.dbl y) := ⟨_, dbl_lo y h, rfl⟩
theorem dbl_ex_hi (y : UInt8) (h : ¬ (y.toNat : Int) < 128) : ∃ y' : UInt8, bits .xor .i64 ((y.toNat : Int) * 2) 285 = (y'.toNat : Int) ∧ Hid (y' = Gf.dbl y) := ⟨_, dbl_hi64 y h, rfl⟩
set_option maxHeartbeats 1000000 in
theorem refmul_any (a0 c0 : UInt8) (w : World) : Calls Tryd.prog 38 #[.int .u8 (a0.toNat : Int), .int .u8 (c0.toNat : Int)] w fun e w' => e = .returned (.int .u8 ((Gf.gmul a0 c0).toNat : Int)) ∧ w = w' := by
  have ha := u8_lt a0
  have hc := u8_lt c0
  go_enter Tryd.func38, Tryd.ntmps38
  go_wp2_with fail
  go_loop [5, 6, 7] (fun v x k => RefMulRel a0 c0 v x k) (fun _ _ k => 8 - (intOf k).toNat)
  case atStart => exact ⟨0, a0, 0, by omega, rfl, rfl, rfl, rfl, rfl⟩
  case round =>
    obtain ⟨k, y, z, hk, rfl, rfl, rfl, hy, hz⟩ := hrel
    have HY := Lib.hid hy
    have HZ := Lib.hid hz
    clear hy hz
    have hx := u8_lt y
    have hz := u8_lt z
    rcases Nat.lt_or_ge k 8 with hk8 | hk8
    · obtain ⟨z', hxor, hz'⟩ : ∃ z' : UInt8, bits .xor .i64 (z.toNat : Int) (y.toNat : Int) = (z'.toNat : Int) ∧ Hid (z' = if true then z ^^^ y else z) := ⟨_, i64_xor8 z y, rfl⟩
      have hsh := u8_bitk c0 k
      cases hbit : Gf.bit c0 k <;> rw [hbit] at hsh
      · have HB := Lib.hid hbit
        replace hsh : bits .and .u8 ((c0.toNat : Int) / 2 ^ k) 1 = 0 := hsh
        clear hbit hxor
        have hzz : Hid (z = if false then z ^^^ y else z) := rfl
        rcases Int.lt_or_le (y.toNat : Int) 128 with hlo | hlo
        · obtain ⟨y', HD, hy'⟩ := dbl_ex_lo y hlo
          go_wp2_with fail
          go_round
          case rel => exact ⟨k + 1, y', z, by omega, by go_num, int_eq HD.out, rfl, refmul_step HY HZ HB hy' hzz⟩
          case measure => simp [intOf]; omega
        · obtain ⟨y', HD, hy'⟩ := dbl_ex_hi y (by omega)
          go_wp2_with fail
          go_round
          case rel => exact ⟨k + 1, y', z, by omega, by go_num, rfl, rfl, refmul_step HY HZ HB hy' hzz⟩
          case measure => simp [intOf]; omega
      · have HB := Lib.hid hbit
        replace hsh : bits .and .u8 ((c0.toNat : Int) / 2 ^ k) 1 = 1 := hsh
        clear hbit
        rcases Int.lt_or_le (y.toNat : Int) 128 with hlo | hlo
        · obtain ⟨y', HD, hy'⟩ := dbl_ex_lo y hlo
          go_wp2_with fail
          go_round
          case rel => exact ⟨k + 1, y', z', by omega, by go_num, int_eq HD.out, rfl, refmul_step HY HZ HB hy' hz'⟩
          case measure => simp [intOf]; omega
        · obtain ⟨y', HD, hy'⟩ := dbl_ex_hi y (by omega)
          go_wp2_with fail
          go_round
          case rel => exact ⟨k + 1, y', z', by omega, by go_num, rfl, rfl, refmul_step HY HZ HB hy' hz'⟩
          case measure => simp [intOf]; omega
    · have e8 : z = Gf.gmul a0 c0 := by
        rw [HZ.out, ← Gf.gpart_all]
        congr 1
        omega
      have HE := Lib.hid e8
      clear e8
      go_wp2_with fail
      go_ret
      exact ⟨ret_u8 HE.out, rfl⟩
end Go.Proofs.YtkolmppfhpcdpaaDoor

/- The walks of the statements about the field: FieldLaws, FieldLogs, FieldPowers, FieldExact return true. -/
import Derived.Test.YtkolmppfhpcdpaaFieldD
namespace Go.Proofs.Ytkolmppfhpcdpaa
open Go.RowKit
set_option linter.unusedVariables false
set_option maxRecDepth 100000

theorem u8_of {n : Int} (h : (Lit.int .u8 n).wf = true) : ∃ a : UInt8, n = (a.toNat : Int) := by
  have hb : 0 ≤ n ∧ n < 256 := by
    simp [Lit.wf, IntKind.min, IntKind.max, IntKind.bits, IntKind.signed] at h
    omega
  refine ⟨UInt8.ofNat n.toNat, ?_⟩
  rw [UInt8.toNat_ofNat']
  omega
theorem mul_lit1 (a : UInt8) (w : World) : Calls Try.prog 8 #[.int .u8 (a.toNat : Int), .int .u8 1] w fun e w' => e = .returned (.int .u8 (a.toNat : Int)) ∧ w = w' := by
  have := mul_any a 1 w
  rw [Gf.gmul_one] at this
  exact this
theorem mul_lit0 (a : UInt8) (w : World) : Calls Try.prog 8 #[.int .u8 (a.toNat : Int), .int .u8 0] w fun e w' => e = .returned (.int .u8 0) ∧ w = w' := by
  have := mul_any a 0 w
  rw [Gf.gmul_zero] at this
  exact this
theorem mul_lit29 (w : World) : Calls Try.prog 8 #[.int .u8 2, .int .u8 128] w fun e w' => e = .returned (.int .u8 29) ∧ w = w' := by
  have := mul_any 2 128 w
  rw [show Gf.gmul 2 128 = 29 from by decide +kernel] at this
  exact this
theorem exp_lit8 (w : World) : Calls Try.prog 13 #[.int .i64 8] w fun e w' => e = .returned (.int .u8 29) ∧ w = w' := by
  have := exp_any 8 w
  rw [show Gf.zpow 2 8 = 29 from by decide +kernel] at this
  exact this
theorem awake_any (w : World) : Calls Try.prog 7 #[] w fun e w' => e = .returned (.bool true) ∧ w = w' := by
  go_enter Try.func7, Try.ntmps7
  go_wp2_with (first | (go_at_call 8; ((with_reducible refine (mul_lit29 _).mono ?_); rintro e w' ⟨rfl, rfl⟩)) | (go_at_call 13; ((with_reducible refine (exp_lit8 _).mono ?_); rintro e w' ⟨rfl, rfl⟩)))
  go_ret
  exact ⟨rfl, rfl⟩

theorem xor_ex (a c : UInt8) : ∃ d : UInt8, bits .xor .u8 (a.toNat : Int) (c.toNat : Int) = (d.toNat : Int) ∧ Hid (d = a ^^^ c) := ⟨_, u8_xor8 a c, rfl⟩

theorem fieldLaws_any (a b c : UInt8) (w : World) : Calls Try.prog 3 #[.int .u8 (a.toNat : Int), .int .u8 (b.toNat : Int), .int .u8 (c.toNat : Int)] w fun e w' => e = .returned (.bool true) ∧ w = w' := by
  obtain ⟨d, hx, HD⟩ := xor_ex b c
  have hx2 : bits .xor .u8 ((Gf.gmul a b).toNat : Int) ((Gf.gmul a c).toNat : Int) = ((Gf.gmul a d).toNat : Int) := by rw [u8_xor8, HD.out, Gf.gmul_add]
  have hcm := Gf.gmul_comm b a
  have has := Gf.gmul_assoc a b c
  rcases zero_or a with hz | ⟨hz, hne⟩
  · have he : Gf.ez a = 4 := by rw [hz]; rfl
    have hne : ((a.toNat : Int) == 0) = true := by rw [hz]; rfl
    clear hz
    go_enter Try.func3, Try.ntmps3
    go_wp2_with (first | (go_at_call 7; ((with_reducible refine (awake_any _).mono ?_); rintro e w' ⟨rfl, rfl⟩)) | (go_at_call 8; (first | (with_reducible refine (mul_lit1 _ _).mono ?_) | (with_reducible refine (mul_lit0 _ _).mono ?_) | (with_reducible refine (mul_any _ _ _).mono ?_)); rintro e w' ⟨rfl, rfl⟩) | (go_at_call 9; ((with_reducible refine (inverse_any _ _).mono ?_); rintro e w' ⟨rfl, rfl⟩)))
    go_ret
    exact ⟨rfl, rfl⟩
  · have he := Gf.ez_ne a hz
    have hi : Gf.gmul a (Gf.ginv a) = 1 := Gf.gmul_inv a hz
    have hq : Gf.gmul (Gf.gmul b (Gf.ginv a)) a = b := by rw [Gf.gmul_assoc, Gf.ginv_mul a hz, Gf.gmul_one]
    clear hz
    go_enter Try.func3, Try.ntmps3
    go_wp2_with (first | (go_at_call 7; ((with_reducible refine (awake_any _).mono ?_); rintro e w' ⟨rfl, rfl⟩)) | (go_at_call 8; (first | (with_reducible refine (mul_lit1 _ _).mono ?_) | (with_reducible refine (mul_lit0 _ _).mono ?_) | (with_reducible refine (mul_any _ _ _).mono ?_)); rintro e w' ⟨rfl, rfl⟩) | (go_at_call 9; ((with_reducible refine (inverse_any _ _).mono ?_); rintro e w' ⟨rfl, rfl⟩)) | (go_at_call 10; ((with_reducible refine (divide_any _ _ _).mono ?_); rintro e w' ⟨rfl, rfl⟩)))
    go_ret
    exact ⟨rfl, rfl⟩

set_option maxHeartbeats 1000000 in
theorem fieldExact_any (a b : UInt8) (n : Int) (w : World) : Calls Try.prog 6 #[.int .u8 (a.toNat : Int), .int .u8 (b.toNat : Int), .int .i64 n] w fun e w' => e = .returned (.bool true) ∧ w = w' := by
  go_enter Try.func6, Try.ntmps6
  go_wp2_with (first | (go_at_call 7; ((with_reducible refine (awake_any _).mono ?_); rintro e w' ⟨rfl, rfl⟩)) | (go_at_call 8; ((with_reducible refine (mul_any _ _ _).mono ?_); rintro e w' ⟨rfl, rfl⟩)) | (go_at_call 19; ((with_reducible refine (refmul_any _ _ _).mono ?_); rintro e w' ⟨rfl, rfl⟩)) | (go_at_call 9; ((with_reducible refine (inverse_any _ _).mono ?_); rintro e w' ⟨rfl, rfl⟩)) | (go_at_call 15; ((with_reducible refine (refinverse_any _ _).mono ?_); rintro e w' ⟨rfl, rfl⟩)) | (go_at_call 10; ((with_reducible refine (divide_any _ _ _).mono ?_); rintro e w' ⟨rfl, rfl⟩)) | (go_at_call 16; ((with_reducible refine (refdivide_any _ _ _).mono ?_); rintro e w' ⟨rfl, rfl⟩)) | (go_at_call 14; ((with_reducible refine (power_any _ _ _).mono ?_); rintro e w' ⟨rfl, rfl⟩)) | (go_at_call 17; ((with_reducible refine (refpower_any _ _ _).mono ?_); rintro e w' ⟨rfl, rfl⟩)) | (go_at_call 11; ((with_reducible refine (log_any _ _).mono ?_); rintro e w' ⟨rfl, rfl⟩)) | (go_at_call 18; ((with_reducible refine (reflog_any _ _).mono ?_); rintro e w' ⟨rfl, rfl⟩)) | (go_at_call 13; ((with_reducible refine (exp_any _ _).mono ?_); rintro e w' ⟨rfl, rfl⟩)) | (go_at_call 20; ((with_reducible refine (refexp_any _ _).mono ?_); rintro e w' ⟨rfl, rfl⟩)))
  go_ret
  exact ⟨rfl, rfl⟩

theorem zpow_eq (a : UInt8) (m n : Int) (h : m % 255 = n % 255) : Gf.zpow a m = Gf.zpow a n := by
  unfold Gf.zpow Gf.emod
  rw [h]
theorem lg_exp (n : Int) : Gf.lg (Gf.zpow 2 n) = n % 255 := by
  have h := Gf.emod_lt n
  have h2 : Gf.zpow 2 n ≠ 0 := Gf.exp_ne_zero _
  rw [lg_ne _ h2]
  show ((Gf.glog (Gf.gpow 2 (Gf.emod n)) : Nat) : Int) = _
  rw [Gf.log_exp _ h, Gf.emod_cast]
theorem mod_255 (n : Int) (w : World) : Calls Try.prog 12 #[.int .i64 n, .int .i64 255] w fun e w' => e = .returned (.int .i64 (n % 255)) ∧ w = w' := mod_any n 255 w (by omega) (by omega)
set_option maxHeartbeats 1000000 in
theorem fieldLogs_any (a b : UInt8) (n : Int) (w : World) : Calls Try.prog 4 #[.int .u8 (a.toNat : Int), .int .u8 (b.toNat : Int), .int .i64 n] w fun e w' => e = .returned (.bool true) ∧ w = w' := by
  rcases zero_or a with hz | ⟨hz, hne⟩
  · have hne : ((a.toNat : Int) == 0) = true := by rw [hz]; rfl
    clear hz
    go_enter Try.func4, Try.ntmps4
    go_wp2_with (go_at_call 7; ((with_reducible refine (awake_any _).mono ?_); rintro e w' ⟨rfl, rfl⟩))
    go_ret
    exact ⟨rfl, rfl⟩
  rcases zero_or b with hz2 | ⟨hz2, hne2⟩
  · have hne2 : ((b.toNat : Int) == 0) = true := by rw [hz2]; rfl
    clear hz hz2
    go_enter Try.func4, Try.ntmps4
    go_wp2_with (go_at_call 7; ((with_reducible refine (awake_any _).mono ?_); rintro e w' ⟨rfl, rfl⟩))
    go_ret
    exact ⟨rfl, rfl⟩
  have hea := Gf.ez_ne a hz
  have heb := Gf.ez_ne b hz2
  have hec := Gf.ez_ne _ (Gf.gmul_ne a b hz hz2)
  obtain ⟨A, hA, HA⟩ : ∃ A : Nat, Gf.lg a = (A : Int) ∧ A = Gf.glog a := ⟨_, lg_ne a hz, rfl⟩
  obtain ⟨B, hB, HB⟩ : ∃ B : Nat, Gf.lg b = (B : Int) ∧ B = Gf.glog b := ⟨_, lg_ne b hz2, rfl⟩
  have hC : Gf.lg (Gf.gmul a b) = ((A : Int) + (B : Int)) % 255 := by
    rw [lg_ne _ (Gf.gmul_ne a b hz hz2), Gf.log_mul a b hz hz2, HA, HB]
    omega
  have hlA : A < 255 := by rw [HA]; exact Gf.log_lt a hz
  have hlB : B < 255 := by rw [HB]; exact Gf.log_lt b hz2
  have hEA : Gf.zpow 2 (A : Int) = a := by
    have h : Gf.emod (A : Int) = A := by unfold Gf.emod; omega
    unfold Gf.zpow
    rw [h, HA, Gf.exp_log a hz]
  obtain ⟨k, hk⟩ : ∃ k : Int, k = n % 255 := ⟨_, rfl⟩
  have hk0 : 0 ≤ k := by omega
  have hk1 : k < 255 := by omega
  have hlk : Gf.lg (Gf.zpow 2 k) = k := by rw [lg_exp]; omega
  have hek : Gf.ez (Gf.zpow 2 k) = 0 := Gf.ez_ne _ (Gf.exp_ne_zero _)
  have h1 : Gf.zpow 2 (k + 255) = Gf.zpow 2 k := zpow_eq _ _ _ (by omega)
  have h2 : Gf.zpow 2 (k - 255) = Gf.zpow 2 k := zpow_eq _ _ _ (by omega)
  have hmod : ∀ w : World, Calls Try.prog 12 #[.int .i64 n, .int .i64 255] w fun e w' => e = .returned (.int .i64 k) ∧ w = w' := fun w => by rw [hk]; exact mod_255 n w
  have HM := Lib.hid hmod
  clear hmod hz hz2 HA HB hk
  go_enter Try.func4, Try.ntmps4
  go_wp2_with (first | (go_at_call 7; ((with_reducible refine (awake_any _).mono ?_); rintro e w' ⟨rfl, rfl⟩)) | (go_at_call 8; ((with_reducible refine (mul_any _ _ _).mono ?_); rintro e w' ⟨rfl, rfl⟩)) | (go_at_call 11; ((with_reducible refine (log_any _ _).mono ?_); rintro e w' ⟨rfl, rfl⟩)) | (go_at_call 12; ((with_reducible refine (HM.out _).mono ?_); rintro e w' ⟨rfl, rfl⟩)) | (go_at_call 13; ((with_reducible refine (exp_any _ _).mono ?_); rintro e w' ⟨rfl, rfl⟩)))
  go_ret
  exact ⟨rfl, rfl⟩
end Go.Proofs.Ytkolmppfhpcdpaa

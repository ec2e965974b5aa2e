/- The walk of the statement FieldPowers. -/
import Derived.Test.YtkolmppfhpcdpaaFieldL
import Derived.Test.YtkolmppfhpcdpaaKit
namespace Go.Proofs.Ytkolmppfhpcdpaa
open Go.RowKit
set_option linter.unusedVariables false
set_option maxRecDepth 100000

theorem pw_two (a : UInt8) : Gf.pw a 2 = Gf.gpow a 2 := by
  unfold Gf.pw
  by_cases h : a = 0
  · subst h
    rw [if_pos rfl]
    decide +kernel
  · rw [if_neg h]
    rfl
theorem epw_two (a : UInt8) : Gf.epw a 2 = 0 := by
  unfold Gf.epw
  rw [if_neg (fun x => by omega)]
theorem power_lit2 (a : UInt8) (w : World) : Calls Try.prog 14 #[.int .u8 (a.toNat : Int), .int .i64 2] w fun e w' => e = .returned (.tuple #[.int .u8 ((Gf.gpow a 2).toNat : Int), .int .i64 0]) ∧ w = w' := by
  have := power_any a 2 w
  rw [pw_two, epw_two] at this
  exact this
theorem power_ne (a : UInt8) (h : a ≠ 0) (n : Int) (w : World) : Calls Try.prog 14 #[.int .u8 (a.toNat : Int), .int .i64 n] w fun e w' => e = .returned (.tuple #[.int .u8 ((Gf.zpow a n).toNat : Int), .int .i64 0]) ∧ w = w' := by
  have := power_any a n w
  rw [show Gf.pw a n = Gf.zpow a n from if_neg h, show Gf.epw a n = 0 from if_neg (fun x => h x.1)] at this
  exact this
theorem mod_2000 (n : Int) (w : World) : Calls Try.prog 12 #[.int .i64 n, .int .i64 2000] w fun e w' => e = .returned (.int .i64 (n % 2000)) ∧ w = w' := mod_any n 2000 w (by omega) (by omega)

theorem fieldPowers_any (a b : UInt8) (x y : Int) (w : World) : Calls Try.prog 5 #[.int .u8 (a.toNat : Int), .int .u8 (b.toNat : Int), .agg #[.int .i64 x, .int .i64 y]] w fun e w' => e = .returned (.bool true) ∧ Below w.heap.size w w' := by
  obtain ⟨c, hx, HC⟩ := xor_ex a b
  have hx2 : bits .xor .u8 ((Gf.gpow a 2).toNat : Int) ((Gf.gpow b 2).toNat : Int) = ((Gf.gpow c 2).toNat : Int) := by rw [u8_xor8, HC.out, Gf.square_add]
  rcases zero_or a with hz | ⟨hz, hne⟩
  · have hne : ((a.toNat : Int) == 0) = true := by rw [hz]; rfl
    clear hz
    go_enter Try.func5, Try.ntmps5
    go_wp2_with (first | (go_at_call 7; ((with_reducible refine (awake_any _).mono ?_); rintro e w' ⟨rfl, rfl⟩)) | (go_at_call 14; ((with_reducible refine (power_lit2 _ _).mono ?_); rintro e w' ⟨rfl, rfl⟩)))
    go_ret
    exact ⟨rfl, (Below.refl _ _).alloc (Nat.le_refl _) _⟩
  · have hy0 : 0 ≤ y % 2000 ∧ y % 2000 < 2000 := by omega
    obtain ⟨i, hi⟩ : ∃ i : Int, i = x % 2000 := ⟨_, rfl⟩
    obtain ⟨k, hk⟩ : ∃ k : Int, k = y % 2000 := ⟨_, rfl⟩
    have hi0 : 0 ≤ i := by omega
    have hi1 : i < 2000 := by omega
    have hk0 : 0 ≤ k := by omega
    have hk1 : k < 2000 := by omega
    have hmx : Hid (∀ w : World, Calls Try.prog 12 #[.int .i64 x, .int .i64 2000] w fun e w' => e = .returned (.int .i64 i) ∧ w = w') := fun w => by rw [hi]; exact mod_2000 x w
    have hmy : Hid (∀ w : World, Calls Try.prog 12 #[.int .i64 y, .int .i64 2000] w fun e w' => e = .returned (.int .i64 k) ∧ w = w') := fun w => by rw [hk]; exact mod_2000 y w
    have hadd : Gf.gmul (Gf.zpow a (i - 1000)) (Gf.zpow a (k - 1000)) = Gf.zpow a (i - 1000 + (k - 1000)) := (Gf.zpow_add a hz _ _).symm
    have hneg : Gf.zpow (Gf.ginv a) (-(i - 1000)) = Gf.zpow a (i - 1000) := Gf.zpow_inv a hz _
    have hez := Gf.ez_ne a hz
    have hpa : Hid (∀ (n : Int) (w : World), Calls Try.prog 14 #[.int .u8 (a.toNat : Int), .int .i64 n] w fun e w' => e = .returned (.tuple #[.int .u8 ((Gf.zpow a n).toNat : Int), .int .i64 0]) ∧ w = w') := power_ne a hz
    have hpi : Hid (∀ (n : Int) (w : World), Calls Try.prog 14 #[.int .u8 ((Gf.ginv a).toNat : Int), .int .i64 n] w fun e w' => e = .returned (.tuple #[.int .u8 ((Gf.zpow (Gf.ginv a) n).toNat : Int), .int .i64 0]) ∧ w = w') := power_ne _ (Gf.ginv_ne a hz)
    clear hz hi hk hy0
    go_enter Try.func5, Try.ntmps5
    go_wp2_with (first | (go_at_call 7; ((with_reducible refine (awake_any _).mono ?_); rintro e w' ⟨rfl, rfl⟩)) | (go_at_call 14; (first | (with_reducible refine (power_lit2 _ _).mono ?_) | (with_reducible refine (hpa.out _ _).mono ?_) | (with_reducible refine (hpi.out _ _).mono ?_)); rintro e w' ⟨rfl, rfl⟩) | (go_at_call 12; (first | (with_reducible refine (hmx.out _).mono ?_) | (with_reducible refine (hmy.out _).mono ?_)); rintro e w' ⟨rfl, rfl⟩) | (go_at_call 9; ((with_reducible refine (inverse_any _ _).mono ?_); rintro e w' ⟨rfl, rfl⟩)) | (go_at_call 8; ((with_reducible refine (mul_any _ _ _).mono ?_); rintro e w' ⟨rfl, rfl⟩)))
    go_quiet ((go_at_call 12; first | with_reducible exact quiet_left (hmx.out _) | with_reducible exact quiet_left (hmy.out _)))
    go_wp2_with (first | (go_at_call 7; ((with_reducible refine (awake_any _).mono ?_); rintro e w' ⟨rfl, rfl⟩)) | (go_at_call 14; (first | (with_reducible refine (power_lit2 _ _).mono ?_) | (with_reducible refine (hpa.out _ _).mono ?_) | (with_reducible refine (hpi.out _ _).mono ?_)); rintro e w' ⟨rfl, rfl⟩) | (go_at_call 12; (first | (with_reducible refine (hmx.out _).mono ?_) | (with_reducible refine (hmy.out _).mono ?_)); rintro e w' ⟨rfl, rfl⟩) | (go_at_call 9; ((with_reducible refine (inverse_any _ _).mono ?_); rintro e w' ⟨rfl, rfl⟩)) | (go_at_call 8; ((with_reducible refine (mul_any _ _ _).mono ?_); rintro e w' ⟨rfl, rfl⟩)))
    go_ret
    exact ⟨rfl, below_drewN ((Below.refl _ _).alloc (Nat.le_refl _) _) _⟩
end Go.Proofs.Ytkolmppfhpcdpaa

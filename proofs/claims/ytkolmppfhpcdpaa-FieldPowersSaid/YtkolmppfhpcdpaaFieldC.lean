/- The contracts of the package field (inverses, quotients, powers, logarithms), of its reference, and of Mod. -/
import Derived.Test.YtkolmppfhpcdpaaFieldB
namespace Go.Proofs.Ytkolmppfhpcdpaa
open Go.RowKit
set_option linter.unusedVariables false
set_option maxRecDepth 100000

namespace Gf
/-- the error of a division by a: ErrZero, or none -/
def ez (a : UInt8) : Int := if a = 0 then 4 else 0
theorem ez_zero : ez 0 = 4 := rfl
theorem ez_ne (a : UInt8) (h : a ≠ 0) : ez a = 0 := if_neg h
/-- a power as the packages give it -/
def pw (a : UInt8) (n : Int) : UInt8 := if a = 0 then (if n = 0 then 1 else 0) else zpow a n
def epw (a : UInt8) (n : Int) : Int := if a = 0 ∧ n < 0 then 4 else 0
def lg (a : UInt8) : Int := if a = 0 then 0 else (glog a : Int)
end Gf

theorem ret2_eq {k l : IntKind} {a b c d : Int} (h : a = b) (h' : c = d) : Ending.returned (.tuple #[.int k a, .int l c]) = .returned (.tuple #[.int k b, .int l d]) := by rw [h, h']
theorem zero_or (a : UInt8) : a = 0 ∨ (a ≠ 0 ∧ ((a.toNat : Int) == 0) = false) := by
  by_cases h : a = 0
  · exact .inl h
  · exact .inr ⟨h, by have := u8_pos h; rw [beq_eq_false_iff_ne]; omega⟩

theorem inverse_any (a : UInt8) (w : World) : Calls Try.prog 9 #[.int .u8 (a.toNat : Int)] w fun e w' => e = .returned (.tuple #[.int .u8 ((Gf.ginv a).toNat : Int), .int .i64 (Gf.ez a)]) ∧ w = w' := by
  rcases zero_or a with rfl | ⟨h, h1⟩
  · go_enter Try.func9, Try.ntmps9
    go_wp2_with fail
    go_ret2
    exact ⟨ret2_eq (by rw [Gf.ginv_zero]; rfl) rfl, rfl⟩
  · have H := Lib.hid (Gf.ez_ne a h)
    clear h
    have hl := u8_lt a
    go_enter Try.func9, Try.ntmps9
    go_wp2_with (go_at_call 22; refine (raise_any _ _ (by omega) (by omega) _).mono ?_; rintro e w' ⟨rfl, rfl⟩)
    go_ret2
    exact ⟨ret2_eq rfl H.out.symm, rfl⟩

theorem divide_any (a c : UInt8) (w : World) : Calls Try.prog 10 #[.int .u8 (a.toNat : Int), .int .u8 (c.toNat : Int)] w fun e w' => e = .returned (.tuple #[.int .u8 ((Gf.gmul a (Gf.ginv c)).toNat : Int), .int .i64 (Gf.ez c)]) ∧ w = w' := by
  have hl := u8_lt a
  go_enter Try.func10, Try.ntmps10
  go_wp2_with (first | (go_at_call 9; refine (inverse_any _ _).mono ?_; rintro e w' ⟨rfl, rfl⟩) | (go_at_call 8; refine (mul_any _ _ _).mono ?_; rintro e w' ⟨rfl, rfl⟩))
  go_ret2
  exact ⟨rfl, rfl⟩

theorem exp_any (n : Int) (w : World) : Calls Try.prog 13 #[.int .i64 n] w fun e w' => e = .returned (.int .u8 ((Gf.zpow 2 n).toNat : Int)) ∧ w = w' := by
  have hl := Gf.emod_lt n
  have H : Hid (Gf.gpow 2 (Gf.emod n) = Gf.zpow 2 n) := rfl
  go_enter Try.func13, Try.ntmps13
  go_wp2_with (go_at_call 23; refine (turn_any _ _).mono ?_; rintro e w' ⟨rfl, rfl⟩)
  refine (raise_any 2 _ (by omega) (by omega) _).mono ?_; rintro e w' ⟨rfl, rfl⟩
  go_wp2_with fail
  go_ret
  exact ⟨ret_u8 H.out, rfl⟩

theorem power_any (a : UInt8) (n : Int) (w : World) : Calls Try.prog 14 #[.int .u8 (a.toNat : Int), .int .i64 n] w fun e w' => e = .returned (.tuple #[.int .u8 ((Gf.pw a n).toNat : Int), .int .i64 (Gf.epw a n)]) ∧ w = w' := by
  rcases Int.lt_trichotomy n 0 with hn | hn | hn
  · rcases zero_or a with rfl | ⟨h, h1⟩
    · have H1 : Hid (Gf.pw 0 n = 0) := by unfold Hid Gf.pw; rw [if_pos rfl, if_neg (by omega)]
      have H2 : Hid (Gf.epw 0 n = 4) := by unfold Hid Gf.epw; rw [if_pos ⟨rfl, hn⟩]
      go_enter Try.func14, Try.ntmps14
      go_wp2_with fail
      go_ret2
      exact ⟨ret2_eq (by rw [H1.out]; rfl) H2.out.symm, rfl⟩
    · have hl := Gf.emod_lt n
      have H1 : Hid (Gf.pw a n = Gf.gpow a (Gf.emod n)) := by unfold Hid Gf.pw; rw [if_neg h]; rfl
      have H2 : Hid (Gf.epw a n = 0) := by unfold Hid Gf.epw; rw [if_neg (fun x => h x.1)]
      clear h
      go_enter Try.func14, Try.ntmps14
      go_wp2_with (first | (go_at_call 23; refine (turn_any _ _).mono ?_; rintro e w' ⟨rfl, rfl⟩) | (go_at_call 22; refine (raise_any _ _ (by omega) (by omega) _).mono ?_; rintro e w' ⟨rfl, rfl⟩))
      go_ret2
      exact ⟨ret2_eq (by rw [H1.out]) H2.out.symm, rfl⟩
  · subst hn
    have H1 : Hid (Gf.pw a 0 = 1) := by
      unfold Hid Gf.pw
      split <;> rfl
    have H2 : Hid (Gf.epw a 0 = 0) := by unfold Hid Gf.epw; rw [if_neg (fun x => by omega)]
    go_enter Try.func14, Try.ntmps14
    go_wp2_with fail
    go_ret2
    exact ⟨ret2_eq (by rw [H1.out]; rfl) H2.out.symm, rfl⟩
  · rcases zero_or a with rfl | ⟨h, h1⟩
    · have H1 : Hid (Gf.pw 0 n = 0) := by unfold Hid Gf.pw; rw [if_pos rfl, if_neg (by omega)]
      have H2 : Hid (Gf.epw 0 n = 0) := by unfold Hid Gf.epw; rw [if_neg (fun x => by omega)]
      have hn' : 0 ≤ n := by omega
      go_enter Try.func14, Try.ntmps14
      go_wp2_with fail
      go_ret2
      exact ⟨ret2_eq (by rw [H1.out]; rfl) H2.out.symm, rfl⟩
    · have hl := Gf.emod_lt n
      have H1 : Hid (Gf.pw a n = Gf.gpow a (Gf.emod n)) := by unfold Hid Gf.pw; rw [if_neg h]; rfl
      have H2 : Hid (Gf.epw a n = 0) := by unfold Hid Gf.epw; rw [if_neg (fun x => h x.1)]
      clear h
      go_enter Try.func14, Try.ntmps14
      go_wp2_with (first | (go_at_call 23; refine (turn_any _ _).mono ?_; rintro e w' ⟨rfl, rfl⟩) | (go_at_call 22; refine (raise_any _ _ (by omega) (by omega) _).mono ?_; rintro e w' ⟨rfl, rfl⟩))
      go_ret2
      exact ⟨ret2_eq (by rw [H1.out]) H2.out.symm, rfl⟩

/-- the first of these numbers whose power of 2 is a -/
theorem log_find (a : UInt8) : Gf.find a 255 0 1 = Gf.glog a := rfl
theorem find_stop (a x : UInt8) (f n : Nat) (h : x = a) : Gf.find a (f + 1) n x = n := by
  simp [Gf.find, h]
theorem find_go (a x : UInt8) (f n : Nat) (h : x ≠ a) : Gf.find a (f + 1) n x = Gf.find a f (n + 1) (Gf.dbl x) := by
  simp [Gf.find, h]
theorem u8_ne {a c : UInt8} (h : a ≠ c) : ((a.toNat : Int) == (c.toNat : Int)) = false := by
  rw [beq_eq_false_iff_ne]
  intro e
  exact h (UInt8.toNat_inj.1 (by omega))
theorem u8_ne' {a c : UInt8} (h : a ≠ c) : ((a.toNat : Int) != (c.toNat : Int)) = true := by
  rw [bne_iff_ne]
  intro e
  exact h (UInt8.toNat_inj.1 (by omega))
def LogRel (a : UInt8) (n x : Value) : Prop := ∃ (k : Nat) (y : UInt8), k ≤ 255 ∧ n = .int .i64 (k : Int) ∧ x = .int .u8 (y.toNat : Int) ∧ Gf.find a (255 - k) k y = Gf.glog a
theorem log_any (a : UInt8) (w : World) : Calls Try.prog 11 #[.int .u8 (a.toNat : Int)] w fun e w' => e = .returned (.tuple #[.int .i64 (Gf.lg a), .int .i64 (Gf.ez a)]) ∧ w = w' := by
  rcases zero_or a with rfl | ⟨h, h1⟩
  · go_enter Try.func11, Try.ntmps11
    go_wp2_with fail
    go_ret2
    exact ⟨rfl, rfl⟩
  · have H1 : Hid (Gf.lg a = (Gf.glog a : Int)) := if_neg h
    have H2 := Lib.hid (Gf.ez_ne a h)
    clear h
    have ha := u8_lt a
    go_enter Try.func11, Try.ntmps11
    go_wp2_with fail
    go_loop [4, 5] (fun n x => LogRel a n x) (fun n _ => 255 - (intOf n).toNat)
    case atStart => exact ⟨0, 1, by omega, rfl, rfl, rfl⟩
    case round =>
      obtain ⟨k, y, hk, rfl, rfl, hf⟩ := hrel
      have HF := Lib.hid hf
      clear hf
      have hy := u8_lt y
      rcases Nat.lt_or_ge k 255 with hk2 | hk2
      · have hd : decide ((k : Int) < 255) = true := decide_eq_true (by omega)
        by_cases hya : y = a
        · subst hya
          go_wp2_with fail
          go_ret2
          exact ⟨ret2_eq (by rw [H1.out, ← HF.out, show 255 - k = (254 - k) + 1 from by omega, find_stop _ _ _ _ rfl]) H2.out.symm, rfl⟩
        · have hne := u8_ne' hya
          have HF2 : Hid (Gf.find a (255 - (k + 1)) (k + 1) (Gf.dbl y) = Gf.glog a) := by
            unfold Hid
            rw [← HF.out, show 255 - k = (255 - (k + 1)) + 1 from by omega, find_go _ _ _ _ hya]
          clear hya
          go_wp2_with (go_at_call 21; refine (double_any _ _).mono ?_; rintro e w' ⟨rfl, rfl⟩)
          go_round
          case rel => exact ⟨k + 1, Gf.dbl y, by omega, by go_num, rfl, HF2⟩
          case measure => simp [intOf]; omega
      · have hd : decide ((k : Int) < 255) = false := decide_eq_false (by omega)
        go_wp2_with fail
        go_ret2
        exact ⟨ret2_eq (by rw [H1.out, ← HF.out, show 255 - k = 0 from by omega]; rfl) H2.out.symm, rfl⟩

/-! The reference. -/
theorem refinverse_any (a : UInt8) (w : World) : Calls Try.prog 15 #[.int .u8 (a.toNat : Int)] w fun e w' => e = .returned (.tuple #[.int .u8 ((Gf.ginv a).toNat : Int), .int .i64 (Gf.ez a)]) ∧ w = w' := by
  rcases zero_or a with rfl | ⟨h, h1⟩
  · go_enter Try.func15, Try.ntmps15
    go_wp2_with fail
    go_ret2
    exact ⟨ret2_eq (by rw [Gf.ginv_zero]; rfl) rfl, rfl⟩
  · have H := Lib.hid (Gf.ez_ne a h)
    clear h
    have hl := u8_lt a
    go_enter Try.func15, Try.ntmps15
    go_wp2_with fail
    go_loop [4, 5] (fun v i => ∃ (k : Nat) (y : UInt8), k ≤ 254 ∧ i = .int .i64 (k : Int) ∧ v = .int .u8 (y.toNat : Int) ∧ Hid (y = Gf.gpow a k)) (fun _ i => 254 - (intOf i).toNat)
    case atStart => exact ⟨0, 1, by omega, rfl, rfl, rfl⟩
    case round =>
      obtain ⟨k, y, hk, rfl, rfl, HF⟩ := hrel
      have hy := u8_lt y
      rcases Nat.lt_or_ge k 254 with hk2 | hk2
      · go_wp2_with (go_at_call 19; refine (refmul_any _ _ _).mono ?_; rintro e w' ⟨rfl, rfl⟩)
        go_round
        case rel => exact ⟨k + 1, Gf.gmul y a, by omega, by go_num, rfl, by unfold Hid; rw [HF.out]; rfl⟩
        case measure => simp [intOf]; omega
      · go_wp2_with fail
        go_ret2
        exact ⟨ret2_eq (by rw [HF.out, show k = 254 from by omega]; rfl) H.out.symm, rfl⟩

theorem refdivide_any (a c : UInt8) (w : World) : Calls Try.prog 16 #[.int .u8 (a.toNat : Int), .int .u8 (c.toNat : Int)] w fun e w' => e = .returned (.tuple #[.int .u8 ((Gf.gmul a (Gf.ginv c)).toNat : Int), .int .i64 (Gf.ez c)]) ∧ w = w' := by
  have hl := u8_lt a
  rcases zero_or c with rfl | ⟨h, h1⟩
  · have H : Hid (Gf.gmul a (Gf.ginv 0) = 0) := by unfold Hid; rw [Gf.ginv_zero, Gf.gmul_zero]
    have he := Gf.ez_zero
    go_enter Try.func16, Try.ntmps16
    go_wp2_with (go_at_call 15; refine (refinverse_any 0 _).mono ?_; rintro e w' ⟨rfl, rfl⟩)
    go_ret2
    exact ⟨ret2_eq (by rw [H.out]; rfl) rfl, rfl⟩
  · have he := Gf.ez_ne c h
    clear h
    go_enter Try.func16, Try.ntmps16
    go_wp2_with (first | (go_at_call 15; refine (refinverse_any _ _).mono ?_; rintro e w' ⟨rfl, rfl⟩) | (go_at_call 19; refine (refmul_any _ _ _).mono ?_; rintro e w' ⟨rfl, rfl⟩))
    go_ret2
    exact ⟨ret2_eq rfl (by rw [he]), rfl⟩
end Go.Proofs.Ytkolmppfhpcdpaa

/- The contracts of the reference's powers and logarithms, and of Mod. -/
import Derived.Test.YtkolmppfhpcdpaaFieldC
namespace Go.Proofs.Ytkolmppfhpcdpaa
open Go.RowKit
set_option linter.unusedVariables false
set_option maxRecDepth 100000

theorem mod_num (n m : Int) (h : 1 ≤ m) (h' : n.tmod m < 0) : n.tmod m + m = n % m := by
  have h1 := Int.tmod_eq_emod (a := n) (b := m)
  have h2 := Int.emod_nonneg n (show m ≠ 0 by omega)
  have h3 := Int.emod_lt_of_pos n (show 0 < m by omega)
  split at h1 <;> omega
theorem mod_num' (n m : Int) (h : 1 ≤ m) (h' : 0 ≤ n.tmod m) : n.tmod m = n % m := by
  have h1 := Int.tmod_eq_emod (a := n) (b := m)
  have h2 := Int.emod_nonneg n (show m ≠ 0 by omega)
  have h3 := Int.emod_lt_of_pos n (show 0 < m by omega)
  split at h1
  · omega
  · rename_i h4
    have : (m.natAbs : Int) = m := by omega
    omega
theorem tmod_lt (n m : Int) (h : 1 ≤ m) : - m < n.tmod m ∧ n.tmod m < m := by
  have h1 := Int.tmod_eq_emod (a := n) (b := m)
  have h2 := Int.emod_nonneg n (show m ≠ 0 by omega)
  have h3 := Int.emod_lt_of_pos n (show 0 < m by omega)
  have h5 : (m.natAbs : Int) = m := by omega
  split at h1
  · omega
  · rename_i h4
    rw [Int.dvd_iff_emod_eq_zero] at h4
    omega
/-- 'Mod(n, m)' for an m from 1 on. -/
theorem mod_any (n m : Int) (w : World) (h1 : 1 ≤ m) (h2 : m ≤ 9223372036854775807) : Calls Try.prog 12 #[.int .i64 n, .int .i64 m] w fun e w' => e = .returned (.int .i64 (n % m)) ∧ w = w' := by
  obtain ⟨hb, hb'⟩ := tmod_lt n m h1
  rcases Int.lt_or_le (n.tmod m) 0 with hn | hn
  · have H := Lib.hid (mod_num n m h1 hn)
    go_enter Try.func12, Try.ntmps12
    go_wp2_with fail
    go_ret
    exact ⟨ret_int H.out, rfl⟩
  · have H := Lib.hid (mod_num' n m h1 hn)
    go_enter Try.func12, Try.ntmps12
    go_wp2_with fail
    go_ret
    exact ⟨ret_int H.out, rfl⟩

theorem refpow_ne (a : UInt8) (n : Int) (h : a ≠ 0) (w : World) : Calls Try.prog 17 #[.int .u8 (a.toNat : Int), .int .i64 n] w fun e w' => e = .returned (.tuple #[.int .u8 ((Gf.zpow a n).toNat : Int), .int .i64 0]) ∧ w = w' := by
  have hne : ((a.toNat : Int) == 0) = false := by have := u8_pos h; rw [beq_eq_false_iff_ne]; omega
  clear h
  have hb := tmod_lt n 255 (by omega)
  obtain ⟨hb1, hb2⟩ := hb
  have hm : ∃ r : Nat, r < 255 ∧ r = Gf.emod n ∧ ((n.tmod 255 < 0 ∧ n.tmod 255 + 255 = (r : Int)) ∨ (0 ≤ n.tmod 255 ∧ n.tmod 255 = (r : Int))) := by
    refine ⟨Gf.emod n, Gf.emod_lt n, rfl, ?_⟩
    rw [Gf.emod_cast]
    rcases Int.lt_or_le (n.tmod 255) 0 with hn | hn
    · exact .inl ⟨hn, mod_num n 255 (by omega) hn⟩
    · exact .inr ⟨hn, mod_num' n 255 (by omega) hn⟩
  obtain ⟨r, hr, hre, hm⟩ := hm
  have HR : Hid (Gf.zpow a n = Gf.gpow a r) := by unfold Hid Gf.zpow; rw [hre]
  clear hre
  rcases hm with ⟨hn, he⟩ | ⟨hn, he⟩
  all_goals
    go_enter Try.func17, Try.ntmps17
    go_wp2_with fail
    clear he hn
    go_loop [1, 6] (fun n v => ∃ (k : Nat) (y : UInt8), k ≤ r ∧ n = .int .i64 (k : Int) ∧ v = .int .u8 (y.toNat : Int) ∧ Hid (y = Gf.gpow a (r - k))) (fun n _ => (intOf n).toNat)
    case atStart => exact ⟨r, 1, by omega, rfl, rfl, by unfold Hid; rw [Nat.sub_self]; rfl⟩
    case round =>
      obtain ⟨k, y, hk, rfl, rfl, HF⟩ := hrel
      have hy := u8_lt y
      rcases Nat.eq_zero_or_pos k with rfl | hk0
      · go_wp2_with fail
        go_ret2
        exact ⟨ret2_eq (by rw [HF.out, HR.out]; rfl) rfl, rfl⟩
      · go_wp2_with (go_at_call 19; refine (refmul_any _ _ _).mono ?_; rintro e w' ⟨rfl, rfl⟩)
        go_round
        case rel => exact ⟨k - 1, Gf.gmul y a, by omega, int_eq (by omega), rfl, by unfold Hid; rw [HF.out, show r - (k - 1) = (r - k) + 1 from by omega]; rfl⟩
        case measure => simp [intOf]; omega

theorem refpower_any (a : UInt8) (n : Int) (w : World) : Calls Try.prog 17 #[.int .u8 (a.toNat : Int), .int .i64 n] w fun e w' => e = .returned (.tuple #[.int .u8 ((Gf.pw a n).toNat : Int), .int .i64 (Gf.epw a n)]) ∧ w = w' := by
  by_cases h : a = 0
  · subst h
    rcases Int.lt_trichotomy n 0 with hn | hn | hn
    · have H1 : Hid (Gf.pw 0 n = 0) := by unfold Hid Gf.pw; rw [if_pos rfl, if_neg (by omega)]
      have H2 : Hid (Gf.epw 0 n = 4) := by unfold Hid Gf.epw; rw [if_pos ⟨rfl, hn⟩]
      go_enter Try.func17, Try.ntmps17
      go_wp2_with fail
      go_ret2
      exact ⟨ret2_eq (by rw [H1.out]; rfl) H2.out.symm, rfl⟩
    · subst hn
      have H1 : Hid (Gf.pw 0 0 = 1) := rfl
      have H2 : Hid (Gf.epw 0 0 = 0) := by unfold Hid Gf.epw; rw [if_neg (fun x => by omega)]
      go_enter Try.func17, Try.ntmps17
      go_wp2_with fail
      go_ret2
      exact ⟨ret2_eq (by rw [H1.out]; rfl) H2.out.symm, rfl⟩
    · have H1 : Hid (Gf.pw 0 n = 0) := by unfold Hid Gf.pw; rw [if_pos rfl, if_neg (by omega)]
      have H2 : Hid (Gf.epw 0 n = 0) := by unfold Hid Gf.epw; rw [if_neg (fun x => by omega)]
      go_enter Try.func17, Try.ntmps17
      go_wp2_with fail
      go_ret2
      exact ⟨ret2_eq (by rw [H1.out]; rfl) H2.out.symm, rfl⟩
  · have H1 : Gf.pw a n = Gf.zpow a n := by unfold Gf.pw; rw [if_neg h]
    have H2 : Gf.epw a n = 0 := by unfold Gf.epw; rw [if_neg (fun x => h x.1)]
    rw [H1, H2]
    exact refpow_ne a n h w

theorem refexp_any (n : Int) (w : World) : Calls Try.prog 20 #[.int .i64 n] w fun e w' => e = .returned (.int .u8 ((Gf.zpow 2 n).toNat : Int)) ∧ w = w' := by
  go_enter Try.func20, Try.ntmps20
  go_wp2_with fail
  refine (refpow_ne 2 n (by decide) _).mono ?_
  rintro e w' ⟨rfl, rfl⟩
  go_wp2_with fail
  go_ret
  exact ⟨rfl, rfl⟩

theorem log_zero_find : ∀ f n y, y ≠ 0 → Gf.find 0 f n y = n + f := by
  intro f
  induction f with
  | zero => intro n y h; rfl
  | succ f ih =>
    intro n y h
    rw [find_go _ _ _ _ h, ih _ _ (by rw [← Gf.gmul_two]; exact Gf.gmul_ne _ _ h (by decide))]
    omega
def RefLogRel (a : UInt8) (n x : Value) : Prop := ∃ (k : Nat) (y : UInt8), k ≤ 255 ∧ n = .int .i64 (k : Int) ∧ x = .int .u8 (y.toNat : Int) ∧ y = Gf.gpow 2 k ∧ Gf.find a (255 - k) k y = Gf.glog a
theorem lg_ne (a : UInt8) (h : a ≠ 0) : Gf.lg a = (Gf.glog a : Int) := if_neg h
theorem reflog_any (a : UInt8) (w : World) : Calls Try.prog 18 #[.int .u8 (a.toNat : Int)] w fun e w' => e = .returned (.tuple #[.int .i64 (Gf.lg a), .int .i64 (Gf.ez a)]) ∧ w = w' := by
  have ha := u8_lt a
  go_enter Try.func18, Try.ntmps18
  go_wp2_with fail
  go_loop [4, 5] (fun x n => RefLogRel a n x) (fun _ n => 255 - (intOf n).toNat)
  case atStart => exact ⟨0, 1, by omega, rfl, rfl, rfl, rfl⟩
  case round =>
    obtain ⟨k, y, hk, rfl, rfl, hg, hf⟩ := hrel
    have HF := Lib.hid hf
    have HG := Lib.hid hg
    clear hf hg
    have hy := u8_lt y
    rcases Nat.lt_or_ge k 255 with hk2 | hk2
    · by_cases hya : y = a
      · have hne : a ≠ 0 := by rw [← hya, HG.out]; exact Gf.exp_ne_zero k
        have H1 := Lib.hid (lg_ne a hne)
        have H2 := Lib.hid (Gf.ez_ne a hne)
        clear hne
        subst hya
        go_wp2_with fail
        go_ret2
        exact ⟨ret2_eq (by rw [H1.out, ← HF.out, show 255 - k = (254 - k) + 1 from by omega, find_stop _ _ _ _ rfl]) H2.out.symm, rfl⟩
      · have hne := u8_ne hya
        have HF2 : Hid (Gf.find a (255 - (k + 1)) (k + 1) (Gf.gmul y 2) = Gf.glog a) := by
          unfold Hid
          rw [← HF.out, show 255 - k = (255 - (k + 1)) + 1 from by omega, find_go _ _ _ _ hya, Gf.gmul_two]
        clear hya
        go_wp2_with (go_at_call 19; refine (refmul_any _ 2 _).mono ?_; rintro e w' ⟨rfl, rfl⟩)
        go_round
        case rel => exact ⟨k + 1, Gf.gmul y 2, by omega, by go_num, rfl, by rw [HG.out]; rfl, HF2⟩
        case measure => simp [intOf]; omega
    · have h0 : a = 0 := by
        by_cases h : a = 0
        · exact h
        · have h1 := Gf.log_lt a h
          have h2 := HF.out
          rw [show 255 - k = 0 from by omega] at h2
          have h3 : k = Gf.glog a := h2
          omega
      have H1 : Hid (Gf.lg a = 0) := by rw [h0]; rfl
      have H2 : Hid (Gf.ez a = 4) := by rw [h0]; rfl
      clear h0
      go_wp2_with fail
      go_ret2
      exact ⟨ret2_eq H1.out.symm H2.out.symm, rfl⟩
end Go.Proofs.Ytkolmppfhpcdpaa

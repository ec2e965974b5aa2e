/- The walk of the law NatPowers. -/
import Derived.Test.YtflgfkelbniblaaDoorNatR
namespace Go.Proofs.YtflgfkelbniblaaDoor
open Go.RowKit
set_option linter.unusedVariables false
set_option maxRecDepth 100000
set_option maxHeartbeats 4000000 in
theorem powers_any (A : Option Addr) (n c : Nat) (ts : List Int) (a0 a1 : Int) (w : World) (hn : ts.length = n) (hl : n ≤ 9223372036854775807) (hs : Sl w w.heap.size A (ints ts)) :
    Calls Tryd.prog 4 #[.slice A n c, .int .i64 a0, .int .i64 a1] w fun e w' => e = .returned (.bool true) ∧ Below w.heap.size w w' := by
  rcases Nat.lt_or_ge 400 n with h400 | h400
  · have HL := Lib.hid (light_no A n c w h400 hl)
    clear hs hn h400
    go_enter Tryd.func4, Tryd.ntmps4
    go_wp2_with fail
    refine HL.out.mono ?_
    rintro e w1 ⟨rfl, rfl⟩
    go_wp2_with fail
    refine (awakeN_any _).mono ?_
    rintro e w1 ⟨rfl, hb⟩
    have HB := Lib.hid hb
    clear hb
    go_wp2_with fail
    go_ret
    exact ⟨rfl, HB.out⟩
  · have HL := Lib.hid (light_yes A n c w h400)
    have HRo := Lib.hid (roll_at (St.refl w) A n c w.heap.size ts hn (by omega) (Nat.le_refl _) hs)
    obtain ⟨p, hp⟩ := Int.eq_ofNat_of_zero_le (Int.emod_nonneg a0 (show (30 : Int) ≠ 0 by omega))
    have hp2 : p ≤ 29 := by have := Int.emod_lt_of_pos a0 (show (0 : Int) < 30 by omega); omega
    obtain ⟨q, hq⟩ := Int.eq_ofNat_of_zero_le (Int.emod_nonneg a1 (show (30 : Int) ≠ 0 by omega))
    have hq2 : q ≤ 29 := by have := Int.emod_lt_of_pos a1 (show (0 : Int) < 30 by omega); omega
    have HM1 : Hid (∀ w, Calls Tryd.prog 22 #[.int .i64 a0, .int .i64 30] w fun e w' => e = .returned (.int .i64 (p : Int)) ∧ w = w') := fun w => by
      have h := mod_any a0 30 w (by omega) (by omega)
      rw [hp] at h
      exact h
    have HM2 : Hid (∀ w, Calls Tryd.prog 22 #[.int .i64 a1, .int .i64 30] w fun e w' => e = .returned (.int .i64 (q : Int)) ∧ w = w') := fun w => by
      have h := mod_any a1 30 w (by omega) (by omega)
      rw [hq] at h
      exact h
    have HTw : Hid (ofL 2 = Na.dig 2 ∧ ofE 2 = 0) := by
      unfold Hid ofL ofE
      rw [if_neg (by omega), if_neg (by omega)]
      exact ⟨rfl, rfl⟩
    have HT2 : Hid (2 < Na.top) := small_top (m := 1) (by omega) (by omega)
    clear hs hn h400 hl hp hq
    go_enter Tryd.func4, Tryd.ntmps4
    go_wp2_with fail
    refine HL.out.mono ?_
    rintro e w1 ⟨rfl, rfl⟩
    go_wp2_with fail
    refine HRo.out.mono ?_
    rintro e w2 ⟨g, rfl, HD, HS⟩
    clear HL HRo
    go_wp2_with fail
    refine (dnat_st HS HD 2 (by omega)).mono ?_
    rintro e w3 ⟨A1, n1, c1, x, rfl, -, hx, -, HS1⟩
    have HX1 : Hid (x < Na.top) := small_top (m := 2) hx (by omega)
    have HXp : Hid (∀ j, j ≤ 90 → x ^ j < Na.top) := Na.pow_top hx
    have HXm := Lib.hid (Nat.pow_add x p q).symm
    have HSa := HS1.boxed (.slice A1 n1 c1) 29
    clear HS HD HS1 hx
    go_wp2_with fail
    refine (HM1.out _).mono ?_
    rintro e w4 ⟨rfl, rfl⟩
    go_wp2_with fail
    refine (HM2.out _).mono ?_
    rintro e w4 ⟨rfl, rfl⟩
    have hc1 := HSa.cell 0 rfl
    clear HM1 HM2
    go_wp2_with fail
    refine (power_st HSa 0 rfl HX1.out (by omega)).mono ?_
    rw [resL_ok (HXp.out p (by omega)), resE_ok (HXp.out p (by omega))]
    rintro e w4 ⟨A2, n2, c2, rfl, HS2, -⟩
    have HSb := HS2.boxed (.slice A2 n2 c2) 29
    clear HSa HS2 hc1
    have hc1 := HSb.cell 0 rfl
    go_wp2_with fail
    refine (power_st HSb 0 rfl HX1.out (by omega)).mono ?_
    rw [resL_ok (HXp.out q (by omega)), resE_ok (HXp.out q (by omega))]
    rintro e w5 ⟨A3, n3, c3, rfl, HS3, -⟩
    have HSc := HS3.boxed (.slice A3 n3 c3) 29
    clear HSb HS3 hc1
    have hc1 := HSc.cell 0 rfl
    go_wp2_with fail
    have hpq : ((p : Int) + (q : Int)) = ((p + q : Nat) : Int) := by omega
    rw [hpq]
    clear hpq
    refine (power_st HSc 0 rfl HX1.out (by omega)).mono ?_
    rw [resL_ok (HXp.out (p + q) (by omega)), resE_ok (HXp.out (p + q) (by omega))]
    rintro e w6 ⟨A4, n4, c4, rfl, HS4, -⟩
    have HSd := HS4.boxed (.slice A4 n4 c4) 29
    clear HSc HS4 hc1
    have hc1 := HSd.cell 1 rfl
    have hc2 := HSd.cell 2 rfl
    go_wp2_with fail
    refine (mul_st HSd 1 2 rfl rfl (HXp.out p (by omega)) (HXp.out q (by omega))).mono ?_
    rw [HXm.out, resL_ok (HXp.out (p + q) (by omega)), resE_ok (HXp.out (p + q) (by omega))]
    rintro e w7 ⟨A5, n5, c5, rfl, HS5, -⟩
    have HSe := HS5.boxed (.slice A5 n5 c5) 29
    clear HSd HS5 hc1 hc2
    go_wp2_with fail
    refine (of_st HSe 2 (by omega)).mono ?_
    rw [HTw.out.1, HTw.out.2]
    rintro e w8 ⟨A6, n6, c6, rfl, HS6, -⟩
    have HSf := HS6.boxed (.slice A6 n6 c6) 29
    clear HSe HS6
    have hc1 := HSf.cell 5 rfl
    obtain ⟨E, hE⟩ : ∃ E : Nat, p + 40 * q = E := ⟨_, rfl⟩
    have hE2 : (p : Int) + 40 * (q : Int) = (E : Int) := by omega
    have hE3 : E ≤ 1189 := by omega
    go_wp2_with fail
    have HTT : Hid (2 ^ E < Na.top) := Na.two_top' E (by omega)
    refine (power_st HSf 5 rfl HT2.out (by omega)).mono ?_
    rw [resL_ok HTT.out, resE_ok HTT.out]
    rintro e w9 ⟨A7, n7, c7, rfl, HS7, hl7⟩
    obtain ⟨K, hK⟩ : ∃ K : Nat, E / 24 = K := ⟨_, rfl⟩
    obtain rfl : n7 = K + 1 := by rw [← hl7, Na.two_len, hK]
    have HSg := HS7.boxed (.slice A7 (K + 1) c7) 29
    have HKE := Lib.hid hK
    clear HSf HS7 hc1 hl7 hE hK
    go_wp2_with fail
    refine (awakeN_any _).mono ?_
    rintro e v1 ⟨rfl, hb⟩
    have HSh := HSg.go hb
    clear hb HSg
    have hc1 := HSh.cell 4 rfl
    have hc2 := HSh.cell 3 rfl
    go_wp2_with fail
    refine (same_st HSh 4 3 rfl rfl rfl).mono ?_
    rintro e v2 ⟨rfl, HSi⟩
    clear HSh hc1 hc2
    have hc1 := HSi.cell 6 rfl
    have hK2 : (E : Int) / 24 = (K : Int) := by have := HKE.out; omega
    have hne : ((((K + 1 : Nat) : Int)) != (K : Int) + 1) = false := by rw [bne_eq_false_iff_eq]; omega
    go_wp2_with fail
    obtain ⟨-, -, -, s4⟩ := HSi.sl (i := 6) rfl
    have HSl := Lib.hid s4
    obtain ⟨ad, rfl, -, hcl⟩ := s4.nat (Na.two_last E)
    rw [HKE.out] at hcl
    have HCL := Lib.hid hcl
    have HBd := Lib.hid HSi.below
    have hK3 : K ≤ 49 := by have := HKE.out; omega
    obtain ⟨R, hR⟩ : ∃ R : Nat, E % 24 = R := ⟨_, rfl⟩
    have hR2 : (E : Int) % 24 = (R : Int) := by omega
    have hR3 : R < 24 := by omega
    rw [hR] at HCL
    clear s4 hcl HSi hne hK2 hR
    go_loop [22] (fun v => ∃ l : Nat, l ≤ K ∧ v = .int .i64 (l : Int)) (fun v => K - (intOf v).toNat)
    case atStart => exact ⟨0, by omega, rfl⟩
    case round =>
      obtain ⟨l, hl, rfl⟩ := hrel
      rcases Nat.lt_or_ge l K with h | h
      · obtain ⟨ad', e1, -, hcz⟩ := HSl.out.nat (Na.two_low E l (by rw [HKE.out]; exact h))
        obtain rfl := Option.some.inj e1
        have hcz' : v2.cell? (ad.add l) = some (.int .i64 0) := hcz
        clear hcz e1
        go_wp2_with fail
        go_round
        case rel => exact ⟨l + 1, by omega, by go_num⟩
        case measure => simp [intOf]; omega
      · obtain rfl : K = l := by omega
        have hcl := HCL.out
        go_wp2_with fail
        go_ret
        refine ⟨ret_bool ?_, HBd.out⟩
        have h1 : (2 : Nat) ^ R ≤ 2 ^ 23 := Nat.pow_le_pow_right (by omega) (by omega)
        have h2 : ((2 : Int) ^ R) = ((2 ^ R : Nat) : Int) := by simp
        obtain ⟨y, hy⟩ : ∃ y : Nat, 2 ^ R = y := ⟨_, rfl⟩
        rw [hy] at h1 h2
        rw [h2, IntWalk.wrap64_in _ ⟨by omega, by omega⟩]
        exact beq_self_eq_true _
end Go.Proofs.YtflgfkelbniblaaDoor

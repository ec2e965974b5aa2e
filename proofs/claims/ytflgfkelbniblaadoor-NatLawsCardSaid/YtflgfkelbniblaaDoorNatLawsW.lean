/- The law NatLaws. -/
import Derived.Test.YtflgfkelbniblaaDoorWq
import Derived.Test.YtflgfkelbniblaaDoorNatOrderW
import Derived.Test.YtflgfkelbniblaaDoorDivX
namespace Go.Proofs.YtflgfkelbniblaaDoor
open Go.RowKit
set_option linter.unusedVariables false
set_option maxRecDepth 100000
theorem text_one : De.text 1 = [49] := by
  rw [De.text_pos (by omega), De.dig_step 1 0 1 (by omega) (by omega) (by omega), De.dig_zero]
  rfl
set_option maxHeartbeats 8000000 in
theorem natLaws_any (A : Option Addr) (n c : Nat) (ts : List Int) (w : World) (hn : ts.length = n) (hl : n ≤ 9223372036854775807) (hs : Sl w w.heap.size A (ints ts)) (ht : Tab w) :
    Calls Tryd.prog 9 #[.slice A n c] w fun e w' => e = .returned (.bool true) ∧ Below w.heap.size w w' := by
  have HT := Lib.hid ht
  clear ht
  rcases Nat.lt_or_ge 400 n with h400 | h400
  · have HL := Lib.hid (light_no A n c w h400 hl)
    clear hs hn h400
    go_enter Tryd.func9, Tryd.ntmps9
    go_wp2_with fail
    refine HL.out.mono ?_
    rintro e w1 ⟨rfl, rfl⟩
    go_wp2_with fail
    refine (awakeN_any _).mono ?_
    rintro e w1 ⟨rfl, hb⟩
    have HB := Lib.hid hb
    clear hb
    go_wp2_with fail
    go_ret
    exact ⟨rfl, HB.out⟩
  · have HL := Lib.hid (light_yes A n c w h400)
    have HRo := Lib.hid (roll_at (St.refl w) A n c w.heap.size ts hn (by omega) (Nat.le_refl _) hs)
    clear hs hn h400 hl
    go_enter Tryd.func9, Tryd.ntmps9
    go_wp2_with fail
    refine HL.out.mono ?_
    rintro e w1 ⟨rfl, rfl⟩
    go_wp2_with fail
    refine HRo.out.mono ?_
    rintro e w2 ⟨g, rfl, HD, HS⟩
    clear HL HRo
    go_wp2_with fail
    refine (dnat_st HS HD 6 (by omega)).mono ?_
    rintro e w3 ⟨A1, n1, c1, a, rfl, -, hx1, HD1, HSx⟩
    clear HD HS
    go_wp2_with fail
    refine (dnat_st HSx HD1 6 (by omega)).mono ?_
    rintro e w4 ⟨A2, n2, c2, b, rfl, -, hx2, HD2, HSy⟩
    clear HD1 HSx
    go_wp2_with fail
    refine (dnat_st HSy HD2 6 (by omega)).mono ?_
    rintro e w5 ⟨A3, n3, c3, d, rfl, -, hx3, HD3, HSz⟩
    clear HSy HD2
    have HS0 := ((HSz.boxed (.slice A1 n1 c1) 29).boxed (.slice A2 n2 c2) 29).boxed (.slice A3 n3 c3) 29
    simp only [World.size_alloc, List.nil_append, List.cons_append] at HS0
    clear HSz HD3
    have HX1 : Hid (a < Na.top) := small_top hx1 (by omega)
    have HX2 : Hid (b < Na.top) := small_top hx2 (by omega)
    have HX3 : Hid (d < Na.top) := small_top hx3 (by omega)
    have tt : ∀ x y : Nat, x < 16777216 ^ 7 → y < 16777216 ^ 6 → x * y < 16777216 ^ 13 := fun x y ha hb => by
      have := Nat.mul_lt_mul_of_lt_of_lt ha hb
      rwa [← Nat.pow_add] at this
    have HTs : Hid (a + b < Na.top) := small_top (m := 7) (by omega) (by omega)
    have HTx : Hid ((a + b) * d < Na.top) := small_top (tt _ _ (by omega) hx3) (by omega)
    have HTy : Hid (a * d < Na.top) := small_top (tt _ _ (by omega) hx3) (by omega)
    have HTz : Hid (b * d < Na.top) := small_top (tt _ _ (by omega) hx3) (by omega)
    have HEw : Hid (a * d + b * d = (a + b) * d) := (Nat.add_mul a b d).symm
    have HEu : Hid ((if a + b < b then ([] : List Nat) else Na.dig (a + b - b)) = Na.dig a ∧ (if a + b < b then (5 : Int) else 0) = 0) := by
      unfold Hid
      rw [if_neg (by omega), if_neg (by omega), Nat.add_sub_cancel]
      exact ⟨rfl, rfl⟩
    have HN1 : Hid ((Na.dig a).length = n1) := by have := (HS0.sl (i := 0) rfl).1; rwa [nats_length] at this
    have HN2 : Hid ((Na.dig b).length = n2) := by have := (HS0.sl (i := 1) rfl).1; rwa [nats_length] at this
    clear hx1 hx2 hx3 tt
    have hc1 := HS0.cell 0 rfl
    have hc2 := HS0.cell 1 rfl
    go_wp2_with fail
    refine (add_st HS0 0 1 rfl rfl HX1.out HX2.out).mono ?_
    rw [resL_ok HTs.out, resE_ok HTs.out]
    rintro e v1 ⟨A4, n4, c4, rfl, HS1, -⟩
    have HS2 := HS1.boxed (.slice A4 n4 c4) 29
    clear HS0 hc1 hc2 HS1
    have hc1 := HS2.cell 3 rfl
    have hc2 := HS2.cell 2 rfl
    go_wp2_with fail
    refine (mul_st HS2 3 2 rfl rfl HTs.out HX3.out).mono ?_
    rw [resL_ok HTx.out, resE_ok HTx.out]
    rintro e v3 ⟨A5, n5, c5, rfl, HS3, -⟩
    have HS4 := HS3.boxed (.slice A5 n5 c5) 29
    clear HS2 hc1 hc2 HS3
    have hc1 := HS4.cell 0 rfl
    have hc2 := HS4.cell 2 rfl
    go_wp2_with fail
    refine (mul_st HS4 0 2 rfl rfl HX1.out HX3.out).mono ?_
    rw [resL_ok HTy.out, resE_ok HTy.out]
    rintro e v5 ⟨A6, n6, c6, rfl, HS5, -⟩
    have HS6 := HS5.boxed (.slice A6 n6 c6) 29
    clear HS4 hc1 hc2 HS5
    have hc1 := HS6.cell 1 rfl
    have hc2 := HS6.cell 2 rfl
    go_wp2_with fail
    refine (mul_st HS6 1 2 rfl rfl HX2.out HX3.out).mono ?_
    rw [resL_ok HTz.out, resE_ok HTz.out]
    rintro e v7 ⟨A7, n7, c7, rfl, HS7, -⟩
    have HS8 := HS7.boxed (.slice A7 n7 c7) 29
    clear HS6 hc1 hc2 HS7
    have hc1 := HS8.cell 5 rfl
    have hc2 := HS8.cell 6 rfl
    go_wp2_with fail
    refine (add_st HS8 5 6 rfl rfl HTy.out HTz.out).mono ?_
    rw [HEw.out, resL_ok HTx.out, resE_ok HTx.out]
    rintro e v9 ⟨A8, n8, c8, rfl, HS9, -⟩
    have HS10 := HS9.boxed (.slice A8 n8 c8) 29
    clear HS8 hc1 hc2 HS9
    have hc1 := HS10.cell 3 rfl
    have hc2 := HS10.cell 1 rfl
    go_wp2_with fail
    refine (sub_st HS10 3 1 rfl rfl HTs.out HX2.out).mono ?_
    rw [HEu.out.1, HEu.out.2]
    rintro e v11 ⟨A9, n9, c9, rfl, HS11, -⟩
    have HS12 := HS11.boxed (.slice A9 n9 c9) 29
    clear HS10 hc1 hc2 HS11
    go_wp2_with fail
    refine (awakeN_any _).mono ?_
    rintro e v13 ⟨rfl, hb⟩
    have HS13 := HS12.go hb
    clear HS12 hb
    have hc1 := HS13.cell 4 rfl
    have hc2 := HS13.cell 7 rfl
    go_wp2_with fail
    refine (same_st HS13 4 7 rfl rfl rfl).mono ?_
    rintro e v14 ⟨rfl, HS14⟩
    clear HS13 hc1 hc2
    have hc1 := HS14.cell 8 rfl
    have hc2 := HS14.cell 0 rfl
    go_wp2_with fail
    refine (same_st HS14 8 0 rfl rfl rfl).mono ?_
    rintro e v15 ⟨rfl, HS15⟩
    clear HS14 hc1 hc2
    have hc1 := HS15.cell 0 rfl
    have hc2 := HS15.cell 1 rfl
    go_wp2_with fail
    refine (gcd_st HS15 0 1 rfl rfl HX1.out HX2.out HT.out).mono ?_
    rintro e v16 ⟨Ak, nk, ck, rfl, HS16, hnk⟩
    have HS17 := HS16.boxed (.slice Ak nk ck) 29
    clear HS15 hc1 hc2 HS16
    have HNk := Lib.hid hnk
    clear hnk
    rcases Nat.eq_zero_or_pos (Nat.gcd a b) with hg0 | hg0
    · obtain ⟨ha0, hb0⟩ := Nat.gcd_eq_zero_iff.1 hg0
      have z1 : n1 = 0 := by rw [← HN1.out, ha0]; exact Na.dig_len0.2 rfl
      have z2 : n2 = 0 := by rw [← HN2.out, hb0]; exact Na.dig_len0.2 rfl
      have z3 : nk = 0 := by rw [← HNk.out, hg0]; exact Na.dig_len0.2 rfl
      clear HN1 HN2 HNk ha0 hb0 hg0
      subst z1 z2 z3
      have hc1 := HS17.cell 9 rfl
      have hc2 := HS17.cell 0 rfl
      have hc3 := HS17.cell 1 rfl
      go_wp2_with fail
      go_ret
      exact ⟨rfl, HS17.below⟩
    · have hk0 : ((nk : Int) == 0) = false := by
        rw [beq_eq_false_iff_ne]
        intro e
        have h0 : nk = 0 := by omega
        have h1 := HNk.out
        rw [h0] at h1
        have := Na.dig_len0.1 h1
        omega
      have HK0 := Lib.hid hg0
      have HKt := Lib.hid (gcd_top HX1.out HX2.out)
      have HR1 : Hid (a % Nat.gcd a b = 0) := Nat.mod_eq_zero_of_dvd (Nat.gcd_dvd_left a b)
      have HR2 : Hid (b % Nat.gcd a b = 0) := Nat.mod_eq_zero_of_dvd (Nat.gcd_dvd_right a b)
      have HG1 : Hid (Nat.gcd (a / Nat.gcd a b) (b / Nat.gcd a b) = 1) := (Nat.gcd_div (Nat.gcd_dvd_left a b) (Nat.gcd_dvd_right a b)).trans (Nat.div_self hg0)
      have HP1 : Hid (a / Nat.gcd a b < Na.top) := Nat.lt_of_le_of_lt (Nat.div_le_self _ _) HX1.out
      have HP2 : Hid (b / Nat.gcd a b < Na.top) := Nat.lt_of_le_of_lt (Nat.div_le_self _ _) HX2.out
      have HO1 : Hid (1 < Na.top) := small_top (m := 1) (by omega) (by omega)
      have HTx1 : Hid ((str (De.text 1)).toList = [49]) := by unfold Hid; rw [str_toList, text_one]
      clear hg0
      have hc0 := HS17.cell 9 rfl
      have hc1 := HS17.cell 0 rfl
      have hc2 := HS17.cell 9 rfl
      go_wp2_with fail
      refine (divide_st HS17 0 9 rfl rfl HX1.out HKt.out HK0.out).mono ?_
      rw [HR1.out]
      rintro e v18 ⟨B1, m1, k1, B2, m2, k2, rfl, HS18, -, hz1⟩
      have HS19 := (HS18.boxed (.slice B1 m1 k1) 29).boxed (.slice B2 m2 k2) 29
      simp only [World.size_alloc, List.nil_append, List.cons_append] at HS19
      clear HS17 hc1 hc2 HS18
      clear hc0 hk0
      obtain rfl : m2 = 0 := by rw [← hz1]; exact Na.dig_len0.2 rfl
      clear hz1
      have hc1 := HS19.cell 1 rfl
      have hc2 := HS19.cell 9 rfl
      go_wp2_with fail
      refine (divide_st HS19 1 9 rfl rfl HX2.out HKt.out HK0.out).mono ?_
      rw [HR2.out]
      rintro e v20 ⟨B3, m3, k3, B4, m4, k4, rfl, HS20, -, hz1⟩
      have HS21 := (HS20.boxed (.slice B3 m3 k3) 29).boxed (.slice B4 m4 k4) 29
      simp only [World.size_alloc, List.nil_append, List.cons_append] at HS21
      clear HS19 hc1 hc2 HS20
      obtain rfl : m4 = 0 := by rw [← hz1]; exact Na.dig_len0.2 rfl
      clear hz1
      have hc1 := HS21.cell 10 rfl
      have hc2 := HS21.cell 12 rfl
      go_wp2_with fail
      refine (gcd_st HS21 10 12 rfl rfl HP1.out HP2.out HT.out).mono ?_
      rw [HG1.out]
      rintro e v22 ⟨B5, m5, k5, rfl, HS22, -⟩
      have HS23 := HS22.boxed (.slice B5 m5 k5) 29
      clear HS21 hc1 hc2 HS22
      have hc3 := HS23.cell 11 rfl
      have hc4 := HS23.cell 13 rfl
      have hc1 := HS23.cell 14 rfl
      go_wp2_with fail
      refine (print_st HS23 14 rfl HO1.out).mono ?_
      rintro e v24 ⟨rfl, HS24⟩
      clear HS23 hc1
      have htx := HTx1.out
      clear hc3 hc4
      go_wp2_with fail
      go_ret
      exact ⟨rfl, HS24.below⟩
end Go.Proofs.YtflgfkelbniblaaDoor

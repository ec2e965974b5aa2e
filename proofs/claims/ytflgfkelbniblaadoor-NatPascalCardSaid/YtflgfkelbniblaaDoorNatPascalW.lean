/- The walk of the law NatPascal. -/
import Derived.Test.YtflgfkelbniblaaDoorNPasA
namespace Go.Proofs.YtflgfkelbniblaaDoor
open Go.RowKit
set_option linter.unusedVariables false
set_option maxRecDepth 100000
def NPa (w : World) (b m : Nat) (i : Value) (wr : World) : Prop :=
  ∃ (j : Nat) (A : Option Addr) (n c : Nat), i = .int .i64 (j : Int) ∧ j ≤ m + 1 ∧ Hid (St w wr none [(b, .slice A n c)] [⟨A, n, c, nats (Na.dig (Na.psum m j))⟩])
set_option maxHeartbeats 4000000 in
theorem pascal_any (a0 a1 : Int) (w : World) : Calls Tryd.prog 6 #[.int .i64 a0, .int .i64 a1] w fun e w' => e = .returned (.bool true) ∧ Below w.heap.size w w' := by
  obtain ⟨p, hp⟩ := Int.eq_ofNat_of_zero_le (Int.emod_nonneg a0 (show (200 : Int) ≠ 0 by omega))
  have hp2 : p ≤ 199 := by have := Int.emod_lt_of_pos a0 (show (0 : Int) < 200 by omega); omega
  have HM1 := Lib.hid (mod_any a0 200 w (by omega) (by omega))
  rw [hp] at HM1
  obtain ⟨r, hr⟩ := Int.eq_ofNat_of_zero_le (Int.emod_nonneg a1 (show 1 + (p : Int) + 2 ≠ 0 by omega))
  have hr2 : r ≤ p + 2 := by have := Int.emod_lt_of_pos a1 (show (0 : Int) < 1 + (p : Int) + 2 by omega); omega
  have HM2 := Lib.hid (mod_any a1 (1 + (p : Int) + 2) w (by omega) (by omega))
  rw [hr] at HM2
  obtain ⟨q, hq⟩ := Int.eq_ofNat_of_zero_le (Int.emod_nonneg a0 (show (40 : Int) ≠ 0 by omega))
  have hq2 : q ≤ 39 := by have := Int.emod_lt_of_pos a0 (show (0 : Int) < 40 by omega); omega
  have HM3 : Hid (∀ w, Calls Tryd.prog 22 #[.int .i64 a0, .int .i64 40] w fun e w' => e = .returned (.int .i64 (q : Int)) ∧ w = w') := fun w => by
    have h := mod_any a0 40 w (by omega) (by omega)
    rw [hq] at h
    exact h
  clear hp hr hq
  obtain ⟨c1, c2, c3⟩ := Na.cho_cv (1 + (p : Int)) ((r : Int) - 1) (by omega) (by omega)
  obtain ⟨d1, d2, d3⟩ := Na.cho_cv (p : Int) ((r : Int) - 1 - 1) (by omega) (by omega)
  obtain ⟨f1, f2, f3⟩ := Na.cho_cv (p : Int) ((r : Int) - 1) (by omega) (by omega)
  have HSum := Lib.hid (Na.pascal p ((r : Int) - 1))
  obtain ⟨x1, hx1⟩ : ∃ x, Na.cv (1 + (p : Int)) ((r : Int) - 1) = x := ⟨_, rfl⟩
  obtain ⟨x2, hx2⟩ : ∃ x, Na.cv (p : Int) ((r : Int) - 1 - 1) = x := ⟨_, rfl⟩
  obtain ⟨x3, hx3⟩ : ∃ x, Na.cv (p : Int) ((r : Int) - 1) = x := ⟨_, rfl⟩
  rw [hx1, hx2, hx3] at HSum
  rw [hx1] at c1 c3
  rw [hx2] at d1 d3
  rw [hx3] at f1 f3
  have HC := Lib.hid (And.intro c1 (And.intro c2 c3))
  have HD := Lib.hid (And.intro d1 (And.intro d2 d3))
  have HF := Lib.hid (And.intro f1 (And.intro f2 f3))
  have HL1 : Hid ((choL (1 + (p : Int)) ((r : Int) - 1)).length ≤ 1000) := by unfold Hid; rw [c1]; exact Nat.le_trans ((Na.dig_200 x1).2 c3) (by omega)
  have HL2 : Hid ((choL (p : Int) ((r : Int) - 1 - 1)).length ≤ 1000) := by unfold Hid; rw [d1]; exact Nat.le_trans ((Na.dig_200 x2).2 d3) (by omega)
  have HL3 : Hid ((choL (p : Int) ((r : Int) - 1)).length ≤ 1000) := by unfold Hid; rw [f1]; exact Nat.le_trans ((Na.dig_200 x3).2 f3) (by omega)
  have HR : Hid (resL (x2 + x3) = Na.dig x1 ∧ resE (x2 + x3) = 0) := by
    unfold Hid
    rw [← HSum.out]
    exact ⟨resL_ok c3, resE_ok c3⟩
  clear c1 c2 c3 d1 d2 d3 f1 f2 f3 hx1 hx2 hx3
  have ep : (1 : Int) + (p : Int) - 1 = (p : Int) := by omega
  rw [← ep] at HL2 HL3 HD HF
  clear ep
  have HTw : Hid (ofL 2 = Na.dig 2 ∧ ofE 2 = 0) := by
    unfold Hid ofL ofE
    rw [if_neg (by omega), if_neg (by omega)]
    exact ⟨rfl, rfl⟩
  have HT2 : Hid (2 < Na.top) := small_top (m := 1) (by omega) (by omega)
  have HQ1 : Hid (2 ^ q < Na.top) := Na.two_top q (by omega)
  have HQ2 : Hid (∀ j, j ≤ q → Na.cv (q : Int) (j : Int) = Na.bin q j) := fun j h => Na.cv_yes q j h
  have HQ3 : Hid (∀ j : Int, choL (q : Int) j = Na.dig (Na.cv q j) ∧ choE (q : Int) j = 0 ∧ Na.cv q j < Na.top) := fun j => Na.cho_cv q j (by omega) (by omega)
  have HQ4 : Hid (∀ j : Int, (choL (q : Int) j).length ≤ 1000) := fun j => by rw [(HQ3.out j).1]; exact Nat.le_trans ((Na.dig_200 _).2 (HQ3.out j).2.2) (by omega)
  go_enter Tryd.func6, Tryd.ntmps6
  go_wp2_with fail
  refine HM1.out.mono ?_
  rintro e w1 ⟨rfl, rfl⟩
  go_wp2_with fail
  refine HM2.out.mono ?_
  rintro e w1 ⟨rfl, rfl⟩
  clear HM1 HM2
  go_wp2_with fail
  refine (choose_st (St.refl w) _ _ HL1.out).mono ?_
  rw [HC.out.1, HC.out.2.1]
  rintro e w1 ⟨A1, n1, c1, rfl, HS1, -⟩
  have HSa := HS1.boxed (.slice A1 n1 c1) 29
  clear HS1
  go_wp2_with fail
  refine (choose_st HSa _ _ HL2.out).mono ?_
  rw [HD.out.1, HD.out.2.1]
  rintro e w2 ⟨A2, n2, c2, rfl, HS2, -⟩
  have HSb := HS2.boxed (.slice A2 n2 c2) 29
  clear HSa HS2
  go_wp2_with fail
  refine (choose_st HSb _ _ HL3.out).mono ?_
  rw [HF.out.1, HF.out.2.1]
  rintro e w3 ⟨A3, n3, c3, rfl, HS3, -⟩
  have HSc := HS3.boxed (.slice A3 n3 c3) 29
  have hc2 := HSc.cell 1 rfl
  have hc3 := HSc.cell 2 rfl
  clear HSb HS3
  go_wp2_with fail
  refine (add_st HSc 1 2 rfl rfl HD.out.2.2 HF.out.2.2).mono ?_
  rw [HR.out.1, HR.out.2]
  rintro e w4 ⟨A4, n4, c4, rfl, HS4, -⟩
  have HSd := HS4.boxed (.slice A4 n4 c4) 29
  clear HSc HS4 hc2 hc3
  go_wp2_with fail
  refine (awakeN_any _).mono ?_
  rintro e w5 ⟨rfl, hb5⟩
  have HSe := HSd.go hb5
  have hc1 := HSe.cell 0 rfl
  have hc4 := HSe.cell 3 rfl
  clear HSd hb5
  go_wp2_with fail
  refine (same_st HSe 0 3 rfl rfl rfl).mono ?_
  rintro e w6 ⟨rfl, HS6⟩
  clear HSe hc1 hc4
  go_wp2_with fail
  refine (HM3.out _).mono ?_
  rintro e w7 ⟨rfl, rfl⟩
  have HSg := (HS6.boxed (.slice none 0 0) 29).zero
  have HSh := Lib.hid (HSg.keep1 4 rfl [⟨none, 0, 0, nats (Na.dig 0)⟩] (fun o ho => by simp at ho; simp [ho]))
  clear HM3 HS6 HSg
  go_wp2_with fail
  go_loopw [16] (fun i wr => NPa w w6.heap.size q i wr) (fun i _ => q + 1 - (intOf i).toNat)
  case atStart => exact ⟨0, none, 0, 0, rfl, Nat.zero_le _, HSh⟩
  case round =>
    clear HSh
    obtain ⟨j, A, n, c, rfl, hj, HS⟩ := hrel
    rcases Nat.lt_or_ge q j with hjq | hjq
    · have hj9 : j = q + 1 := by omega
      have HPs : Hid (Na.psum q j = 2 ^ q) := by unfold Hid; rw [hj9]; exact Na.psum_two q
      rw [HPs.out] at HS
      clear hj9
      have hjd : decide (j ≤ q) = false := decide_eq_false (by omega)
      go_wp2_with fail
      refine (of_st HS.out 2 (by omega)).mono ?_
      rw [HTw.out.1, HTw.out.2]
      rintro e v1 ⟨B1, m1, k1, rfl, HT1, -⟩
      have HTa := HT1.boxed (.slice B1 m1 k1) 29
      clear HT1
      go_wp2_with fail
      refine (power_st HTa 1 rfl HT2.out (by omega)).mono ?_
      rw [resL_ok HQ1.out, resE_ok HQ1.out]
      rintro e v2 ⟨B2, m2, k2, rfl, HT3, -⟩
      have HTb := HT3.boxed (.slice B2 m2 k2) 29
      have hd1 := HTb.cell 0 rfl
      have hd2 := HTb.cell 2 rfl
      clear HTa HT3
      go_wp2_with fail
      refine (same_st HTb 0 2 rfl rfl rfl).mono ?_
      rintro e v3 ⟨rfl, HT4⟩
      clear HTb hd1 hd2
      go_wp2_with fail
      go_ret
      exact ⟨rfl, HT4.below⟩
    · have HPs : Hid (Na.psum q (j + 1) = Na.psum q j + Na.bin q j) := rfl
      have HPt : Hid (Na.psum q (j + 1) < Na.top) := Nat.lt_of_le_of_lt (Na.psum_le q (j + 1) (by omega)) HQ1.out
      have HPu : Hid (Na.psum q j < Na.top) := Nat.lt_of_le_of_lt (Na.psum_le q j hj) HQ1.out
      have HPb : Hid (Na.bin q j < Na.top) := by unfold Hid; rw [← HQ2.out j hjq]; exact (HQ3.out j).2.2
      go_wp2_with fail
      refine (choose_st HS.out _ _ (HQ4.out _)).mono ?_
      rw [(HQ3.out _).1, (HQ3.out _).2.1, HQ2.out j hjq]
      rintro e v1 ⟨B1, m1, k1, rfl, HT1, -⟩
      have HTa := HT1.boxed (.slice B1 m1 k1) 29
      have hd1 := HTa.cell 0 rfl
      have hd2 := HTa.cell 1 rfl
      clear HT1
      go_wp2_with fail
      refine (add_st HTa 0 1 rfl rfl HPu.out HPb.out).mono ?_
      rw [← HPs.out, resL_ok HPt.out, resE_ok HPt.out]
      rintro e v2 ⟨B2, m2, k2, rfl, HT2, -⟩
      have HTb := HT2.put 0 rfl (.slice B2 m2 k2)
      have hd3 := HT2.cell 0 rfl
      have hf3 := HT2.free 0 rfl
      have HTc := Lib.hid (HTb.keep1 0 rfl [⟨B2, m2, k2, nats (Na.dig (Na.psum q (j + 1)))⟩] (fun o ho => by simp at ho; simp [ho]))
      clear HTa HT2 HTb hd1 hd2
      go_wp2_with fail
      exact ⟨⟨j + 1, B2, m2, k2, by go_num, by omega, HTc⟩, by simp [intOf]; omega⟩
end Go.Proofs.YtflgfkelbniblaaDoor

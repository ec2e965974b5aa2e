/- The walk of the law NatOrder. -/
import Derived.Test.YtflgfkelbniblaaDoorNatR
import Derived.Test.YtflgfkelbniblaaDoorNInt
namespace Go.Proofs.YtflgfkelbniblaaDoor
open Go.RowKit
set_option linter.unusedVariables false
set_option maxRecDepth 100000
section
variable {w0 w : World} {g : Option Nat} {M : List (Nat × Value)} {L : List Ob} {A A2 : Option Addr} {n c m c2 x y : Nat}
theorem cmp_st (h : St w0 w g M L) (i j : Nat) (hi : L[i]? = some ⟨A, n, c, nats (Na.dig x)⟩) (hj : L[j]? = some ⟨A2, m, c2, nats (Na.dig y)⟩) :
    Calls Tryd.prog 31 #[.agg #[.slice A n c], .agg #[.slice A2 m c2]] w fun e w' => e = .returned (.int .i64 (Na.sgn x y)) ∧ St w0 w' g M L := by
  obtain ⟨h1, h2, h3, h4⟩ := h.sl hi
  obtain ⟨k1, k2, k3, k4⟩ := h.sl hj
  rw [nats_length] at h1 k1
  exact (ncmp_any A A2 n c m c2 w.heap.size x y w h1 k1 h4 k4 (Nat.le_refl _) (by omega) (by omega)).mono fun e w' ⟨he, hb⟩ => ⟨he, h.go hb⟩
theorem same2_st (h : St w0 w g M L) (i j : Nat) (hi : L[i]? = some ⟨A, n, c, nats (Na.dig x)⟩) (hj : L[j]? = some ⟨A2, m, c2, nats (Na.dig y)⟩) :
    Calls Tryd.prog 20 #[.agg #[.slice A n c], .agg #[.slice A2 m c2]] w fun e w' => e = .returned (.bool (decide (x = y))) ∧ St w0 w' g M L := by
  obtain ⟨h1, h2, h3, h4⟩ := h.sl hi
  obtain ⟨k1, k2, k3, k4⟩ := h.sl hj
  refine (nsame_any A A2 n c m c2 _ (Na.up (Na.dig x)) (Na.up (Na.dig y)) w (by rw [nats_length] at h1; rw [Na.up_length]; exact h1) (by rw [nats_length] at k1; rw [Na.up_length]; exact k1) (by rw [nats_up]; exact h4) (by rw [nats_up]; exact k4) (Nat.le_refl _) (by omega) (by omega)).mono fun en w' ⟨he, hb⟩ => ⟨?_, h.go hb⟩
  rw [he]
  refine ret_bool ?_
  by_cases e : x = y
  · rw [decide_eq_true e, decide_eq_true (by rw [e])]
  · rw [decide_eq_false e, decide_eq_false (fun e2 => e (by
      have h3 := congrArg num e2
      rwa [num_dig, num_dig] at h3))]
theorem sub_st (h : St w0 w g M L) (i j : Nat) (hi : L[i]? = some ⟨A, n, c, nats (Na.dig x)⟩) (hj : L[j]? = some ⟨A2, m, c2, nats (Na.dig y)⟩) (hx : x < Na.top) (hy : y < Na.top) :
    Calls Tryd.prog 32 #[.agg #[.slice A n c], .agg #[.slice A2 m c2]] w (GotN w0 g M L (if x < y then [] else Na.dig (x - y)) (if x < y then 5 else 0)) := by
  obtain ⟨h1, h2, h3, h4⟩ := h.sl hi
  obtain ⟨k1, k2, k3, k4⟩ := h.sl hj
  have e1 := (sub_ok hx hy).1
  have e2 := (sub_ok hx hy).2
  refine (nsub_any A A2 n c m c2 (Na.up (Na.dig x)) (Na.up (Na.dig y)) w (by rw [nats_length] at h1; rw [Na.up_length]; exact h1) (by rw [nats_length] at k1; rw [Na.up_length]; exact k1) (by rw [nats_up]; exact h4) (by rw [nats_up]; exact k4) (by omega) (by omega)).mono fun en w' hr => got_res h e1 e2 ?_ hr
  split
  · exact Nat.zero_le _
  · exact Nat.le_trans ((Na.dig_200 _).2 (Nat.lt_of_le_of_lt (Nat.sub_le x y) hx)) (by omega)
theorem int_st (h : St w0 w g M L) (i : Nat) (hi : L[i]? = some ⟨A, n, c, nats (Na.dig x)⟩) (hx : x < Na.top) :
    Calls Tryd.prog 33 #[.agg #[.slice A n c]] w fun e w' => e = .returned (.tuple #[.int .i64 (intV x), .int .i64 (intE x)]) ∧ St w0 w' g M L := by
  obtain ⟨h1, h2, h3, h4⟩ := h.sl hi
  rw [nats_length] at h1
  exact (nint_ok A n c x w h1 h4 hx).mono fun e w' ⟨he, hb⟩ => ⟨he, h.go hb⟩
end
namespace Na
theorem sgn_bd (x y : Nat) : -1 ≤ sgn x y ∧ sgn x y ≤ 1 := by rcases sgn_cases x y with ⟨_, h⟩ | ⟨_, h⟩ | ⟨_, h⟩ <;> omega
theorem sgn_flip (x y : Nat) : sgn y x = - sgn x y := by
  rcases sgn_cases x y with ⟨h1, h⟩ | ⟨h1, h⟩ | ⟨h1, h⟩
  · rw [h, sgn_gt h1]; rfl
  · rw [h, sgn_eq h1.symm]; rfl
  · rw [h, sgn_lt h1]
theorem sgn_add (x y z : Nat) : sgn (x + z) (y + z) = sgn x y := by
  rcases sgn_cases x y with ⟨h1, h⟩ | ⟨h1, h⟩ | ⟨h1, h⟩
  · rw [h, sgn_lt (by omega)]
  · rw [h, sgn_eq (by omega)]
  · rw [h, sgn_gt (by omega)]
theorem sgn_mul (x y z : Nat) (hz : 0 < z) : sgn (x * z) (y * z) = sgn x y := by
  rcases sgn_cases x y with ⟨h1, h⟩ | ⟨h1, h⟩ | ⟨h1, h⟩
  · rw [h, sgn_lt (Nat.mul_lt_mul_of_pos_right h1 hz)]
  · rw [h, sgn_eq (by rw [h1])]
  · rw [h, sgn_gt (Nat.mul_lt_mul_of_pos_right h1 hz)]
end Na
set_option maxHeartbeats 1500000 in
theorem order_any (A : Option Addr) (n c : Nat) (ts : List Int) (a0 a1 : Int) (w : World) (hn : ts.length = n) (hl : n ≤ 9223372036854775807) (hs : Sl w w.heap.size A (ints ts)) :
    Calls Tryd.prog 7 #[.slice A n c, .agg #[.int .i64 a0, .int .i64 a1]] w fun e w' => e = .returned (.bool true) ∧ Below w.heap.size w w' := by
  rcases Nat.lt_or_ge 400 n with h400 | h400
  · have HL := Lib.hid (light_no A n c (w.alloc (.cells #[.int .i64 a0, .int .i64 a1] 22)) h400 hl)
    clear hs hn h400
    go_enter Tryd.func7, Tryd.ntmps7
    go_wp2_with fail
    refine HL.out.mono ?_
    rintro e w1 ⟨rfl, rfl⟩
    go_wp2_with fail
    refine (awakeN_any _).mono ?_
    rintro e w1 ⟨rfl, hb⟩
    have HB := Lib.hid (btr (own_box1 w _) hb)
    clear hb
    go_wp2_with fail
    go_ret
    exact ⟨rfl, HB.out⟩
  · have HL := Lib.hid (light_yes A n c (w.alloc (.cells #[.int .i64 a0, .int .i64 a1] 22)) h400)
    obtain ⟨w0, hw0⟩ : ∃ w0, w.alloc (.cells #[.int .i64 a0, .int .i64 a1] 22) = w0 := ⟨_, rfl⟩
    have HW : Hid (w.alloc (.cells #[.int .i64 a0, .int .i64 a1] 22) = w0) := hw0
    have HB0 : Hid (Below w.heap.size w w0) := by rw [← hw0]; exact own_box1 w _
    have hx0 : w0.cell? ⟨w.heap.size, 0, none⟩ = some (.int .i64 a0) := by rw [← hw0]; simp [go_sem]
    have hx1 : w0.cell? ⟨w.heap.size, 1, none⟩ = some (.int .i64 a1) := by rw [← hw0]; simp [go_sem]
    have hsz0 : w.heap.size + 1 ≤ w0.heap.size := by rw [← hw0]; simp
    have HRo := Lib.hid (roll_at (St.refl w0) A n c w.heap.size ts hn (by omega) (by omega) (hs.below HB0.out))
    have HKc : Hid (∀ g W M Ls, St w0 W (some g) M Ls → W.cell? ⟨w.heap.size, 0, none⟩ = some (.int .i64 a0) ∧ W.cell? ⟨w.heap.size, 1, none⟩ = some (.int .i64 a1)) := fun g W M Ls h =>
      ⟨(h.below.cell (p := ⟨w.heap.size, 0, none⟩) (by simp only; omega)).trans hx0, (h.below.cell (p := ⟨w.heap.size, 1, none⟩) (by simp only; omega)).trans hx1⟩
    rw [hw0] at HL
    obtain ⟨p, hp⟩ := Int.eq_ofNat_of_zero_le (Int.emod_nonneg a0 (show (4611686018427387904 : Int) ≠ 0 by omega))
    have hp2 : p ≤ 4611686018427387903 := by have := Int.emod_lt_of_pos a0 (show (0 : Int) < 4611686018427387904 by omega); omega
    obtain ⟨q, hq⟩ := Int.eq_ofNat_of_zero_le (Int.emod_nonneg a1 (show (4611686018427387904 : Int) ≠ 0 by omega))
    have hq2 : q ≤ 4611686018427387903 := by have := Int.emod_lt_of_pos a1 (show (0 : Int) < 4611686018427387904 by omega); omega
    have HMp : Hid (∀ w, Calls Tryd.prog 22 #[.int .i64 a0, .int .i64 4611686018427387904] w fun e w' => e = .returned (.int .i64 (p : Int)) ∧ w = w') := fun w => by
      have h := mod_any a0 4611686018427387904 w (by omega) (by omega)
      rw [hp] at h
      exact h
    have HMq : Hid (∀ w, Calls Tryd.prog 22 #[.int .i64 a1, .int .i64 4611686018427387904] w fun e w' => e = .returned (.int .i64 (q : Int)) ∧ w = w') := fun w => by
      have h := mod_any a1 4611686018427387904 w (by omega) (by omega)
      rw [hq] at h
      exact h
    have HOp : Hid (ofL (p : Int) = Na.dig p ∧ ofE (p : Int) = 0) := ⟨(if_neg (by omega)).trans (by rw [Int.toNat_natCast]), if_neg (by omega)⟩
    have HOq : Hid (ofL (q : Int) = Na.dig q ∧ ofE (q : Int) = 0) := ⟨(if_neg (by omega)).trans (by rw [Int.toNat_natCast]), if_neg (by omega)⟩
    have HPt : Hid (p < Na.top) := small_top (m := 3) (by omega) (by omega)
    have HPi : Hid (intV p = (p : Int) ∧ intE p = 0) := ⟨if_pos (by omega), if_pos (by omega)⟩
    obtain ⟨D, hD⟩ : ∃ D : Int, Na.sgn p q = D := ⟨_, rfl⟩
    have hD1 : decide (D < 0) = decide (p < q) := by
      rw [← hD]
      rcases Na.sgn_cases p q with ⟨h1, h⟩ | ⟨h1, h⟩ | ⟨h1, h⟩
      · rw [h, decide_eq_true h1]; rfl
      · rw [h, decide_eq_false (by omega : ¬ p < q)]; rfl
      · rw [h, decide_eq_false (by omega : ¬ p < q)]; rfl
    have hD2 : decide (0 < D) = decide (q < p) := by
      rw [← hD]
      rcases Na.sgn_cases p q with ⟨h1, h⟩ | ⟨h1, h⟩ | ⟨h1, h⟩
      · rw [h, decide_eq_false (by omega : ¬ q < p)]; rfl
      · rw [h, decide_eq_false (by omega : ¬ q < p)]; rfl
      · rw [h, decide_eq_true h1]; rfl
    have HPQ : Hid (Na.sgn p q = D) := hD
    have HD1 := Lib.hid hD1
    have HD2 := Lib.hid hD2
    clear hs hn h400 hl hw0 hx0 hx1 hp hq hD hD1 hD2
    go_enter Tryd.func7, Tryd.ntmps7
    go_wp2_with fail
    rw [HW.out]
    refine HL.out.mono ?_
    rintro e w1 ⟨rfl, rfl⟩
    go_wp2_with fail
    refine HRo.out.mono ?_
    rintro e w2 ⟨g, rfl, HD, HS⟩
    clear HW HL HRo
    go_wp2_with fail
    refine (dnat_st HS HD 6 (by omega)).mono ?_
    rintro e w3 ⟨A1, n1, c1, x1, rfl, -, hx1, HD1, HSx⟩
    clear HD HS
    go_wp2_with fail
    refine (dnat_st HSx HD1 6 (by omega)).mono ?_
    rintro e w4 ⟨A2, n2, c2, x2, rfl, -, hx2, HD2, HSy⟩
    clear HD1 HSx
    go_wp2_with fail
    refine (dnat_st HSy HD2 3 (by omega)).mono ?_
    rintro e w5 ⟨A3, n3, c3, x3, rfl, -, hx3, HD3, HSz⟩
    clear HSy HD2
    have HS2 := ((HSz.boxed (.slice A1 n1 c1) 29).boxed (.slice A2 n2 c2) 29).boxed (.slice A3 n3 c3) 29
    simp only [World.size_alloc, List.nil_append, List.cons_append] at HS2
    clear HSz HD3
    obtain ⟨K, hK⟩ : ∃ K : Int, Na.sgn x1 x2 = K := ⟨_, rfl⟩
    have hK1 : -1 ≤ K := by rw [← hK]; exact (Na.sgn_bd x1 x2).1
    have hK2 : K ≤ 1 := by rw [← hK]; exact (Na.sgn_bd x1 x2).2
    have HKf := Lib.hid ((Na.sgn_flip x1 x2).trans (by rw [hK]))
    have HKa := Lib.hid ((Na.sgn_add x1 x2 x3).trans hK)
    have HKm : Hid (0 < x3 → Na.sgn (x1 * x3) (x2 * x3) = K) := fun h => (Na.sgn_mul x1 x2 x3 h).trans hK
    obtain ⟨E, hE⟩ : ∃ E : Int, (if x1 < x2 then (5 : Int) else 0) = E := ⟨_, rfl⟩
    have hEK : (E == 0) = decide (0 ≤ K) := by
      rw [← hE, ← hK]
      rcases Na.sgn_cases x1 x2 with ⟨h1, h⟩ | ⟨h1, h⟩ | ⟨h1, h⟩
      · rw [h, if_pos h1]; rfl
      · rw [h, if_neg (by omega)]; rfl
      · rw [h, if_neg (by omega)]; rfl
    have HSK : Hid (decide (x1 = x2) = (K == 0)) := by
      unfold Hid
      rw [← hK]
      rcases Na.sgn_cases x1 x2 with ⟨h1, h⟩ | ⟨h1, h⟩ | ⟨h1, h⟩
      · rw [h, decide_eq_false (by omega)]; rfl
      · rw [h, decide_eq_true h1]; rfl
      · rw [h, decide_eq_false (by omega)]; rfl
    have HKK := Lib.hid hK
    have HEE := Lib.hid hE
    have HX1 : Hid (x1 < Na.top) := small_top hx1 (by omega)
    have HX2 : Hid (x2 < Na.top) := small_top hx2 (by omega)
    have hx3 : x3 < 16777216 ^ 6 := Nat.lt_of_lt_of_le hx3 (Nat.pow_le_pow_right (by omega) (by omega))
    have HX3 : Hid (x3 < Na.top) := small_top hx3 (by omega)
    have tt : ∀ a b : Nat, a < 16777216 ^ 6 → b < 16777216 ^ 6 → a + b < Na.top ∧ a * b < Na.top := fun a b ha hb => by
      refine ⟨small_top (m := 7) (by omega) (by omega), small_top (m := 12) ?_ (by omega)⟩
      have := Nat.mul_lt_mul_of_lt_of_lt ha hb
      rwa [← Nat.pow_add] at this
    have HT1 := Lib.hid (tt x1 x3 hx1 hx3)
    have HT2 := Lib.hid (tt x2 x3 hx2 hx3)
    have HN3 : Hid ((Na.dig x3).length = n3) := by have := (HS2.sl (i := 2) rfl).1; rwa [nats_length] at this
    clear hK hE hx1 hx2 hx3 tt
    go_wp2_with fail
    refine (cmp_st HS2 0 1 rfl rfl).mono ?_
    rw [HKK.out]
    rintro e v1 ⟨rfl, HS3⟩
    clear HS2
    have hc1 := HS3.cell 0 rfl
    have hc2 := HS3.cell 1 rfl
    go_wp2_with fail
    refine (sub_st HS3 0 1 rfl rfl HX1.out HX2.out).mono ?_
    rw [HEE.out]
    rintro e v2 ⟨A4, n4, c4, rfl, HS4, -⟩
    have HS5 := HS4.boxed (.slice A4 n4 c4) 29
    clear HS3 HS4 hc1 hc2
    have hc1 := HS5.cell 0 rfl
    have hc2 := HS5.cell 2 rfl
    go_wp2_with fail
    refine (add_st HS5 0 2 rfl rfl HX1.out HX3.out).mono ?_
    rw [resL_ok HT1.out.1, resE_ok HT1.out.1]
    rintro e v3 ⟨A5, n5, c5, rfl, HS6, -⟩
    have HS7 := HS6.boxed (.slice A5 n5 c5) 29
    clear HS5 HS6 hc1 hc2
    have hc1 := HS7.cell 1 rfl
    have hc2 := HS7.cell 2 rfl
    go_wp2_with fail
    refine (add_st HS7 1 2 rfl rfl HX2.out HX3.out).mono ?_
    rw [resL_ok HT2.out.1, resE_ok HT2.out.1]
    rintro e v4 ⟨A6, n6, c6, rfl, HS8, -⟩
    have HS9 := HS8.boxed (.slice A6 n6 c6) 29
    clear HS7 HS8 hc1 hc2
    have hc1 := HS9.cell 0 rfl
    have hc2 := HS9.cell 2 rfl
    go_wp2_with fail
    refine (mul_st HS9 0 2 rfl rfl HX1.out HX3.out).mono ?_
    rw [resL_ok HT1.out.2, resE_ok HT1.out.2]
    rintro e v5 ⟨A7, n7, c7, rfl, HSa, -⟩
    have HSb := HSa.boxed (.slice A7 n7 c7) 29
    clear HS9 HSa hc1 hc2
    have hc1 := HSb.cell 1 rfl
    have hc2 := HSb.cell 2 rfl
    go_wp2_with fail
    refine (mul_st HSb 1 2 rfl rfl HX2.out HX3.out).mono ?_
    rw [resL_ok HT2.out.2, resE_ok HT2.out.2]
    rintro e v6 ⟨A8, n8, c8, rfl, HSc, -⟩
    have HSd := HSc.boxed (.slice A8 n8 c8) 29
    clear HSb HSc hc1 hc2
    go_wp2_with fail
    refine (awakeN_any _).mono ?_
    rintro e v7 ⟨rfl, hb⟩
    have HSe := HSd.go hb
    clear HSd hb
    have hc1 := HSe.cell 4 rfl
    have hc2 := HSe.cell 5 rfl
    go_wp2_with fail
    refine (cmp_st HSe 4 5 rfl rfl).mono ?_
    rw [HKa.out]
    rintro e v8 ⟨rfl, HSf⟩
    clear HSe hc1 hc2
    have hc1 := HSf.cell 0 rfl
    have hc2 := HSf.cell 1 rfl
    go_wp2_with fail
    refine (cmp_st HSf 1 0 rfl rfl).mono ?_
    rw [HKf.out]
    rintro e v9 ⟨rfl, HSg⟩
    clear HSf hc1 hc2
    have hc1 := HSg.cell 0 rfl
    have hc2 := HSg.cell 1 rfl
    go_wp2_with fail
    refine (same2_st HSg 0 1 rfl rfl).mono ?_
    rw [HSK.out]
    rintro e v10 ⟨rfl, HSh⟩
    clear HSg hc1 hc2
    have hc3 := HSh.cell 2 rfl
    have hc4 := HSh.cell 6 rfl
    have hc5 := HSh.cell 7 rfl
    obtain ⟨hq1, hq2⟩ := HKc.out _ _ _ _ HSh
    rcases Nat.eq_zero_or_pos n3 with hn0 | hn0
    · subst hn0
      go_wp2_with fail
      go_quiet ((go_at_call 22; first | (with_reducible exact quiet_left (HMp.out _)) | (with_reducible exact quiet_left (HMq.out _))))
      go_wp2_with fail
      refine (of_st (HSh.drewN _) _ (by omega)).mono ?_
      rw [HOp.out.1, HOp.out.2]
      rintro e u1 ⟨B1, m1, k1, rfl, HR1, -⟩
      have HR2 := HR1.boxed (.slice B1 m1 k1) 29
      clear HR1
      go_wp2_with fail
      refine (of_st HR2 _ (by omega)).mono ?_
      rw [HOq.out.1, HOq.out.2]
      rintro e u2 ⟨B2, m2, k2, rfl, HR3, -⟩
      have HR4 := HR3.boxed (.slice B2 m2 k2) 29
      clear HR2 HR3
      have hd1 := HR4.cell 8 rfl
      go_wp2_with fail
      refine (int_st HR4 8 rfl HPt.out).mono ?_
      rw [HPi.out.1, HPi.out.2]
      rintro e u3 ⟨rfl, HR5⟩
      clear HR4 hd1
      have hd1 := HR5.cell 8 rfl
      have hd2 := HR5.cell 9 rfl
      go_wp2_with fail
      refine (cmp_st HR5 8 9 rfl rfl).mono ?_
      rw [HPQ.out]
      rintro e u4 ⟨rfl, HR6⟩
      clear HR5 hd1 hd2
      have hD1 := HD1.out
      have hd1 := HR6.cell 8 rfl
      have hd2 := HR6.cell 9 rfl
      go_wp2_with fail
      refine (cmp_st HR6 8 9 rfl rfl).mono ?_
      rw [HPQ.out]
      rintro e u5 ⟨rfl, HR7⟩
      clear HR6 hd1 hd2 hD1
      have hD2 := HD2.out
      go_wp2_with fail
      all_goals
        go_ret
        exact ⟨rfl, HB0.out.trans (HR7.below.mono (by omega))⟩
    · have HX0 : Hid (0 < x3) := by
        unfold Hid
        rcases Nat.eq_zero_or_pos x3 with e | e
        · have := HN3.out; rw [e, Na.dig_zero] at this; simp at this; omega
        · exact e
      have hn1 : 0 < (n3 : Int) := by omega
      go_wp2_with fail
      refine (cmp_st HSh 6 7 rfl rfl).mono ?_
      rw [HKm.out HX0.out]
      rintro e v11 ⟨rfl, HSi⟩
      obtain ⟨hq1, hq2⟩ := HKc.out _ _ _ _ HSi
      clear HSh hc3 hc4 hc5
      go_wp2_with fail
      go_quiet ((go_at_call 22; first | (with_reducible exact quiet_left (HMp.out _)) | (with_reducible exact quiet_left (HMq.out _))))
      go_wp2_with fail
      refine (of_st (HSi.drewN _) _ (by omega)).mono ?_
      rw [HOp.out.1, HOp.out.2]
      rintro e u1 ⟨B1, m1, k1, rfl, HR1, -⟩
      have HR2 := HR1.boxed (.slice B1 m1 k1) 29
      clear HR1
      go_wp2_with fail
      refine (of_st HR2 _ (by omega)).mono ?_
      rw [HOq.out.1, HOq.out.2]
      rintro e u2 ⟨B2, m2, k2, rfl, HR3, -⟩
      have HR4 := HR3.boxed (.slice B2 m2 k2) 29
      clear HR2 HR3
      have hd1 := HR4.cell 8 rfl
      go_wp2_with fail
      refine (int_st HR4 8 rfl HPt.out).mono ?_
      rw [HPi.out.1, HPi.out.2]
      rintro e u3 ⟨rfl, HR5⟩
      clear HR4 hd1
      have hd1 := HR5.cell 8 rfl
      have hd2 := HR5.cell 9 rfl
      go_wp2_with fail
      refine (cmp_st HR5 8 9 rfl rfl).mono ?_
      rw [HPQ.out]
      rintro e u4 ⟨rfl, HR6⟩
      clear HR5 hd1 hd2
      have hD1 := HD1.out
      have hd1 := HR6.cell 8 rfl
      have hd2 := HR6.cell 9 rfl
      go_wp2_with fail
      refine (cmp_st HR6 8 9 rfl rfl).mono ?_
      rw [HPQ.out]
      rintro e u5 ⟨rfl, HR7⟩
      clear HR6 hd1 hd2 hD1
      have hD2 := HD2.out
      go_wp2_with fail
      all_goals
        go_ret
        exact ⟨rfl, HB0.out.trans (HR7.below.mono (by omega))⟩
end Go.Proofs.YtflgfkelbniblaaDoor

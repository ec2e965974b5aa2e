/- The law RatioOrder. -/
import Derived.Test.YtnfjnlnphdmdmaaDoorQx
import Derived.Test.YtnfjnlnphdmdmaaDoorRatioIntsW
namespace Go.Proofs.YtnfjnlnphdmdmaaDoor
open Go.RowKit Go.Sort
set_option linter.unusedVariables false
set_option maxRecDepth 100000
theorem mul_pow2 {x y a b : Nat} (hx : x < 16777216 ^ a) (hy : y < 16777216 ^ b) : x * y < 16777216 ^ (a + b) := by
  rw [Nat.pow_add]; exact Nat.mul_lt_mul_of_lt_of_lt hx hy
theorem tops62 {u v : Nat} (hu : u < 16777216 ^ 3) (hv : v < 16777216 ^ 3) : u * v < Na.top := small_top (m := 6) (mul_pow2 hu hv) (by omega)
theorem ofF_112 : ofF 1 1 = (1, 1, 0) := by decide +kernel
theorem sgn_lt {x y : Nat} (h : x < y) : Na.sgn x y = -1 := by unfold Na.sgn; rw [if_pos h]
theorem sgn_gt {x y : Nat} (h : y < x) : Na.sgn x y = 1 := by unfold Na.sgn; rw [if_neg (by omega), if_pos h]
theorem sgn_eq {x y : Nat} (h : x = y) : Na.sgn x y = 0 := by unfold Na.sgn; rw [if_neg (by omega), if_neg (by omega)]
theorem GotO.fold {w0 w' : World} {g : Option Nat} {M : List (Nat × Value)} {L : List Ob} {O : List Rw} {l : List Nat} {e0 : Int} {e : Ending} (h : GotO w0 g M L O l e0 e w') : ∃ (A : Option Addr) (n c : Nat), e = .returned (.tuple #[.agg #[.slice A n c], .int .i64 e0]) ∧ Ow w0 w' g M (L ++ [⟨A, n, c, nats l⟩]) O := h
theorem nmul_fr {w0 w : World} {g : Option Nat} {M : List (Nat × Value)} {L : List Ob} {O : List Rw} {A A2 : Option Addr} {n c m c2 x y : Nat} (h : Ow w0 w g M L O) (i j : Nat) (hi : L[i]? = some ⟨A, n, c, nats (Na.dig x)⟩) (hj : L[j]? = some ⟨A2, m, c2, nats (Na.dig y)⟩) (hx : x < Na.top) (hy : y < Na.top) (hs : x * y < Na.top) :
    Calls Tryd.prog 30 #[.agg #[.slice A n c], .agg #[.slice A2 m c2]] w (GotO w0 g M L O (Na.dig (x * y)) 0) := by
  have := ag_mul (zs := Na.up (Na.dig x)) (ys := Na.up (Na.dig y)) h i j (by rw [nats_up]; exact hi) (by rw [nats_up]; exact hj)
  rw [(mul_ok hx hy).1, (mul_ok hx hy).2, resL_ok hs, resE_ok hs] at this
  exact this
set_option maxHeartbeats 8000000 in
theorem ratioOrder_any (A : Option Addr) (n c : Nat) (ts : List Int) (w : World) (hn : ts.length = n) (hl : n ≤ 9223372036854775807) (hs : Sl w w.heap.size A (ints ts)) (ht : Tab w) :
    Calls Tryd.prog 6 #[.slice A n c] w fun e w' => e = .returned (.bool true) ∧ Below w.heap.size w w' := by
  have HT := Lib.hid ht
  clear ht
  rcases Nat.lt_or_ge 400 n with h400 | h400
  · have HL := Lib.hid (light_no A n c w h400 hl)
    have HA := Lib.hid (awakeQ_any w HT.out)
    clear hs hn h400
    go_enter Tryd.func6, Tryd.ntmps6
    go_wp2_with fail
    refine HL.out.mono ?_
    rintro e w1 ⟨rfl, rfl⟩
    go_wp2_with fail
    refine HA.out.mono ?_
    rintro e w1 ⟨rfl, hb⟩
    have HB := Lib.hid hb
    clear hb HA HL
    go_wp2_with fail
    go_ret
    exact ⟨rfl, HB.out⟩
  · have HL := Lib.hid (light_yes A n c w h400)
    have HRo := Lib.hid (roll_at (St.refl w) A n c w.heap.size ts hn (by omega) (Nat.le_refl _) hs)
    clear hs hn h400 hl
    go_enter Tryd.func6, Tryd.ntmps6
    go_wp2_with fail
    refine HL.out.mono ?_
    rintro e w1 ⟨rfl, rfl⟩
    go_wp2_with fail
    refine HRo.out.mono ?_
    rintro e w2 ⟨g, rfl, HD, HS⟩
    have H2 := Ow.of HS
    clear HL HRo HS
    have HC := Lib.hid (some_ow H2 HD (Nat.le_refl _))
    clear H2
    go_wp2_with fail
    refine HC.out.mono ?_
    rintro e w3 ⟨B1, m1, d1, D1, l1, f1, x, y, rfl, hx, hy, hy0, hg, hd1, G⟩
    clear HC
    clear HD
    have HC := Lib.hid (some_ow G hd1 (Nat.le_refl _))
    clear G
    go_wp2_with fail
    refine HC.out.mono ?_
    rintro e w4 ⟨B2, m2, d2, D2, l2, f2, u, v, rfl, hu, hv, hv0, hg2, hd2, G⟩
    clear HC
    clear hd1 hd2
    have H4 := (G.pair (.slice B1 m1 d1) (.slice D1 l1 f1) 28).pair (.slice B2 m2 d2) (.slice D2 l2 f2) 28
    simp only [World.size_alloc, List.nil_append, List.cons_append] at H4
    clear G
    obtain ⟨n3, d3, hf3, hd30, hg3, hlt3, hn3, hdd3⟩ := (fr_floor (a := x) hy0).2
    have hkx : x / y ≤ x := Nat.div_le_self x y
    have hky : (x / y) * y ≤ x := Nat.div_mul_le_self x y
    have HX : Hid (FrK x y ∧ FrK u v ∧ FrK 1 1 ∧ x < 16777216 ^ 3 ∧ y < 16777216 ^ 3 ∧ u < 16777216 ^ 3 ∧ v < 16777216 ^ 3) := ⟨⟨cube_top hx, cube_top hy, hy0, hg⟩, ⟨cube_top hu, cube_top hv, hv0, hg2⟩, ⟨tiny_top (by omega), tiny_top (by omega), by omega, by decide⟩, hx, hy, hu, hv⟩
    have HK : Hid (FrK (x / y) 1 ∧ FrK n3 d3 ∧ (if (x / y) * y ≤ x * 1 then frM (x * 1 - (x / y) * y) (y * 1) else frE 5) = (n3, d3, 0) ∧ Na.sgn (n3 * 1) (1 * d3) = -1 ∧ frM (x / y) 1 = (x / y, 1, 0) ∧ (x / y) * y < Na.top) := by
      have g1 : Nat.gcd (x / y) 1 = 1 := Nat.gcd_one_right _
      exact ⟨⟨cube_top (by omega), tiny_top (by omega), by omega, g1⟩, ⟨cube_top (by omega), cube_top (by omega), hd30, hg3⟩, by rw [if_pos (by omega)]; exact hf3, sgn_lt hlt3, frM_low g1 (by omega), cube_top (by omega)⟩
    have HS3 : Hid (Na.sgn ((x / y) * y) x = -1 ∨ Na.sgn ((x / y) * y) x = 0) := by
      rcases Nat.lt_or_eq_of_le hky with h | h
      · exact .inl (sgn_lt h)
      · exact .inr (sgn_eq h)
    have hcs : ∃ (cv : Int) (t : Nat × Nat × Int), Na.sgn (x * v) (u * y) = cv ∧ (if u * y ≤ x * v then frM (x * v - u * y) (y * v) else frE 5) = t ∧ ((cv = -1 ∧ t.2.2 = 5) ∨ (cv = 0 ∧ t.2.2 = 0) ∨ (cv = 1 ∧ t.2.2 = 0)) := by
      obtain ⟨n4, d4, hf4, -⟩ := frM_spec (x := x * v - u * y) (y := y * v) (Nat.mul_pos hy0 hv0)
      rcases Nat.lt_trichotomy (x * v) (u * y) with h | h | h
      · exact ⟨-1, frE 5, sgn_lt h, if_neg (by omega), .inl ⟨rfl, rfl⟩⟩
      · exact ⟨0, (n4, d4, 0), sgn_eq h, by rw [if_pos (by omega), hf4], .inr (.inl ⟨rfl, rfl⟩)⟩
      · exact ⟨1, (n4, d4, 0), sgn_gt h, by rw [if_pos (by omega), hf4], .inr (.inr ⟨rfl, rfl⟩)⟩
    obtain ⟨cv, t, hc1, hc2, hc3⟩ := hcs
    have HC1 := Lib.hid (And.intro hc1 hc2)
    obtain ⟨tn, td, te⟩ := t
    clear hx hy hy0 hg hu hv hv0 hg2 hf3 hd30 hg3 hlt3 hn3 hdd3 hkx hky hc1 hc2
    rcases HS3.out with hs3 | hs3
    · replace hs3 := Lib.hid hs3
      clear HS3
      rcases hc3 with ⟨rfl, rfl⟩ | ⟨rfl, rfl⟩ | ⟨rfl, rfl⟩
      · have a0 := H4.p0 0 rfl
        have a1 := H4.p1 0 rfl
        have b0 := H4.p0 1 rfl
        have b1 := H4.p1 1 rfl
        have HC := Lib.hid (qcmp_fr (t := (0, 0, 0)) H4 0 1 2 3 rfl rfl rfl rfl HT.out HX.out.1 HX.out.2.1 (tops62 HX.out.2.2.2.1 HX.out.2.2.2.2.2.2) (tops62 HX.out.2.2.2.2.2.1 HX.out.2.2.2.2.1) HC1.out.1)
        clear H4
        go_wp2_with fail
        refine HC.out.mono ?_
        rintro e w5 ⟨rfl, G⟩
        clear a0 a1 b0 b1 HC
        have a0 := G.p0 0 rfl
        have a1 := G.p1 0 rfl
        have b0 := G.p0 1 rfl
        have b1 := G.p1 1 rfl
        have HC := Lib.hid (qsub_fr G 0 1 2 3 rfl rfl rfl rfl HT.out HX.out.1 HX.out.2.1 (tops62 HX.out.2.2.2.1 HX.out.2.2.2.2.2.2) (tops62 HX.out.2.2.2.2.2.1 HX.out.2.2.2.2.1) (tops62 HX.out.2.2.2.2.1 HX.out.2.2.2.2.2.2) HC1.out.2)
        clear G
        go_wp2_with fail
        refine HC.out.mono ?_
        rintro e w6 ⟨B3, m3, d3, D3, l3, f3, rfl, G⟩
        clear a0 a1 b0 b1 HC
        have H6 := G.pair (.slice B3 m3 d3) (.slice D3 l3 f3) 28
        simp only [List.nil_append, List.cons_append] at H6
        clear G
        have a0 := H6.p0 0 rfl
        have a1 := H6.p1 0 rfl
        have HC := Lib.hid (qfloor_fr H6 0 1 rfl rfl HT.out HX.out.1)
        clear H6
        go_wp2_with fail
        refine HC.out.mono ?_
        rintro e w7 ⟨B4, m4, d4, rfl, G⟩
        clear a0 a1 HC
        have H7 := G.boxed (.slice B4 m4 d4) 25
        simp only [List.nil_append, List.cons_append] at H7
        clear G
        have HC := Lib.hid (qrof_fr H7 (a := 1) (b := 1) (by omega) (by omega) ofF_112)
        clear H7
        go_wp2_with fail
        refine HC.out.mono ?_
        rintro e w8 ⟨B5, m5, d5, D5, l5, f5, rfl, G⟩
        clear HC
        have H8 := G.pair (.slice B5 m5 d5) (.slice D5 l5 f5) 28
        simp only [List.nil_append, List.cons_append] at H8
        clear G
        have k0 := H8.cell 0 rfl
        have HC := Lib.hid (qmake_fr H8 6 7 rfl rfl HT.out HK.out.1.px HX.out.2.2.1.px HK.out.2.2.2.2.1)
        clear H8
        go_wp2_with fail
        refine HC.out.mono ?_
        rintro e w9 ⟨B6, m6, d6, D6, l6, f6, rfl, G⟩
        clear k0 HC
        have H9 := G.pair (.slice B6 m6 d6) (.slice D6 l6 f6) 28
        simp only [List.nil_append, List.cons_append] at H9
        clear G
        have a0 := H9.p0 0 rfl
        have a1 := H9.p1 0 rfl
        have HC := Lib.hid (qsub_fr H9 0 1 9 10 rfl rfl rfl rfl HT.out HX.out.1 HK.out.1 (by rw [Nat.mul_one]; exact HX.out.1.px) HK.out.2.2.2.2.2 (by rw [Nat.mul_one]; exact HX.out.1.py) HK.out.2.2.1)
        clear H9
        go_wp2_with fail
        refine HC.out.mono ?_
        rintro e w10 ⟨B7, m7, d7, D7, l7, f7, rfl, G⟩
        clear a0 a1 HC
        have H10 := G.pair (.slice B7 m7 d7) (.slice D7 l7 f7) 28
        simp only [List.nil_append, List.cons_append] at H10
        clear G
        have b0 := H10.p0 3 rfl
        have b1 := H10.p1 3 rfl
        have HC := Lib.hid (qcmp_fr (t := (0, 0, 0)) H10 11 12 7 8 rfl rfl rfl rfl HT.out HK.out.2.1 HX.out.2.2.1 (by rw [Nat.mul_one]; exact HK.out.2.1.px) (by rw [Nat.one_mul]; exact HK.out.2.1.py) HK.out.2.2.2.1)
        clear H10
        go_wp2_with fail
        refine HC.out.mono ?_
        rintro e w11 ⟨rfl, G⟩
        clear b0 b1 HC
        have k0 := G.cell 0 rfl
        have a0 := G.p0 0 rfl
        have a1 := G.p1 0 rfl
        have HC := Lib.hid (nmul_fr G 6 1 rfl rfl HK.out.1.px HX.out.1.py HK.out.2.2.2.2.2)
        clear G
        go_wp2_with fail
        refine HC.out.mono ?_
        rintro e w12 ⟨B8, m8, d8, rfl, G⟩
        clear k0 a0 a1 HC
        have H12 := G.boxed (.slice B8 m8 d8) 25
        simp only [List.nil_append, List.cons_append] at H12
        clear G
        have HC := Lib.hid (awakeQ_ow H12 HT.out)
        clear H12
        go_wp2_with fail
        refine HC.out.mono ?_
        rintro e w13 ⟨rfl, G⟩
        clear HC
        have k1 := G.cell 1 rfl
        have a0 := G.p0 0 rfl
        have a1 := G.p1 0 rfl
        have HC := Lib.hid (cmp_ow G 13 0 rfl rfl)
        rw [hs3.out] at HC
        clear G
        go_wp2_with fail
        refine HC.out.mono ?_
        rintro e w14 ⟨rfl, G⟩
        clear k1 a0 a1 HC
        have HB := Lib.hid G.below
        clear G
        go_wp2_with fail
        go_ret
        exact ⟨rfl, HB.out⟩
      · have a0 := H4.p0 0 rfl
        have a1 := H4.p1 0 rfl
        have b0 := H4.p0 1 rfl
        have b1 := H4.p1 1 rfl
        have HC := Lib.hid (qcmp_fr (t := (0, 0, 0)) H4 0 1 2 3 rfl rfl rfl rfl HT.out HX.out.1 HX.out.2.1 (tops62 HX.out.2.2.2.1 HX.out.2.2.2.2.2.2) (tops62 HX.out.2.2.2.2.2.1 HX.out.2.2.2.2.1) HC1.out.1)
        clear H4
        go_wp2_with fail
        refine HC.out.mono ?_
        rintro e w5 ⟨rfl, G⟩
        clear a0 a1 b0 b1 HC
        have a0 := G.p0 0 rfl
        have a1 := G.p1 0 rfl
        have b0 := G.p0 1 rfl
        have b1 := G.p1 1 rfl
        have HC := Lib.hid (qsub_fr G 0 1 2 3 rfl rfl rfl rfl HT.out HX.out.1 HX.out.2.1 (tops62 HX.out.2.2.2.1 HX.out.2.2.2.2.2.2) (tops62 HX.out.2.2.2.2.2.1 HX.out.2.2.2.2.1) (tops62 HX.out.2.2.2.2.1 HX.out.2.2.2.2.2.2) HC1.out.2)
        clear G
        go_wp2_with fail
        refine HC.out.mono ?_
        rintro e w6 ⟨B3, m3, d3, D3, l3, f3, rfl, G⟩
        clear a0 a1 b0 b1 HC
        have H6 := G.pair (.slice B3 m3 d3) (.slice D3 l3 f3) 28
        simp only [List.nil_append, List.cons_append] at H6
        clear G
        have a0 := H6.p0 0 rfl
        have a1 := H6.p1 0 rfl
        have HC := Lib.hid (qfloor_fr H6 0 1 rfl rfl HT.out HX.out.1)
        clear H6
        go_wp2_with fail
        refine HC.out.mono ?_
        rintro e w7 ⟨B4, m4, d4, rfl, G⟩
        clear a0 a1 HC
        have H7 := G.boxed (.slice B4 m4 d4) 25
        simp only [List.nil_append, List.cons_append] at H7
        clear G
        have HC := Lib.hid (qrof_fr H7 (a := 1) (b := 1) (by omega) (by omega) ofF_112)
        clear H7
        go_wp2_with fail
        refine HC.out.mono ?_
        rintro e w8 ⟨B5, m5, d5, D5, l5, f5, rfl, G⟩
        clear HC
        have H8 := G.pair (.slice B5 m5 d5) (.slice D5 l5 f5) 28
        simp only [List.nil_append, List.cons_append] at H8
        clear G
        have k0 := H8.cell 0 rfl
        have HC := Lib.hid (qmake_fr H8 6 7 rfl rfl HT.out HK.out.1.px HX.out.2.2.1.px HK.out.2.2.2.2.1)
        clear H8
        go_wp2_with fail
        refine HC.out.mono ?_
        rintro e w9 ⟨B6, m6, d6, D6, l6, f6, rfl, G⟩
        clear k0 HC
        have H9 := G.pair (.slice B6 m6 d6) (.slice D6 l6 f6) 28
        simp only [List.nil_append, List.cons_append] at H9
        clear G
        have a0 := H9.p0 0 rfl
        have a1 := H9.p1 0 rfl
        have HC := Lib.hid (qsub_fr H9 0 1 9 10 rfl rfl rfl rfl HT.out HX.out.1 HK.out.1 (by rw [Nat.mul_one]; exact HX.out.1.px) HK.out.2.2.2.2.2 (by rw [Nat.mul_one]; exact HX.out.1.py) HK.out.2.2.1)
        clear H9
        go_wp2_with fail
        refine HC.out.mono ?_
        rintro e w10 ⟨B7, m7, d7, D7, l7, f7, rfl, G⟩
        clear a0 a1 HC
        have H10 := G.pair (.slice B7 m7 d7) (.slice D7 l7 f7) 28
        simp only [List.nil_append, List.cons_append] at H10
        clear G
        have b0 := H10.p0 3 rfl
        have b1 := H10.p1 3 rfl
        have HC := Lib.hid (qcmp_fr (t := (0, 0, 0)) H10 11 12 7 8 rfl rfl rfl rfl HT.out HK.out.2.1 HX.out.2.2.1 (by rw [Nat.mul_one]; exact HK.out.2.1.px) (by rw [Nat.one_mul]; exact HK.out.2.1.py) HK.out.2.2.2.1)
        clear H10
        go_wp2_with fail
        refine HC.out.mono ?_
        rintro e w11 ⟨rfl, G⟩
        clear b0 b1 HC
        have k0 := G.cell 0 rfl
        have a0 := G.p0 0 rfl
        have a1 := G.p1 0 rfl
        have HC := Lib.hid (nmul_fr G 6 1 rfl rfl HK.out.1.px HX.out.1.py HK.out.2.2.2.2.2)
        clear G
        go_wp2_with fail
        refine HC.out.mono ?_
        rintro e w12 ⟨B8, m8, d8, rfl, G⟩
        clear k0 a0 a1 HC
        have H12 := G.boxed (.slice B8 m8 d8) 25
        simp only [List.nil_append, List.cons_append] at H12
        clear G
        have HC := Lib.hid (awakeQ_ow H12 HT.out)
        clear H12
        go_wp2_with fail
        refine HC.out.mono ?_
        rintro e w13 ⟨rfl, G⟩
        clear HC
        have k1 := G.cell 1 rfl
        have a0 := G.p0 0 rfl
        have a1 := G.p1 0 rfl
        have HC := Lib.hid (cmp_ow G 13 0 rfl rfl)
        rw [hs3.out] at HC
        clear G
        go_wp2_with fail
        refine HC.out.mono ?_
        rintro e w14 ⟨rfl, G⟩
        clear k1 a0 a1 HC
        have HB := Lib.hid G.below
        clear G
        go_wp2_with fail
        go_ret
        exact ⟨rfl, HB.out⟩
      · have a0 := H4.p0 0 rfl
        have a1 := H4.p1 0 rfl
        have b0 := H4.p0 1 rfl
        have b1 := H4.p1 1 rfl
        have HC := Lib.hid (qcmp_fr (t := (0, 0, 0)) H4 0 1 2 3 rfl rfl rfl rfl HT.out HX.out.1 HX.out.2.1 (tops62 HX.out.2.2.2.1 HX.out.2.2.2.2.2.2) (tops62 HX.out.2.2.2.2.2.1 HX.out.2.2.2.2.1) HC1.out.1)
        clear H4
        go_wp2_with fail
        refine HC.out.mono ?_
        rintro e w5 ⟨rfl, G⟩
        clear a0 a1 b0 b1 HC
        have a0 := G.p0 0 rfl
        have a1 := G.p1 0 rfl
        have b0 := G.p0 1 rfl
        have b1 := G.p1 1 rfl
        have HC := Lib.hid (qsub_fr G 0 1 2 3 rfl rfl rfl rfl HT.out HX.out.1 HX.out.2.1 (tops62 HX.out.2.2.2.1 HX.out.2.2.2.2.2.2) (tops62 HX.out.2.2.2.2.2.1 HX.out.2.2.2.2.1) (tops62 HX.out.2.2.2.2.1 HX.out.2.2.2.2.2.2) HC1.out.2)
        clear G
        go_wp2_with fail
        refine HC.out.mono ?_
        rintro e w6 ⟨B3, m3, d3, D3, l3, f3, rfl, G⟩
        clear a0 a1 b0 b1 HC
        have H6 := G.pair (.slice B3 m3 d3) (.slice D3 l3 f3) 28
        simp only [List.nil_append, List.cons_append] at H6
        clear G
        have a0 := H6.p0 0 rfl
        have a1 := H6.p1 0 rfl
        have HC := Lib.hid (qfloor_fr H6 0 1 rfl rfl HT.out HX.out.1)
        clear H6
        go_wp2_with fail
        refine HC.out.mono ?_
        rintro e w7 ⟨B4, m4, d4, rfl, G⟩
        clear a0 a1 HC
        have H7 := G.boxed (.slice B4 m4 d4) 25
        simp only [List.nil_append, List.cons_append] at H7
        clear G
        have HC := Lib.hid (qrof_fr H7 (a := 1) (b := 1) (by omega) (by omega) ofF_112)
        clear H7
        go_wp2_with fail
        refine HC.out.mono ?_
        rintro e w8 ⟨B5, m5, d5, D5, l5, f5, rfl, G⟩
        clear HC
        have H8 := G.pair (.slice B5 m5 d5) (.slice D5 l5 f5) 28
        simp only [List.nil_append, List.cons_append] at H8
        clear G
        have k0 := H8.cell 0 rfl
        have HC := Lib.hid (qmake_fr H8 6 7 rfl rfl HT.out HK.out.1.px HX.out.2.2.1.px HK.out.2.2.2.2.1)
        clear H8
        go_wp2_with fail
        refine HC.out.mono ?_
        rintro e w9 ⟨B6, m6, d6, D6, l6, f6, rfl, G⟩
        clear k0 HC
        have H9 := G.pair (.slice B6 m6 d6) (.slice D6 l6 f6) 28
        simp only [List.nil_append, List.cons_append] at H9
        clear G
        have a0 := H9.p0 0 rfl
        have a1 := H9.p1 0 rfl
        have HC := Lib.hid (qsub_fr H9 0 1 9 10 rfl rfl rfl rfl HT.out HX.out.1 HK.out.1 (by rw [Nat.mul_one]; exact HX.out.1.px) HK.out.2.2.2.2.2 (by rw [Nat.mul_one]; exact HX.out.1.py) HK.out.2.2.1)
        clear H9
        go_wp2_with fail
        refine HC.out.mono ?_
        rintro e w10 ⟨B7, m7, d7, D7, l7, f7, rfl, G⟩
        clear a0 a1 HC
        have H10 := G.pair (.slice B7 m7 d7) (.slice D7 l7 f7) 28
        simp only [List.nil_append, List.cons_append] at H10
        clear G
        have b0 := H10.p0 3 rfl
        have b1 := H10.p1 3 rfl
        have HC := Lib.hid (qcmp_fr (t := (0, 0, 0)) H10 11 12 7 8 rfl rfl rfl rfl HT.out HK.out.2.1 HX.out.2.2.1 (by rw [Nat.mul_one]; exact HK.out.2.1.px) (by rw [Nat.one_mul]; exact HK.out.2.1.py) HK.out.2.2.2.1)
        clear H10
        go_wp2_with fail
        refine HC.out.mono ?_
        rintro e w11 ⟨rfl, G⟩
        clear b0 b1 HC
        have k0 := G.cell 0 rfl
        have a0 := G.p0 0 rfl
        have a1 := G.p1 0 rfl
        have HC := Lib.hid (nmul_fr G 6 1 rfl rfl HK.out.1.px HX.out.1.py HK.out.2.2.2.2.2)
        clear G
        go_wp2_with fail
        refine HC.out.mono ?_
        rintro e w12 ⟨B8, m8, d8, rfl, G⟩
        clear k0 a0 a1 HC
        have H12 := G.boxed (.slice B8 m8 d8) 25
        simp only [List.nil_append, List.cons_append] at H12
        clear G
        have HC := Lib.hid (awakeQ_ow H12 HT.out)
        clear H12
        go_wp2_with fail
        refine HC.out.mono ?_
        rintro e w13 ⟨rfl, G⟩
        clear HC
        have k1 := G.cell 1 rfl
        have a0 := G.p0 0 rfl
        have a1 := G.p1 0 rfl
        have HC := Lib.hid (cmp_ow G 13 0 rfl rfl)
        rw [hs3.out] at HC
        clear G
        go_wp2_with fail
        refine HC.out.mono ?_
        rintro e w14 ⟨rfl, G⟩
        clear k1 a0 a1 HC
        have HB := Lib.hid G.below
        clear G
        go_wp2_with fail
        go_ret
        exact ⟨rfl, HB.out⟩
    · replace hs3 := Lib.hid hs3
      clear HS3
      rcases hc3 with ⟨rfl, rfl⟩ | ⟨rfl, rfl⟩ | ⟨rfl, rfl⟩
      · have a0 := H4.p0 0 rfl
        have a1 := H4.p1 0 rfl
        have b0 := H4.p0 1 rfl
        have b1 := H4.p1 1 rfl
        have HC := Lib.hid (qcmp_fr (t := (0, 0, 0)) H4 0 1 2 3 rfl rfl rfl rfl HT.out HX.out.1 HX.out.2.1 (tops62 HX.out.2.2.2.1 HX.out.2.2.2.2.2.2) (tops62 HX.out.2.2.2.2.2.1 HX.out.2.2.2.2.1) HC1.out.1)
        clear H4
        go_wp2_with fail
        refine HC.out.mono ?_
        rintro e w5 ⟨rfl, G⟩
        clear a0 a1 b0 b1 HC
        have a0 := G.p0 0 rfl
        have a1 := G.p1 0 rfl
        have b0 := G.p0 1 rfl
        have b1 := G.p1 1 rfl
        have HC := Lib.hid (qsub_fr G 0 1 2 3 rfl rfl rfl rfl HT.out HX.out.1 HX.out.2.1 (tops62 HX.out.2.2.2.1 HX.out.2.2.2.2.2.2) (tops62 HX.out.2.2.2.2.2.1 HX.out.2.2.2.2.1) (tops62 HX.out.2.2.2.2.1 HX.out.2.2.2.2.2.2) HC1.out.2)
        clear G
        go_wp2_with fail
        refine HC.out.mono ?_
        rintro e w6 ⟨B3, m3, d3, D3, l3, f3, rfl, G⟩
        clear a0 a1 b0 b1 HC
        have H6 := G.pair (.slice B3 m3 d3) (.slice D3 l3 f3) 28
        simp only [List.nil_append, List.cons_append] at H6
        clear G
        have a0 := H6.p0 0 rfl
        have a1 := H6.p1 0 rfl
        have HC := Lib.hid (qfloor_fr H6 0 1 rfl rfl HT.out HX.out.1)
        clear H6
        go_wp2_with fail
        refine HC.out.mono ?_
        rintro e w7 ⟨B4, m4, d4, rfl, G⟩
        clear a0 a1 HC
        have H7 := G.boxed (.slice B4 m4 d4) 25
        simp only [List.nil_append, List.cons_append] at H7
        clear G
        have HC := Lib.hid (qrof_fr H7 (a := 1) (b := 1) (by omega) (by omega) ofF_112)
        clear H7
        go_wp2_with fail
        refine HC.out.mono ?_
        rintro e w8 ⟨B5, m5, d5, D5, l5, f5, rfl, G⟩
        clear HC
        have H8 := G.pair (.slice B5 m5 d5) (.slice D5 l5 f5) 28
        simp only [List.nil_append, List.cons_append] at H8
        clear G
        have k0 := H8.cell 0 rfl
        have HC := Lib.hid (qmake_fr H8 6 7 rfl rfl HT.out HK.out.1.px HX.out.2.2.1.px HK.out.2.2.2.2.1)
        clear H8
        go_wp2_with fail
        refine HC.out.mono ?_
        rintro e w9 ⟨B6, m6, d6, D6, l6, f6, rfl, G⟩
        clear k0 HC
        have H9 := G.pair (.slice B6 m6 d6) (.slice D6 l6 f6) 28
        simp only [List.nil_append, List.cons_append] at H9
        clear G
        have a0 := H9.p0 0 rfl
        have a1 := H9.p1 0 rfl
        have HC := Lib.hid (qsub_fr H9 0 1 9 10 rfl rfl rfl rfl HT.out HX.out.1 HK.out.1 (by rw [Nat.mul_one]; exact HX.out.1.px) HK.out.2.2.2.2.2 (by rw [Nat.mul_one]; exact HX.out.1.py) HK.out.2.2.1)
        clear H9
        go_wp2_with fail
        refine HC.out.mono ?_
        rintro e w10 ⟨B7, m7, d7, D7, l7, f7, rfl, G⟩
        clear a0 a1 HC
        have H10 := G.pair (.slice B7 m7 d7) (.slice D7 l7 f7) 28
        simp only [List.nil_append, List.cons_append] at H10
        clear G
        have b0 := H10.p0 3 rfl
        have b1 := H10.p1 3 rfl
        have HC := Lib.hid (qcmp_fr (t := (0, 0, 0)) H10 11 12 7 8 rfl rfl rfl rfl HT.out HK.out.2.1 HX.out.2.2.1 (by rw [Nat.mul_one]; exact HK.out.2.1.px) (by rw [Nat.one_mul]; exact HK.out.2.1.py) HK.out.2.2.2.1)
        clear H10
        go_wp2_with fail
        refine HC.out.mono ?_
        rintro e w11 ⟨rfl, G⟩
        clear b0 b1 HC
        have k0 := G.cell 0 rfl
        have a0 := G.p0 0 rfl
        have a1 := G.p1 0 rfl
        have HC := Lib.hid (nmul_fr G 6 1 rfl rfl HK.out.1.px HX.out.1.py HK.out.2.2.2.2.2)
        clear G
        go_wp2_with fail
        refine HC.out.mono ?_
        rintro e w12 ⟨B8, m8, d8, rfl, G⟩
        clear k0 a0 a1 HC
        have H12 := G.boxed (.slice B8 m8 d8) 25
        simp only [List.nil_append, List.cons_append] at H12
        clear G
        have HC := Lib.hid (awakeQ_ow H12 HT.out)
        clear H12
        go_wp2_with fail
        refine HC.out.mono ?_
        rintro e w13 ⟨rfl, G⟩
        clear HC
        have k1 := G.cell 1 rfl
        have a0 := G.p0 0 rfl
        have a1 := G.p1 0 rfl
        have HC := Lib.hid (cmp_ow G 13 0 rfl rfl)
        rw [hs3.out] at HC
        clear G
        go_wp2_with fail
        refine HC.out.mono ?_
        rintro e w14 ⟨rfl, G⟩
        clear k1 a0 a1 HC
        have HB := Lib.hid G.below
        clear G
        go_wp2_with fail
        go_ret
        exact ⟨rfl, HB.out⟩
      · have a0 := H4.p0 0 rfl
        have a1 := H4.p1 0 rfl
        have b0 := H4.p0 1 rfl
        have b1 := H4.p1 1 rfl
        have HC := Lib.hid (qcmp_fr (t := (0, 0, 0)) H4 0 1 2 3 rfl rfl rfl rfl HT.out HX.out.1 HX.out.2.1 (tops62 HX.out.2.2.2.1 HX.out.2.2.2.2.2.2) (tops62 HX.out.2.2.2.2.2.1 HX.out.2.2.2.2.1) HC1.out.1)
        clear H4
        go_wp2_with fail
        refine HC.out.mono ?_
        rintro e w5 ⟨rfl, G⟩
        clear a0 a1 b0 b1 HC
        have a0 := G.p0 0 rfl
        have a1 := G.p1 0 rfl
        have b0 := G.p0 1 rfl
        have b1 := G.p1 1 rfl
        have HC := Lib.hid (qsub_fr G 0 1 2 3 rfl rfl rfl rfl HT.out HX.out.1 HX.out.2.1 (tops62 HX.out.2.2.2.1 HX.out.2.2.2.2.2.2) (tops62 HX.out.2.2.2.2.2.1 HX.out.2.2.2.2.1) (tops62 HX.out.2.2.2.2.1 HX.out.2.2.2.2.2.2) HC1.out.2)
        clear G
        go_wp2_with fail
        refine HC.out.mono ?_
        rintro e w6 ⟨B3, m3, d3, D3, l3, f3, rfl, G⟩
        clear a0 a1 b0 b1 HC
        have H6 := G.pair (.slice B3 m3 d3) (.slice D3 l3 f3) 28
        simp only [List.nil_append, List.cons_append] at H6
        clear G
        have a0 := H6.p0 0 rfl
        have a1 := H6.p1 0 rfl
        have HC := Lib.hid (qfloor_fr H6 0 1 rfl rfl HT.out HX.out.1)
        clear H6
        go_wp2_with fail
        refine HC.out.mono ?_
        rintro e w7 ⟨B4, m4, d4, rfl, G⟩
        clear a0 a1 HC
        have H7 := G.boxed (.slice B4 m4 d4) 25
        simp only [List.nil_append, List.cons_append] at H7
        clear G
        have HC := Lib.hid (qrof_fr H7 (a := 1) (b := 1) (by omega) (by omega) ofF_112)
        clear H7
        go_wp2_with fail
        refine HC.out.mono ?_
        rintro e w8 ⟨B5, m5, d5, D5, l5, f5, rfl, G⟩
        clear HC
        have H8 := G.pair (.slice B5 m5 d5) (.slice D5 l5 f5) 28
        simp only [List.nil_append, List.cons_append] at H8
        clear G
        have k0 := H8.cell 0 rfl
        have HC := Lib.hid (qmake_fr H8 6 7 rfl rfl HT.out HK.out.1.px HX.out.2.2.1.px HK.out.2.2.2.2.1)
        clear H8
        go_wp2_with fail
        refine HC.out.mono ?_
        rintro e w9 ⟨B6, m6, d6, D6, l6, f6, rfl, G⟩
        clear k0 HC
        have H9 := G.pair (.slice B6 m6 d6) (.slice D6 l6 f6) 28
        simp only [List.nil_append, List.cons_append] at H9
        clear G
        have a0 := H9.p0 0 rfl
        have a1 := H9.p1 0 rfl
        have HC := Lib.hid (qsub_fr H9 0 1 9 10 rfl rfl rfl rfl HT.out HX.out.1 HK.out.1 (by rw [Nat.mul_one]; exact HX.out.1.px) HK.out.2.2.2.2.2 (by rw [Nat.mul_one]; exact HX.out.1.py) HK.out.2.2.1)
        clear H9
        go_wp2_with fail
        refine HC.out.mono ?_
        rintro e w10 ⟨B7, m7, d7, D7, l7, f7, rfl, G⟩
        clear a0 a1 HC
        have H10 := G.pair (.slice B7 m7 d7) (.slice D7 l7 f7) 28
        simp only [List.nil_append, List.cons_append] at H10
        clear G
        have b0 := H10.p0 3 rfl
        have b1 := H10.p1 3 rfl
        have HC := Lib.hid (qcmp_fr (t := (0, 0, 0)) H10 11 12 7 8 rfl rfl rfl rfl HT.out HK.out.2.1 HX.out.2.2.1 (by rw [Nat.mul_one]; exact HK.out.2.1.px) (by rw [Nat.one_mul]; exact HK.out.2.1.py) HK.out.2.2.2.1)
        clear H10
        go_wp2_with fail
        refine HC.out.mono ?_
        rintro e w11 ⟨rfl, G⟩
        clear b0 b1 HC
        have k0 := G.cell 0 rfl
        have a0 := G.p0 0 rfl
        have a1 := G.p1 0 rfl
        have HC := Lib.hid (nmul_fr G 6 1 rfl rfl HK.out.1.px HX.out.1.py HK.out.2.2.2.2.2)
        clear G
        go_wp2_with fail
        refine HC.out.mono ?_
        rintro e w12 ⟨B8, m8, d8, rfl, G⟩
        clear k0 a0 a1 HC
        have H12 := G.boxed (.slice B8 m8 d8) 25
        simp only [List.nil_append, List.cons_append] at H12
        clear G
        have HC := Lib.hid (awakeQ_ow H12 HT.out)
        clear H12
        go_wp2_with fail
        refine HC.out.mono ?_
        rintro e w13 ⟨rfl, G⟩
        clear HC
        have k1 := G.cell 1 rfl
        have a0 := G.p0 0 rfl
        have a1 := G.p1 0 rfl
        have HC := Lib.hid (cmp_ow G 13 0 rfl rfl)
        rw [hs3.out] at HC
        clear G
        go_wp2_with fail
        refine HC.out.mono ?_
        rintro e w14 ⟨rfl, G⟩
        clear k1 a0 a1 HC
        have HB := Lib.hid G.below
        clear G
        go_wp2_with fail
        go_ret
        exact ⟨rfl, HB.out⟩
      · have a0 := H4.p0 0 rfl
        have a1 := H4.p1 0 rfl
        have b0 := H4.p0 1 rfl
        have b1 := H4.p1 1 rfl
        have HC := Lib.hid (qcmp_fr (t := (0, 0, 0)) H4 0 1 2 3 rfl rfl rfl rfl HT.out HX.out.1 HX.out.2.1 (tops62 HX.out.2.2.2.1 HX.out.2.2.2.2.2.2) (tops62 HX.out.2.2.2.2.2.1 HX.out.2.2.2.2.1) HC1.out.1)
        clear H4
        go_wp2_with fail
        refine HC.out.mono ?_
        rintro e w5 ⟨rfl, G⟩
        clear a0 a1 b0 b1 HC
        have a0 := G.p0 0 rfl
        have a1 := G.p1 0 rfl
        have b0 := G.p0 1 rfl
        have b1 := G.p1 1 rfl
        have HC := Lib.hid (qsub_fr G 0 1 2 3 rfl rfl rfl rfl HT.out HX.out.1 HX.out.2.1 (tops62 HX.out.2.2.2.1 HX.out.2.2.2.2.2.2) (tops62 HX.out.2.2.2.2.2.1 HX.out.2.2.2.2.1) (tops62 HX.out.2.2.2.2.1 HX.out.2.2.2.2.2.2) HC1.out.2)
        clear G
        go_wp2_with fail
        refine HC.out.mono ?_
        rintro e w6 ⟨B3, m3, d3, D3, l3, f3, rfl, G⟩
        clear a0 a1 b0 b1 HC
        have H6 := G.pair (.slice B3 m3 d3) (.slice D3 l3 f3) 28
        simp only [List.nil_append, List.cons_append] at H6
        clear G
        have a0 := H6.p0 0 rfl
        have a1 := H6.p1 0 rfl
        have HC := Lib.hid (qfloor_fr H6 0 1 rfl rfl HT.out HX.out.1)
        clear H6
        go_wp2_with fail
        refine HC.out.mono ?_
        rintro e w7 ⟨B4, m4, d4, rfl, G⟩
        clear a0 a1 HC
        have H7 := G.boxed (.slice B4 m4 d4) 25
        simp only [List.nil_append, List.cons_append] at H7
        clear G
        have HC := Lib.hid (qrof_fr H7 (a := 1) (b := 1) (by omega) (by omega) ofF_112)
        clear H7
        go_wp2_with fail
        refine HC.out.mono ?_
        rintro e w8 ⟨B5, m5, d5, D5, l5, f5, rfl, G⟩
        clear HC
        have H8 := G.pair (.slice B5 m5 d5) (.slice D5 l5 f5) 28
        simp only [List.nil_append, List.cons_append] at H8
        clear G
        have k0 := H8.cell 0 rfl
        have HC := Lib.hid (qmake_fr H8 6 7 rfl rfl HT.out HK.out.1.px HX.out.2.2.1.px HK.out.2.2.2.2.1)
        clear H8
        go_wp2_with fail
        refine HC.out.mono ?_
        rintro e w9 ⟨B6, m6, d6, D6, l6, f6, rfl, G⟩
        clear k0 HC
        have H9 := G.pair (.slice B6 m6 d6) (.slice D6 l6 f6) 28
        simp only [List.nil_append, List.cons_append] at H9
        clear G
        have a0 := H9.p0 0 rfl
        have a1 := H9.p1 0 rfl
        have HC := Lib.hid (qsub_fr H9 0 1 9 10 rfl rfl rfl rfl HT.out HX.out.1 HK.out.1 (by rw [Nat.mul_one]; exact HX.out.1.px) HK.out.2.2.2.2.2 (by rw [Nat.mul_one]; exact HX.out.1.py) HK.out.2.2.1)
        clear H9
        go_wp2_with fail
        refine HC.out.mono ?_
        rintro e w10 ⟨B7, m7, d7, D7, l7, f7, rfl, G⟩
        clear a0 a1 HC
        have H10 := G.pair (.slice B7 m7 d7) (.slice D7 l7 f7) 28
        simp only [List.nil_append, List.cons_append] at H10
        clear G
        have b0 := H10.p0 3 rfl
        have b1 := H10.p1 3 rfl
        have HC := Lib.hid (qcmp_fr (t := (0, 0, 0)) H10 11 12 7 8 rfl rfl rfl rfl HT.out HK.out.2.1 HX.out.2.2.1 (by rw [Nat.mul_one]; exact HK.out.2.1.px) (by rw [Nat.one_mul]; exact HK.out.2.1.py) HK.out.2.2.2.1)
        clear H10
        go_wp2_with fail
        refine HC.out.mono ?_
        rintro e w11 ⟨rfl, G⟩
        clear b0 b1 HC
        have k0 := G.cell 0 rfl
        have a0 := G.p0 0 rfl
        have a1 := G.p1 0 rfl
        have HC := Lib.hid (nmul_fr G 6 1 rfl rfl HK.out.1.px HX.out.1.py HK.out.2.2.2.2.2)
        clear G
        go_wp2_with fail
        refine HC.out.mono ?_
        rintro e w12 ⟨B8, m8, d8, rfl, G⟩
        clear k0 a0 a1 HC
        have H12 := G.boxed (.slice B8 m8 d8) 25
        simp only [List.nil_append, List.cons_append] at H12
        clear G
        have HC := Lib.hid (awakeQ_ow H12 HT.out)
        clear H12
        go_wp2_with fail
        refine HC.out.mono ?_
        rintro e w13 ⟨rfl, G⟩
        clear HC
        have k1 := G.cell 1 rfl
        have a0 := G.p0 0 rfl
        have a1 := G.p1 0 rfl
        have HC := Lib.hid (cmp_ow G 13 0 rfl rfl)
        rw [hs3.out] at HC
        clear G
        go_wp2_with fail
        refine HC.out.mono ?_
        rintro e w14 ⟨rfl, G⟩
        clear k1 a0 a1 HC
        have HB := Lib.hid G.below
        clear G
        go_wp2_with fail
        go_ret
        exact ⟨rfl, HB.out⟩
end Go.Proofs.YtnfjnlnphdmdmaaDoor

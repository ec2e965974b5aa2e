/- The law RatioTurns. -/
import Derived.Test.YtnfjnlnphdmdmaaDoorQx
import Derived.Test.YtnfjnlnphdmdmaaDoorRatioIntsW
namespace Go.Proofs.YtnfjnlnphdmdmaaDoor
open Go.RowKit Go.Sort
set_option linter.unusedVariables false
set_option maxRecDepth 100000
theorem ofF_11 : ofF 1 1 = (1, 1, 0) := by decide +kernel
theorem ofF_21 : ofF 2 1 = (2, 1, 0) := by decide +kernel
theorem mul_pow {x y a b : Nat} (hx : x < 16777216 ^ a) (hy : y < 16777216 ^ b) : x * y < 16777216 ^ (a + b) := by
  rw [Nat.pow_add]; exact Nat.mul_lt_mul_of_lt_of_lt hx hy
theorem tops {u v : Nat} (hu : u < 16777216 ^ 3) (hv : v < 16777216 ^ 4) : u * v + u * v < Na.top ∧ v * v < Na.top := by
  have h1 := mul_pow hu hv
  have h2 := mul_pow hv hv
  exact ⟨small_top (m := 8) (by omega) (by omega), small_top (m := 8) h2 (by omega)⟩
theorem tops6 {u v : Nat} (hu : u < 16777216 ^ 3) (hv : v < 16777216 ^ 3) : u * v < Na.top := small_top (m := 6) (mul_pow hu hv) (by omega)
set_option maxHeartbeats 8000000 in
theorem ratioTurns_any (A : Option Addr) (n c : Nat) (ts : List Int) (w : World) (hn : ts.length = n) (hl : n ≤ 9223372036854775807) (hs : Sl w w.heap.size A (ints ts)) (ht : Tab w) :
    Calls Tryd.prog 4 #[.slice A n c] w fun e w' => e = .returned (.bool true) ∧ Below w.heap.size w w' := by
  have HT := Lib.hid ht
  clear ht
  rcases Nat.lt_or_ge 400 n with h400 | h400
  · have HL := Lib.hid (light_no A n c w h400 hl)
    have HA := Lib.hid (awakeQ_any w HT.out)
    clear hs hn h400
    go_enter Tryd.func4, Tryd.ntmps4
    go_wp2_with fail
    refine HL.out.mono ?_
    rintro e w1 ⟨rfl, rfl⟩
    go_wp2_with fail
    refine HA.out.mono ?_
    rintro e w1 ⟨rfl, hb⟩
    have HB := Lib.hid hb
    clear hb HA HL
    go_wp2_with fail
    go_ret
    exact ⟨rfl, HB.out⟩
  · have HL := Lib.hid (light_yes A n c w h400)
    have HRo := Lib.hid (roll_at (St.refl w) A n c w.heap.size ts hn (by omega) (Nat.le_refl _) hs)
    clear hs hn h400 hl
    go_enter Tryd.func4, Tryd.ntmps4
    go_wp2_with fail
    refine HL.out.mono ?_
    rintro e w1 ⟨rfl, rfl⟩
    go_wp2_with fail
    refine HRo.out.mono ?_
    rintro e w2 ⟨g, rfl, HD, HS⟩
    have H2 := Ow.of HS
    clear HL HRo HS
    have HC := Lib.hid (some_ow H2 HD (Nat.le_refl _))
    clear H2
    go_wp2_with fail
    refine HC.out.mono ?_
    rintro e w3 ⟨B1, m1, d1, D1, l1, f1, x, y, rfl, hx, hy, hy0, hg, hd1, G⟩
    clear HC
    clear HD hd1
    have H3 := G.pair (.slice B1 m1 d1) (.slice D1 l1 f1) 28
    simp only [List.nil_append, List.cons_append] at H3
    clear G
    have HX : Hid (FrK x y ∧ x < 16777216 ^ 3 ∧ y < 16777216 ^ 3 ∧ FrK 1 1 ∧ FrK 2 1) := ⟨⟨cube_top hx, cube_top hy, hy0, hg⟩, hx, hy, ⟨tiny_top (by omega), tiny_top (by omega), by omega, by decide⟩, ⟨tiny_top (by omega), tiny_top (by omega), by omega, by decide⟩⟩
    obtain ⟨u, v, hf, hF, he, hu1, hv1⟩ := FrK.of (x := x * 1) (y := y * 2) (by rw [Nat.mul_one]; exact cube_top hx) (small_top (m := 4) (by omega) (by omega)) (by omega)
    have HU : Hid (frM (x * 1) (y * 2) = (u, v, 0) ∧ FrK u v ∧ frM (u * v + u * v) (v * v) = (x, y, 0) ∧ u < 16777216 ^ 3 ∧ v < 16777216 ^ 4) := ⟨hf, hF, fr_half hy0 hF.pos hg he, by omega, by omega⟩
    clear hx hy hy0 hg hf hF he hu1 hv1
    have HC := Lib.hid (qrof_fr H3 (a := 1) (b := 1) (by omega) (by omega) ofF_11)
    clear H3
    go_wp2_with fail
    refine HC.out.mono ?_
    rintro e w4 ⟨B2, m2, d2, D2, l2, f2, rfl, G⟩
    clear HC
    have H4 := G.pair (.slice B2 m2 d2) (.slice D2 l2 f2) 28
    simp only [List.nil_append, List.cons_append] at H4
    clear G
    have HC := Lib.hid (qrof_fr H4 (a := 2) (b := 1) (by omega) (by omega) ofF_21)
    clear H4
    go_wp2_with fail
    refine HC.out.mono ?_
    rintro e w5 ⟨B3, m3, d3, D3, l3, f3, rfl, G⟩
    clear HC
    have H5 := G.pair (.slice B3 m3 d3) (.slice D3 l3 f3) 28
    simp only [List.nil_append, List.cons_append] at H5
    clear G
    have a0 := H5.p0 0 rfl
    have a1 := H5.p1 0 rfl
    have HC := Lib.hid (qdiv_fr H5 0 1 4 5 rfl rfl rfl rfl HT.out HX.out.1 HX.out.2.2.2.2 (by rw [Nat.mul_one]; exact HX.out.1.px) (small_top (m := 4) (by have := HX.out.2.2.1; omega) (by omega)) ((if_neg (by omega)).trans HU.out.1))
    clear H5
    go_wp2_with fail
    refine HC.out.mono ?_
    rintro e w6 ⟨B4, m4, d4, D4, l4, f4, rfl, G⟩
    clear a0 a1 HC
    have H6 := G.pair (.slice B4 m4 d4) (.slice D4 l4 f4) 28
    simp only [List.nil_append, List.cons_append] at H6
    clear G
    have a0 := H6.p0 3 rfl
    have a1 := H6.p1 3 rfl
    have HC := Lib.hid (qadd_fr H6 6 7 6 7 rfl rfl rfl rfl HT.out HU.out.2.1 HU.out.2.1 (tops HU.out.2.2.2.1 HU.out.2.2.2.2).1 (tops HU.out.2.2.2.1 HU.out.2.2.2.2).2 HU.out.2.2.1)
    clear H6
    go_wp2_with fail
    refine HC.out.mono ?_
    rintro e w7 ⟨B5, m5, d5, D5, l5, f5, rfl, G⟩
    clear a0 a1 HC
    have H7 := G.pair (.slice B5 m5 d5) (.slice D5 l5 f5) 28
    simp only [List.nil_append, List.cons_append] at H7
    clear G
    have HC := Lib.hid (awakeQ_ow H7 HT.out)
    clear H7
    go_wp2_with fail
    refine HC.out.mono ?_
    rintro e w8 ⟨rfl, G⟩
    clear HC
    have a0 := G.p0 4 rfl
    have a1 := G.p1 4 rfl
    have b0 := G.p0 0 rfl
    have b1 := G.p1 0 rfl
    have HC := Lib.hid (qsame_ow G 8 9 0 1 rfl rfl rfl rfl)
    clear G
    go_wp2_with fail
    refine HC.out.mono ?_
    rintro e w9 ⟨rfl, G⟩
    clear a0 a1 b0 b1 HC
    have a0 := G.p0 0 rfl
    have a1 := G.p1 0 rfl
    have b0 := G.p0 1 rfl
    have b1 := G.p1 1 rfl
    rcases Nat.eq_zero_or_pos x with h0 | h0
    · subst h0
      have hz : ((m1 : Int) == 0) = true := by rw [← (G.seenL 0 rfl).1, Na.dig_zero]; rfl
      have HC := Lib.hid (qdiv_fr G 2 3 0 1 rfl rfl rfl rfl HT.out HX.out.2.2.2.1 HX.out.1 (by rw [Nat.one_mul]; exact HX.out.1.py) (tiny_top (by omega)) (if_pos rfl))
      clear G
      go_wp2_with fail
      refine HC.out.mono ?_
      rintro e w10 ⟨B6, m6, d6, D6, l6, f6, rfl, G⟩
      clear a0 a1 b0 b1 hz HC
      have H9 := G.pair (.slice B6 m6 d6) (.slice D6 l6 f6) 28
      simp only [List.nil_append, List.cons_append] at H9
      have a0 := H9.p0 0 rfl
      have hz : ((m1 : Int) == 0) = true := by rw [← (H9.seenL 0 rfl).1, Na.dig_zero]; rfl
      have HB := Lib.hid H9.below
      clear G H9
      go_wp2_with fail
      go_ret
      exact ⟨rfl, HB.out⟩
    · have hz : ((m1 : Int) == 0) = false := by
        rw [beq_eq_false_iff_ne]
        intro e
        have := Na.dig_len0.1 (show (Na.dig x).length = 0 by have := (G.seenL 0 rfl).1; omega)
        omega
      have HP : Hid (0 < x) := h0
      clear h0
      have HZ := Lib.hid hz
      clear hz
      have HC := Lib.hid (qdiv_fr G 2 3 0 1 rfl rfl rfl rfl HT.out HX.out.2.2.2.1 HX.out.1 (by rw [Nat.one_mul]; exact HX.out.1.py) (by rw [Nat.one_mul]; exact HX.out.1.px) ((if_neg (by have := HP.out; omega)).trans (fr_turn HX.out.1.pos HP.out HX.out.1.g).1))
      clear G
      go_wp2_with fail
      refine HC.out.mono ?_
      rintro e w10 ⟨B6, m6, d6, D6, l6, f6, rfl, G⟩
      clear a0 a1 b0 b1 HC
      have H10 := G.pair (.slice B6 m6 d6) (.slice D6 l6 f6) 28
      simp only [List.nil_append, List.cons_append] at H10
      clear G
      have a0 := H10.p0 0 rfl
      have a1 := H10.p1 0 rfl
      have b0 := H10.p0 5 rfl
      have b1 := H10.p1 5 rfl
      have hz := HZ.out
      have HC := Lib.hid (qmul_fr H10 0 1 10 11 rfl rfl rfl rfl HT.out HX.out.1 ⟨HX.out.1.py, HX.out.1.px, HP.out, by rw [Nat.gcd_comm]; exact HX.out.1.g⟩ (tops6 HX.out.2.1 HX.out.2.2.1) (tops6 HX.out.2.2.1 HX.out.2.1) (fr_turn HX.out.1.pos HP.out HX.out.1.g).2)
      clear H10
      go_wp2_with fail
      refine HC.out.mono ?_
      rintro e w11 ⟨B7, m7, d7, D7, l7, f7, rfl, G⟩
      clear a0 a1 b0 b1 hz HC
      have H11 := G.pair (.slice B7 m7 d7) (.slice D7 l7 f7) 28
      simp only [List.nil_append, List.cons_append] at H11
      clear G
      have a0 := H11.p0 6 rfl
      have a1 := H11.p1 6 rfl
      have b0 := H11.p0 1 rfl
      have b1 := H11.p1 1 rfl
      have HC := Lib.hid (qsame_ow H11 12 13 2 3 rfl rfl rfl rfl)
      clear H11
      go_wp2_with fail
      refine HC.out.mono ?_
      rintro e w12 ⟨rfl, G⟩
      clear a0 a1 b0 b1 HC
      have a0 := G.p0 5 rfl
      have a1 := G.p1 5 rfl
      have b0 := G.p0 0 rfl
      have b1 := G.p1 0 rfl
      have HC := Lib.hid (ag_same G 10 1 rfl rfl)
      clear G
      go_wp2_with fail
      refine HC.out.mono ?_
      rintro e w13 ⟨rfl, G⟩
      clear a0 a1 b0 b1 HC
      have a0 := G.p0 5 rfl
      have a1 := G.p1 5 rfl
      have b0 := G.p0 0 rfl
      have b1 := G.p1 0 rfl
      have HC := Lib.hid (ag_same G 11 0 rfl rfl)
      clear G
      go_wp2_with fail
      refine HC.out.mono ?_
      rintro e w14 ⟨rfl, G⟩
      clear a0 a1 b0 b1 HC
      have HB := Lib.hid G.below
      clear G
      go_wp2_with fail
      go_ret
      exact ⟨rfl, HB.out⟩
end Go.Proofs.YtnfjnlnphdmdmaaDoor

/- The law RatioLaws. -/
import Derived.Test.YtnfjnlnphdmdmaaDoorQx
import Derived.Test.YtnfjnlnphdmdmaaDoorRatioIntsW
namespace Go.Proofs.YtnfjnlnphdmdmaaDoor
open Go.RowKit Go.Sort
set_option linter.unusedVariables false
set_option maxRecDepth 100000
theorem mul_pow3 {x y a b : Nat} (hx : x < 16777216 ^ a) (hy : y < 16777216 ^ b) : x * y < 16777216 ^ (a + b) := by
  rw [Nat.pow_add]; exact Nat.mul_lt_mul_of_lt_of_lt hx hy
theorem top_mul {x y a b : Nat} (hx : x < 16777216 ^ a) (hy : y < 16777216 ^ b) (h : a + b ≤ 200) : x * y < Na.top := small_top (mul_pow3 hx hy) h
theorem top_sum {x y z u a b c d : Nat} (hx : x < 16777216 ^ a) (hy : y < 16777216 ^ b) (hz : z < 16777216 ^ c) (hu : u < 16777216 ^ d) (h1 : a + b ≤ 20) (h2 : c + d ≤ 20) : x * y + z * u < Na.top := by
  have e1 := mul_pow3 hx hy
  have e2 := mul_pow3 hz hu
  have e3 : 16777216 ^ (a + b) ≤ 16777216 ^ 20 := Nat.pow_le_pow_right (by omega) h1
  have e4 : 16777216 ^ (c + d) ≤ 16777216 ^ 20 := Nat.pow_le_pow_right (by omega) h2
  exact small_top (m := 21) (by omega) (by omega)
/-- all fractions of the law, plainly -/
structure LawK (a a' b b' c c' s s' x x' y y' z z' : Nat) : Prop where
  A : FrK a a'
  B : FrK b b'
  C : FrK c c'
  S : FrK s s'
  X : FrK x x'
  Y : FrK y y'
  Z : FrK z z'
  la : a < 16777216 ^ 3
  la' : a' < 16777216 ^ 3
  lb : b < 16777216 ^ 3
  lb' : b' < 16777216 ^ 3
  lc : c < 16777216 ^ 3
  lc' : c' < 16777216 ^ 3
  ls : s < 16777216 ^ 7
  ls' : s' < 16777216 ^ 7
  ly : y < 16777216 ^ 7
  ly' : y' < 16777216 ^ 7
  lz : z < 16777216 ^ 7
  lz' : z' < 16777216 ^ 7
  es : frM (a * b' + b * a') (a' * b') = (s, s', 0)
  ew : frM (b * a' + a * b') (b' * a') = (s, s', 0)
  ex : frM (s * c) (s' * c') = (x, x', 0)
  ey : frM (a * c) (a' * c') = (y, y', 0)
  ez : frM (b * c) (b' * c') = (z, z', 0)
  ev : frM (y * z' + z * y') (y' * z') = (x, x', 0)
  eu : (if b * s' ≤ s * b' then frM (s * b' - b * s') (s' * b') else frE 5) = (a, a', 0)
  eq : 0 < c → frM (y * c') (y' * c) = (a, a', 0)
theorem lawK_of {a a' b b' c c' : Nat} (la : a < 16777216 ^ 3) (la' : a' < 16777216 ^ 3) (ha : 0 < a') (ga : Nat.gcd a a' = 1) (lb : b < 16777216 ^ 3) (lb' : b' < 16777216 ^ 3) (hb : 0 < b') (gb : Nat.gcd b b' = 1) (lc : c < 16777216 ^ 3) (lc' : c' < 16777216 ^ 3) (hc : 0 < c') (gc : Nat.gcd c c' = 1) :
    ∃ s s' x x' y y' z z', LawK a a' b b' c c' s s' x x' y y' z z' := by
  have up : ∀ {x : Nat}, x < 16777216 ^ 6 → x < 16777216 ^ 7 := fun h => by omega
  have e1 := mul_pow3 la lb'
  have e2 := mul_pow3 lb la'
  have e3 := mul_pow3 la' lb'
  have e4 := mul_pow3 la lc
  have e5 := mul_pow3 la' lc'
  have e6 := mul_pow3 lb lc
  have e7 := mul_pow3 lb' lc'
  obtain ⟨s, s', hs, hs0, hsg, hse, hsl, hsl'⟩ := frM_spec (x := a * b' + b * a') (y := a' * b') (Nat.mul_pos ha hb)
  have ls : s < 16777216 ^ 7 := by omega
  have ls' : s' < 16777216 ^ 7 := by omega
  obtain ⟨y, y', hy, hy0, hyg, hye, hyl, hyl'⟩ := frM_spec (x := a * c) (y := a' * c') (Nat.mul_pos ha hc)
  obtain ⟨z, z', hz, hz0, hzg, hze, hzl, hzl'⟩ := frM_spec (x := b * c) (y := b' * c') (Nat.mul_pos hb hc)
  have e8 := mul_pow3 ls lc
  have e9 := mul_pow3 ls' lc'
  obtain ⟨x, x', hx, hx0, hxg, hxe, hxl, hxl'⟩ := frM_spec (x := s * c) (y := s' * c') (Nat.mul_pos hs0 hc)
  have hu := fr_undo ha hb hs0 ga hse
  refine ⟨s, s', x, x', y, y', z, z', ⟨cube_top la, cube_top la', ha, ga⟩, ⟨cube_top lb, cube_top lb', hb, gb⟩, ⟨cube_top lc, cube_top lc', hc, gc⟩, ⟨small_top ls (by omega), small_top ls' (by omega), hs0, hsg⟩, ⟨small_top (m := 10) (by omega) (by omega), small_top (m := 10) (by omega) (by omega), hx0, hxg⟩, ⟨small_top (m := 7) (by omega) (by omega), small_top (m := 7) (by omega) (by omega), hy0, hyg⟩, ⟨small_top (m := 7) (by omega) (by omega), small_top (m := 7) (by omega) (by omega), hz0, hzg⟩,
    la, la', lb, lb', lc, lc', ls, ls', by omega, by omega, by omega, by omega, hs, ?_, hx, hy, hz, ?_, by rw [if_pos hu.1]; exact hu.2, fun h0 => fr_quot ha hc h0 hy0 ga hye⟩
  · rw [Nat.add_comm (b * a'), Nat.mul_comm b' a']
    exact hs
  · rw [← fr_distrib ha hb hc hs0 hy0 hz0 hse hye hze]
    exact hx
set_option maxHeartbeats 8000000 in
theorem ratioLaws_any (A : Option Addr) (n c : Nat) (ts : List Int) (w : World) (hn : ts.length = n) (hl : n ≤ 9223372036854775807) (hs : Sl w w.heap.size A (ints ts)) (ht : Tab w) :
    Calls Tryd.prog 5 #[.slice A n c] w fun e w' => e = .returned (.bool true) ∧ Below w.heap.size w w' := by
  have HT := Lib.hid ht
  clear ht
  rcases Nat.lt_or_ge 400 n with h400 | h400
  · have HL := Lib.hid (light_no A n c w h400 hl)
    have HA := Lib.hid (awakeQ_any w HT.out)
    clear hs hn h400
    go_enter Tryd.func5, Tryd.ntmps5
    go_wp2_with fail
    refine HL.out.mono ?_
    rintro e w1 ⟨rfl, rfl⟩
    go_wp2_with fail
    refine HA.out.mono ?_
    rintro e w1 ⟨rfl, hb⟩
    have HB := Lib.hid hb
    clear hb HA HL
    go_wp2_with fail
    go_ret
    exact ⟨rfl, HB.out⟩
  · have HL := Lib.hid (light_yes A n c w h400)
    have HRo := Lib.hid (roll_at (St.refl w) A n c w.heap.size ts hn (by omega) (Nat.le_refl _) hs)
    clear hs hn h400 hl
    go_enter Tryd.func5, Tryd.ntmps5
    go_wp2_with fail
    refine HL.out.mono ?_
    rintro e w1 ⟨rfl, rfl⟩
    go_wp2_with fail
    refine HRo.out.mono ?_
    rintro e w2 ⟨g, rfl, HD, HS⟩
    have H2 := Ow.of HS
    clear HL HRo HS
    have HC := Lib.hid (some_ow H2 HD (Nat.le_refl _))
    clear H2
    go_wp2_with fail
    refine HC.out.mono ?_
    rintro e w3 ⟨B1, m1, d1, D1, l1, f1, a, a', rfl, la, la', ha, ga, hd1, G⟩
    clear HC
    clear HD
    have HC := Lib.hid (some_ow G hd1 (Nat.le_refl _))
    clear G
    go_wp2_with fail
    refine HC.out.mono ?_
    rintro e w4 ⟨B2, m2, d2, D2, l2, f2, b, b', rfl, lb, lb', hb, gb, hd2, G⟩
    clear HC
    clear hd1
    have HC := Lib.hid (some_ow G hd2 (Nat.le_refl _))
    clear G
    go_wp2_with fail
    refine HC.out.mono ?_
    rintro e w5 ⟨B3, m3, d3, D3, l3, f3, k, k', rfl, lc, lc', hc, gc, hd3, G⟩
    clear HC
    clear hd2 hd3
    have H5 := ((G.pair (.slice B1 m1 d1) (.slice D1 l1 f1) 28).pair (.slice B2 m2 d2) (.slice D2 l2 f2) 28).pair (.slice B3 m3 d3) (.slice D3 l3 f3) 28
    simp only [World.size_alloc, List.nil_append, List.cons_append] at H5
    clear G
    obtain ⟨s, s', x, x', y, y', z, z', hK⟩ := lawK_of la la' ha ga lb lb' hb gb lc lc' hc gc
    have K := Lib.hid hK
    clear la la' ha ga lb lb' hb gb lc lc' hc gc hK
    have p0 := H5.p0 0 rfl
    have p1 := H5.p1 0 rfl
    have q0 := H5.p0 1 rfl
    have q1 := H5.p1 1 rfl
    have HC := Lib.hid (qadd_fr H5 0 1 2 3 rfl rfl rfl rfl HT.out K.out.A K.out.B (top_sum K.out.la K.out.lb' K.out.lb K.out.la' (by omega) (by omega)) (top_mul K.out.la' K.out.lb' (by omega)) K.out.es)
    clear H5
    go_wp2_with fail
    refine HC.out.mono ?_
    rintro e w6 ⟨B4, m4, d4, D4, l4, f4, rfl, G⟩
    clear p0 p1 q0 q1 HC
    have H6 := G.pair (.slice B4 m4 d4) (.slice D4 l4 f4) 28
    simp only [List.nil_append, List.cons_append] at H6
    clear G
    have p0 := H6.p0 0 rfl
    have p1 := H6.p1 0 rfl
    have q0 := H6.p0 1 rfl
    have q1 := H6.p1 1 rfl
    have HC := Lib.hid (qadd_fr H6 2 3 0 1 rfl rfl rfl rfl HT.out K.out.B K.out.A (top_sum K.out.lb K.out.la' K.out.la K.out.lb' (by omega) (by omega)) (top_mul K.out.lb' K.out.la' (by omega)) K.out.ew)
    clear H6
    go_wp2_with fail
    refine HC.out.mono ?_
    rintro e w7 ⟨B5, m5, d5, D5, l5, f5, rfl, G⟩
    clear p0 p1 q0 q1 HC
    have H7 := G.pair (.slice B5 m5 d5) (.slice D5 l5 f5) 28
    simp only [List.nil_append, List.cons_append] at H7
    clear G
    have p0 := H7.p0 3 rfl
    have p1 := H7.p1 3 rfl
    have q0 := H7.p0 2 rfl
    have q1 := H7.p1 2 rfl
    have HC := Lib.hid (qmul_fr H7 6 7 4 5 rfl rfl rfl rfl HT.out K.out.S K.out.C (top_mul K.out.ls K.out.lc (by omega)) (top_mul K.out.ls' K.out.lc' (by omega)) K.out.ex)
    clear H7
    go_wp2_with fail
    refine HC.out.mono ?_
    rintro e w8 ⟨B6, m6, d6, D6, l6, f6, rfl, G⟩
    clear p0 p1 q0 q1 HC
    have H8 := G.pair (.slice B6 m6 d6) (.slice D6 l6 f6) 28
    simp only [List.nil_append, List.cons_append] at H8
    clear G
    have p0 := H8.p0 0 rfl
    have p1 := H8.p1 0 rfl
    have q0 := H8.p0 2 rfl
    have q1 := H8.p1 2 rfl
    have HC := Lib.hid (qmul_fr H8 0 1 4 5 rfl rfl rfl rfl HT.out K.out.A K.out.C (top_mul K.out.la K.out.lc (by omega)) (top_mul K.out.la' K.out.lc' (by omega)) K.out.ey)
    clear H8
    go_wp2_with fail
    refine HC.out.mono ?_
    rintro e w9 ⟨B7, m7, d7, D7, l7, f7, rfl, G⟩
    clear p0 p1 q0 q1 HC
    have H9 := G.pair (.slice B7 m7 d7) (.slice D7 l7 f7) 28
    simp only [List.nil_append, List.cons_append] at H9
    clear G
    have p0 := H9.p0 1 rfl
    have p1 := H9.p1 1 rfl
    have q0 := H9.p0 2 rfl
    have q1 := H9.p1 2 rfl
    have HC := Lib.hid (qmul_fr H9 2 3 4 5 rfl rfl rfl rfl HT.out K.out.B K.out.C (top_mul K.out.lb K.out.lc (by omega)) (top_mul K.out.lb' K.out.lc' (by omega)) K.out.ez)
    clear H9
    go_wp2_with fail
    refine HC.out.mono ?_
    rintro e w10 ⟨B8, m8, d8, D8, l8, f8, rfl, G⟩
    clear p0 p1 q0 q1 HC
    have H10 := G.pair (.slice B8 m8 d8) (.slice D8 l8 f8) 28
    simp only [List.nil_append, List.cons_append] at H10
    clear G
    have p0 := H10.p0 6 rfl
    have p1 := H10.p1 6 rfl
    have q0 := H10.p0 7 rfl
    have q1 := H10.p1 7 rfl
    have HC := Lib.hid (qadd_fr H10 12 13 14 15 rfl rfl rfl rfl HT.out K.out.Y K.out.Z (top_sum K.out.ly K.out.lz' K.out.lz K.out.ly' (by omega) (by omega)) (top_mul K.out.ly' K.out.lz' (by omega)) K.out.ev)
    clear H10
    go_wp2_with fail
    refine HC.out.mono ?_
    rintro e w11 ⟨B9, m9, d9, D9, l9, f9, rfl, G⟩
    clear p0 p1 q0 q1 HC
    have H11 := G.pair (.slice B9 m9 d9) (.slice D9 l9 f9) 28
    simp only [List.nil_append, List.cons_append] at H11
    clear G
    have HC := Lib.hid (awakeQ_ow H11 HT.out)
    clear H11
    go_wp2_with fail
    refine HC.out.mono ?_
    rintro e w12 ⟨rfl, G⟩
    clear HC
    have p0 := G.p0 3 rfl
    have p1 := G.p1 3 rfl
    have q0 := G.p0 4 rfl
    have q1 := G.p1 4 rfl
    have HC := Lib.hid (qsame_ow G 6 7 8 9 rfl rfl rfl rfl)
    clear G
    go_wp2_with fail
    refine HC.out.mono ?_
    rintro e w13 ⟨rfl, G⟩
    clear p0 p1 q0 q1 HC
    have p0 := G.p0 5 rfl
    have p1 := G.p1 5 rfl
    have q0 := G.p0 8 rfl
    have q1 := G.p1 8 rfl
    have HC := Lib.hid (qsame_ow G 10 11 16 17 rfl rfl rfl rfl)
    clear G
    go_wp2_with fail
    refine HC.out.mono ?_
    rintro e w14 ⟨rfl, G⟩
    clear p0 p1 q0 q1 HC
    have p0 := G.p0 3 rfl
    have p1 := G.p1 3 rfl
    have q0 := G.p0 1 rfl
    have q1 := G.p1 1 rfl
    have HC := Lib.hid (qsub_fr G 6 7 2 3 rfl rfl rfl rfl HT.out K.out.S K.out.B (top_mul K.out.ls K.out.lb' (by omega)) (top_mul K.out.lb K.out.ls' (by omega)) (top_mul K.out.ls' K.out.lb' (by omega)) K.out.eu)
    clear G
    go_wp2_with fail
    refine HC.out.mono ?_
    rintro e w15 ⟨B10, m10, d10, D10, l10, f10, rfl, G⟩
    clear p0 p1 q0 q1 HC
    have H15 := G.pair (.slice B10 m10 d10) (.slice D10 l10 f10) 28
    simp only [List.nil_append, List.cons_append] at H15
    clear G
    have p0 := H15.p0 9 rfl
    have p1 := H15.p1 9 rfl
    have q0 := H15.p0 0 rfl
    have q1 := H15.p1 0 rfl
    have HC := Lib.hid (qsame_ow H15 18 19 0 1 rfl rfl rfl rfl)
    clear H15
    go_wp2_with fail
    refine HC.out.mono ?_
    rintro e w16 ⟨rfl, G⟩
    clear p0 p1 q0 q1 HC
    have p0 := G.p0 3 rfl
    have p1 := G.p1 3 rfl
    have HC := Lib.hid (qvalid_fr G 6 7 rfl rfl HT.out K.out.S)
    clear G
    go_wp2_with fail
    refine HC.out.mono ?_
    rintro e w17 ⟨rfl, G⟩
    clear p0 p1 HC
    have p0 := G.p0 5 rfl
    have p1 := G.p1 5 rfl
    have HC := Lib.hid (qvalid_fr G 10 11 rfl rfl HT.out K.out.X)
    clear G
    go_wp2_with fail
    refine HC.out.mono ?_
    rintro e w18 ⟨rfl, G⟩
    clear p0 p1 HC
    have p0 := G.p0 2 rfl
    have p1 := G.p1 2 rfl
    rcases Nat.eq_zero_or_pos k with h0 | h0
    · subst h0
      have hz : ((m3 : Int) == 0) = true := by rw [← (G.seenL 4 rfl).1, Na.dig_zero]; rfl
      have HB := Lib.hid G.below
      clear G
      go_wp2_with fail
      go_ret
      exact ⟨rfl, HB.out⟩
    · have hz : ((m3 : Int) == 0) = false := by
        rw [beq_eq_false_iff_ne]
        intro e
        have := Na.dig_len0.1 (show (Na.dig k).length = 0 by have := (G.seenL 4 rfl).1; omega)
        omega
      have y0 := G.p0 6 rfl
      have y1 := G.p1 6 rfl
      have HP : Hid (0 < k) := h0
      clear h0
      have HC := Lib.hid (qdiv_fr G 12 13 4 5 rfl rfl rfl rfl HT.out K.out.Y K.out.C (top_mul K.out.ly K.out.lc' (by omega)) (top_mul K.out.ly' K.out.lc (by omega)) ((if_neg (by have := HP.out; omega)).trans (K.out.eq HP.out)))
      clear G
      go_wp2_with fail
      refine HC.out.mono ?_
      rintro e w19 ⟨B11, m11, d11, D11, l11, f11, rfl, G⟩
      clear p0 p1 y0 y1 hz HC
      have H19 := G.pair (.slice B11 m11 d11) (.slice D11 l11 f11) 28
      simp only [List.nil_append, List.cons_append] at H19
      clear G
      have p0 := H19.p0 10 rfl
      have p1 := H19.p1 10 rfl
      have q0 := H19.p0 0 rfl
      have q1 := H19.p1 0 rfl
      have HC := Lib.hid (qsame_ow H19 20 21 0 1 rfl rfl rfl rfl)
      clear H19
      go_wp2_with fail
      refine HC.out.mono ?_
      rintro e w20 ⟨rfl, G⟩
      clear p0 p1 q0 q1 HC
      have HB := Lib.hid G.below
      clear G
      go_wp2_with fail
      go_ret
      exact ⟨rfl, HB.out⟩
end Go.Proofs.YtnfjnlnphdmdmaaDoor

/- XQr XQs joined. -/
import Derived.Test.YtnfjnlnphdmdmaaGreatDoorQma
import Derived.Test.YtnfjnlnphdmdmaaGreatDoorQmb
import Derived.Test.YtnfjnlnphdmdmaaGreatDoorQmc
/- The fraction of two ints. -/
namespace Go.Proofs.YtnfjnlnphdmdmaaGreatDoor
open Go.RowKit Go.Sort
set_option linter.unusedVariables false
set_option maxRecDepth 100000
theorem of_less (L l : List Ob) (x y : Ob) : ∀ o ∈ L ++ [x] ++ [y], o ∈ L ++ l ++ [x] ++ [y] := fun o ho => by
  simp only [List.mem_append] at ho ⊢
  rcases ho with (h | h) | h
  · exact .inl (.inl (.inl h))
  · exact .inl (.inr h)
  · exact .inr h
def ofF (a b : Int) : Nat × Nat × Int := if a < 0 ∨ b < 0 then frE 2 else frM a.toNat b.toNat
theorem int_top {a : Int} (h : a ≤ 9223372036854775807) : a.toNat < Na.top := by
  have h1 : (9223372036854775807 : Nat) < Na.top := by decide +kernel
  omega
theorem ofL_pos {a : Int} (h : 0 ≤ a) : ofL a = Na.dig a.toNat ∧ ofE a = 0 := ⟨if_neg (by omega), if_neg (by omega)⟩
theorem ofL_neg {a : Int} (h : a < 0) : ofL a = [] ∧ ofE a = 2 := ⟨if_pos h, if_pos h⟩
section
variable {w0 w w' : World} {g : Option Nat} {M : List (Nat × Value)} {L : List Ob} {O : List Rw}
theorem qof_n (h : Ow w0 w g M L O) (a : Int) (ha : a ≤ 9223372036854775807) : Calls Tryz.prog 41 #[.int .i64 a] w (GotO w0 g M L O (ofL a) (ofE a)) :=
  (nof_any a w ha).mono fun e w' hr => got_o h (by
    rcases Int.lt_or_le a 0 with h0 | h0
    · rw [(ofL_neg h0).1]; decide
    · rw [(ofL_pos h0).1]; exact dig_1000 (int_top ha)) hr
set_option maxHeartbeats 4000000 in
theorem qof_ow (h : Ow w0 w g M L O) (a b : Int) (ha : a ≤ 9223372036854775807) (hb : b ≤ 9223372036854775807) (ht : Tab w0) :
    Calls Tryz.prog 15 #[.int .i64 a, .int .i64 b] w (GotF w0 g M L O (ofF a b)) := by
  have H0 := h.pair (.slice none 0 0) (.slice none 0 0) 26
  have HC := Lib.hid (qof_n H0 a ha)
  have HB := Lib.hid hb
  have HA := Lib.hid ha
  have HT := Lib.hid ht
  obtain ⟨l1, h1⟩ : ∃ l, ofL a = l := ⟨_, rfl⟩
  obtain ⟨e1, he1⟩ : ∃ l, ofE a = l := ⟨_, rfl⟩
  obtain ⟨l2, h2⟩ : ∃ l, ofL b = l := ⟨_, rfl⟩
  obtain ⟨e2, he2⟩ : ∃ l, ofE b = l := ⟨_, rfl⟩
  rw [h1, he1] at HC
  have HL := Lib.hid (And.intro h1 (And.intro h2 he2))
  have key : ((e1 != 0) = true ∧ ofF a b = frE 2) ∨ ((e1 != 0) = false ∧ (e2 != 0) = true ∧ ofF a b = frE 2) ∨ ((e1 != 0) = false ∧ (e2 != 0) = false ∧ 0 ≤ a ∧ 0 ≤ b ∧ ofF a b = frM a.toNat b.toNat) := by
    unfold ofF
    rcases Int.lt_or_le a 0 with h0 | h0
    · exact .inl ⟨by rw [← he1, (ofL_neg h0).2]; rfl, if_pos (.inl h0)⟩
    · rcases Int.lt_or_le b 0 with h3 | h3
      · exact .inr (.inl ⟨by rw [← he1, (ofL_pos h0).2]; rfl, by rw [← he2, (ofL_neg h3).2]; rfl, if_pos (.inr h3)⟩)
      · exact .inr (.inr ⟨by rw [← he1, (ofL_pos h0).2]; rfl, by rw [← he2, (ofL_pos h3).2]; rfl, h0, h3, if_neg (by omega)⟩)
  clear h H0 ha hb h1 he1 h2 he2 ht
  go_enter Tryz.func15, Tryz.ntmps15
  go_wp2_with fail
  refine HC.out.mono ?_
  rintro e w1 ⟨B1, m1, d1, rfl, H1⟩
  have H2 := H1.boxed (.slice B1 m1 d1) 24
  have HD := Lib.hid (qof_n H2 b HB.out)
  rw [HL.out.2.1, HL.out.2.2] at HD
  clear HC H1 H2
  rcases key with ⟨k1, k2⟩ | ⟨k1, k2, k3⟩ | ⟨k1, k2, ka, kb, k3⟩
  · have HK := Lib.hid k2
    clear k2
    go_wp2_with fail
    refine HD.out.mono ?_
    rintro e w2 ⟨B2, m2, d2, rfl, H3⟩
    have H4 := H3.boxed (.slice B2 m2 d2) 24
    simp only [List.append_assoc, List.cons_append, List.nil_append] at H4
    have x0 := H4.p0 (O.length + 0) (by rw [get_r]; rfl)
    have x1 := H4.p1 (O.length + 0) (by rw [get_r]; rfl)
    have f0 := H4.pf (O.length + 0) (by rw [get_r]; rfl) 0
    have f1 := H4.pf (O.length + 0) (by rw [get_r]; rfl) 1
    have H5 := H4.set0 (O.length + 0) (by rw [get_r]; rfl) (.slice none 0 0)
    rw [set_r, List.set_cons_zero] at H5
    have H6 := H5.set1 (O.length + 0) (by rw [get_r]; rfl) (.slice none 0 0)
    rw [set_r, List.set_cons_zero] at H6
    have s0 := H6.p0 (O.length + 0) (by rw [get_r]; rfl)
    have s1 := H6.p1 (O.length + 0) (by rw [get_r]; rfl)
    have HF := Lib.hid (H6.fewM.fewO.less (L' := L) (fun o ho => List.mem_append_left _ ho))
    clear HD H3 H4 H5 H6
    go_wp2_with fail
    refine bodyPost_ret (v := .tuple #[.agg #[.slice none 0 0, .slice none 0 0], .int .i64 2]) (by simp [results, Tryz.results15, go_sem, s0, s1]) rfl ?_
    rw [HK.out]
    exact gotF_nil HF.out 2
  · have HK := Lib.hid k3
    clear k3
    go_wp2_with fail
    refine HD.out.mono ?_
    rintro e w2 ⟨B2, m2, d2, rfl, H3⟩
    have H4 := H3.boxed (.slice B2 m2 d2) 24
    simp only [List.append_assoc, List.cons_append, List.nil_append] at H4
    have x0 := H4.p0 (O.length + 0) (by rw [get_r]; rfl)
    have x1 := H4.p1 (O.length + 0) (by rw [get_r]; rfl)
    have f0 := H4.pf (O.length + 0) (by rw [get_r]; rfl) 0
    have f1 := H4.pf (O.length + 0) (by rw [get_r]; rfl) 1
    have H5 := H4.set0 (O.length + 0) (by rw [get_r]; rfl) (.slice none 0 0)
    rw [set_r, List.set_cons_zero] at H5
    have H6 := H5.set1 (O.length + 0) (by rw [get_r]; rfl) (.slice none 0 0)
    rw [set_r, List.set_cons_zero] at H6
    have s0 := H6.p0 (O.length + 0) (by rw [get_r]; rfl)
    have s1 := H6.p1 (O.length + 0) (by rw [get_r]; rfl)
    have HF := Lib.hid (H6.fewM.fewO.less (L' := L) (fun o ho => List.mem_append_left _ ho))
    clear HD H3 H4 H5 H6
    go_wp2_with fail
    refine bodyPost_ret (v := .tuple #[.agg #[.slice none 0 0, .slice none 0 0], .int .i64 2]) (by simp [results, Tryz.results15, go_sem, s0, s1]) rfl ?_
    rw [HK.out]
    exact gotF_nil HF.out 2
  · have HK := Lib.hid k3
    have HX := Lib.hid (And.intro ka kb)
    obtain ⟨t, hmk⟩ : ∃ t, frM a.toNat b.toNat = t := ⟨_, rfl⟩
    have HMk := Lib.hid hmk
    clear k3 ka kb hmk
    go_wp2_with fail
    refine HD.out.mono ?_
    rintro e w2 ⟨B2, m2, d2, rfl, H3⟩
    have H4 := H3.boxed (.slice B2 m2 d2) 24
    simp only [List.append_assoc, List.cons_append, List.nil_append] at H4
    rw [← HL.out.1, ← HL.out.2.1, (ofL_pos HX.out.1).1, (ofL_pos HX.out.2).1] at H4
    have y0 := H4.cell (M.length + 0) (by rw [get_r]; rfl)
    have y1 := H4.cell (M.length + 1) (by rw [get_r]; rfl)
    have HE := Lib.hid (qmake_d H4 (L.length + 0) (L.length + 1) (by rw [get_r]; rfl) (by rw [get_r]; rfl) (int_top HA.out) (int_top HB.out) HT.out)
    rw [HMk.out] at HE
    have HG := Lib.hid H4
    clear HD H3 H4
    go_wp2_with fail
    refine HE.out.mono ?_
    intro e w3 hr
    have ht1 : t.1 < Na.top ∧ t.2.1 < Na.top := by rw [← HMk.out]; exact frM_top (int_top HA.out) (int_top HB.out)
    obtain ⟨C1, p1, q1, C2, p2, q2, rfl, how3⟩ := got_f HG.out ht1.1 ht1.2 hr
    have x0 := how3.p0 (O.length + 0) (by rw [get_r]; rfl)
    have x1 := how3.p1 (O.length + 0) (by rw [get_r]; rfl)
    have f0 := how3.pf (O.length + 0) (by rw [get_r]; rfl) 0
    have f1 := how3.pf (O.length + 0) (by rw [get_r]; rfl) 1
    have H5 := how3.set0 (O.length + 0) (by rw [get_r]; rfl) (.slice C1 p1 q1)
    rw [set_r, List.set_cons_zero] at H5
    have H6 := H5.set1 (O.length + 0) (by rw [get_r]; rfl) (.slice C2 p2 q2)
    rw [set_r, List.set_cons_zero] at H6
    have s0 := H6.p0 (O.length + 0) (by rw [get_r]; rfl)
    have s1 := H6.p1 (O.length + 0) (by rw [get_r]; rfl)
    have HF := Lib.hid (H6.fewM.fewO.less (L' := L ++ [⟨C1, p1, q1, _⟩] ++ [⟨C2, p2, q2, _⟩]) (of_less L _ _ _))
    clear HE HG hr how3 H5 H6 y0 y1 ht1
    go_wp2_with fail
    refine bodyPost_ret (v := .tuple #[.agg #[.slice C1 p1 q1, .slice C2 p2 q2], .int .i64 t.2.2]) (by simp [results, Tryz.results15, go_sem, s0, s1]) rfl ?_
    rw [HK.out, HMk.out]
    exact ⟨C1, p1, q1, C2, p2, q2, rfl, HF.out⟩
theorem qrof_n (h : Ow w0 w g M L O) (a : Int) (ha : a ≤ 9223372036854775807) : Calls Tryz.prog 57 #[.int .i64 a] w (GotO w0 g M L O (ofL a) (ofE a)) :=
  (nrof_any a w ha).mono fun e w' hr => got_o h (by
    rcases Int.lt_or_le a 0 with h0 | h0
    · rw [(ofL_neg h0).1]; decide
    · rw [(ofL_pos h0).1]; exact dig_1000 (int_top ha)) hr
end
end Go.Proofs.YtnfjnlnphdmdmaaGreatDoor

/- The sanity check of the fractions' laws. -/
namespace Go.Proofs.YtnfjnlnphdmdmaaGreatDoor
open Go.RowKit Go.Sort
set_option linter.unusedVariables false
set_option maxRecDepth 100000
theorem tiny_top {x : Nat} (h : x ≤ 9223372036854775807) : x < Na.top := Nat.lt_of_le_of_lt h (by decide +kernel)
theorem frM_64 : ofF 6 4 = (3, 2, 0) := by decide +kernel
theorem frM_13 : ofF 1 3 = (1, 3, 0) := by decide +kernel
theorem frM_116 : frM (3 * 3 + 1 * 2) (2 * 3) = (11, 6, 0) := by decide +kernel
theorem text_116 : str (De.text 11 ++ 47 :: De.text 6) = ⟨#[49, 49, 47, 54]⟩ := by decide +kernel
set_option maxHeartbeats 4000000 in
theorem awakeQ_any (w : World) (ht : Tab w) : Calls Tryz.prog 5 #[] w fun e w' => e = .returned (.bool true) ∧ Below w.heap.size w w' := by
  have HT := Lib.hid ht
  have H0 := Ow.of (St.refl w)
  have HC := Lib.hid (qof_ow H0 6 4 (by omega) (by omega) ht)
  rw [frM_64] at HC
  clear H0 ht
  go_enter Tryz.func5, Tryz.ntmps5
  go_wp2_with fail
  refine HC.out.mono ?_
  rintro e w1 ⟨A1, n1, c1, A2, n2, c2, rfl, H1⟩
  have H2 := H1.pair (.slice A1 n1 c1) (.slice A2 n2 c2) 26
  have HD := Lib.hid (qof_ow H2 1 3 (by omega) (by omega) HT.out)
  rw [frM_13] at HD
  clear HC H1 H2
  go_wp2_with fail
  refine HD.out.mono ?_
  rintro e w2 ⟨A3, n3, c3, A4, n4, c4, rfl, H3⟩
  have H4 := H3.pair (.slice A3 n3 c3) (.slice A4 n4 c4) 26
  simp only [List.nil_append, List.cons_append] at H4
  have a0 := H4.p0 0 rfl
  have a1 := H4.p1 0 rfl
  have HE := Lib.hid (qAdd_any (p := Na.up (Na.dig 3)) (q := Na.up (Na.dig 2)) (r := Na.up (Na.dig 1)) (s := Na.up (Na.dig 3)) H4 0 1 2 3 (by rw [nats_up]; rfl) (by rw [nats_up]; rfl) (by rw [nats_up]; rfl) (by rw [nats_up]; rfl) HT.out)
  rw [addF_low (tiny_top (by omega)) (tiny_top (by omega)) (tiny_top (by omega)) (tiny_top (by omega)) (by omega) (by omega) (by decide) (by decide) (tiny_top (by omega)) (tiny_top (by omega))] at HE
  rw [frM_116] at HE
  clear HD H3 H4
  go_wp2_with fail
  refine HE.out.mono ?_
  rintro e w3 ⟨A5, n5, c5, A6, n6, c6, rfl, H5⟩
  have H6 := H5.pair (.slice A5 n5 c5) (.slice A6 n6 c6) 26
  simp only [List.nil_append, List.cons_append] at H6
  have a0 := H6.p0 2 rfl
  have a1 := H6.p1 2 rfl
  have HF := Lib.hid (qprint_ok (x := 11) (y := 6) H6 4 5 rfl rfl HT.out (tiny_top (by omega)) (tiny_top (by omega)) (rv_low (tiny_top (by omega)) (tiny_top (by omega)) (by omega) (by decide)))
  rw [text_116] at HF
  clear HE H5 H6
  go_wp2_with fail
  refine HF.out.mono ?_
  rintro e w4 ⟨rfl, H7⟩
  have HB := Lib.hid H7.below
  clear HF H7
  go_wp2_with fail
  go_ret
  exact ⟨rfl, HB.out⟩
end Go.Proofs.YtnfjnlnphdmdmaaGreatDoor

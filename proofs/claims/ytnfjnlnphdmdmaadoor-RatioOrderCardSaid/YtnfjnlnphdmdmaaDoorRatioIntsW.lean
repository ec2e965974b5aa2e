/- The law RatioInts. -/
import Derived.Test.YtnfjnlnphdmdmaaDoorQmd
namespace Go.Proofs.YtnfjnlnphdmdmaaDoor
open Go.RowKit Go.Sort
set_option linter.unusedVariables false
set_option maxRecDepth 100000
theorem ofF_top {a b : Int} (ha : a ≤ 9223372036854775807) (hb : b ≤ 9223372036854775807) : (ofF a b).1 < Na.top ∧ (ofF a b).2.1 < Na.top := by
  unfold ofF
  split
  · exact ⟨tiny_top (show 0 ≤ _ by omega), tiny_top (show 0 ≤ _ by omega)⟩
  · exact frM_top (int_top ha) (int_top hb)
theorem awakeQ_ow {w0 w : World} {g : Option Nat} {M : List (Nat × Value)} {L : List Ob} {O : List Rw} (h : Ow w0 w g M L O) (ht : Tab w0) : Calls Tryd.prog 13 #[] w fun e w' => e = .returned (.bool true) ∧ Ow w0 w' g M L O :=
  (awakeQ_any w (ht.below h.below)).mono fun e w' ⟨he, hb⟩ => ⟨he, h.go hb⟩
set_option maxHeartbeats 8000000 in
theorem ratioInts_any (a b : Int) (A A2 : Option Addr) (n c m c2 : Nat) (p q : List Int) (w : World) (ha : a ≤ 9223372036854775807) (hb : b ≤ 9223372036854775807) (hn : p.length = n) (hnc : n ≤ c) (hln : n ≤ 9223372036854775807) (hs : Sl w w.heap.size A (ints p)) (hm : q.length = m) (hmc : m ≤ c2) (hlm : m ≤ 9223372036854775807) (hs2 : Sl w w.heap.size A2 (ints q)) (ht : Tab w) :
    Calls Tryd.prog 3 #[.agg #[.int .i64 a, .int .i64 b], .agg #[.slice A n c], .agg #[.slice A2 m c2]] w fun e w' => e = .returned (.bool true) ∧ Below w.heap.size w w' := by
  have HT := Lib.hid ht
  rcases Nat.lt_or_ge 30 n with h30 | h30
  · have H0 := (((Ow.of (St.refl w)).pair (.int .i64 a) (.int .i64 b) 22).boxed (.slice A n c) 25).boxed (.slice A2 m c2) 25
    simp only [World.size_alloc, List.nil_append, List.cons_append] at H0
    have k0 := H0.cell 0 rfl
    have t1 : decide (30 < (n : Int)) = true := decide_eq_true (by omega)
    have t2 : decide (30 < n) = true := decide_eq_true h30
    have HA := Lib.hid (awakeQ_ow H0 ht)
    clear H0 hs hs2 hn hm ht h30
    go_enter Tryd.func3, Tryd.ntmps3
    go_wp2_with fail
    refine HA.out.mono ?_
    rintro e w1 ⟨rfl, H1⟩
    have HB := Lib.hid H1.below
    clear HA H1
    go_wp2_with fail
    go_ret
    exact ⟨rfl, HB.out⟩
  have t1 : decide (30 < (n : Int)) = false := decide_eq_false (by omega)
  have t2 : decide (30 < n) = false := decide_eq_false (by omega)
  rcases Nat.lt_or_ge 30 m with h31 | h31
  · have H0 := (((Ow.of (St.refl w)).pair (.int .i64 a) (.int .i64 b) 22).boxed (.slice A n c) 25).boxed (.slice A2 m c2) 25
    simp only [World.size_alloc, List.nil_append, List.cons_append] at H0
    have k0 := H0.cell 0 rfl
    have k1 := H0.cell 1 rfl
    have t3 : decide (30 < (m : Int)) = true := decide_eq_true (by omega)
    have t4 : decide (30 < m) = true := decide_eq_true h31
    have HA := Lib.hid (awakeQ_ow H0 ht)
    clear H0 hs hs2 hn hm ht h30 h31
    go_enter Tryd.func3, Tryd.ntmps3
    go_wp2_with fail
    refine HA.out.mono ?_
    rintro e w1 ⟨rfl, H1⟩
    have HB := Lib.hid H1.below
    clear HA H1
    go_wp2_with fail
    go_ret
    exact ⟨rfl, HB.out⟩
  have t3 : decide (30 < (m : Int)) = false := decide_eq_false (by omega)
  have t4 : decide (30 < m) = false := decide_eq_false (by omega)
  have H0 := (((((Ow.of (St.refl w)).old hs (by rw [ints_length]; exact hn) hnc (by omega)).old hs2 (by rw [ints_length]; exact hm) hmc (by omega)).pair (.int .i64 a) (.int .i64 b) 22).boxed (.slice A n c) 25).boxed (.slice A2 m c2) 25
  simp only [World.size_alloc, List.nil_append, List.cons_append] at H0
  have k0 := H0.cell 0 rfl
  have k1 := H0.cell 1 rfl
  have i0 := H0.p0 0 rfl
  have i1 := H0.p1 0 rfl
  obtain ⟨t, hof⟩ : ∃ t, ofF a b = t := ⟨_, rfl⟩
  obtain ⟨u, hmk⟩ : ∃ t, makeF p q = t := ⟨_, rfl⟩
  have HA := Lib.hid (qof_ow H0 a b ha hb ht)
  rw [hof] at HA
  have HO := Lib.hid (And.intro hof (And.intro hmk (And.intro ha hb)))
  have b1 : (t.2.2 == t.2.2) = true := by simp
  have b2 : (u.2.2 == u.2.2) = true := by simp
  clear H0 hs hs2 hn hm ht h30 h31 hof hmk
  go_enter Tryd.func3, Tryd.ntmps3
  go_wp2_with fail
  refine HA.out.mono ?_
  rintro e w1 ⟨A3, n3, c3, A4, n4, c4, rfl, H1⟩
  have H2 := H1.pair (.slice A3 n3 c3) (.slice A4 n4 c4) 28
  simp only [List.nil_append, List.cons_append] at H2
  have i0 := H2.p0 0 rfl
  have i1 := H2.p1 0 rfl
  have HB := Lib.hid (qrof_ow H2 a b HO.out.2.2.1 HO.out.2.2.2)
  rw [HO.out.1] at HB
  clear HA H1 H2 k0 k1
  go_wp2_with fail
  refine HB.out.mono ?_
  rintro e w2 ⟨A5, n5, c5, A6, n6, c6, rfl, H3⟩
  have H4 := H3.pair (.slice A5 n5 c5) (.slice A6 n6 c6) 28
  simp only [List.nil_append, List.cons_append] at H4
  have k0 := H4.cell 0 rfl
  have k1 := H4.cell 1 rfl
  have HC := Lib.hid (qmake_ow H4 0 1 rfl rfl HT.out)
  rw [HO.out.2.1] at HC
  clear HB H3 H4 i0 i1
  go_wp2_with fail
  refine HC.out.mono ?_
  rintro e w3 ⟨A7, n7, c7, A8, n8, c8, rfl, H5⟩
  have H6 := H5.pair (.slice A7 n7 c7) (.slice A8 n8 c8) 28
  simp only [List.nil_append, List.cons_append] at H6
  have k0 := H6.cell 0 rfl
  have k1 := H6.cell 1 rfl
  have HD := Lib.hid (qrmake_ow H6 0 1 rfl rfl)
  rw [HO.out.2.1] at HD
  clear HC H5 H6
  go_wp2_with fail
  refine HD.out.mono ?_
  rintro e w4 ⟨A9, n9, c9, B1, m1, d1, rfl, H7⟩
  have H8 := H7.pair (.slice A9 n9 c9) (.slice B1 m1 d1) 28
  simp only [List.nil_append, List.cons_append] at H8
  have HE := Lib.hid (awakeQ_ow H8 HT.out)
  clear HD H7 H8 k0 k1
  go_wp2_with fail
  refine HE.out.mono ?_
  rintro e w5 ⟨rfl, H9⟩
  have i0 := H9.p0 1 rfl
  have i1 := H9.p1 1 rfl
  have j0 := H9.p0 2 rfl
  have j1 := H9.p1 2 rfl
  have HF := Lib.hid (qsame_ow H9 2 3 4 5 rfl rfl rfl rfl)
  clear HE H9
  go_wp2_with fail
  refine HF.out.mono ?_
  rintro e w6 ⟨rfl, G1⟩
  clear i0 i1 j0 j1
  have i0 := G1.p0 3 rfl
  have i1 := G1.p1 3 rfl
  have j0 := G1.p0 4 rfl
  have j1 := G1.p1 4 rfl
  have HG := Lib.hid (qsame_ow G1 6 7 8 9 rfl rfl rfl rfl)
  clear HF G1
  go_wp2_with fail
  refine HG.out.mono ?_
  rintro e w7 ⟨rfl, G2⟩
  have HZ := Lib.hid G2.below
  clear HG G2
  go_wp2_with fail
  go_ret
  exact ⟨rfl, HZ.out⟩
end Go.Proofs.YtnfjnlnphdmdmaaDoor

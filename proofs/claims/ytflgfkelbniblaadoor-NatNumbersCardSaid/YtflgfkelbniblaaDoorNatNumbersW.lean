/- The law NatNumbers. -/
import Derived.Test.YtflgfkelbniblaaDoorNum
import Derived.Test.YtflgfkelbniblaaDoorNatU
import Derived.Test.YtflgfkelbniblaaDoorNatR
import Derived.Test.YtflgfkelbniblaaDoorNatV
namespace Go.Proofs.YtflgfkelbniblaaDoor
open Go.RowKit Go.Sort
set_option linter.unusedVariables false
set_option maxRecDepth 100000
set_option maxHeartbeats 8000000 in
theorem natNumbers_any (a b d : Int) (S : ByteArray) (A : Option Addr) (n c : Nat) (ts : List Int) (w : World) (ha : a ≤ 9223372036854775807) (hS : S.size ≤ 9223372036854775807) (hn : ts.length = n) (hl : n ≤ 9223372036854775807) (hs : Sl w w.heap.size A (ints ts)) :
    Calls Tryd.prog 5 #[.agg #[.int .i64 a, .int .i64 b, .int .i64 d], .string S, .slice A n c] w fun e w' => e = .returned (.bool true) ∧ Below w.heap.size w w' := by
  obtain ⟨w0, hw0⟩ : ∃ w0, w.alloc (.cells #[.int .i64 a, .int .i64 b, .int .i64 d] 42) = w0 := ⟨_, rfl⟩
  have HW : Hid (w.alloc (.cells #[.int .i64 a, .int .i64 b, .int .i64 d] 42) = w0) := hw0
  have HB0 : Hid (Below w.heap.size w w0) := by unfold Hid; rw [← hw0]; exact own_box1 _ _
  have hz0 : w.heap.size < w0.heap.size := by rw [← hw0]; simp
  have k0 : w0.cell? ⟨w.heap.size, 0, none⟩ = some (.int .i64 a) := by rw [← hw0]; simp [go_sem]
  have k1 : w0.cell? ⟨w.heap.size, 1, none⟩ = some (.int .i64 b) := by rw [← hw0]; simp [go_sem]
  have k2 : w0.cell? ⟨w.heap.size, 2, none⟩ = some (.int .i64 d) := by rw [← hw0]; simp [go_sem]
  have HK : Hid (∀ W, Below w0.heap.size w0 W → W.cell? ⟨w.heap.size, 0, none⟩ = some (.int .i64 a) ∧ W.cell? ⟨w.heap.size, 1, none⟩ = some (.int .i64 b) ∧ W.cell? ⟨w.heap.size, 2, none⟩ = some (.int .i64 d)) := fun W h =>
    ⟨(h.cell (p := ⟨w.heap.size, 0, none⟩) hz0).trans k0, (h.cell (p := ⟨w.heap.size, 1, none⟩) hz0).trans k1, (h.cell (p := ⟨w.heap.size, 2, none⟩) hz0).trans k2⟩
  clear k0 k1 k2 hw0
  have HZ := Lib.hid hz0
  clear hz0
  rcases Nat.lt_or_ge 400 n with h400 | h400
  · have HL := Lib.hid (light_no A n c w0 h400 hl)
    clear hs hn h400
    go_enter Tryd.func5, Tryd.ntmps5
    go_wp2_with fail
    rw [HW.out]
    refine HL.out.mono ?_
    rintro e w1 ⟨rfl, rfl⟩
    go_wp2_with fail
    refine (awakeN_any _).mono ?_
    rintro e w1 ⟨rfl, hb⟩
    have HB := Lib.hid hb
    clear hb
    go_wp2_with fail
    go_ret
    exact ⟨rfl, HB0.out.trans (HB.out.mono (by have := HZ.out; omega))⟩
  rcases Nat.lt_or_ge 3000 S.size with hS3 | hS3
  · have HL := Lib.hid (light_yes A n c w0 h400)
    clear hs hn h400
    go_enter Tryd.func5, Tryd.ntmps5
    go_wp2_with fail
    rw [HW.out]
    refine HL.out.mono ?_
    rintro e w1 ⟨rfl, rfl⟩
    go_wp2_with fail
    refine (awakeN_any _).mono ?_
    rintro e w1 ⟨rfl, hb⟩
    have HB := Lib.hid hb
    clear hb
    go_wp2_with fail
    go_ret
    exact ⟨rfl, HB0.out.trans (HB.out.mono (by have := HZ.out; omega))⟩
  have HL := Lib.hid (light_yes A n c w0 h400)
  have HRo := Lib.hid (roll_at (St.refl w0) A n c w.heap.size ts hn (by omega) (by have := HZ.out; omega) (hs.below HB0.out))
  obtain ⟨lP, eP, hP1, hP2, hP3⟩ : ∃ (r : List Nat) (e : Int), r.length ≤ 1000 ∧ (∀ w, Calls Tryd.prog 29 #[.string S] w (ResN w r e)) ∧ ∀ w, Calls Tryd.prog 30 #[.string S] w (ResN w r e) := by
    obtain ⟨l, rfl⟩ := str_exists S
    exact parse_both l (by rw [← str_size]; exact hS3)
  have HP1 := Lib.hid hP2
  have HP2 := Lib.hid hP3
  have HPl := Lib.hid hP1
  clear hs hn h400 hl hP1 hP2 hP3
  obtain ⟨lO, hlO⟩ : ∃ l, ofL a = l := ⟨_, rfl⟩
  obtain ⟨eO, heO⟩ : ∃ l, ofE a = l := ⟨_, rfl⟩
  obtain ⟨lC, hlC⟩ : ∃ l, choL b d = l := ⟨_, rfl⟩
  obtain ⟨eC, heC⟩ : ∃ l, choE b d = l := ⟨_, rfl⟩
  have HO := Lib.hid (And.intro hlO heO)
  have HC := Lib.hid (And.intro hlC heC)
  have HA := Lib.hid ha
  have n1 : (eO == eO) = true := by simp
  have n3 : (eC == eC) = true := by simp
  have n4 : (eP == eP) = true := by simp
  clear hlO heO hlC heC ha
  go_enter Tryd.func5, Tryd.ntmps5
  go_wp2_with fail
  rw [HW.out]
  refine HL.out.mono ?_
  rintro e w1 ⟨rfl, rfl⟩
  go_wp2_with fail
  refine HRo.out.mono ?_
  rintro e w2 ⟨g, rfl, HD, HS⟩
  clear HL HRo HW
  go_wp2_with fail
  refine (dnat_st HS HD 3 (by omega)).mono ?_
  rintro e w3 ⟨A1, m1, d1, x, rfl, -, hx1, HD1, HSx⟩
  have HX : Hid (x < Na.top) := small_top hx1 (by omega)
  obtain ⟨lW, hlW⟩ : ∃ l, powL x b = l := ⟨_, rfl⟩
  obtain ⟨eW, heW⟩ : ∃ l, powE x b = l := ⟨_, rfl⟩
  have HPw := Lib.hid (And.intro hlW heW)
  have n2 : (eW == eW) = true := by simp
  have H0 := Ow.of (HSx.boxed (.slice A1 m1 d1) 29)
  simp only [List.nil_append] at H0
  clear HD HS HSx HD1 hx1 hlW heW
  obtain ⟨q0, q1, q2⟩ := HK.out _ H0.below
  go_wp2_with fail
  refine (ag_of H0 a HA.out).mono ?_
  rw [HO.out.1, HO.out.2]
  rintro e v1 ⟨B1, p1, r1, rfl, H1⟩
  have H2 := H1.boxed (.slice B1 p1 r1) 29
  simp only [List.nil_append, List.cons_append] at H2
  clear H0 q0 q1 q2 H1
  obtain ⟨q0, q1, q2⟩ := HK.out _ H2.below
  go_wp2_with fail
  refine (ag_rof H2 a HA.out).mono ?_
  rw [HO.out.1, HO.out.2]
  rintro e v3 ⟨B2, p2, r2, rfl, H3⟩
  have H4 := H3.boxed (.slice B2 p2 r2) 29
  simp only [List.nil_append, List.cons_append] at H4
  clear H2 q0 q1 q2 H3
  have hc0 := H4.cell 0 rfl
  obtain ⟨q0, q1, q2⟩ := HK.out _ H4.below
  go_wp2_with fail
  refine (ag_pow H4 0 rfl HX.out b).mono ?_
  rw [HPw.out.1, HPw.out.2]
  rintro e v5 ⟨B3, p3, r3, rfl, H5⟩
  have H6 := H5.boxed (.slice B3 p3 r3) 29
  simp only [List.nil_append, List.cons_append] at H6
  clear H4 hc0 q0 q1 q2 H5
  have hc0 := H6.cell 0 rfl
  obtain ⟨q0, q1, q2⟩ := HK.out _ H6.below
  go_wp2_with fail
  refine (ag_rpow H6 0 rfl HX.out b).mono ?_
  rw [HPw.out.1, HPw.out.2]
  rintro e v7 ⟨B4, p4, r4, rfl, H7⟩
  have H8 := H7.boxed (.slice B4 p4 r4) 29
  simp only [List.nil_append, List.cons_append] at H8
  clear H6 hc0 q0 q1 q2 H7
  obtain ⟨q0, q1, q2⟩ := HK.out _ H8.below
  go_wp2_with fail
  refine (ag_cho H8 b d).mono ?_
  rw [HC.out.1, HC.out.2]
  rintro e v9 ⟨B5, p5, r5, rfl, H9⟩
  have H10 := H9.boxed (.slice B5 p5 r5) 29
  simp only [List.nil_append, List.cons_append] at H10
  clear H8 q0 q1 q2 H9
  obtain ⟨q0, q1, q2⟩ := HK.out _ H10.below
  go_wp2_with fail
  refine (ag_rcho H10 b d).mono ?_
  rw [HC.out.1, HC.out.2]
  rintro e v11 ⟨B6, p6, r6, rfl, H11⟩
  have H12 := H11.boxed (.slice B6 p6 r6) 29
  simp only [List.nil_append, List.cons_append] at H12
  clear H10 q0 q1 q2 H11
  go_wp2_with fail
  refine ((HP1.out _).mono fun e w1 hr => got_o H12 HPl.out hr).mono ?_
  rintro e v13 ⟨B7, p7, r7, rfl, H13⟩
  have H14 := H13.boxed (.slice B7 p7 r7) 29
  simp only [List.nil_append, List.cons_append] at H14
  clear H12 H13
  go_wp2_with fail
  refine ((HP2.out _).mono fun e w1 hr => got_o H14 HPl.out hr).mono ?_
  rintro e v15 ⟨B8, p8, r8, rfl, H15⟩
  have H16 := H15.boxed (.slice B8 p8 r8) 29
  simp only [List.nil_append, List.cons_append] at H16
  clear H14 H15
  go_wp2_with fail
  refine (awakeN_any _).mono ?_
  rintro e v90 ⟨rfl, hb⟩
  have K0 := H16.go hb
  clear H16 hb
  have hc0 := K0.cell 1 rfl
  have hc1 := K0.cell 2 rfl
  go_wp2_with fail
  refine (ag_same K0 1 2 rfl rfl).mono ?_
  rintro e v17 ⟨rfl, H17⟩
  clear K0 hc0 hc1
  have hc0 := H17.cell 3 rfl
  have hc1 := H17.cell 4 rfl
  go_wp2_with fail
  refine (ag_same H17 3 4 rfl rfl).mono ?_
  rintro e v18 ⟨rfl, H18⟩
  clear H17 hc0 hc1
  have hc0 := H18.cell 5 rfl
  have hc1 := H18.cell 6 rfl
  go_wp2_with fail
  refine (ag_same H18 5 6 rfl rfl).mono ?_
  rintro e v19 ⟨rfl, H19⟩
  clear H18 hc0 hc1
  have hc0 := H19.cell 7 rfl
  have hc1 := H19.cell 8 rfl
  go_wp2_with fail
  refine (ag_same H19 7 8 rfl rfl).mono ?_
  rintro e v20 ⟨rfl, H20⟩
  clear H19 hc0 hc1
  go_wp2_with fail
  go_ret
  exact ⟨rfl, HB0.out.trans (H20.below.mono (by have := HZ.out; omega))⟩
end Go.Proofs.YtflgfkelbniblaaDoor

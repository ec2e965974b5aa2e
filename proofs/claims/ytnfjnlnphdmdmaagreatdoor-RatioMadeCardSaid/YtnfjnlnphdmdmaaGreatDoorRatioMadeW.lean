/- The law RatioMade. -/
import Derived.Test.YtnfjnlnphdmdmaaGreatDoorRatioRawW
import Derived.Test.YtnfjnlnphdmdmaaGreatDoorQmf
namespace Go.Proofs.YtnfjnlnphdmdmaaGreatDoor
open Go.RowKit Go.Sort
set_option linter.unusedVariables false
set_option maxRecDepth 100000
set_option maxHeartbeats 8000000 in
theorem ratioMade_any (A : Option Addr) (n c : Nat) (ts : List Int) (w : World) (hn : ts.length = n) (hl : n ≤ 9223372036854775807) (hs : Sl w w.heap.size A (ints ts)) (ht : Tab w) :
    Calls Tryz.prog 4 #[.slice A n c] w fun e w' => e = .returned (.bool true) ∧ Below w.heap.size w w' := by
  have HT := Lib.hid ht
  clear ht
  rcases Nat.lt_or_ge 400 n with h400 | h400
  · have HL := Lib.hid (light_no A n c w h400 hl)
    have HA := Lib.hid (awakeQ_any w HT.out)
    clear hs hn h400
    go_enter Tryz.func4, Tryz.ntmps4
    go_wp2_with fail
    refine HL.out.mono ?_
    rintro e w1 ⟨rfl, rfl⟩
    go_wp2_with fail
    refine HA.out.mono ?_
    rintro e w1 ⟨rfl, hb⟩
    have HB := Lib.hid hb
    clear hb HA HL
    go_wp2_with fail
    go_ret
    exact ⟨rfl, HB.out⟩
  · have HL := Lib.hid (light_yes A n c w h400)
    have HRo := Lib.hid (roll_at (St.refl w) A n c w.heap.size ts hn (by omega) (Nat.le_refl _) hs)
    clear hs hn h400 hl
    go_enter Tryz.func4, Tryz.ntmps4
    go_wp2_with fail
    refine HL.out.mono ?_
    rintro e w1 ⟨rfl, rfl⟩
    go_wp2_with fail
    refine HRo.out.mono ?_
    rintro e w2 ⟨g, rfl, HD, HS⟩
    have H2 := Ow.of HS
    clear HL HRo HS
    have HC := Lib.hid (some_ow H2 HD (Nat.le_refl _))
    clear H2
    go_wp2_with fail
    refine HC.out.mono ?_
    rintro e w3 ⟨B1, m1, d1, D1, l1, f1, x, y, rfl, -, -, -, -, hd1, G⟩
    clear HC
    clear HD
    have HC := Lib.hid (some_ow G hd1 (Nat.le_refl _))
    clear G
    go_wp2_with fail
    refine HC.out.mono ?_
    rintro e w4 ⟨B2, m2, d2, D2, l2, f2, u, v, rfl, -, -, -, -, hd2, G⟩
    clear HC
    clear hd1
    have H4 := ((G.pair (.slice B1 m1 d1) (.slice D1 l1 f1) 26).pair (.slice B2 m2 d2) (.slice D2 l2 f2) 26)
    simp only [World.size_alloc, List.nil_append, List.cons_append] at H4
    have hd4 := (hd2.below (own_box1 _ (.cells #[.slice B1 m1 d1, .slice D1 l1 f1] 26))).below (own_box1 _ (.cells #[.slice B2 m2 d2, .slice D2 l2 f2] 26))
    clear G hd2
    have HC := Lib.hid (next_ow H4 hd4 6 (by omega) (by omega))
    clear H4
    go_wp2_with fail
    refine HC.out.mono ?_
    rintro e w5 ⟨r, rfl, hr, hd5, G, -⟩
    clear HC
    clear hd4
    have HD5 := Lib.hid hd5
    have HR := Lib.hid G
    clear hd5 G
    have hcs : r = 0 ∨ r = 1 ∨ 2 ≤ r := by omega
    rcases hcs with h0 | h0 | h0
    · have e0 : ((r : Int) == 0) = true := by rw [h0]; rfl
      have HC := Lib.hid (dnat_ow HR.out HD5.out 2 (by omega))
      clear hr h0
      go_wp2_with fail
      refine HC.out.mono ?_
      rintro e w6 ⟨B3, m3, d3, x3, rfl, -, -, hd6, G⟩
      clear HC HR HD5
      have HC := Lib.hid (dnat_ow G hd6 2 (by omega))
      clear G hd6
      go_wp2_with fail
      refine HC.out.mono ?_
      rintro e w7 ⟨D3, l3, f3, y3, rfl, -, -, -, G⟩
      have Z0 := G.set0 0 rfl (.slice B3 m3 d3)
      simp only [List.set_cons_zero] at Z0
      have H9 := Z0.set1 0 rfl (.slice D3 l3 f3)
      simp only [List.set_cons_zero, List.nil_append, List.cons_append] at H9
      have z0 := G.p0 0 rfl
      have z1 := G.p1 0 rfl
      have g0 := G.pf 0 rfl 0
      have g1 := G.pf 0 rfl 1
      clear G Z0
      clear HC
      obtain ⟨t, hmk⟩ : ∃ t, makeF (Na.up (Na.dig x3)) (Na.up (Na.dig u)) = t := ⟨_, rfl⟩
      have HMk := Lib.hid hmk
      have bt : (t.2.2 == t.2.2) = true := by simp
      clear hmk
      have a0 := H9.p0 0 rfl
      have b0 := H9.p0 1 rfl
      have HC := Lib.hid (qmake_ow (p := Na.up (Na.dig x3)) (q := Na.up (Na.dig u)) H9 4 2 (by rw [nats_up]; rfl) (by rw [nats_up]; rfl) HT.out)
      rw [HMk.out] at HC
      clear H9
      go_wp2_with fail
      refine HC.out.mono ?_
      rintro e w10 ⟨B7, m7, d7, D7, l7, f7, rfl, G⟩
      clear z0 z1 g0 g1 a0 b0 HC
      have H10 := G.pair (.slice B7 m7 d7) (.slice D7 l7 f7) 26
      simp only [List.nil_append, List.cons_append] at H10
      clear G
      have a0 := H10.p0 0 rfl
      have b0 := H10.p0 1 rfl
      have HC := Lib.hid (qrmake_ow (p := Na.up (Na.dig x3)) (q := Na.up (Na.dig u)) H10 4 2 (by rw [nats_up]; rfl) (by rw [nats_up]; rfl))
      rw [HMk.out] at HC
      clear H10
      go_wp2_with fail
      refine HC.out.mono ?_
      rintro e w11 ⟨B8, m8, d8, D8, l8, f8, rfl, G⟩
      clear a0 b0 HC
      have H11 := G.pair (.slice B8 m8 d8) (.slice D8 l8 f8) 26
      simp only [List.nil_append, List.cons_append] at H11
      clear G
      have HC := Lib.hid (awakeQ_low H11 HT.out)
      clear H11
      go_wp2_with fail
      refine HC.out.mono ?_
      rintro e w12 ⟨rfl, G⟩
      clear HC
      have a0 := G.p0 0 rfl
      have a1 := G.p1 0 rfl
      have b0 := G.p0 1 rfl
      have b1 := G.p1 1 rfl
      have HC := Lib.hid (agree02_ow (p := Na.up (Na.dig x3)) (q := Na.up (Na.dig y3)) (r := Na.up (Na.dig u)) (s := Na.up (Na.dig v)) G 4 5 2 3 (by rw [nats_up]; rfl) (by rw [nats_up]; rfl) (by rw [nats_up]; rfl) (by rw [nats_up]; rfl) HT.out)
      clear G
      go_wp2_with fail
      refine HC.out.mono ?_
      rintro e w13 ⟨rfl, G⟩
      clear a0 a1 b0 b1 HC
      have a0 := G.p0 0 rfl
      have a1 := G.p1 0 rfl
      have b0 := G.p0 1 rfl
      have b1 := G.p1 1 rfl
      have HC := Lib.hid (agree02_ow (p := Na.up (Na.dig u)) (q := Na.up (Na.dig v)) (r := Na.up (Na.dig x3)) (s := Na.up (Na.dig y3)) G 2 3 4 5 (by rw [nats_up]; rfl) (by rw [nats_up]; rfl) (by rw [nats_up]; rfl) (by rw [nats_up]; rfl) HT.out)
      clear G
      go_wp2_with fail
      refine HC.out.mono ?_
      rintro e w14 ⟨rfl, G⟩
      clear a0 a1 b0 b1 HC
      have a0 := G.p0 2 rfl
      have a1 := G.p1 2 rfl
      have b0 := G.p0 3 rfl
      have b1 := G.p1 3 rfl
      have HC := Lib.hid (qsame_ow G 6 7 8 9 rfl rfl rfl rfl)
      clear G
      go_wp2_with fail
      refine HC.out.mono ?_
      rintro e w15 ⟨rfl, G⟩
      clear a0 a1 b0 b1 HC
      have HB := Lib.hid G.below
      clear G
      go_wp2_with fail
      go_ret
      exact ⟨rfl, HB.out⟩
    · have e0 : ((r : Int) == 0) = false := by rw [h0]; rfl
      have e1 : ((r : Int) == 1) = true := by rw [h0]; rfl
      have G := HR.out
      have y0 := G.p0 0 rfl
      have y1 := G.p1 0 rfl
      clear HR HD5 hr h0
      have Z0 := G.set0 1 rfl (.slice B1 m1 d1)
      simp only [List.set_cons_succ, List.set_cons_zero] at Z0
      have H9 := Z0.set1 1 rfl (.slice D1 l1 f1)
      simp only [List.set_cons_succ, List.set_cons_zero] at H9
      have z0 := G.p0 1 rfl
      have z1 := G.p1 1 rfl
      have g0 := G.pf 1 rfl 0
      have g1 := G.pf 1 rfl 1
      clear G Z0
      obtain ⟨t, hmk⟩ : ∃ t, makeF (Na.up (Na.dig x)) (Na.up (Na.dig x)) = t := ⟨_, rfl⟩
      have HMk := Lib.hid hmk
      have bt : (t.2.2 == t.2.2) = true := by simp
      clear hmk
      have a0 := H9.p0 0 rfl
      have b0 := H9.p0 1 rfl
      have HC := Lib.hid (qmake_ow (p := Na.up (Na.dig x)) (q := Na.up (Na.dig x)) H9 0 0 (by rw [nats_up]; rfl) (by rw [nats_up]; rfl) HT.out)
      rw [HMk.out] at HC
      clear H9
      go_wp2_with fail
      refine HC.out.mono ?_
      rintro e w10 ⟨B7, m7, d7, D7, l7, f7, rfl, G⟩
      clear z0 z1 g0 g1 y0 y1 a0 b0 HC
      have H10 := G.pair (.slice B7 m7 d7) (.slice D7 l7 f7) 26
      simp only [List.nil_append, List.cons_append] at H10
      clear G
      have a0 := H10.p0 0 rfl
      have b0 := H10.p0 1 rfl
      have HC := Lib.hid (qrmake_ow (p := Na.up (Na.dig x)) (q := Na.up (Na.dig x)) H10 0 0 (by rw [nats_up]; rfl) (by rw [nats_up]; rfl))
      rw [HMk.out] at HC
      clear H10
      go_wp2_with fail
      refine HC.out.mono ?_
      rintro e w11 ⟨B8, m8, d8, D8, l8, f8, rfl, G⟩
      clear a0 b0 HC
      have H11 := G.pair (.slice B8 m8 d8) (.slice D8 l8 f8) 26
      simp only [List.nil_append, List.cons_append] at H11
      clear G
      have HC := Lib.hid (awakeQ_low H11 HT.out)
      clear H11
      go_wp2_with fail
      refine HC.out.mono ?_
      rintro e w12 ⟨rfl, G⟩
      clear HC
      have a0 := G.p0 0 rfl
      have a1 := G.p1 0 rfl
      have b0 := G.p0 1 rfl
      have b1 := G.p1 1 rfl
      have HC := Lib.hid (agree02_ow (p := Na.up (Na.dig x)) (q := Na.up (Na.dig y)) (r := Na.up (Na.dig x)) (s := Na.up (Na.dig y)) G 0 1 0 1 (by rw [nats_up]; rfl) (by rw [nats_up]; rfl) (by rw [nats_up]; rfl) (by rw [nats_up]; rfl) HT.out)
      clear G
      go_wp2_with fail
      refine HC.out.mono ?_
      rintro e w13 ⟨rfl, G⟩
      clear a0 a1 b0 b1 HC
      have a0 := G.p0 0 rfl
      have a1 := G.p1 0 rfl
      have b0 := G.p0 1 rfl
      have b1 := G.p1 1 rfl
      have HC := Lib.hid (agree02_ow (p := Na.up (Na.dig x)) (q := Na.up (Na.dig y)) (r := Na.up (Na.dig x)) (s := Na.up (Na.dig y)) G 0 1 0 1 (by rw [nats_up]; rfl) (by rw [nats_up]; rfl) (by rw [nats_up]; rfl) (by rw [nats_up]; rfl) HT.out)
      clear G
      go_wp2_with fail
      refine HC.out.mono ?_
      rintro e w14 ⟨rfl, G⟩
      clear a0 a1 b0 b1 HC
      have a0 := G.p0 2 rfl
      have a1 := G.p1 2 rfl
      have b0 := G.p0 3 rfl
      have b1 := G.p1 3 rfl
      have HC := Lib.hid (qsame_ow G 4 5 6 7 rfl rfl rfl rfl)
      clear G
      go_wp2_with fail
      refine HC.out.mono ?_
      rintro e w15 ⟨rfl, G⟩
      clear a0 a1 b0 b1 HC
      have HB := Lib.hid G.below
      clear G
      go_wp2_with fail
      go_ret
      exact ⟨rfl, HB.out⟩
    · have e0 : ((r : Int) == 0) = false := by rw [beq_eq_false_iff_ne]; omega
      have e1 : ((r : Int) == 1) = false := by rw [beq_eq_false_iff_ne]; omega
      have G := HR.out
      clear HR HD5 hr h0
      obtain ⟨t, hmk⟩ : ∃ t, makeF (Na.up (Na.dig x)) (Na.up (Na.dig u)) = t := ⟨_, rfl⟩
      have HMk := Lib.hid hmk
      have bt : (t.2.2 == t.2.2) = true := by simp
      clear hmk
      have a0 := G.p0 0 rfl
      have b0 := G.p0 1 rfl
      have HC := Lib.hid (qmake_ow (p := Na.up (Na.dig x)) (q := Na.up (Na.dig u)) G 0 2 (by rw [nats_up]; rfl) (by rw [nats_up]; rfl) HT.out)
      rw [HMk.out] at HC
      clear G
      go_wp2_with fail
      refine HC.out.mono ?_
      rintro e w10 ⟨B7, m7, d7, D7, l7, f7, rfl, G⟩
      clear a0 b0 HC
      have H10 := G.pair (.slice B7 m7 d7) (.slice D7 l7 f7) 26
      simp only [List.nil_append, List.cons_append] at H10
      clear G
      have a0 := H10.p0 0 rfl
      have b0 := H10.p0 1 rfl
      have HC := Lib.hid (qrmake_ow (p := Na.up (Na.dig x)) (q := Na.up (Na.dig u)) H10 0 2 (by rw [nats_up]; rfl) (by rw [nats_up]; rfl))
      rw [HMk.out] at HC
      clear H10
      go_wp2_with fail
      refine HC.out.mono ?_
      rintro e w11 ⟨B8, m8, d8, D8, l8, f8, rfl, G⟩
      clear a0 b0 HC
      have H11 := G.pair (.slice B8 m8 d8) (.slice D8 l8 f8) 26
      simp only [List.nil_append, List.cons_append] at H11
      clear G
      have HC := Lib.hid (awakeQ_low H11 HT.out)
      clear H11
      go_wp2_with fail
      refine HC.out.mono ?_
      rintro e w12 ⟨rfl, G⟩
      clear HC
      have a0 := G.p0 0 rfl
      have a1 := G.p1 0 rfl
      have b0 := G.p0 1 rfl
      have b1 := G.p1 1 rfl
      have HC := Lib.hid (agree02_ow (p := Na.up (Na.dig x)) (q := Na.up (Na.dig y)) (r := Na.up (Na.dig u)) (s := Na.up (Na.dig v)) G 0 1 2 3 (by rw [nats_up]; rfl) (by rw [nats_up]; rfl) (by rw [nats_up]; rfl) (by rw [nats_up]; rfl) HT.out)
      clear G
      go_wp2_with fail
      refine HC.out.mono ?_
      rintro e w13 ⟨rfl, G⟩
      clear a0 a1 b0 b1 HC
      have a0 := G.p0 0 rfl
      have a1 := G.p1 0 rfl
      have b0 := G.p0 1 rfl
      have b1 := G.p1 1 rfl
      have HC := Lib.hid (agree02_ow (p := Na.up (Na.dig u)) (q := Na.up (Na.dig v)) (r := Na.up (Na.dig x)) (s := Na.up (Na.dig y)) G 2 3 0 1 (by rw [nats_up]; rfl) (by rw [nats_up]; rfl) (by rw [nats_up]; rfl) (by rw [nats_up]; rfl) HT.out)
      clear G
      go_wp2_with fail
      refine HC.out.mono ?_
      rintro e w14 ⟨rfl, G⟩
      clear a0 a1 b0 b1 HC
      have a0 := G.p0 2 rfl
      have a1 := G.p1 2 rfl
      have b0 := G.p0 3 rfl
      have b1 := G.p1 3 rfl
      have HC := Lib.hid (qsame_ow G 4 5 6 7 rfl rfl rfl rfl)
      clear G
      go_wp2_with fail
      refine HC.out.mono ?_
      rintro e w15 ⟨rfl, G⟩
      clear a0 a1 b0 b1 HC
      have HB := Lib.hid G.below
      clear G
      go_wp2_with fail
      go_ret
      exact ⟨rfl, HB.out⟩
end Go.Proofs.YtnfjnlnphdmdmaaGreatDoor

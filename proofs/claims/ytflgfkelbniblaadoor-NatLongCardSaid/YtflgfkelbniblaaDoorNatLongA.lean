/- The law NatLong. -/
import Derived.Test.YtflgfkelbniblaaDoorNatV
import Derived.Test.YtflgfkelbniblaaDoorNatL
namespace Go.Proofs.YtflgfkelbniblaaDoor
open Go.RowKit
set_option linter.unusedVariables false
set_option maxRecDepth 100000
theorem layLong : Lay 2 (fun i => 4 * i + 3) (fun i => 8 + i) (fun i => 10 + i) := ⟨fun i j _ _ h => by omega, fun i j _ _ h => by omega, fun i j _ _ h => by omega, fun i j _ _ => by omega, fun i j _ _ => by omega, fun i j _ _ => by omega⟩
def LongI (w0 : World) (g B lb : Nat) (a0 a1 : Int) (A0 : Act) (L : Nat → Bool) (a : Act) (W : World) : Prop :=
  ∃ (u22 u23 u24 u25 u26 u27 u28 u29 u6 u7 : Value) (M : List (Nat × Value)) (Ls : List Ob),
    a = (((((((((A0.put (some 22) u22).put (some 23) u23).put (some 24) u24).put (some 25) u25).put (some 26) u26).put (some 27) u27).put (some 28) u28).put (some 29) u29).put (some 6) u6).put (some 7) u7 ∧
    VInv w0 g B 2 (fun i => 4 * i + 3) (fun i => 8 + i) (fun i => 10 + i) (fun _ x => x < Na.top) L [u25, u29] [u6, u7] W M Ls ∧
    (L 0 = true → u22 = .pointer (some ⟨g, 0, none⟩)) ∧ (L 1 = true → u23 = .pointer (some ⟨lb, 0, none⟩)) ∧ (L 2 = true → u24 = .int .i64 a0) ∧ (L 4 = true → u26 = .pointer (some ⟨g, 0, none⟩)) ∧ (L 5 = true → u27 = .pointer (some ⟨lb, 1, none⟩)) ∧ (L 6 = true → u28 = .int .i64 a1)
set_option maxHeartbeats 4000000 in
theorem natLong_any (a0 a1 : Int) (A : Option Addr) (n c : Nat) (ts : List Int) (w : World) (hn : ts.length = n) (hl : n ≤ 9223372036854775807) (hs : Sl w w.heap.size A (ints ts)) :
    Calls Tryd.prog 3 #[.agg #[.int .i64 a0, .int .i64 a1], .slice A n c] w fun e w' => e = .returned (.bool true) ∧ Below w.heap.size w w' := by
  rcases Nat.lt_or_ge 400 n with h400 | h400
  · have HL := Lib.hid (light_no A n c (w.alloc (.cells #[.int .i64 a0, .int .i64 a1] 22)) h400 hl)
    clear hs hn h400
    go_enter Tryd.func3, Tryd.ntmps3
    go_wp2_with fail
    refine HL.out.mono ?_
    rintro e w1 ⟨rfl, rfl⟩
    go_wp2_with fail
    refine (awakeN_any _).mono ?_
    rintro e w1 ⟨rfl, hb⟩
    have HB := Lib.hid (btr (own_box1 w _) hb)
    clear hb
    go_wp2_with fail
    go_ret
    exact ⟨rfl, HB.out⟩
  · have HL := Lib.hid (light_yes A n c (w.alloc (.cells #[.int .i64 a0, .int .i64 a1] 22)) h400)
    obtain ⟨w0, hw0⟩ : ∃ w0, w.alloc (.cells #[.int .i64 a0, .int .i64 a1] 22) = w0 := ⟨_, rfl⟩
    have HW : Hid (w.alloc (.cells #[.int .i64 a0, .int .i64 a1] 22) = w0) := hw0
    have HB0 : Hid (Below w.heap.size w w0) := by rw [← hw0]; exact own_box1 w _
    have hx0 : w0.cell? ⟨w.heap.size, 0, none⟩ = some (.int .i64 a0) := by rw [← hw0]; simp [go_sem]
    have hx1 : w0.cell? ⟨w.heap.size, 1, none⟩ = some (.int .i64 a1) := by rw [← hw0]; simp [go_sem]
    have hsz0 : w.heap.size + 1 ≤ w0.heap.size := by rw [← hw0]; simp
    have HRo := Lib.hid (roll_at (St.refl w0) A n c w.heap.size ts hn (by omega) (by omega) (hs.below HB0.out))
    rw [hw0] at HL
    clear hs hn h400 hl hw0
    go_enter Tryd.func3, Tryd.ntmps3
    go_wp2_with fail
    rw [HW.out]
    refine HL.out.mono ?_
    rintro e w1 ⟨rfl, rfl⟩
    go_wp2_with fail
    refine HRo.out.mono ?_
    rintro e w2 ⟨g, rfl, HD, HS⟩
    have HK : Hid (∀ W M Ls, St w0 W (some g) M Ls → W.cell? ⟨w.heap.size, 0, none⟩ = some (.int .i64 a0) ∧ W.cell? ⟨w.heap.size, 1, none⟩ = some (.int .i64 a1)) := fun W M Ls h =>
      ⟨(h.below.cell (p := ⟨w.heap.size, 0, none⟩) (by simp only; omega)).trans hx0, (h.below.cell (p := ⟨w.heap.size, 1, none⟩) (by simp only; omega)).trans hx1⟩
    obtain ⟨lb, hlb⟩ : ∃ lb, w.heap.size = lb := ⟨_, rfl⟩
    have HV : Hid (∀ us ps, us.length = 2 → ps.length = 2 → VInv w0 g lb 2 (fun i => 4 * i + 3) (fun i => 8 + i) (fun i => 10 + i) (fun _ x => x < Na.top) (fun _ => false) us ps w2.drew [] []) := fun us ps h1 h2 => VInv.start (HS.go (Below.refl _ _).drew) (by rw [← hlb]; exact HD.drew) (by omega) h1 h2
    rw [hlb] at hx0 hx1 HK
    clear HW HL HRo hx0 hx1
    go_wp2_with fail
    refine reg_inv2 (LongI w0 g lb lb a0 a1) (by kernel_rfl) (by kernel_rfl) ?_ ?_ ?_
    · refine ⟨undef, undef, undef, undef, undef, undef, undef, undef, undef, undef, [], [], ?_, HV.out _ _ rfl rfl, ?_, ?_, ?_, ?_, ?_, ?_⟩
      · simp only [Act.put, List.setIfInBounds_toArray, List.set_cons_zero, List.set_cons_succ]
      all_goals (intro h; cases h)
    · rintro j L b W hj hf hd ⟨u22, u23, u24, u25, u26, u27, u28, u29, u6, u7, M, Ls, rfl, hV, h0, h1, h2, h4, h5, h6⟩
      have hj' : j < 12 := hj
      have hcase : j = 0 ∨ j = 1 ∨ j = 2 ∨ j = 3 ∨ j = 4 ∨ j = 5 ∨ j = 6 ∨ j = 7 ∨ j = 8 ∨ j = 9 ∨ j = 10 ∨ j = 11 := by omega
      obtain ⟨hca, hcb⟩ := HK.out _ _ _ hV.st
      clear hj hj' HD HS HV HK
      simp only [Act.put, List.setIfInBounds_toArray, List.set_cons_zero, List.set_cons_succ]
      rcases hcase with rfl | rfl | rfl | rfl | rfl | rfl | rfl | rfl | rfl | rfl | rfl | rfl
      · clear hd
        refine wpOp_step rfl (fun K hK => ?_)
        go_simp
        refine hK _ _ ⟨_, _, _, u25, _, _, _, u29, u6, u7, M, Ls, ?_, hV.other 0 (by intros; omega) (by intros; omega) (by intros; omega), fun _ => rfl, h1, h2, h4, h5, h6⟩
        simp only [Act.put, List.setIfInBounds_toArray, List.set_cons_zero, List.set_cons_succ]
      · clear hd
        refine wpOp_step rfl (fun K hK => ?_)
        go_simp
        refine hK _ _ ⟨_, _, _, u25, _, _, _, u29, u6, u7, M, Ls, ?_, hV.other 1 (by intros; omega) (by intros; omega) (by intros; omega), h0, fun _ => rfl, h2, h4, h5, h6⟩
        simp only [Act.put, List.setIfInBounds_toArray, List.set_cons_zero, List.set_cons_succ]
      · obtain rfl := h1 (hd 1 (by kernel_rfl))
        clear hd
        refine wpOp_step rfl (fun K hK => ?_)
        go_simp
        refine hK _ _ ⟨_, _, _, u25, _, _, _, u29, u6, u7, M, Ls, ?_, hV.other 2 (by intros; omega) (by intros; omega) (by intros; omega), h0, h1, fun _ => rfl, h4, h5, h6⟩
        simp only [Act.put, List.setIfInBounds_toArray, List.set_cons_zero, List.set_cons_succ]
      · obtain rfl := h0 (hd 0 (by kernel_rfl))
        obtain rfl := h2 (hd 2 (by kernel_rfl))
        clear hd
        refine wpOp_step rfl (fun K hK => ?_)
        go_simp
        refine (long_any g lb _ W hV.dice).mono ?_
        rintro e W' ⟨A1, n1, c1, x1, rfl, q1, q2, q3, q4, q5⟩
        have hlen := (Na.dig_200 x1).2 q2
        refine hK _ _ ⟨_, _, _, _, _, _, _, u29, u6, u7, M, _, ?_, hV.call layLong 0 (by omega) hf q1 q2 (by omega) q3 q4 q5, h0, h1, h2, h4, h5, h6⟩
        simp only [Act.put, List.setIfInBounds_toArray, List.set_cons_zero, List.set_cons_succ]
      · clear hd
        refine wpOp_step rfl (fun K hK => ?_)
        go_simp
        refine hK _ _ ⟨_, _, _, u25, _, _, _, u29, u6, u7, M, Ls, ?_, hV.other 4 (by intros; omega) (by intros; omega) (by intros; omega), h0, h1, h2, fun _ => rfl, h5, h6⟩
        simp only [Act.put, List.setIfInBounds_toArray, List.set_cons_zero, List.set_cons_succ]
      · clear hd
        refine wpOp_step rfl (fun K hK => ?_)
        go_simp
        refine hK _ _ ⟨_, _, _, u25, _, _, _, u29, u6, u7, M, Ls, ?_, hV.other 5 (by intros; omega) (by intros; omega) (by intros; omega), h0, h1, h2, h4, fun _ => rfl, h6⟩
        simp only [Act.put, List.setIfInBounds_toArray, List.set_cons_zero, List.set_cons_succ]
      · obtain rfl := h5 (hd 5 (by kernel_rfl))
        clear hd
        refine wpOp_step rfl (fun K hK => ?_)
        go_simp
        refine hK _ _ ⟨_, _, _, u25, _, _, _, u29, u6, u7, M, Ls, ?_, hV.other 6 (by intros; omega) (by intros; omega) (by intros; omega), h0, h1, h2, h4, h5, fun _ => rfl⟩
        simp only [Act.put, List.setIfInBounds_toArray, List.set_cons_zero, List.set_cons_succ]
      · obtain rfl := h4 (hd 4 (by kernel_rfl))
        obtain rfl := h6 (hd 6 (by kernel_rfl))
        clear hd
        refine wpOp_step rfl (fun K hK => ?_)
        go_simp
        refine (long_any g lb _ W hV.dice).mono ?_
        rintro e W' ⟨A1, n1, c1, x1, rfl, q1, q2, q3, q4, q5⟩
        have hlen := (Na.dig_200 x1).2 q2
        refine hK _ _ ⟨_, _, _, u25, _, _, _, _, u6, u7, M, _, ?_, hV.call layLong 1 (by omega) hf q1 q2 (by omega) q3 q4 q5, h0, h1, h2, h4, h5, h6⟩
        simp only [Act.put, List.setIfInBounds_toArray, List.set_cons_zero, List.set_cons_succ]
      · have hs0 : L 10 = false := by
          cases e : L 10 with
          | false => rfl
          | true => have := (hV.ord 0 (by omega) e).2; rw [hf] at this; cases this
        clear hd
        refine wpOp_step rfl (fun K hK => ?_)
        go_simp
        refine hK _ _ ⟨_, _, _, u25, _, _, _, u29, _, u7, _, Ls, ?_, hV.alloc layLong 0 (by omega) hf hs0 _, h0, h1, h2, h4, h5, h6⟩
        simp only [Act.put, List.setIfInBounds_toArray, List.set_cons_zero, List.set_cons_succ]
      · have hs0 : L 11 = false := by
          cases e : L 11 with
          | false => rfl
          | true => have := (hV.ord 1 (by omega) e).2; rw [hf] at this; cases this
        clear hd
        refine wpOp_step rfl (fun K hK => ?_)
        go_simp
        refine hK _ _ ⟨_, _, _, u25, _, _, _, u29, u6, _, _, Ls, ?_, hV.alloc layLong 1 (by omega) hf hs0 _, h0, h1, h2, h4, h5, h6⟩
        simp only [Act.put, List.setIfInBounds_toArray, List.set_cons_zero, List.set_cons_succ]
      · obtain ⟨b, A1, n1, c1, x1, rfl, rfl, hx, hc0, hfz, hV'⟩ := hV.store layLong 0 (by omega) hf (hd 3 (by kernel_rfl)) (hd 8 (by kernel_rfl)) rfl rfl
        clear hd
        refine wpOp_step rfl (fun K hK => ?_)
        go_simp
        refine hK _ _ ⟨_, _, _, _, _, _, _, u29, _, u7, _, Ls, ?_, hV', h0, h1, h2, h4, h5, h6⟩
        simp only [Act.put, List.setIfInBounds_toArray, List.set_cons_zero, List.set_cons_succ]
      · obtain ⟨b, A1, n1, c1, x1, rfl, rfl, hx, hc0, hfz, hV'⟩ := hV.store layLong 1 (by omega) hf (hd 7 (by kernel_rfl)) (hd 9 (by kernel_rfl)) rfl rfl
        clear hd
        refine wpOp_step rfl (fun K hK => ?_)
        go_simp
        refine hK _ _ ⟨_, _, _, u25, _, _, _, _, u6, _, _, Ls, ?_, hV', h0, h1, h2, h4, h5, h6⟩
        simp only [Act.put, List.setIfInBounds_toArray, List.set_cons_zero, List.set_cons_succ]
    · rintro L b W hL ⟨u22, u23, u24, u25, u26, u27, u28, u29, u6, u7, M, Ls, rfl, hV, h0, h1, h2, h4, h5, h6⟩
      have hL' : ∀ i, i < 12 → L i = true := hL
      obtain ⟨A1, A2, n1, c1, x1, n2, c2, x2, b1, b2, hp, hx1, hx2, -, HS2⟩ := hV.finish2 (fun i hi => ⟨hL' _ (by omega), hL' _ (by omega), hL' _ (by omega)⟩)
      obtain ⟨rfl, rfl⟩ : u6 = .pointer (some ⟨b1, 0, none⟩) ∧ u7 = .pointer (some ⟨b2, 0, none⟩) := by simpa using hp
      have HX1 := Lib.hid hx1
      have HX2 := Lib.hid hx2
      have HLb : Hid (Below w.heap.size w W) := HB0.out.trans (HS2.below.mono (by omega))
      clear hL hL' hp hV h0 h1 h2 h4 h5 h6 HD HS HV HK hx1 hx2
      simp only [Act.put, List.setIfInBounds_toArray, List.set_cons_zero, List.set_cons_succ]
      have hc1 := HS2.cell 0 rfl
      have hc2 := HS2.cell 1 rfl
      go_wp2_with fail
      refine (add_st HS2 0 1 rfl rfl HX1.out HX2.out).mono ?_
      rintro e w3 ⟨A3, n3, c3, rfl, HS3, -⟩
      have HS4 := HS3.boxed (.slice A3 n3 c3) 29
      clear HS2 HS3 hc1 hc2
      have hc1 := HS4.cell 0 rfl
      have hc2 := HS4.cell 1 rfl
      go_wp2_with fail
      refine (radd_st HS4 0 1 rfl rfl HX1.out HX2.out).mono ?_
      rintro e w4 ⟨A4, n4, c4, rfl, HS5, -⟩
      have HS6 := HS5.boxed (.slice A4 n4 c4) 29
      clear HS4 HS5 hc1 hc2
      have hc1 := HS6.cell 0 rfl
      have hc2 := HS6.cell 1 rfl
      go_wp2_with fail
      refine (mul_st HS6 0 1 rfl rfl HX1.out HX2.out).mono ?_
      rintro e w5 ⟨A5, n5, c5, rfl, HS7, -⟩
      have HS8 := HS7.boxed (.slice A5 n5 c5) 29
      clear HS6 HS7 hc1 hc2
      have hc1 := HS8.cell 0 rfl
      have hc2 := HS8.cell 1 rfl
      go_wp2_with fail
      refine (rmul_st HS8 0 1 rfl rfl HX1.out HX2.out).mono ?_
      rintro e w6 ⟨A6, n6, c6, rfl, HS9, -⟩
      have HSa := HS9.boxed (.slice A6 n6 c6) 29
      clear HS8 HS9 hc1 hc2
      go_wp2_with fail
      refine (awakeN_any _).mono ?_
      rintro e w7 ⟨rfl, hb⟩
      have HSb := HSa.go hb
      clear HSa hb
      have hd1 := HSb.cell 2 rfl
      have hd2 := HSb.cell 3 rfl
      go_wp2_with fail
      refine (same_st HSb 2 3 rfl rfl rfl).mono ?_
      rintro e w8 ⟨rfl, HSc⟩
      clear HSb hd1 hd2
      have hd1 := HSc.cell 4 rfl
      have hd2 := HSc.cell 5 rfl
      go_wp2_with fail
      refine (same_st HSc 4 5 rfl rfl rfl).mono ?_
      rintro e w9 ⟨rfl, HSd⟩
      clear HSc hd1 hd2
      go_wp2_with fail
      go_ret
      exact ⟨rfl, HB0.out.trans (HSd.below.mono (by omega))⟩
end Go.Proofs.YtflgfkelbniblaaDoor

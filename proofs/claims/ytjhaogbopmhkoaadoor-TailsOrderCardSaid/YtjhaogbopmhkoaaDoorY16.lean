/- Wq Ag NPow -/
import Derived.Test.YtjhaogbopmhkoaaDoorY02
import Derived.Test.YtjhaogbopmhkoaaDoorY03
import Derived.Test.YtjhaogbopmhkoaaDoorY04
import Derived.Test.YtjhaogbopmhkoaaDoorY05
import Derived.Test.YtjhaogbopmhkoaaDoorY06
import Derived.Test.YtjhaogbopmhkoaaDoorY09
import Derived.Test.YtjhaogbopmhkoaaDoorY10
import Derived.Test.YtjhaogbopmhkoaaDoorY12
import Derived.Test.YtjhaogbopmhkoaaDoorY14
import Derived.Test.YtjhaogbopmhkoaaDoorY15
import Derived.BigQuiet
namespace Go.Proofs.YtjhaogbopmhkoaaDoor
open Go.RowKit
set_option linter.unusedVariables false
set_option maxRecDepth 100000
def GcdI (w1 : World) (b : Nat) (A A2 : Option Addr) (n c m c2 x y : Nat) (A0 : Act) (L : Nat → Bool) (a : Act) (W : World) : Prop :=
  ∃ (u30 u31 u32 u33 u34 u35 u36 u37 u38 u5 : Value) (W1 : World) (g1 N1 g2 N2 : Nat) (p1 p2 : List Nat) (g' o' n' c' : Nat) (A3 : Option Addr) (n3 c3 : Nat),
    a = ((((((((((A0.put (some 30) u30).put (some 31) u31).put (some 32) u32).put (some 33) u33).put (some 34) u34).put (some 35) u35).put (some 36) u36).put (some 37) u37).put (some 38) u38).put (some 5) u5) ∧
    Below w1.heap.size w1 W1 ∧ (L 9 = false → W = W1) ∧ (L 9 = true → W = W1.setCell ⟨b + 1 + 1, 0, none⟩ (.slice A3 n3 c3)) ∧
    (L 0 = true → u30 = .pointer (some ⟨b, 0, none⟩)) ∧ (L 1 = true → u31 = .slice A n c) ∧
    (L 2 = true → u32 = .slice (some ⟨g1, 0, none⟩) N1 N1 ∧ N1 ≤ 100 ∧ (L 6 = false → Wn W1 w1.heap.size g1 0 N1 N1 p1 ∧ Wo.val p1 = x)) ∧
    (L 3 = true → u33 = .pointer (some ⟨b + 1, 0, none⟩)) ∧ (L 4 = true → u34 = .slice A2 m c2) ∧
    (L 5 = true → u35 = .slice (some ⟨g2, 0, none⟩) N2 N2 ∧ N2 ≤ 100 ∧ (L 6 = false → Wn W1 w1.heap.size g2 0 N2 N2 p2 ∧ Wo.val p2 = y)) ∧
    (L 2 = true → L 5 = true → g1 ≠ g2) ∧
    (L 6 = true → u36 = .slice (some ⟨g', o', none⟩) n' c' ∧ Wn W1 w1.heap.size g' o' n' c' (Wo.dig (Nat.gcd x y))) ∧
    (L 7 = true → u37 = .slice A3 n3 c3 ∧ (Na.dig (Nat.gcd x y)).length = n3 ∧ W1.ownsRow w1.heap.size 3 1 (.slice A3 n3 c3) n3 (nats (Na.dig (Nat.gcd x y)))) ∧
    (L 8 = true → u38 = .agg #[.slice A3 n3 c3]) ∧ (L 10 = true → u5 = .int .i64 0)
set_option maxHeartbeats 4000000 in
theorem nGcd_pos (A A2 : Option Addr) (n c m c2 : Nat) (x y : Nat) (w : World) (hn : (Na.dig x).length = n) (hm : (Na.dig y).length = m) (hs : Sl w w.heap.size A (nats (Na.dig x))) (hs2 : Sl w w.heap.size A2 (nats (Na.dig y))) (hx : x < Na.top) (hy : y < Na.top) (hx0 : 0 < x) (hy0 : 0 < y) (ht : Tab w) :
    Calls Tryd.prog 88 #[.agg #[.slice A n c], .agg #[.slice A2 m c2]] w (ResN w (Na.dig (Nat.gcd x y)) 0) := by
  have hn2 : n ≤ 200 := by rw [← hn]; exact (Na.dig_200 x).2 hx
  have hm2 : m ≤ 200 := by rw [← hm]; exact (Na.dig_200 y).2 hy
  have hnp : 0 < n := by
    rcases Nat.eq_zero_or_pos n with h | h
    · rw [h] at hn; have := Na.dig_len0.1 hn; omega
    · exact h
  have hmp : 0 < m := by
    rcases Nat.eq_zero_or_pos m with h | h
    · rw [h] at hm; have := Na.dig_len0.1 hm; omega
    · exact h
  have hn0 : ((n : Int) == 0) = false := by rw [beq_eq_false_iff_ne]; omega
  have hm0 : ((m : Int) == 0) = false := by rw [beq_eq_false_iff_ne]; omega
  obtain ⟨w0, hw0⟩ : ∃ w0, ((w.alloc (.cells #[.slice A n c] 24)).alloc (.cells #[.slice A2 m c2] 24)).alloc (.cells #[.slice none 0 0] 24) = w0 := ⟨_, rfl⟩
  have HW : Hid (((w.alloc (.cells #[.slice A n c] 24)).alloc (.cells #[.slice A2 m c2] 24)).alloc (.cells #[.slice none 0 0] 24) = w0) := hw0
  obtain ⟨b, hb⟩ : ∃ b, w.heap.size = b := ⟨_, rfl⟩
  have hb0 : Below w.heap.size w w0 := by rw [← hw0]; exact bal (bal (bal (Below.refl _ _) _) _) _
  have hzw : b + 3 ≤ w0.heap.size := by rw [← hw0, ← hb]; simp
  have k0 : w0.cell? ⟨b, 0, none⟩ = some (.slice A n c) := by rw [← hw0, ← hb]; simp [go_sem]
  have k1 : w0.cell? ⟨b + 1, 0, none⟩ = some (.slice A2 m c2) := by rw [← hw0, ← hb]; simp [go_sem]
  have k2 : w0.cell? ⟨b + 1 + 1, 0, none⟩ = some (.slice none 0 0) := by rw [← hw0, ← hb]; simp [go_sem]
  have f2 : w0.frozen? ⟨b + 1 + 1, 0, none⟩ = false := by rw [← hw0, ← hb]; simp [go_sem]
  have hvv : (Na.vld (Na.up (Na.dig x)) && Na.vld (Na.up (Na.dig y))) = true := by rw [Na.vld_dig hx, Na.vld_dig hy]; rfl
  have HV := Lib.hid (nboth_any A A2 n c m c2 w0.heap.size _ _ w0 (by rw [Na.up_length]; exact hn) (by rw [Na.up_length]; exact hm) (by rw [nats_up]; exact (hs.below hb0).more hb0.size) (by rw [nats_up]; exact (hs2.below hb0).more hb0.size) (Nat.le_refl _) (by omega) (by omega))
  rw [hvv] at HV
  have HN := Lib.hid hn
  have HM := Lib.hid hm
  have HS := Lib.hid hs
  have HS2 := Lib.hid hs2
  have HB0 := Lib.hid hb0
  have HX := Lib.hid (And.intro hx0 hy0)
  have HL := Lib.hid (And.intro hn2 hm2)
  have HP := Lib.hid (And.intro hnp hmp)
  have HBw := Lib.hid hb
  have HT := Lib.hid ht
  clear hs hs2 hn hm hw0 hvv hx hy hb hb0 hx0 hy0 hn2 hm2 hnp hmp ht
  go_enter Tryd.func88, Tryd.ntmps88
  go_wp2_with fail
  rw [HW.out, HBw.out]
  refine HV.out.mono ?_
  rintro e w1 ⟨rfl, hb1⟩
  replace k0 := (hb1.cell (p := ⟨b, 0, none⟩) (by simp only; omega)).trans k0
  replace k1 := (hb1.cell (p := ⟨b + 1, 0, none⟩) (by simp only; omega)).trans k1
  replace k2 := (hb1.cell (p := ⟨b + 1 + 1, 0, none⟩) (by simp only; omega)).trans k2
  replace f2 := (hb1.frozen (p := ⟨b + 1 + 1, 0, none⟩) (by simp only; omega)).trans f2
  have HB1 := Lib.hid (btr HB0.out hb1)
  have hzw1 : b + 3 ≤ w1.heap.size := Nat.le_trans hzw hb1.size
  clear hb1 HV HW hzw
  go_upto_region 7 with (fail)
  have HK : Hid (∀ W, Below w1.heap.size w1 W → W.cell? ⟨b, 0, none⟩ = some (.slice A n c) ∧ W.cell? ⟨b + 1, 0, none⟩ = some (.slice A2 m c2) ∧ W.cell? ⟨b + 1 + 1, 0, none⟩ = some (.slice none 0 0) ∧ W.frozen? ⟨b + 1 + 1, 0, none⟩ = false) := fun W h =>
    ⟨(h.cell (p := ⟨b, 0, none⟩) (by simp only; omega)).trans k0, (h.cell (p := ⟨b + 1, 0, none⟩) (by simp only; omega)).trans k1, (h.cell (p := ⟨b + 1 + 1, 0, none⟩) (by simp only; omega)).trans k2, (h.frozen (p := ⟨b + 1 + 1, 0, none⟩) (by simp only; omega)).trans f2⟩
  have HZ := Lib.hid hzw1
  clear k0 k1 k2 f2 hn0 hm0 hzw1
  refine reg_inv3 (GcdI w1 b A A2 n c m c2 x y) (by kernel_rfl) (by kernel_rfl) ?_ ?_ ?_
  · refine ⟨undef, undef, undef, undef, undef, undef, undef, undef, undef, .int .i64 0, w1.drew, 0, 0, 0, 0, [], [], 0, 0, 0, 0, none, 0, 0, ?_, (Below.refl _ _).drew, fun _ => rfl, ?_, ?_, ?_, ?_, ?_, ?_, ?_, ?_, ?_, ?_, ?_, ?_⟩
    · simp only [Act.put, List.setIfInBounds_toArray, List.set_cons_zero, List.set_cons_succ]
    all_goals (intro h; cases h)
  · rintro j L a W hj hf hcl hd ⟨u30, u31, u32, u33, u34, u35, u36, u37, u38, u5, W1, g1, N1, g2, N2, p1, p2, g', o', n', c', A3, n3, c3, rfl, hb, hW0, hW9, h0, h1, h2, h3, h4, h5, hne, h6, h7, h8, h10⟩
    have hj' : j < 11 := hj
    have hcase : j = 0 ∨ j = 1 ∨ j = 2 ∨ j = 3 ∨ j = 4 ∨ j = 5 ∨ j = 6 ∨ j = 7 ∨ j = 8 ∨ j = 9 ∨ j = 10 := by omega
    have c8 : L 9 = true → L 8 = true := fun e => hcl 9 8 e (by kernel_rfl)
    have c7 : L 8 = true → L 7 = true := fun e => hcl 8 7 e (by kernel_rfl)
    have c6 : L 7 = true → L 6 = true := fun e => hcl 7 6 e (by kernel_rfl)
    have c5 : L 6 = true → L 5 = true := fun e => hcl 6 5 e (by kernel_rfl)
    have c2' : L 6 = true → L 2 = true := fun e => hcl 6 2 e (by kernel_rfl)
    have c4 : L 5 = true → L 4 = true := fun e => hcl 5 4 e (by kernel_rfl)
    have c3' : L 4 = true → L 3 = true := fun e => hcl 4 3 e (by kernel_rfl)
    have c1' : L 2 = true → L 1 = true := fun e => hcl 2 1 e (by kernel_rfl)
    have c0' : L 1 = true → L 0 = true := fun e => hcl 1 0 e (by kernel_rfl)
    clear hj hj' hcl
    simp only [Act.put, List.setIfInBounds_toArray, List.set_cons_zero, List.set_cons_succ]
    have nott : ∀ {u : Bool}, u = false → u = true → False := fun h1 h2 => by rw [h1] at h2; cases h2
    rcases hcase with rfl | rfl | rfl | rfl | rfl | rfl | rfl | rfl | rfl | rfl | rfl
    · have h9 : L 9 = false := by
        cases e : L 9 with
        | false => rfl
        | true => exact (nott hf (c0' (c1' (c2' (c6 (c7 (c8 e))))))).elim
      obtain rfl := hW0 h9
      clear hd
      refine wpOp_step rfl (fun K hK => ?_)
      go_simp
      refine hK _ _ ⟨_, u31, u32, u33, u34, u35, u36, u37, u38, u5, _, g1, N1, g2, N2, p1, p2, g', o', n', c', A3, n3, c3, ?_, hb, fun _ => rfl, fun e => (nott h9 e).elim, fun _ => rfl, h1, h2, h3, h4, h5, hne, h6, h7, h8, h10⟩
      simp only [Act.put, List.setIfInBounds_toArray, List.set_cons_zero, List.set_cons_succ]
    · have h9 : L 9 = false := by
        cases e : L 9 with
        | false => rfl
        | true => exact (nott hf (c1' (c2' (c6 (c7 (c8 e)))))).elim
      obtain rfl := hW0 h9
      obtain rfl := h0 (hd 0 (by kernel_rfl))
      obtain ⟨ca, -, -, -⟩ := HK.out _ hb
      clear hd
      refine wpOp_step rfl (fun K hK => ?_)
      go_simp
      refine hK _ _ ⟨_, _, u32, u33, u34, u35, u36, u37, u38, u5, _, g1, N1, g2, N2, p1, p2, g', o', n', c', A3, n3, c3, ?_, hb, fun _ => rfl, fun e => (nott h9 e).elim, h0, fun _ => rfl, h2, h3, h4, h5, hne, h6, h7, h8, h10⟩
      simp only [Act.put, List.setIfInBounds_toArray, List.set_cons_zero, List.set_cons_succ]
    · have h9 : L 9 = false := by
        cases e : L 9 with
        | false => rfl
        | true => exact (nott hf (c2' (c6 (c7 (c8 e))))).elim
      obtain rfl := hW0 h9
      obtain rfl := h1 (hd 1 (by kernel_rfl))
      have h6f : L 6 = false := by
        cases e : L 6 with
        | false => rfl
        | true => exact (nott hf (c2' e)).elim
      clear hd
      refine wpOp_step rfl (fun K hK => ?_)
      go_simp
      refine (npack_any A n c (Na.dig x) W HN.out (((HS.out.below (btr HB1.out hb)).more (Nat.le_trans HB1.out.size hb.size))) (Na.dig_lim x) (by have := HL.out; omega) HP.out.1).mono ?_
      rintro e Wn ⟨gn, Nn, pn, rfl, hwn, hvn, hNn, hbn⟩
      rw [Na.val_dig] at hvn
      refine hK _ _ ⟨u30, _, _, u33, u34, u35, u36, u37, u38, u5, _, gn, Nn, g2, N2, pn, p2, g', o', n', c', A3, n3, c3, ?_, btr hb hbn, fun _ => rfl, fun e => (nott h9 e).elim, h0, h1, fun _ => ⟨rfl, by have := HL.out; omega, fun _ => ⟨⟨hwn.len, hwn.cap, hwn.big, hwn.cbig, ⟨Nat.le_trans hb.size hwn.blk.1, hwn.blk.2⟩, hwn.cel, hwn.frz, hwn.lim⟩, hvn⟩⟩, h3, h4, fun e => ⟨(h5 e).1, (h5 e).2.1, fun e6 => ⟨((h5 e).2.2 e6).1.below hbn, ((h5 e).2.2 e6).2⟩⟩, fun _ e => fun e2 => by have := ((h5 e).2.2 h6f).1.blk.2; have := hwn.blk.1; omega, fun e => (nott h6f e).elim, fun e => (nott h6f (c6 e)).elim, h8, h10⟩
      simp only [Act.put, List.setIfInBounds_toArray, List.set_cons_zero, List.set_cons_succ]
    · have h9 : L 9 = false := by
        cases e : L 9 with
        | false => rfl
        | true => exact (nott hf (c3' (c4 (c5 (c6 (c7 (c8 e))))))).elim
      obtain rfl := hW0 h9
      clear hd
      refine wpOp_step rfl (fun K hK => ?_)
      go_simp
      refine hK _ _ ⟨u30, u31, u32, _, u34, u35, u36, u37, u38, u5, _, g1, N1, g2, N2, p1, p2, g', o', n', c', A3, n3, c3, ?_, hb, fun _ => rfl, fun e => (nott h9 e).elim, h0, h1, h2, fun _ => rfl, h4, h5, hne, h6, h7, h8, h10⟩
      simp only [Act.put, List.setIfInBounds_toArray, List.set_cons_zero, List.set_cons_succ]
    · have h9 : L 9 = false := by
        cases e : L 9 with
        | false => rfl
        | true => exact (nott hf (c4 (c5 (c6 (c7 (c8 e)))))).elim
      obtain rfl := hW0 h9
      obtain rfl := h3 (hd 3 (by kernel_rfl))
      obtain ⟨-, ca, -, -⟩ := HK.out _ hb
      clear hd
      refine wpOp_step rfl (fun K hK => ?_)
      go_simp
      refine hK _ _ ⟨u30, u31, u32, _, _, u35, u36, u37, u38, u5, _, g1, N1, g2, N2, p1, p2, g', o', n', c', A3, n3, c3, ?_, hb, fun _ => rfl, fun e => (nott h9 e).elim, h0, h1, h2, h3, fun _ => rfl, h5, hne, h6, h7, h8, h10⟩
      simp only [Act.put, List.setIfInBounds_toArray, List.set_cons_zero, List.set_cons_succ]
    · have h9 : L 9 = false := by
        cases e : L 9 with
        | false => rfl
        | true => exact (nott hf (c5 (c6 (c7 (c8 e))))).elim
      obtain rfl := hW0 h9
      obtain rfl := h4 (hd 4 (by kernel_rfl))
      have h6f : L 6 = false := by
        cases e : L 6 with
        | false => rfl
        | true => exact (nott hf (c5 e)).elim
      clear hd
      refine wpOp_step rfl (fun K hK => ?_)
      go_simp
      refine (npack_any A2 m c2 (Na.dig y) W HM.out (((HS2.out.below (btr HB1.out hb)).more (Nat.le_trans HB1.out.size hb.size))) (Na.dig_lim y) (by have := HL.out; omega) HP.out.2).mono ?_
      rintro e Wn ⟨gn, Nn, pn, rfl, hwn, hvn, hNn, hbn⟩
      rw [Na.val_dig] at hvn
      refine hK _ _ ⟨u30, u31, u32, u33, _, _, u36, u37, u38, u5, _, g1, N1, gn, Nn, p1, pn, g', o', n', c', A3, n3, c3, ?_, btr hb hbn, fun _ => rfl, fun e => (nott h9 e).elim, h0, h1, fun e => ⟨(h2 e).1, (h2 e).2.1, fun e6 => ⟨((h2 e).2.2 e6).1.below hbn, ((h2 e).2.2 e6).2⟩⟩, h3, h4, fun _ => ⟨rfl, by have := HL.out; omega, fun _ => ⟨⟨hwn.len, hwn.cap, hwn.big, hwn.cbig, ⟨Nat.le_trans hb.size hwn.blk.1, hwn.blk.2⟩, hwn.cel, hwn.frz, hwn.lim⟩, hvn⟩⟩, fun e _ => fun e2 => by have := ((h2 e).2.2 h6f).1.blk.2; have := hwn.blk.1; omega, fun e => (nott h6f e).elim, fun e => (nott h6f (c6 e)).elim, h8, h10⟩
      simp only [Act.put, List.setIfInBounds_toArray, List.set_cons_zero, List.set_cons_succ]
    · have h9 : L 9 = false := by
        cases e : L 9 with
        | false => rfl
        | true => exact (nott hf (c6 (c7 (c8 e)))).elim
      obtain rfl := hW0 h9
      obtain ⟨rfl, hN1, e1⟩ := h2 (hd 2 (by kernel_rfl))
      obtain ⟨rfl, hN2, e2⟩ := h5 (hd 5 (by kernel_rfl))
      obtain ⟨hw1, hv1⟩ := e1 hf
      obtain ⟨hw2, hv2⟩ := e2 hf
      have hg := hne (hd 2 (by kernel_rfl)) (hd 5 (by kernel_rfl))
      clear hd
      refine wpOp_step rfl (fun K hK => ?_)
      go_simp
      refine (nstein_any w1.heap.size g1 0 N1 N1 g2 0 N2 N2 x y p1 p2 W hw1 hw2 hv1 hv2 HX.out.1 HX.out.2 hN1 hN2 hg (HT.out.below (btr HB1.out hb)) (by have := HZ.out; omega) hb.size).mono ?_
      rintro e Wn ⟨gn, on, nn, cn, rfl, hwn, hbn⟩
      refine hK _ _ ⟨u30, u31, _, u33, u34, _, _, u37, u38, u5, Wn, g1, N1, g2, N2, p1, p2, gn, on, nn, cn, A3, n3, c3, ?_, hb.trans hbn, fun _ => rfl, fun e => (nott h9 e).elim, h0, h1, fun _ => ⟨rfl, hN1, (fun e => nomatch e)⟩, h3, h4, fun _ => ⟨rfl, hN2, (fun e => nomatch e)⟩, hne, fun _ => ⟨rfl, hwn⟩, fun e => (nott hf (c6 e)).elim, h8, h10⟩
      simp only [Act.put, List.setIfInBounds_toArray, List.set_cons_zero, List.set_cons_succ]
    · have h9 : L 9 = false := by
        cases e : L 9 with
        | false => rfl
        | true => exact (nott hf (c7 (c8 e))).elim
      obtain rfl := hW0 h9
      obtain ⟨rfl, hw6⟩ := h6 (hd 6 (by kernel_rfl))
      have T6 := Lib.hid (hd 6 (by kernel_rfl))
      have hn300 : n' ≤ 300 := by
        have e1 := hw6.len
        have e2 := Wo.dig_len_le (x := Nat.gcd x y) (n := 100) (by
          have e3 := Nat.le_of_dvd HX.out.1 (Nat.gcd_dvd_left x y)
          have e4 := Na.val_lt (Na.dig_lim x)
          rw [Na.val_dig, HN.out] at e4
          refine Nat.lt_of_le_of_lt e3 (Nat.lt_of_lt_of_le e4 ?_)
          refine Nat.le_trans (Nat.pow_le_pow_right (by decide) HL.out.1) ?_
          decide)
        omega
      clear hd
      refine wpOp_step rfl (fun K hK => ?_)
      go_simp
      refine (nunpack_any w1.heap.size g' o' n' c' _ W hw6 hn300).mono ?_
      rintro e Wn ⟨An, nn, cn, rfl, hln, hon, hbn⟩
      rw [Wo.val_dig] at hln hon
      refine hK _ _ ⟨u30, u31, u32, u33, u34, u35, _, _, u38, u5, Wn, g1, N1, g2, N2, p1, p2, g', o', n', c', An, nn, cn, ?_, btr hb hbn, fun _ => rfl, fun e => (nott h9 e).elim, h0, h1, fun e => ⟨(h2 e).1, (h2 e).2.1, fun e6 => (nott e6 T6.out).elim⟩, h3, h4, fun e => ⟨(h5 e).1, (h5 e).2.1, fun e6 => (nott e6 T6.out).elim⟩, hne, fun _ => ⟨rfl, hw6.below hbn⟩, fun _ => ⟨rfl, hln, own_more hon hb.size⟩, fun e => (nott hf (c7 e)).elim, h10⟩
      simp only [Act.put, List.setIfInBounds_toArray, List.set_cons_zero, List.set_cons_succ]
    · have h9 : L 9 = false := by
        cases e : L 9 with
        | false => rfl
        | true => exact (nott hf (c8 e)).elim
      obtain rfl := hW0 h9
      obtain ⟨rfl, e3, e4⟩ := h7 (hd 7 (by kernel_rfl))
      clear hd
      refine wpOp_step rfl (fun K hK => ?_)
      go_simp
      refine hK _ _ ⟨u30, u31, u32, u33, u34, u35, u36, _, _, u5, _, g1, N1, g2, N2, p1, p2, g', o', n', c', A3, n3, c3, ?_, hb, fun _ => rfl, fun e => (nott h9 e).elim, h0, h1, h2, h3, h4, h5, hne, h6, fun _ => ⟨rfl, e3, e4⟩, fun _ => rfl, h10⟩
      simp only [Act.put, List.setIfInBounds_toArray, List.set_cons_zero, List.set_cons_succ]
    · obtain rfl := hW0 hf
      obtain rfl := h8 (hd 8 (by kernel_rfl))
      obtain ⟨-, -, ca, cf⟩ := HK.out _ hb
      clear hd
      refine wpOp_step rfl (fun K hK => ?_)
      go_simp
      refine hK _ _ ⟨u30, u31, u32, u33, u34, u35, u36, u37, _, u5, _, g1, N1, g2, N2, p1, p2, g', o', n', c', A3, n3, c3, ?_, hb, (fun e => nomatch e), fun _ => rfl, h0, h1, h2, h3, h4, h5, hne, h6, h7, h8, h10⟩
      simp only [Act.put, List.setIfInBounds_toArray, List.set_cons_zero, List.set_cons_succ]
    · clear hd
      refine wpOp_step rfl (fun K hK => ?_)
      go_simp
      refine hK _ _ ⟨u30, u31, u32, u33, u34, u35, u36, u37, u38, _, W1, g1, N1, g2, N2, p1, p2, g', o', n', c', A3, n3, c3, ?_, hb, hW0, hW9, h0, h1, h2, h3, h4, h5, hne, h6, h7, h8, fun _ => rfl⟩
      simp only [Act.put, List.setIfInBounds_toArray, List.set_cons_zero, List.set_cons_succ]
  · rintro L a W hl ⟨u30, u31, u32, u33, u34, u35, u36, u37, u38, u5, W1, g1, N1, g2, N2, p1, p2, g', o', n', c', A3, n3, c3, rfl, hb, hW0, hW9, h0, h1, h2, h3, h4, h5, hne, h6, h7, h8, h10⟩
    obtain rfl := hW9 (hl 9 (by decide))
    obtain ⟨rfl, e3, ho⟩ := h7 (hl 7 (by decide))
    obtain rfl := h10 (hl 10 (by decide))
    obtain ⟨-, -, k2, f2⟩ := HK.out W1 hb
    have hc : (W1.setCell ⟨b + 1 + 1, 0, none⟩ (.slice A3 n3 c3)).cell? ⟨b + 1 + 1, 0, none⟩ = some (.slice A3 n3 c3) := cell_of_set _ k2
    have HO := Lib.hid (And.intro e3 ho)
    have HBb := Lib.hid hb
    clear h0 h1 h2 h3 h4 h5 h6 h7 h8 h10 hne hW0 hW9 hl k2 f2 e3 ho hb
    simp only [Act.put, List.setIfInBounds_toArray, List.set_cons_zero, List.set_cons_succ]
    go_wp2_with fail
    have hbw := HBw.out
    have hz := HZ.out
    refine bodyPost_ret (v := .tuple #[.agg #[.slice A3 n3 c3], .int .i64 0]) (by simp [results, Tryd.results88, go_sem, hc]) rfl ?_
    exact ⟨A3, n3, c3, rfl, HO.out.1, own_more (own_setLow HO.out.2 _ _ (by simp only; omega)) HB1.out.size, bset (btr HB1.out HBb.out) _ (by simp only; omega) _⟩
end Go.Proofs.YtjhaogbopmhkoaaDoor

namespace Go.Proofs.YtjhaogbopmhkoaaDoor
open Go.RowKit
set_option linter.unusedVariables false
set_option maxRecDepth 100000
set_option maxHeartbeats 1000000 in
theorem nGcd_bad (A A2 : Option Addr) (n c m c2 : Nat) (zs ys : List Int) (w : World) (hn : zs.length = n) (hm : ys.length = m) (hs : Sl w w.heap.size A (ints zs)) (hs2 : Sl w w.heap.size A2 (ints ys)) (hl : n ≤ 140737488351232) (hl2 : m ≤ 140737488351232) (hv : (Na.vld zs && Na.vld ys) = false) :
    Calls Tryd.prog 88 #[.agg #[.slice A n c], .agg #[.slice A2 m c2]] w (ResN w [] 1) := by
  obtain ⟨w0, hw0⟩ : ∃ w0, ((w.alloc (.cells #[.slice A n c] 24)).alloc (.cells #[.slice A2 m c2] 24)).alloc (.cells #[.slice none 0 0] 24) = w0 := ⟨_, rfl⟩
  have HW : Hid (((w.alloc (.cells #[.slice A n c] 24)).alloc (.cells #[.slice A2 m c2] 24)).alloc (.cells #[.slice none 0 0] 24) = w0) := hw0
  obtain ⟨b, hb⟩ : ∃ b, w.heap.size = b := ⟨_, rfl⟩
  have hb0 : Below w.heap.size w w0 := by rw [← hw0]; exact bal (bal (bal (Below.refl _ _) _) _) _
  have hzw : b + 3 ≤ w0.heap.size := by rw [← hw0, ← hb]; simp
  have k2 : w0.cell? ⟨b + 1 + 1, 0, none⟩ = some (.slice none 0 0) := by rw [← hw0, ← hb]; simp [go_sem]
  have f2 : w0.frozen? ⟨b + 1 + 1, 0, none⟩ = false := by rw [← hw0, ← hb]; simp [go_sem]
  have HV := Lib.hid (nboth_any A A2 n c m c2 w0.heap.size _ _ w0 hn hm ((hs.below hb0).more hb0.size) ((hs2.below hb0).more hb0.size) (Nat.le_refl _) hl hl2)
  rw [hv] at HV
  have HB0 := Lib.hid hb0
  have HBw := Lib.hid hb
  clear hs hs2 hn hm hw0 hb hb0 hv
  go_enter Tryd.func88, Tryd.ntmps88
  go_wp2_with fail
  rw [HW.out, HBw.out]
  refine HV.out.mono ?_
  rintro e w1 ⟨rfl, hb1⟩
  have k2' := (hb1.cell (p := ⟨b + 1 + 1, 0, none⟩) (by simp only; omega)).trans k2
  have f2' := (hb1.frozen (p := ⟨b + 1 + 1, 0, none⟩) (by simp only; omega)).trans f2
  have HB1 := Lib.hid (btr HB0.out hb1)
  have hc := cell_of_set (.slice none 0 0) k2'
  clear hb1 k2 f2 HV HW
  go_wp2_with fail
  have hbw := HBw.out
  refine bodyPost_ret (v := .tuple #[.agg #[.slice none 0 0], .int .i64 1]) (by simp [results, Tryd.results88, go_sem, hc]) rfl ?_
  exact resN_nil _ _ _ (bset HB1.out _ (by simp only; omega) _)
set_option maxHeartbeats 1000000 in
theorem nGcd_za (A A2 : Option Addr) (c m c2 : Nat) (y : Nat) (w : World) (hm : (Na.dig y).length = m) (hs : Sl w w.heap.size A (nats (Na.dig 0))) (hs2 : Sl w w.heap.size A2 (nats (Na.dig y))) (hy : y < Na.top) :
    Calls Tryd.prog 88 #[.agg #[.slice A 0 c], .agg #[.slice A2 m c2]] w (ResN w (Na.dig y) 0) := by
  have hx : 0 < Na.top := Nat.lt_of_le_of_lt (Nat.zero_le _) hy
  have hm2 : m ≤ 200 := by rw [← hm]; exact (Na.dig_200 y).2 hy
  obtain ⟨w0, hw0⟩ : ∃ w0, ((w.alloc (.cells #[.slice A 0 c] 24)).alloc (.cells #[.slice A2 m c2] 24)).alloc (.cells #[.slice none 0 0] 24) = w0 := ⟨_, rfl⟩
  have HW : Hid (((w.alloc (.cells #[.slice A 0 c] 24)).alloc (.cells #[.slice A2 m c2] 24)).alloc (.cells #[.slice none 0 0] 24) = w0) := hw0
  obtain ⟨b, hb⟩ : ∃ b, w.heap.size = b := ⟨_, rfl⟩
  have hb0 : Below w.heap.size w w0 := by rw [← hw0]; exact bal (bal (bal (Below.refl _ _) _) _) _
  have hzw : b + 3 ≤ w0.heap.size := by rw [← hw0, ← hb]; simp
  have k0 : w0.cell? ⟨b, 0, none⟩ = some (.slice A 0 c) := by rw [← hw0, ← hb]; simp [go_sem]
  have k1 : w0.cell? ⟨b + 1, 0, none⟩ = some (.slice A2 m c2) := by rw [← hw0, ← hb]; simp [go_sem]
  have k2 : w0.cell? ⟨b + 1 + 1, 0, none⟩ = some (.slice none 0 0) := by rw [← hw0, ← hb]; simp [go_sem]
  have f2 : w0.frozen? ⟨b + 1 + 1, 0, none⟩ = false := by rw [← hw0, ← hb]; simp [go_sem]
  have hvv : (Na.vld (Na.up (Na.dig 0)) && Na.vld (Na.up (Na.dig y))) = true := by rw [Na.vld_dig hx, Na.vld_dig hy]; rfl
  have HV := Lib.hid (nboth_any A A2 0 c m c2 w0.heap.size _ _ w0 (by rw [Na.up_length]; exact Na.dig_len0.2 rfl) (by rw [Na.up_length]; exact hm) (by rw [nats_up]; exact (hs.below hb0).more hb0.size) (by rw [nats_up]; exact (hs2.below hb0).more hb0.size) (Nat.le_refl _) (by omega) (by omega))
  rw [hvv] at HV
  have HM := Lib.hid hm
  have HS2 := Lib.hid hs2
  have HB0 := Lib.hid hb0
  have HBw := Lib.hid hb
  clear hs hs2 hm hw0 hvv hx hy hb hb0
  go_enter Tryd.func88, Tryd.ntmps88
  go_wp2_with fail
  rw [HW.out, HBw.out]
  refine HV.out.mono ?_
  rintro e w1 ⟨rfl, hb1⟩
  replace k0 := (hb1.cell (p := ⟨b, 0, none⟩) (by simp only; omega)).trans k0
  replace k1 := (hb1.cell (p := ⟨b + 1, 0, none⟩) (by simp only; omega)).trans k1
  replace k2 := (hb1.cell (p := ⟨b + 1 + 1, 0, none⟩) (by simp only; omega)).trans k2
  replace f2 := (hb1.frozen (p := ⟨b + 1 + 1, 0, none⟩) (by simp only; omega)).trans f2
  have HB1 := Lib.hid (btr HB0.out hb1)
  have hzw1 : b + 3 ≤ w1.heap.size := Nat.le_trans hzw hb1.size
  clear hb1 HV HW hzw
  go_wp2_with fail
  refine (nclone_any A2 m c2 w1.heap.size _ w1 HM.out ((HS2.out.below HB1.out).more HB1.out.size) (Nat.le_refl _) (by omega)).mono ?_
  rintro e w2 ⟨A3, n3, c3, rfl, hn3, ho, hb2⟩
  have k2' := (hb2.cell (p := ⟨b + 1 + 1, 0, none⟩) (by simp only; omega)).trans k2
  have f2' := (hb2.frozen (p := ⟨b + 1 + 1, 0, none⟩) (by simp only; omega)).trans f2
  have HO := Lib.hid (And.intro hn3 ho)
  have HB2 := Lib.hid (btr HB1.out hb2)
  have hc := cell_of_set (.slice A3 n3 c3) k2'
  have HZ := Lib.hid hzw1
  clear hn3 ho hb2 k0 k1 k2 f2 hzw1
  go_wp2_with fail
  have hbw := HBw.out
  have hz := HZ.out
  refine bodyPost_ret (v := .tuple #[.agg #[.slice A3 n3 c3], .int .i64 0]) (by simp [results, Tryd.results88, go_sem, hc]) rfl ?_
  exact ⟨A3, n3, c3, rfl, HO.out.1, own_more (own_setLow HO.out.2 _ _ (by simp only; omega)) HB1.out.size, bset HB2.out _ (by simp only; omega) _⟩
set_option maxHeartbeats 1000000 in
theorem nGcd_zb (A A2 : Option Addr) (n c c2 : Nat) (x : Nat) (w : World) (hn : (Na.dig x).length = n) (hs : Sl w w.heap.size A (nats (Na.dig x))) (hs2 : Sl w w.heap.size A2 (nats (Na.dig 0))) (hx : x < Na.top) (hx0 : 0 < x) :
    Calls Tryd.prog 88 #[.agg #[.slice A n c], .agg #[.slice A2 0 c2]] w (ResN w (Na.dig x) 0) := by
  have hy : 0 < Na.top := Nat.lt_of_le_of_lt (Nat.zero_le _) hx
  have hn2 : n ≤ 200 := by rw [← hn]; exact (Na.dig_200 x).2 hx
  have hn0 : ((n : Int) == 0) = false := by
    rw [beq_eq_false_iff_ne]
    intro e
    have : n = 0 := by omega
    rw [this] at hn
    have := Na.dig_len0.1 hn
    omega
  obtain ⟨w0, hw0⟩ : ∃ w0, ((w.alloc (.cells #[.slice A n c] 24)).alloc (.cells #[.slice A2 0 c2] 24)).alloc (.cells #[.slice none 0 0] 24) = w0 := ⟨_, rfl⟩
  have HW : Hid (((w.alloc (.cells #[.slice A n c] 24)).alloc (.cells #[.slice A2 0 c2] 24)).alloc (.cells #[.slice none 0 0] 24) = w0) := hw0
  obtain ⟨b, hb⟩ : ∃ b, w.heap.size = b := ⟨_, rfl⟩
  have hb0 : Below w.heap.size w w0 := by rw [← hw0]; exact bal (bal (bal (Below.refl _ _) _) _) _
  have hzw : b + 3 ≤ w0.heap.size := by rw [← hw0, ← hb]; simp
  have k0 : w0.cell? ⟨b, 0, none⟩ = some (.slice A n c) := by rw [← hw0, ← hb]; simp [go_sem]
  have k1 : w0.cell? ⟨b + 1, 0, none⟩ = some (.slice A2 0 c2) := by rw [← hw0, ← hb]; simp [go_sem]
  have k2 : w0.cell? ⟨b + 1 + 1, 0, none⟩ = some (.slice none 0 0) := by rw [← hw0, ← hb]; simp [go_sem]
  have f2 : w0.frozen? ⟨b + 1 + 1, 0, none⟩ = false := by rw [← hw0, ← hb]; simp [go_sem]
  have hvv : (Na.vld (Na.up (Na.dig x)) && Na.vld (Na.up (Na.dig 0))) = true := by rw [Na.vld_dig hx, Na.vld_dig hy]; rfl
  have HV := Lib.hid (nboth_any A A2 n c 0 c2 w0.heap.size _ _ w0 (by rw [Na.up_length]; exact hn) (by rw [Na.up_length]; exact Na.dig_len0.2 rfl) (by rw [nats_up]; exact (hs.below hb0).more hb0.size) (by rw [nats_up]; exact (hs2.below hb0).more hb0.size) (Nat.le_refl _) (by omega) (by omega))
  rw [hvv] at HV
  have HN := Lib.hid hn
  have HS := Lib.hid hs
  have HB0 := Lib.hid hb0
  have HBw := Lib.hid hb
  clear hs hs2 hn hw0 hvv hx hy hb hb0 hx0
  go_enter Tryd.func88, Tryd.ntmps88
  go_wp2_with fail
  rw [HW.out, HBw.out]
  refine HV.out.mono ?_
  rintro e w1 ⟨rfl, hb1⟩
  replace k0 := (hb1.cell (p := ⟨b, 0, none⟩) (by simp only; omega)).trans k0
  replace k1 := (hb1.cell (p := ⟨b + 1, 0, none⟩) (by simp only; omega)).trans k1
  replace k2 := (hb1.cell (p := ⟨b + 1 + 1, 0, none⟩) (by simp only; omega)).trans k2
  replace f2 := (hb1.frozen (p := ⟨b + 1 + 1, 0, none⟩) (by simp only; omega)).trans f2
  have HB1 := Lib.hid (btr HB0.out hb1)
  have hzw1 : b + 3 ≤ w1.heap.size := Nat.le_trans hzw hb1.size
  clear hb1 HV HW hzw
  go_wp2_with fail
  refine (nclone_any A n c w1.heap.size _ w1 HN.out ((HS.out.below HB1.out).more HB1.out.size) (Nat.le_refl _) (by omega)).mono ?_
  rintro e w2 ⟨A3, n3, c3, rfl, hn3, ho, hb2⟩
  have k2' := (hb2.cell (p := ⟨b + 1 + 1, 0, none⟩) (by simp only; omega)).trans k2
  have f2' := (hb2.frozen (p := ⟨b + 1 + 1, 0, none⟩) (by simp only; omega)).trans f2
  have HO := Lib.hid (And.intro hn3 ho)
  have HB2 := Lib.hid (btr HB1.out hb2)
  have hc := cell_of_set (.slice A3 n3 c3) k2'
  have HZ := Lib.hid hzw1
  clear hn3 ho hb2 k0 k1 k2 f2 hzw1
  go_wp2_with fail
  have hbw := HBw.out
  have hz := HZ.out
  refine bodyPost_ret (v := .tuple #[.agg #[.slice A3 n3 c3], .int .i64 0]) (by simp [results, Tryd.results88, go_sem, hc]) rfl ?_
  exact ⟨A3, n3, c3, rfl, HO.out.1, own_more (own_setLow HO.out.2 _ _ (by simp only; omega)) HB1.out.size, bset HB2.out _ (by simp only; omega) _⟩
end Go.Proofs.YtjhaogbopmhkoaaDoor

namespace Go.Proofs.YtjhaogbopmhkoaaDoor
open Go.RowKit
set_option linter.unusedVariables false
set_option maxRecDepth 100000
section
variable {w0 w w' : World} {g : Option Nat} {M : List (Nat × Value)} {L : List Ob} {A A2 : Option Addr} {n c m c2 x y : Nat}
theorem nGcd_ok (A A2 : Option Addr) (n c m c2 : Nat) (x y : Nat) (w : World) (hn : (Na.dig x).length = n) (hm : (Na.dig y).length = m) (hs : Sl w w.heap.size A (nats (Na.dig x))) (hs2 : Sl w w.heap.size A2 (nats (Na.dig y))) (hx : x < Na.top) (hy : y < Na.top) (ht : Tab w) :
    Calls Tryd.prog 88 #[.agg #[.slice A n c], .agg #[.slice A2 m c2]] w (ResN w (Na.dig (Nat.gcd x y)) 0) := by
  rcases Nat.eq_zero_or_pos x with rfl | hx0
  · obtain rfl : n = 0 := by rw [← hn]; exact Na.dig_len0.2 rfl
    rw [Nat.gcd_zero_left]
    exact nGcd_za A A2 c m c2 y w hm hs hs2 hy
  · rcases Nat.eq_zero_or_pos y with rfl | hy0
    · obtain rfl : m = 0 := by rw [← hm]; exact Na.dig_len0.2 rfl
      rw [Nat.gcd_zero_right]
      exact nGcd_zb A A2 n c c2 x w hn hs hs2 hx hx0
    · exact nGcd_pos A A2 n c m c2 x y w hn hm hs hs2 hx hy hx0 hy0 ht
theorem gcd_top (hx : x < Na.top) (hy : y < Na.top) : Nat.gcd x y < Na.top := by
  rcases Nat.eq_zero_or_pos x with rfl | hx0
  · rw [Nat.gcd_zero_left]; exact hy
  · exact Nat.lt_of_le_of_lt (Nat.le_of_dvd hx0 (Nat.gcd_dvd_left x y)) hx
end
end Go.Proofs.YtjhaogbopmhkoaaDoor

namespace Go.Proofs.YtjhaogbopmhkoaaDoor
open Go.RowKit Go.Sort
set_option linter.unusedVariables false
set_option maxRecDepth 100000
def gcdL (zs ys : List Int) : List Nat := if Na.vld zs && Na.vld ys then Na.dig (Nat.gcd (num zs) (num ys)) else []
def gcdE (zs ys : List Int) : Int := if Na.vld zs && Na.vld ys then 0 else 1
def prtL (zs : List Int) : List UInt8 := if Na.vld zs then De.text (num zs) else []
def GotO (w0 : World) (g : Option Nat) (M : List (Nat × Value)) (L : List Ob) (O : List Rw) (l : List Nat) (err : Int) (en : Ending) (w' : World) : Prop :=
  ∃ (A : Option Addr) (n c : Nat), en = .returned (.tuple #[.agg #[.slice A n c], .int .i64 err]) ∧ Ow w0 w' g M (L ++ [⟨A, n, c, nats l⟩]) O
theorem dig_1000 {x : Nat} (h : x < Na.top) : (Na.dig x).length ≤ 1000 := Nat.le_trans ((Na.dig_200 x).2 h) (by omega)
theorem resL_1000 (x : Nat) : (resL x).length ≤ 1000 := Nat.le_trans (resL_len x) (by omega)
theorem vv_cases (zs ys : List Int) : (Na.vld zs && Na.vld ys) = false ∨ ((Na.vld zs && Na.vld ys) = true ∧ num zs < Na.top ∧ num ys < Na.top ∧ zs = Na.up (Na.dig (num zs)) ∧ ys = Na.up (Na.dig (num ys))) := by
  cases hv : (Na.vld zs && Na.vld ys)
  · exact .inl rfl
  · obtain ⟨x, y, hx, hy, rfl, rfl⟩ := vv_ex hv
    refine .inr ⟨rfl, ?_⟩
    rw [num_dig, num_dig]
    exact ⟨hx, hy, rfl, rfl⟩
theorem addL_1000 (zs ys : List Int) : (addL zs ys).length ≤ 1000 := by
  unfold addL; split
  · exact resL_1000 _
  · exact Nat.zero_le _
theorem mulL_1000 (zs ys : List Int) : (mulL zs ys).length ≤ 1000 := by
  unfold mulL; split
  · exact resL_1000 _
  · exact Nat.zero_le _
theorem subL_1000 (zs ys : List Int) : (subL zs ys).length ≤ 1000 := by
  rcases vv_cases zs ys with h | ⟨h, hx, hy, e1, e2⟩
  · unfold subL; rw [h]; exact Nat.zero_le _
  · unfold subL; rw [h, if_pos rfl]; split
    · exact Nat.zero_le _
    · exact dig_1000 (Nat.lt_of_le_of_lt (Nat.sub_le _ _) hx)
theorem gcdL_1000 (zs ys : List Int) : (gcdL zs ys).length ≤ 1000 := by
  rcases vv_cases zs ys with h | ⟨h, hx, hy, e1, e2⟩
  · unfold gcdL; rw [h]; exact Nat.zero_le _
  · unfold gcdL; rw [h, if_pos rfl]; exact dig_1000 (gcd_top hx hy)
section
variable {w0 w w' : World} {g : Option Nat} {M : List (Nat × Value)} {L : List Ob} {O : List Rw} {A A2 : Option Addr} {n c m c2 : Nat} {zs ys : List Int}
theorem got_o (h : Ow w0 w g M L O) {l : List Nat} {e : Int} (hl : l.length ≤ 1000) {en : Ending} (hr : ResN w l e en w') : GotO w0 g M L O l e en w' := by
  obtain ⟨A, n, c, he, -, ho⟩ := h.pushN hr hl
  exact ⟨A, n, c, he, ho⟩
theorem Ow.raw (h : Ow w0 w g M L O) {i : Nat} (hi : L[i]? = some ⟨A, n, c, ints zs⟩) : zs.length = n ∧ n ≤ c ∧ n ≤ 1000 ∧ Sl w w.heap.size A (ints zs) := by
  obtain ⟨h1, h2, h3, h4⟩ := h.sl hi
  rw [ints_length] at h1
  exact ⟨h1, h2, h3, h4⟩
theorem raw_dig (h : zs.length = n ∧ n ≤ c ∧ n ≤ 1000 ∧ Sl w w.heap.size A (ints zs)) {x : Nat} (e : zs = Na.up (Na.dig x)) : (Na.dig x).length = n ∧ n ≤ c ∧ n ≤ 1000 ∧ Sl w w.heap.size A (nats (Na.dig x)) := by
  subst e
  rw [nats_up, Na.up_length] at h
  exact h
theorem ag_add (h : Ow w0 w g M L O) (i j : Nat) (hi : L[i]? = some ⟨A, n, c, ints zs⟩) (hj : L[j]? = some ⟨A2, m, c2, ints ys⟩) :
    Calls Tryd.prog 99 #[.agg #[.slice A n c], .agg #[.slice A2 m c2]] w (GotO w0 g M L O (addL zs ys) (addE zs ys)) := by
  obtain ⟨h1, h2, h3, h4⟩ := h.raw hi
  obtain ⟨k1, k2, k3, k4⟩ := h.raw hj
  exact (nadd_any A A2 n c m c2 zs ys w h1 k1 h4 k4 (by omega) (by omega)).mono fun en w' hr => got_o h (addL_1000 zs ys) hr
theorem ag_radd (h : Ow w0 w g M L O) (i j : Nat) (hi : L[i]? = some ⟨A, n, c, ints zs⟩) (hj : L[j]? = some ⟨A2, m, c2, ints ys⟩) :
    Calls Tryd.prog 64 #[.agg #[.slice A n c], .agg #[.slice A2 m c2]] w (GotO w0 g M L O (addL zs ys) (addE zs ys)) := by
  obtain ⟨h1, h2, h3, h4⟩ := h.raw hi
  obtain ⟨k1, k2, k3, k4⟩ := h.raw hj
  exact (nradd_any A A2 n c m c2 zs ys w h1 k1 h4 k4 (by omega) (by omega)).mono fun en w' hr => got_o h (addL_1000 zs ys) hr
theorem ag_sub (h : Ow w0 w g M L O) (i j : Nat) (hi : L[i]? = some ⟨A, n, c, ints zs⟩) (hj : L[j]? = some ⟨A2, m, c2, ints ys⟩) :
    Calls Tryd.prog 45 #[.agg #[.slice A n c], .agg #[.slice A2 m c2]] w (GotO w0 g M L O (subL zs ys) (subE zs ys)) := by
  obtain ⟨h1, h2, h3, h4⟩ := h.raw hi
  obtain ⟨k1, k2, k3, k4⟩ := h.raw hj
  exact (nsub_any A A2 n c m c2 zs ys w h1 k1 h4 k4 (by omega) (by omega)).mono fun en w' hr => got_o h (subL_1000 zs ys) hr
theorem ag_rsub (h : Ow w0 w g M L O) (i j : Nat) (hi : L[i]? = some ⟨A, n, c, ints zs⟩) (hj : L[j]? = some ⟨A2, m, c2, ints ys⟩) :
    Calls Tryd.prog 51 #[.agg #[.slice A n c], .agg #[.slice A2 m c2]] w (GotO w0 g M L O (subL zs ys) (subE zs ys)) := by
  obtain ⟨h1, h2, h3, h4⟩ := h.raw hi
  obtain ⟨k1, k2, k3, k4⟩ := h.raw hj
  exact (nrsub_any A A2 n c m c2 zs ys w h1 k1 h2 k2 h4 k4 h3 k3).mono fun en w' hr => got_o h (subL_1000 zs ys) hr
theorem ag_mul (h : Ow w0 w g M L O) (i j : Nat) (hi : L[i]? = some ⟨A, n, c, ints zs⟩) (hj : L[j]? = some ⟨A2, m, c2, ints ys⟩) :
    Calls Tryd.prog 100 #[.agg #[.slice A n c], .agg #[.slice A2 m c2]] w (GotO w0 g M L O (mulL zs ys) (mulE zs ys)) := by
  obtain ⟨h1, h2, h3, h4⟩ := h.raw hi
  obtain ⟨k1, k2, k3, k4⟩ := h.raw hj
  exact (nmul_any A A2 n c m c2 zs ys w h1 k1 h4 k4 (by omega) (by omega)).mono fun en w' hr => got_o h (mulL_1000 zs ys) hr
theorem ag_rmul (h : Ow w0 w g M L O) (i j : Nat) (hi : L[i]? = some ⟨A, n, c, ints zs⟩) (hj : L[j]? = some ⟨A2, m, c2, ints ys⟩) :
    Calls Tryd.prog 54 #[.agg #[.slice A n c], .agg #[.slice A2 m c2]] w (GotO w0 g M L O (mulL zs ys) (mulE zs ys)) := by
  obtain ⟨h1, h2, h3, h4⟩ := h.raw hi
  obtain ⟨k1, k2, k3, k4⟩ := h.raw hj
  exact (nrMul_any A A2 n c m c2 zs ys w h1 k1 h4 k4 (by omega) (by omega)).mono fun en w' hr => got_o h (mulL_1000 zs ys) hr
theorem ag_gcd (h : Ow w0 w g M L O) (i j : Nat) (hi : L[i]? = some ⟨A, n, c, ints zs⟩) (hj : L[j]? = some ⟨A2, m, c2, ints ys⟩) (ht : Tab w0) :
    Calls Tryd.prog 88 #[.agg #[.slice A n c], .agg #[.slice A2 m c2]] w (GotO w0 g M L O (gcdL zs ys) (gcdE zs ys)) := by
  have p := h.raw hi
  have q := h.raw hj
  have key : Calls Tryd.prog 88 #[.agg #[.slice A n c], .agg #[.slice A2 m c2]] w (ResN w (gcdL zs ys) (gcdE zs ys)) := by
    rcases vv_cases zs ys with hv | ⟨hv, hx, hy, e1, e2⟩
    · have a1 : gcdL zs ys = [] := by unfold gcdL; rw [hv]; rfl
      have a3 : gcdE zs ys = 1 := by unfold gcdE; rw [hv]; rfl
      rw [a1, a3]
      exact nGcd_bad A A2 n c m c2 zs ys w p.1 q.1 p.2.2.2 q.2.2.2 (by have := p.2.2.1; omega) (by have := q.2.2.1; omega) hv
    · have p' := raw_dig p e1
      have q' := raw_dig q e2
      have a1 : gcdL zs ys = Na.dig (Nat.gcd (num zs) (num ys)) := by unfold gcdL; rw [hv, if_pos rfl]
      have a3 : gcdE zs ys = 0 := by unfold gcdE; rw [hv, if_pos rfl]
      rw [a1, a3]
      exact nGcd_ok A A2 n c m c2 _ _ w p'.1 q'.1 p'.2.2.2 q'.2.2.2 hx hy (ht.below h.below)
  exact key.mono fun en w' hr => got_o h (gcdL_1000 zs ys) hr
theorem ag_rgcd (h : Ow w0 w g M L O) (i j : Nat) (hi : L[i]? = some ⟨A, n, c, ints zs⟩) (hj : L[j]? = some ⟨A2, m, c2, ints ys⟩) :
    Calls Tryd.prog 63 #[.agg #[.slice A n c], .agg #[.slice A2 m c2]] w (GotO w0 g M L O (gcdL zs ys) (gcdE zs ys)) := by
  have p := h.raw hi
  have q := h.raw hj
  have key : Calls Tryd.prog 63 #[.agg #[.slice A n c], .agg #[.slice A2 m c2]] w (ResN w (gcdL zs ys) (gcdE zs ys)) := by
    rcases vv_cases zs ys with hv | ⟨hv, hx, hy, e1, e2⟩
    · have a1 : gcdL zs ys = [] := by unfold gcdL; rw [hv]; rfl
      have a3 : gcdE zs ys = 1 := by unfold gcdE; rw [hv]; rfl
      rw [a1, a3]
      exact nrgcd_bad A A2 n c m c2 zs ys w p.1 q.1 p.2.1 q.2.1 p.2.2.2 q.2.2.2 p.2.2.1 q.2.2.1 hv
    · have p' := raw_dig p e1
      have q' := raw_dig q e2
      have a1 : gcdL zs ys = Na.dig (Nat.gcd (num zs) (num ys)) := by unfold gcdL; rw [hv, if_pos rfl]
      have a3 : gcdE zs ys = 0 := by unfold gcdE; rw [hv, if_pos rfl]
      rw [a1, a3]
      exact nrgcd_ok A A2 n c m c2 _ _ w p'.1 q'.1 p'.2.1 q'.2.1 p'.2.2.2 q'.2.2.2 hx hy
  exact key.mono fun en w' hr => got_o h (gcdL_1000 zs ys) hr
theorem ag_rprt_b (h : Ow w0 w g M L O) (i : Nat) (hi : L[i]? = some ⟨A, n, c, ints zs⟩) :
    Calls Tryd.prog 25 #[.agg #[.slice A n c]] w fun e w' => e = .returned (.string (str (prtL zs))) ∧ Below w.heap.size w w' := by
  have p := h.raw hi
  cases hv : Na.vld zs
  · have a1 : prtL zs = [] := by unfold prtL; rw [hv]; rfl
    rw [a1]
    exact nrprint_bad A n c zs w p.1 p.2.1 p.2.2.2 p.2.2.1 hv
  · obtain ⟨x, hx, e1⟩ := Na.vld_ex hv
    have p' := raw_dig p e1
    have a1 : prtL zs = De.text x := by unfold prtL; rw [hv, if_pos rfl, e1, num_dig]
    rw [a1]
    exact nrprint_ok A n c x w p'.1 p'.2.1 p'.2.2.2 hx
theorem ag_vld_b (h : Ow w0 w g M L O) (i : Nat) (hi : L[i]? = some ⟨A, n, c, ints zs⟩) :
    Calls Tryd.prog 86 #[.agg #[.slice A n c]] w fun e w' => e = .returned (.bool (Na.vld zs)) ∧ Below w.heap.size w w' := by
  have p := h.raw hi
  exact (nvalid_any A n c w.heap.size zs w p.1 p.2.2.2 (Nat.le_refl _) (by have := p.2.2.1; omega)).mono fun en w' ⟨he, hb⟩ => ⟨he, hb⟩
theorem ag_vld (h : Ow w0 w g M L O) (i : Nat) (hi : L[i]? = some ⟨A, n, c, ints zs⟩) :
    Calls Tryd.prog 86 #[.agg #[.slice A n c]] w fun e w' => e = .returned (.bool (Na.vld zs)) ∧ Ow w0 w' g M L O :=
  (ag_vld_b h i hi).mono fun en w' ⟨he, hb⟩ => ⟨he, h.go hb⟩
end
end Go.Proofs.YtjhaogbopmhkoaaDoor

namespace Go.Proofs.YtjhaogbopmhkoaaDoor
open Go.RowKit
set_option linter.unusedVariables false
set_option maxRecDepth 100000
def NPw (w1 : World) (x m : Nat) (i o : Value) (wr : World) : Prop :=
  ∃ (v : Int) (j : Nat) (A : Option Addr) (n c : Nat), i = .int .i64 v ∧ v = (j : Int) - 1 ∧ o = .slice A n c ∧ j ≤ 13 ∧ n ≤ 401 ∧ Hid ((Na.dig (x ^ (m / 2 ^ j))).length = n) ∧ wr.ownsRow w1.heap.size 3 1 (.slice A n c) n (nats (Na.dig (x ^ (m / 2 ^ j)))) ∧ Below w1.heap.size w1 wr ∧ w1.heap.size ≤ wr.heap.size
set_option maxHeartbeats 4000000 in
theorem npower_ok (A : Option Addr) (n c x m : Nat) (w : World) (hn : (Na.dig x).length = n) (hs : Sl w w.heap.size A (nats (Na.dig x))) (hx : x < Na.top) (hm : m ≤ 4800) :
    Calls Tryd.prog 82 #[.agg #[.slice A n c], .int .i64 (m : Int)] w (ResN w (resL (x ^ m)) (resE (x ^ m))) := by
  have hn200 : n ≤ 200 := by rw [← hn]; exact (Na.dig_200 x).2 hx
  obtain ⟨w0, hw0⟩ : ∃ w0, (w.alloc (.cells #[.slice A n c] 24)).alloc (.cells #[.slice none 0 0] 24) = w0 := ⟨_, rfl⟩
  have HW : Hid ((w.alloc (.cells #[.slice A n c] 24)).alloc (.cells #[.slice none 0 0] 24) = w0) := hw0
  have hb0 : Below w.heap.size w w0 := by rw [← hw0]; exact bal (bal (Below.refl _ _) _) _
  have HB0 := Lib.hid hb0
  have hzw : w0.heap.size = w.heap.size + 2 := by rw [← hw0]; simp
  have hc0 : w0.cell? ⟨w.heap.size, 0, none⟩ = some (.slice A n c) := by rw [← hw0]; simp [go_sem]
  have hc2 : w0.cell? ⟨w.heap.size + 1, 0, none⟩ = some (.slice none 0 0) := by rw [← hw0]; simp [go_sem]
  have hf2 : w0.frozen? ⟨w.heap.size + 1, 0, none⟩ = false := by rw [← hw0]; simp [go_sem]
  have HV := Lib.hid (nvalid_any A n c w0.heap.size (Na.up (Na.dig x)) w0 (by rw [Na.up_length]; exact hn) (by rw [nats_up]; exact (hs.below hb0).more hb0.size) (Nat.le_refl _) (by omega))
  rw [Na.vld_dig hx] at HV
  have HN := Lib.hid hn
  have HS := Lib.hid hs
  clear hs hn hb0 hw0 hx
  have hbm : Nbl m ≤ 13 := nbl_le (k := 13) (by omega) (by omega)
  have h1 : decide ((m : Int) < 0) = false := decide_eq_false (by omega)
  have h2 : decide (4800 < (m : Int)) = false := decide_eq_false (by omega)
  go_enter Tryd.func82, Tryd.ntmps82
  go_wp2_with fail
  rw [HW.out]
  refine HV.out.mono ?_
  rintro e w1 ⟨rfl, hb⟩
  have HB1 := Lib.hid (btr HB0.out hb)
  have hd0 : w1.cell? ⟨w.heap.size, 0, none⟩ = some (.slice A n c) := (hb.cell (p := ⟨w.heap.size, 0, none⟩) (by simp [hzw])).trans hc0
  have hd2 : w1.cell? ⟨w.heap.size + 1, 0, none⟩ = some (.slice none 0 0) := (hb.cell (p := ⟨w.heap.size + 1, 0, none⟩) (by simp [hzw])).trans hc2
  have hg2 : w1.frozen? ⟨w.heap.size + 1, 0, none⟩ = false := (hb.frozen (p := ⟨w.heap.size + 1, 0, none⟩) (by simp [hzw])).trans hf2
  have hsz1 : w.heap.size + 2 ≤ w1.heap.size := by rw [← hzw]; exact hb.size
  clear hb hc0 hc2 hf2 HV HW hzw HB0
  have HO0 : Hid ((w1.alloc (.cells #[.int .i64 1] 3)).ownsRow w1.heap.size 3 1 (.slice (some ⟨w1.heap.size, 0, none⟩) 1 1) 1 (nats (Na.dig (x ^ (m / 2 ^ Nbl m))))) := by
    unfold Hid
    rw [Na.pow_start m hm, Nat.pow_zero, Na.dig_small 1 (by omega) (by omega)]
    exact World.ownsRow_lit (base := w1.heap.size) (e := 3) (size := 1) w1 #[.int .i64 1] 1 (Nat.le_refl _) (by unfold maxLen; omega) rfl
  have HL0 : Hid ((Na.dig (x ^ (m / 2 ^ Nbl m))).length = 1) := by unfold Hid; rw [Na.pow_start m hm, Nat.pow_zero, Na.dig_small 1 (by omega) (by omega)]; rfl
  have HBL0 : Hid (Below w1.heap.size w1 (w1.alloc (.cells #[.int .i64 1] 3))) := bal (Below.refl _ _) _
  have HSZ0 : Hid (w1.heap.size ≤ (w1.alloc (.cells #[.int .i64 1] 3)).heap.size) := by unfold Hid; simp
  rcases Nat.eq_zero_or_pos x with hx0 | hx0
  · have hn0 : n = 0 := by rw [← HN.out]; exact Na.dig_len0.2 hx0
    subst hn0
    have HLB : Hid (∀ j, j ≤ m → (Na.dig (x ^ j)).length ≤ 401) := fun j _ => by rw [hx0]; exact Na.pow_400_zero j
    clear hx0
    go_wp2_with fail
    have HBl := Lib.hid (blen_any m (m : Int) rfl w1 (by omega))
    go_wp2_with fail
    refine (blen_any m (m : Int) rfl _ (by omega)).mono ?_
    rintro e w1' ⟨rfl, rfl⟩
    go_wp2_with fail
    go_loopw [9, 8] (fun i o wr => NPw w1 x m i o wr) (fun i _ _ => (intOf i + 1).toNat)
    case atStart => exact ⟨_, Nbl m, _, 1, 1, rfl, by omega, rfl, hbm, by omega, HL0.out, HO0.out, HBL0.out, HSZ0.out⟩
    case round =>
      clear HO0 HL0 HBL0 HSZ0 HBl
      obtain ⟨v, j, A1, n1, c1, rfl, hvj, rfl, hj13, hn1, HLn, ho, hb, hbs⟩ := hrel
      have HO := Lib.hid ho
      have HB := Lib.hid hb
      have HBS := Lib.hid hbs
      clear ho hb hbs
      rcases Nat.eq_zero_or_pos j with hj0 | hj0
      · have hv : v = -1 := by omega
        subst hv
        have HEq : Hid (Na.dig (x ^ (m / 2 ^ j)) = Na.dig (x ^ m)) := by unfold Hid; rw [hj0, Nat.pow_zero, Nat.div_one]
        clear hvj hj0
        rw [HEq.out] at HO HLn
        have HR := Lib.hid (nresult_any A1 n1 c1 w1.heap.size (Na.dig (x ^ m)) wr HLn.out HO.out (Na.dig_lim _) (by omega))
        rw [Na.val_dig] at HR
        go_wp2_with fail
        refine HR.out.mono ?_
        rintro e w9 ⟨A9, n9, c9, rfl, hn9, ho9, hb9⟩
        have HN9 := Lib.hid hn9
        have HO9 := Lib.hid ho9
        have HB9 := Lib.hid (HB.out.trans (hb9.mono HBS.out))
        have hk9 : w9.cell? ⟨w.heap.size + 1, 0, none⟩ = some (.slice none 0 0) := (HB9.out.cell (p := ⟨w.heap.size + 1, 0, none⟩) (by simp; omega)).trans hd2
        have hk9f : w9.frozen? ⟨w.heap.size + 1, 0, none⟩ = false := (HB9.out.frozen (p := ⟨w.heap.size + 1, 0, none⟩) (by simp; omega)).trans hg2
        clear hn9 ho9 hb9 hd0 hd2 hg2
        go_wp2_with fail
        refine bodyPost_ret (v := .tuple #[.agg #[.slice A9 n9 c9], .int .i64 (resE (x ^ m))]) (by simp [results, Tryd.results82, go_sem, hk9]) rfl ?_
        exact resN_cell HO9.out HN9.out (by omega) (by omega) (HB1.out.trans (HB9.out.mono HB1.out.size)) (by omega) _ _
      · obtain ⟨q, hq⟩ : ∃ q, j = q + 1 := ⟨j - 1, by omega⟩
        have hv : v = (q : Int) := by omega
        subst hv
        have hq13 : q ≤ 12 := by omega
        obtain ⟨s, hs1⟩ : ∃ s, m / 2 ^ q = s := ⟨_, rfl⟩
        have hsh : (m : Int) / 2 ^ q = (s : Int) := by rw [← hs1]; norm_cast
        have HSQ : Hid (s % 2 = 0 → x ^ (m / 2 ^ j) * x ^ (m / 2 ^ j) = x ^ s) := fun h => by rw [hq, ← hs1]; exact Na.pow_sq x m q (by rw [hs1]; exact h)
        have HSX : Hid (s % 2 = 1 → x ^ (m / 2 ^ j) * x ^ (m / 2 ^ j) * x = x ^ s) := fun h => by rw [hq, ← hs1]; exact Na.pow_sqx x m q (by rw [hs1]; exact h)
        have HSM : Hid (m / 2 ^ j + m / 2 ^ j ≤ m) := by
          unfold Hid
          have h1 := Na.pow_half m q
          have h2 : m / 2 ^ q ≤ m := Nat.div_le_self _ _
          rw [hq]; omega
        have HSS : Hid (m / 2 ^ q = s) := hs1
        have HSLE : Hid (s ≤ m) := by unfold Hid; rw [← hs1]; exact Nat.div_le_self _ _
        have HPr := Lib.hid (nproduct_any A1 A1 n1 c1 n1 c1 _ _ wr HLn.out HLn.out (Sl.of_own HO.out) (Sl.of_own HO.out) (Na.dig_lim _) (Na.dig_lim _) (by omega) (by omega))
        rw [Na.val_dig, ← Nat.pow_add] at HPr
        rw [← Nat.pow_add] at HSQ HSX
        have HC1 : Hid (n1 ≤ c1) := (own_cap HO.out).1
        clear hvj hj0 hs1
        go_wp2_with fail
        refine HPr.out.mono ?_
        rintro e w2 ⟨A2, n2, c2, rfl, hn2, ho2, hb2⟩
        have HN2 := Lib.hid hn2
        have HO2 := Lib.hid ho2
        have HB2 := Lib.hid (HB.out.trans (hb2.mono HBS.out))
        have HS2 := Lib.hid (Nat.le_trans HBS.out hb2.size)
        have hn2l : n2 ≤ 401 := by rw [← hn2]; exact HLB.out _ HSM.out
        clear hn2 ho2 hb2 HPr
        rcases Nat.mod_two_eq_zero_or_one s with hbit | hbit
        · have hand : bits .and .i64 (s : Int) 1 = 0 := by rw [and1]; omega
          have HE := Lib.hid (HSQ.out hbit)
          clear HSQ HSX hbit
          go_wp2_with fail
          go_roundw
          case rel =>
            refine ⟨_, q, A2, n2, c2, rfl, by omega, rfl, by omega, hn2l, ?_, ?_, HB2.out, HS2.out⟩
            · rw [HSS.out, ← HE.out]; exact HN2.out
            · rw [HSS.out, ← HE.out]; exact own_more HO2.out HBS.out
          case measure => (simp [intOf]) <;> omega
        · have hand : bits .and .i64 (s : Int) 1 = 1 := by rw [and1]; omega
          have HE := Lib.hid (HSX.out hbit)
          clear HSQ HSX hbit
          have hm0 : w2.cell? ⟨w.heap.size, 0, none⟩ = some (.slice A 0 c) := (HB2.out.cell (p := ⟨w.heap.size, 0, none⟩) (by simp; omega)).trans hd0
          have HPx := Lib.hid (nproduct_any A2 A n2 c2 0 c _ (Na.dig x) w2 HN2.out HN.out (Sl.of_own HO2.out) ((HS.out.below ((HB1.out.trans (HB2.out.mono HB1.out.size)))).more (Nat.le_trans HB1.out.size HS2.out)) (Na.dig_lim _) (Na.dig_lim _) (by omega) (by omega))
          rw [Na.val_dig, Na.val_dig, HE.out] at HPx
          go_wp2_with fail
          refine HPx.out.mono ?_
          rintro e w3 ⟨A3, n3, c3, rfl, hn3, ho3, hb3⟩
          have HN3 := Lib.hid hn3
          have HO3 := Lib.hid ho3
          have HB3 := Lib.hid (HB2.out.trans (hb3.mono HS2.out))
          have HS3 := Lib.hid (Nat.le_trans HS2.out hb3.size)
          have hn3l : n3 ≤ 401 := by rw [← hn3]; exact HLB.out _ HSLE.out
          clear hn3 ho3 hb3 HPx hm0
          go_wp2_with fail
          go_roundw
          case rel =>
            refine ⟨_, q, A3, n3, c3, rfl, by omega, rfl, by omega, hn3l, ?_, ?_, HB3.out, HS3.out⟩
            · rw [HSS.out]; exact HN3.out
            · rw [HSS.out]; exact own_more HO3.out HS2.out
          case measure => (simp [intOf]) <;> omega
  · have hn1 : 0 < n := by
      rcases Nat.eq_zero_or_pos n with h0 | h0
      · rw [← HN.out, Na.dig_len0] at h0
        omega
      · exact h0
    obtain ⟨k, hk⟩ : ∃ k, n = k + 1 := ⟨n - 1, by omega⟩
    obtain ⟨a, ha⟩ := nat_at (Na.dig x) k (by rw [HN.out]; omega)
    obtain ⟨ha0, hb1, hb2, hb3⟩ := Na.bitlen x k a (by rw [HN.out]; exact hk) ha
    have ha24 := (Na.dig_lim x).at ha
    have hbl24 : Nbl a ≤ 24 := nbl_le (k := 24) (by omega) (by omega)
    obtain ⟨ad, rfl, hbk, hca⟩ := (HS.out.below HB1.out).nat ha
    obtain ⟨L, hL⟩ : ∃ L, k * 24 + Nbl a = L + 1 := ⟨k * 24 + Nbl a - 1, by omega⟩
    obtain ⟨p, hp⟩ : ∃ p, L * m = p := ⟨_, rfl⟩
    have hpb : p ≤ 23040000 := by
      rw [← hp]
      exact Nat.mul_le_mul (show L ≤ 4800 by omega) hm
    rw [hL, Nat.add_sub_cancel] at hb2
    rw [hL] at hb3
    have HX1 := Lib.hid hb2
    have HX2 := Lib.hid hb3
    have HP := Lib.hid hp
    have e1 : (n : Int) - 1 = (k : Int) := by omega
    have e2 : (k : Int) * 24 + (Nbl a : Int) = (L : Int) + 1 := by omega
    have e3 : (L : Int) + 1 - 1 = (L : Int) := by omega
    have e4 : (L : Int) * (m : Int) = (p : Int) := by rw [← hp]; norm_cast
    have hLb : L ≤ 4800 := by omega
    have hk0 : 0 < n := by omega
    have hk9 : k < n := by omega
    have hk1 : (k : Int) < (n : Int) := by omega
    clear hb2 hb3 hp hL hk ha
    rcases Nat.lt_or_ge p 4800 with hp1 | hp1
    · have HLB : Hid (∀ j, j ≤ m → (Na.dig (x ^ j)).length ≤ 401) := fun j hj => Na.pow_400 (L := L + 1) (by omega) HX2.out (by rw [Nat.add_sub_cancel, HP.out]; exact hp1) hx0 hj
      have t1 : decide (4800 ≤ (p : Int)) = false := decide_eq_false (by omega)
      clear HX1 HX2 HP
      go_wp2_with fail
      refine (blen_any a _ rfl _ (by omega)).mono ?_
      rintro e w1' ⟨rfl, rfl⟩
      have HBl := Lib.hid (blen_any m (m : Int) rfl w1 (by omega))
      go_wp2_with fail
      refine (blen_any m (m : Int) rfl _ (by omega)).mono ?_
      rintro e w1' ⟨rfl, rfl⟩
      go_wp2_with fail
      go_loopw [9, 8] (fun i o wr => NPw w1 x m i o wr) (fun i _ _ => (intOf i + 1).toNat)
      case atStart => exact ⟨_, Nbl m, _, 1, 1, rfl, by omega, rfl, hbm, by omega, HL0.out, HO0.out, HBL0.out, HSZ0.out⟩
      case round =>
        clear HO0 HL0 HBL0 HSZ0 HBl
        obtain ⟨v, j, A1, n1, c1, rfl, hvj, rfl, hj13, hn1, HLn, ho, hb, hbs⟩ := hrel
        have HO := Lib.hid ho
        have HB := Lib.hid hb
        have HBS := Lib.hid hbs
        clear ho hb hbs
        rcases Nat.eq_zero_or_pos j with hj0 | hj0
        · have hv : v = -1 := by omega
          subst hv
          have HEq : Hid (Na.dig (x ^ (m / 2 ^ j)) = Na.dig (x ^ m)) := by unfold Hid; rw [hj0, Nat.pow_zero, Nat.div_one]
          clear hvj hj0
          rw [HEq.out] at HO HLn
          have HR := Lib.hid (nresult_any A1 n1 c1 w1.heap.size (Na.dig (x ^ m)) wr HLn.out HO.out (Na.dig_lim _) (by omega))
          rw [Na.val_dig] at HR
          go_wp2_with fail
          refine HR.out.mono ?_
          rintro e w9 ⟨A9, n9, c9, rfl, hn9, ho9, hb9⟩
          have HN9 := Lib.hid hn9
          have HO9 := Lib.hid ho9
          have HB9 := Lib.hid (HB.out.trans (hb9.mono HBS.out))
          have hk9 : w9.cell? ⟨w.heap.size + 1, 0, none⟩ = some (.slice none 0 0) := (HB9.out.cell (p := ⟨w.heap.size + 1, 0, none⟩) (by simp; omega)).trans hd2
          have hk9f : w9.frozen? ⟨w.heap.size + 1, 0, none⟩ = false := (HB9.out.frozen (p := ⟨w.heap.size + 1, 0, none⟩) (by simp; omega)).trans hg2
          clear hn9 ho9 hb9 hd0 hd2 hg2
          go_wp2_with fail
          refine bodyPost_ret (v := .tuple #[.agg #[.slice A9 n9 c9], .int .i64 (resE (x ^ m))]) (by simp [results, Tryd.results82, go_sem, hk9]) rfl ?_
          exact resN_cell HO9.out HN9.out (by omega) (by omega) (HB1.out.trans (HB9.out.mono HB1.out.size)) (by omega) _ _
        · obtain ⟨q, hq⟩ : ∃ q, j = q + 1 := ⟨j - 1, by omega⟩
          have hv : v = (q : Int) := by omega
          subst hv
          have hq13 : q ≤ 12 := by omega
          obtain ⟨s, hs1⟩ : ∃ s, m / 2 ^ q = s := ⟨_, rfl⟩
          have hsh : (m : Int) / 2 ^ q = (s : Int) := by rw [← hs1]; norm_cast
          have HSQ : Hid (s % 2 = 0 → x ^ (m / 2 ^ j) * x ^ (m / 2 ^ j) = x ^ s) := fun h => by rw [hq, ← hs1]; exact Na.pow_sq x m q (by rw [hs1]; exact h)
          have HSX : Hid (s % 2 = 1 → x ^ (m / 2 ^ j) * x ^ (m / 2 ^ j) * x = x ^ s) := fun h => by rw [hq, ← hs1]; exact Na.pow_sqx x m q (by rw [hs1]; exact h)
          have HSM : Hid (m / 2 ^ j + m / 2 ^ j ≤ m) := by
            unfold Hid
            have h1 := Na.pow_half m q
            have h2 : m / 2 ^ q ≤ m := Nat.div_le_self _ _
            rw [hq]; omega
          have HSS : Hid (m / 2 ^ q = s) := hs1
          have HSLE : Hid (s ≤ m) := by unfold Hid; rw [← hs1]; exact Nat.div_le_self _ _
          have HPr := Lib.hid (nproduct_any A1 A1 n1 c1 n1 c1 _ _ wr HLn.out HLn.out (Sl.of_own HO.out) (Sl.of_own HO.out) (Na.dig_lim _) (Na.dig_lim _) (by omega) (by omega))
          rw [Na.val_dig, ← Nat.pow_add] at HPr
          rw [← Nat.pow_add] at HSQ HSX
          have HC1 : Hid (n1 ≤ c1) := (own_cap HO.out).1
          clear hvj hj0 hs1
          go_wp2_with fail
          refine HPr.out.mono ?_
          rintro e w2 ⟨A2, n2, c2, rfl, hn2, ho2, hb2⟩
          have HN2 := Lib.hid hn2
          have HO2 := Lib.hid ho2
          have HB2 := Lib.hid (HB.out.trans (hb2.mono HBS.out))
          have HS2 := Lib.hid (Nat.le_trans HBS.out hb2.size)
          have hn2l : n2 ≤ 401 := by rw [← hn2]; exact HLB.out _ HSM.out
          clear hn2 ho2 hb2 HPr
          rcases Nat.mod_two_eq_zero_or_one s with hbit | hbit
          · have hand : bits .and .i64 (s : Int) 1 = 0 := by rw [and1]; omega
            have HE := Lib.hid (HSQ.out hbit)
            clear HSQ HSX hbit
            go_wp2_with fail
            go_roundw
            case rel =>
              refine ⟨_, q, A2, n2, c2, rfl, by omega, rfl, by omega, hn2l, ?_, ?_, HB2.out, HS2.out⟩
              · rw [HSS.out, ← HE.out]; exact HN2.out
              · rw [HSS.out, ← HE.out]; exact own_more HO2.out HBS.out
            case measure => (simp [intOf]) <;> omega
          · have hand : bits .and .i64 (s : Int) 1 = 1 := by rw [and1]; omega
            have HE := Lib.hid (HSX.out hbit)
            clear HSQ HSX hbit
            have hm0 : w2.cell? ⟨w.heap.size, 0, none⟩ = some (.slice (some ad) n c) := (HB2.out.cell (p := ⟨w.heap.size, 0, none⟩) (by simp; omega)).trans hd0
            have HPx := Lib.hid (nproduct_any A2 (some ad) n2 c2 n c _ (Na.dig x) w2 HN2.out HN.out (Sl.of_own HO2.out) ((HS.out.below ((HB1.out.trans (HB2.out.mono HB1.out.size)))).more (Nat.le_trans HB1.out.size HS2.out)) (Na.dig_lim _) (Na.dig_lim _) (by omega) (by omega))
            rw [Na.val_dig, Na.val_dig, HE.out] at HPx
            go_wp2_with fail
            refine HPx.out.mono ?_
            rintro e w3 ⟨A3, n3, c3, rfl, hn3, ho3, hb3⟩
            have HN3 := Lib.hid hn3
            have HO3 := Lib.hid ho3
            have HB3 := Lib.hid (HB2.out.trans (hb3.mono HS2.out))
            have HS3 := Lib.hid (Nat.le_trans HS2.out hb3.size)
            have hn3l : n3 ≤ 401 := by rw [← hn3]; exact HLB.out _ HSLE.out
            clear hn3 ho3 hb3 HPx hm0
            go_wp2_with fail
            go_roundw
            case rel =>
              refine ⟨_, q, A3, n3, c3, rfl, by omega, rfl, by omega, hn3l, ?_, ?_, HB3.out, HS3.out⟩
              · rw [HSS.out]; exact HN3.out
              · rw [HSS.out]; exact own_more HO3.out HS2.out
            case measure => (simp [intOf]) <;> omega
    · have HR : Hid (resL (x ^ m) = []) := resL_no (Na.pow_big HX1.out (by rw [HP.out]; exact hp1))
      have HE : Hid (resE (x ^ m) = 3) := resE_no (Na.pow_big HX1.out (by rw [HP.out]; exact hp1))
      have t1 : decide (4800 ≤ (p : Int)) = true := decide_eq_true (by omega)
      clear HX1 HX2 HP HO0 HL0 HBL0 HSZ0
      go_wp2_with fail
      refine (blen_any a _ rfl _ (by omega)).mono ?_
      rintro e w1' ⟨rfl, rfl⟩
      go_wp2_with fail
      rw [HR.out, HE.out]
      refine bodyPost_ret (v := .tuple #[.agg #[.slice none 0 0], .int .i64 3]) (by simp [results, Tryd.results82, go_sem, hd2]) rfl ?_
      exact resN_nil _ _ _ (bset HB1.out _ (by show w.heap.size ≤ w.heap.size + 1; omega) _)
end Go.Proofs.YtjhaogbopmhkoaaDoor

/- The document's Add, Mul of numbers. -/
import Derived.Test.YtflgfkelbniblaaDoorNRefA
import Derived.Test.YtflgfkelbniblaaDoorNatF
import Derived.Deep.RegionHeld3
namespace Go.Proofs.YtflgfkelbniblaaDoor
open Go.RowKit
set_option linter.unusedVariables false
set_option maxRecDepth 100000
theorem keepN3 {wr W W' : World} {a b : Addr} {u v : Value} (h0 : W.cell? a = some u) (h1 : W.cell? b = some v) (h2 : Below wr.heap.size wr W) (ha : a.block < wr.heap.size) (hb' : b.block < wr.heap.size) (hb : Below W.heap.size W W') : W'.cell? a = some u ∧ W'.cell? b = some v ∧ Below wr.heap.size wr W' :=
  ⟨(hb.cell (Nat.lt_of_lt_of_le ha h2.size)).trans h0, (hb.cell (Nat.lt_of_lt_of_le hb' h2.size)).trans h1, h2.trans (hb.mono h2.size)⟩
namespace Na
theorem radd_end (x y k cr : Nat) (o : List Nat) (N : Nat) (ho : o.length = k) (hk : k = N + 1) (h : val o + 16777216 ^ k * cr = val ((dig x).take k) + val ((dig y).take k)) (hX : (dig x).length ≤ N) (hY : (dig y).length ≤ N) : val o = x + y := by
  have h1 := (dig_len_iff x N).1 hX
  have h2 := (dig_len_iff y N).1 hY
  rw [List.take_of_length_le (by omega), List.take_of_length_le (by omega), val_dig, val_dig, hk, Nat.pow_succ] at h
  generalize 16777216 ^ N = P at h h1 h2
  rcases Nat.eq_zero_or_pos cr with h3 | h3
  · rw [h3, Nat.mul_zero] at h
    exact h
  · have h4 := Nat.mul_le_mul_left (P * 16777216) h3
    rw [Nat.mul_one] at h4
    omega
end Na

set_option maxHeartbeats 1000000 in
theorem nradd_bad1 (A A2 : Option Addr) (n c m c2 : Nat) (zs ys : List Int) (w : World) (hn : zs.length = n) (hm : ys.length = m) (hs : Sl w w.heap.size A (ints zs)) (hs2 : Sl w w.heap.size A2 (ints ys)) (hl : n ≤ 140737488351232) (hl2 : m ≤ 140737488351232) (hv1 : Na.vld zs = false) (b2 : Bool) (hv2 : Na.vld ys = b2) :
    Calls Tryd.prog 17 #[.agg #[.slice A n c], .agg #[.slice A2 m c2]] w (ResN w [] 1) := by
  have HN := Lib.hid hn
  have HM := Lib.hid hm
  have HS := Lib.hid hs
  have HS2 := Lib.hid hs2
  have HV1 : Hid (∀ W, Below w.heap.size w W → Calls Tryd.prog 44 #[.agg #[.slice A n c]] W fun e w' => e = .returned (.bool false) ∧ Below W.heap.size W w') := fun W hW => by
    rw [← hv1]
    exact nrvalid_any A n c w.heap.size _ W HN.out (HS.out.below hW) hW.size (by omega)
  have HV2 : Hid (∀ W, Below w.heap.size w W → Calls Tryd.prog 44 #[.agg #[.slice A2 m c2]] W fun e w' => e = .returned (.bool b2) ∧ Below W.heap.size W w') := fun W hW => by
    rw [← hv2]
    exact nrvalid_any A2 m c2 w.heap.size _ W HM.out (HS2.out.below hW) hW.size (by omega)
  obtain ⟨w0, hw0⟩ : ∃ w0, ((w.alloc (.cells #[.slice A n c] 29)).alloc (.cells #[.slice A2 m c2] 29)).alloc (.cells #[.slice none 0 0] 29) = w0 := ⟨_, rfl⟩
  have HW : Hid (((w.alloc (.cells #[.slice A n c] 29)).alloc (.cells #[.slice A2 m c2] 29)).alloc (.cells #[.slice none 0 0] 29) = w0) := hw0
  have hb0 : Below w.heap.size w w0 := by rw [← hw0]; exact bal (bal (bal (Below.refl _ _) _) _) _
  have HB0 := Lib.hid hb0
  have hzw : w0.heap.size = w.heap.size + 3 := by rw [← hw0]; simp
  have hc0 : w0.cell? ⟨w.heap.size, 0, none⟩ = some (.slice A n c) := by rw [← hw0]; simp [go_sem]
  have hc1 : w0.cell? ⟨w.heap.size + 1, 0, none⟩ = some (.slice A2 m c2) := by rw [← hw0]; simp [go_sem]
  have hc2 : w0.cell? ⟨w.heap.size + 2, 0, none⟩ = some (.slice none 0 0) := by rw [← hw0]; simp [go_sem]
  have hf2 : w0.frozen? ⟨w.heap.size + 2, 0, none⟩ = false := by rw [← hw0]; simp [go_sem]
  clear hs hs2 hn hm hb0 hw0 hv1 hv2
  go_enter Tryd.func17, Tryd.ntmps17
  go_wp2_with fail
  rw [HW.out]
  refine (HV1.out _ HB0.out).mono ?_
  rintro e w1 ⟨rfl, hb⟩
  have HB1 := Lib.hid (btr HB0.out hb)
  have hd0 : w1.cell? ⟨w.heap.size, 0, none⟩ = some (.slice A n c) := (hb.cell (p := ⟨w.heap.size, 0, none⟩) (by simp [hzw])).trans hc0
  have hd1 : w1.cell? ⟨w.heap.size + 1, 0, none⟩ = some (.slice A2 m c2) := (hb.cell (p := ⟨w.heap.size + 1, 0, none⟩) (by simp [hzw])).trans hc1
  have hd2 : w1.cell? ⟨w.heap.size + 2, 0, none⟩ = some (.slice none 0 0) := (hb.cell (p := ⟨w.heap.size + 2, 0, none⟩) (by simp [hzw])).trans hc2
  have hg2 : w1.frozen? ⟨w.heap.size + 2, 0, none⟩ = false := (hb.frozen (p := ⟨w.heap.size + 2, 0, none⟩) (by simp [hzw])).trans hf2
  have hsz1 : w.heap.size + 3 ≤ w1.heap.size := by rw [← hzw]; exact hb.size
  clear hb hc0 hc1 hc2 hf2 HV1 HW hzw HB0
  go_wp2_with fail
  refine bodyPost_ret (v := .tuple #[.agg #[.slice none 0 0], .int .i64 1]) (by simp [results, Tryd.results17, go_sem, hd2]) rfl ?_
  exact resN_nil _ _ _ (bset HB1.out _ (by show w.heap.size ≤ w.heap.size + 2; omega) _)

set_option maxHeartbeats 1000000 in
theorem nradd_bad2 (A A2 : Option Addr) (n c m c2 : Nat) (zs ys : List Int) (w : World) (hn : zs.length = n) (hm : ys.length = m) (hs : Sl w w.heap.size A (ints zs)) (hs2 : Sl w w.heap.size A2 (ints ys)) (hl : n ≤ 140737488351232) (hl2 : m ≤ 140737488351232) (hv1 : Na.vld zs = true) (hv2 : Na.vld ys = false) :
    Calls Tryd.prog 17 #[.agg #[.slice A n c], .agg #[.slice A2 m c2]] w (ResN w [] 1) := by
  have HN := Lib.hid hn
  have HM := Lib.hid hm
  have HS := Lib.hid hs
  have HS2 := Lib.hid hs2
  have HV1 : Hid (∀ W, Below w.heap.size w W → Calls Tryd.prog 44 #[.agg #[.slice A n c]] W fun e w' => e = .returned (.bool true) ∧ Below W.heap.size W w') := fun W hW => by
    rw [← hv1]
    exact nrvalid_any A n c w.heap.size _ W HN.out (HS.out.below hW) hW.size (by omega)
  have HV2 : Hid (∀ W, Below w.heap.size w W → Calls Tryd.prog 44 #[.agg #[.slice A2 m c2]] W fun e w' => e = .returned (.bool false) ∧ Below W.heap.size W w') := fun W hW => by
    rw [← hv2]
    exact nrvalid_any A2 m c2 w.heap.size _ W HM.out (HS2.out.below hW) hW.size (by omega)
  obtain ⟨w0, hw0⟩ : ∃ w0, ((w.alloc (.cells #[.slice A n c] 29)).alloc (.cells #[.slice A2 m c2] 29)).alloc (.cells #[.slice none 0 0] 29) = w0 := ⟨_, rfl⟩
  have HW : Hid (((w.alloc (.cells #[.slice A n c] 29)).alloc (.cells #[.slice A2 m c2] 29)).alloc (.cells #[.slice none 0 0] 29) = w0) := hw0
  have hb0 : Below w.heap.size w w0 := by rw [← hw0]; exact bal (bal (bal (Below.refl _ _) _) _) _
  have HB0 := Lib.hid hb0
  have hzw : w0.heap.size = w.heap.size + 3 := by rw [← hw0]; simp
  have hc0 : w0.cell? ⟨w.heap.size, 0, none⟩ = some (.slice A n c) := by rw [← hw0]; simp [go_sem]
  have hc1 : w0.cell? ⟨w.heap.size + 1, 0, none⟩ = some (.slice A2 m c2) := by rw [← hw0]; simp [go_sem]
  have hc2 : w0.cell? ⟨w.heap.size + 2, 0, none⟩ = some (.slice none 0 0) := by rw [← hw0]; simp [go_sem]
  have hf2 : w0.frozen? ⟨w.heap.size + 2, 0, none⟩ = false := by rw [← hw0]; simp [go_sem]
  clear hs hs2 hn hm hb0 hw0 hv1 hv2
  go_enter Tryd.func17, Tryd.ntmps17
  go_wp2_with fail
  rw [HW.out]
  refine (HV1.out _ HB0.out).mono ?_
  rintro e w1 ⟨rfl, hb⟩
  have HB1 := Lib.hid (btr HB0.out hb)
  have hd0 : w1.cell? ⟨w.heap.size, 0, none⟩ = some (.slice A n c) := (hb.cell (p := ⟨w.heap.size, 0, none⟩) (by simp [hzw])).trans hc0
  have hd1 : w1.cell? ⟨w.heap.size + 1, 0, none⟩ = some (.slice A2 m c2) := (hb.cell (p := ⟨w.heap.size + 1, 0, none⟩) (by simp [hzw])).trans hc1
  have hd2 : w1.cell? ⟨w.heap.size + 2, 0, none⟩ = some (.slice none 0 0) := (hb.cell (p := ⟨w.heap.size + 2, 0, none⟩) (by simp [hzw])).trans hc2
  have hg2 : w1.frozen? ⟨w.heap.size + 2, 0, none⟩ = false := (hb.frozen (p := ⟨w.heap.size + 2, 0, none⟩) (by simp [hzw])).trans hf2
  have hsz1 : w.heap.size + 3 ≤ w1.heap.size := by rw [← hzw]; exact hb.size
  clear hb hc0 hc1 hc2 hf2 HV1 HW hzw HB0
  go_wp2_with fail
  refine (HV2.out _ HB1.out).mono ?_
  rintro e w2 ⟨rfl, hb⟩
  have HBx := Lib.hid (btr HB1.out hb)
  have he0 : w2.cell? ⟨w.heap.size, 0, none⟩ = some (.slice A n c) := (hb.cell (p := ⟨w.heap.size, 0, none⟩) (by simp; omega)).trans hd0
  have he1 : w2.cell? ⟨w.heap.size + 1, 0, none⟩ = some (.slice A2 m c2) := (hb.cell (p := ⟨w.heap.size + 1, 0, none⟩) (by simp; omega)).trans hd1
  have he2 : w2.cell? ⟨w.heap.size + 2, 0, none⟩ = some (.slice none 0 0) := (hb.cell (p := ⟨w.heap.size + 2, 0, none⟩) (by simp; omega)).trans hd2
  have hh2 : w2.frozen? ⟨w.heap.size + 2, 0, none⟩ = false := (hb.frozen (p := ⟨w.heap.size + 2, 0, none⟩) (by simp; omega)).trans hg2
  have hsz2 : w.heap.size + 3 ≤ w2.heap.size := Nat.le_trans hsz1 hb.size
  clear hb hd0 hd1 hd2 hg2
  go_wp2_with fail
  refine bodyPost_ret (v := .tuple #[.agg #[.slice none 0 0], .int .i64 1]) (by simp [results, Tryd.results17, go_sem, he2]) rfl ?_
  exact resN_nil _ _ _ (bset HBx.out _ (by show w.heap.size ≤ w.heap.size + 2; omega) _)

def NRAdd (w : World) (B : Nat) (X Y : List Nat) (n : Nat) (i o cr : Value) (wr : World) : Prop :=
  ∃ (k c : Nat) (A : Option Addr) (ca : Nat) (l : List Nat), k ≤ n + 1 ∧ i = .int .i64 (k : Int) ∧ cr = .int .i64 (c : Int) ∧ o = .slice A k ca ∧ c ≤ 1 ∧ Hid (l.length = k ∧ Na.Lim l ∧ Na.val l + 16777216 ^ k * c = Na.val (X.take k) + Na.val (Y.take k)) ∧ wr.ownsRow B 3 1 (.slice A k ca) k (nats l) ∧ Below B w wr

set_option maxHeartbeats 2000000 in
theorem nradd_ge (A A2 : Option Addr) (n c m c2 : Nat) (x y : Nat) (w : World) (hn : (Na.dig x).length = n) (hm : (Na.dig y).length = m) (hs : Sl w w.heap.size A (nats (Na.dig x))) (hs2 : Sl w w.heap.size A2 (nats (Na.dig y))) (hx : x < Na.top) (hy : y < Na.top) (hcmp : m ≤ n) :
    Calls Tryd.prog 17 #[.agg #[.slice A n c], .agg #[.slice A2 m c2]] w (ResN w (resL (x + y)) (resE (x + y))) := by
  obtain ⟨i0, hi, hz0, hz1, hz2⟩ := info_parts infoI
  have hn2 : n ≤ 200 := by rw [← hn]; exact (Na.dig_200 x).2 hx
  have hm2 : m ≤ 200 := by rw [← hm]; exact (Na.dig_200 y).2 hy
  have HN := Lib.hid hn
  have HM := Lib.hid hm
  have HS := Lib.hid hs
  have HS2 := Lib.hid hs2
  have HX := Lib.hid hx
  have HY := Lib.hid hy
  have HV1 : Hid (∀ W, Below w.heap.size w W → Calls Tryd.prog 44 #[.agg #[.slice A n c]] W fun e w' => e = .returned (.bool true) ∧ Below W.heap.size W w') := fun W hW => by
    rw [← (Na.vld_dig HX.out)]
    exact nrvalid_any A n c w.heap.size _ W (by rw [Na.up_length]; exact HN.out) (by rw [nats_up]; exact HS.out.below hW) hW.size (by omega)
  have HV2 : Hid (∀ W, Below w.heap.size w W → Calls Tryd.prog 44 #[.agg #[.slice A2 m c2]] W fun e w' => e = .returned (.bool true) ∧ Below W.heap.size W w') := fun W hW => by
    rw [← (Na.vld_dig HY.out)]
    exact nrvalid_any A2 m c2 w.heap.size _ W (by rw [Na.up_length]; exact HM.out) (by rw [nats_up]; exact HS2.out.below hW) hW.size (by omega)
  obtain ⟨w0, hw0⟩ : ∃ w0, ((w.alloc (.cells #[.slice A n c] 29)).alloc (.cells #[.slice A2 m c2] 29)).alloc (.cells #[.slice none 0 0] 29) = w0 := ⟨_, rfl⟩
  have HW : Hid (((w.alloc (.cells #[.slice A n c] 29)).alloc (.cells #[.slice A2 m c2] 29)).alloc (.cells #[.slice none 0 0] 29) = w0) := hw0
  have hb0 : Below w.heap.size w w0 := by rw [← hw0]; exact bal (bal (bal (Below.refl _ _) _) _) _
  have HB0 := Lib.hid hb0
  have hzw : w0.heap.size = w.heap.size + 3 := by rw [← hw0]; simp
  have hc0 : w0.cell? ⟨w.heap.size, 0, none⟩ = some (.slice A n c) := by rw [← hw0]; simp [go_sem]
  have hc1 : w0.cell? ⟨w.heap.size + 1, 0, none⟩ = some (.slice A2 m c2) := by rw [← hw0]; simp [go_sem]
  have hc2 : w0.cell? ⟨w.heap.size + 2, 0, none⟩ = some (.slice none 0 0) := by rw [← hw0]; simp [go_sem]
  have hf2 : w0.frozen? ⟨w.heap.size + 2, 0, none⟩ = false := by rw [← hw0]; simp [go_sem]
  clear hs hs2 hn hm hb0 hw0 hx hy
  go_enter Tryd.func17, Tryd.ntmps17
  go_wp2_with fail
  rw [HW.out]
  refine (HV1.out _ HB0.out).mono ?_
  rintro e w1 ⟨rfl, hb⟩
  have HB1 := Lib.hid (btr HB0.out hb)
  have hd0 : w1.cell? ⟨w.heap.size, 0, none⟩ = some (.slice A n c) := (hb.cell (p := ⟨w.heap.size, 0, none⟩) (by simp [hzw])).trans hc0
  have hd1 : w1.cell? ⟨w.heap.size + 1, 0, none⟩ = some (.slice A2 m c2) := (hb.cell (p := ⟨w.heap.size + 1, 0, none⟩) (by simp [hzw])).trans hc1
  have hd2 : w1.cell? ⟨w.heap.size + 2, 0, none⟩ = some (.slice none 0 0) := (hb.cell (p := ⟨w.heap.size + 2, 0, none⟩) (by simp [hzw])).trans hc2
  have hg2 : w1.frozen? ⟨w.heap.size + 2, 0, none⟩ = false := (hb.frozen (p := ⟨w.heap.size + 2, 0, none⟩) (by simp [hzw])).trans hf2
  have hsz1 : w.heap.size + 3 ≤ w1.heap.size := by rw [← hzw]; exact hb.size
  clear hb hc0 hc1 hc2 hf2 HV1 HW hzw HB0
  go_wp2_with fail
  refine (HV2.out _ HB1.out).mono ?_
  rintro e w2 ⟨rfl, hb⟩
  have HBx := Lib.hid (btr HB1.out hb)
  have he0 : w2.cell? ⟨w.heap.size, 0, none⟩ = some (.slice A n c) := (hb.cell (p := ⟨w.heap.size, 0, none⟩) (by simp; omega)).trans hd0
  have he1 : w2.cell? ⟨w.heap.size + 1, 0, none⟩ = some (.slice A2 m c2) := (hb.cell (p := ⟨w.heap.size + 1, 0, none⟩) (by simp; omega)).trans hd1
  have he2 : w2.cell? ⟨w.heap.size + 2, 0, none⟩ = some (.slice none 0 0) := (hb.cell (p := ⟨w.heap.size + 2, 0, none⟩) (by simp; omega)).trans hd2
  have hh2 : w2.frozen? ⟨w.heap.size + 2, 0, none⟩ = false := (hb.frozen (p := ⟨w.heap.size + 2, 0, none⟩) (by simp; omega)).trans hg2
  have hsz2 : w.heap.size + 3 ≤ w2.heap.size := Nat.le_trans hsz1 hb.size
  clear hb hd0 hd1 hd2 hg2
  clear HV2
  have hdc : decide (n < m) = false := decide_eq_false (by omega)
  go_wp2_with fail
  go_loopw [9, 7, 8] (fun i o cr wr => NRAdd w2 w2.heap.size (Na.dig x) (Na.dig y) n i o cr wr) (fun i _ _ _ => n + 1 - (intOf i).toNat)
  case atStart => exact ⟨0, 0, none, 0, [], by omega, rfl, rfl, rfl, Nat.zero_le _, ⟨rfl, Na.Lim.nil, by simp [Na.val]⟩, World.ownsRow_nil _ _ _ _, Below.refl _ _⟩
  case round =>
    obtain ⟨k, cr, Ao, co, l, hk, rfl, rfl, rfl, hcr, HP, ho, hb⟩ := hrel
    have HO := Lib.hid ho
    have HB := Lib.hid hb
    rcases Nat.lt_or_ge k (n + 1) with hkn | hkn
    · obtain ⟨a, hea⟩ : ∃ a, Na.at0 (Na.dig x) k = a := ⟨_, rfl⟩
      obtain ⟨b, heb⟩ : ∃ b, Na.at0 (Na.dig y) k = b := ⟨_, rfl⟩
      have ha24 : a < 16777216 := by rw [← hea]; exact Na.at0_lt (Na.dig_lim x) k
      have hb24 : b < 16777216 := by rw [← heb]; exact Na.at0_lt (Na.dig_lim y) k
      obtain ⟨t, ht⟩ : ∃ t, cr + a + b = t := ⟨_, rfl⟩
      obtain ⟨r, hr⟩ : ∃ r, t % 16777216 = r := ⟨_, rfl⟩
      obtain ⟨q, hq⟩ : ∃ q, t / 16777216 = q := ⟨_, rfl⟩
      have HST := Lib.hid (Na.add_step (Na.dig x) (Na.dig y) l k cr t HP.out.1 HP.out.2.2 (by rw [hea, heb]; omega))
      rw [hr, hq] at HST
      have HL1 : Hid (∀ W, Below wr.heap.size wr W → Calls Tryd.prog 45 #[.agg #[.slice A n c], .int .i64 (k : Int)] W fun e W' => e = .returned (.int .i64 (a : Int)) ∧ Below W.heap.size W W') := fun W hW => by
        rw [← hea]
        exact nlimb_any A n c w.heap.size k (Na.dig x) _ rfl W HN.out (HS.out.below (HBx.out.trans ((HB.out.mono HBx.out.size).trans (hW.mono (Nat.le_trans HBx.out.size HB.out.size))))) (Nat.le_trans HBx.out.size (Nat.le_trans HB.out.size hW.size)) (by omega)
      have HL2 : Hid (∀ W, Below wr.heap.size wr W → Calls Tryd.prog 45 #[.agg #[.slice A2 m c2], .int .i64 (k : Int)] W fun e W' => e = .returned (.int .i64 (b : Int)) ∧ Below W.heap.size W W') := fun W hW => by
        rw [← heb]
        exact nlimb_any A2 m c2 w.heap.size k (Na.dig y) _ rfl W HM.out (HS2.out.below (HBx.out.trans ((HB.out.mono HBx.out.size).trans (hW.mono (Nat.le_trans HBx.out.size HB.out.size))))) (Nat.le_trans HBx.out.size (Nat.le_trans HB.out.size hW.size)) (by omega)
      have hmod : ((a : Int) + (b : Int) + (cr : Int)) % 16777216 = (r : Int) := by omega
      have hdiv : ((a : Int) + (b : Int) + (cr : Int)) / 16777216 = (q : Int) := by omega
      have hq1 : q ≤ 1 := by omega
      have hr24 : r < 16777216 := by omega
      have HLr := Lib.hid (HP.out.2.1.append (Na.Lim.one hr24))
      have HLl : Hid ((l ++ [r]).length = k + 1) := by unfold Hid; rw [List.length_append, HP.out.1]; rfl
      have hx0 : wr.cell? ⟨w.heap.size, 0, none⟩ = some (.slice A n c) := (hb.cell (p := ⟨w.heap.size, 0, none⟩) (by simp; omega)).trans he0
      have hx1 : wr.cell? ⟨w.heap.size + 1, 0, none⟩ = some (.slice A2 m c2) := (hb.cell (p := ⟨w.heap.size + 1, 0, none⟩) (by simp; omega)).trans he1
      have hza : (⟨w.heap.size, 0, none⟩ : Addr).block < wr.heap.size := by have := hb.size; simp only; omega
      have hzb : (⟨w.heap.size + 1, 0, none⟩ : Addr).block < wr.heap.size := by have := hb.size; simp only; omega
      have hkN : (k : Int) ≤ (n : Int) := by omega
      clear ht hr hq hea heb ho hb
      go_wp2_with fail
      go_region_held3 (fun W => W.cell? ⟨w.heap.size, 0, none⟩ = some (.slice A n c) ∧ W.cell? ⟨w.heap.size + 1, 0, none⟩ = some (.slice A2 m c2) ∧ Below wr.heap.size wr W) (first | exact ⟨hx0, hx1, (Below.refl _ _).drew⟩ | go_keep | (go_split_ands; refine ⟨?_, ?_, ?_⟩ <;> assumption) | (go_split_ands; refine keepN3 ?_ ?_ ?_ hza hzb hbE <;> assumption)) ((first | (go_at_call 45; first | ((with_reducible refine (HL1.out _ ?_).mono ?_); (first | assumption | (go_split_ands; assumption)); rintro e w' ⟨rfl, hbE⟩) | ((with_reducible refine (HL2.out _ ?_).mono ?_); (first | assumption | (go_split_ands; assumption)); rintro e w' ⟨rfl, hbE⟩))))
      have HSx := Lib.hid (show Below wr.heap.size wr w' from (by assumption : _ ∧ _ ∧ Below wr.heap.size wr w').2.2)
      have HO3 : Hid ((w'.alloc (.cells #[.int .i64 (r : Int)] 3)).ownsRow w2.heap.size 3 1 (.slice Ao k co) k (nats l)) := own_alloc (own_below HO.out HSx.out) _
      have HSl := Lib.hid (sl_new1 w' 3 (.int .i64 (r : Int)))
      have HBW : Hid (w2.heap.size ≤ w'.heap.size) := Nat.le_trans HB.out.size HSx.out.size
      have hrow : ∀ y, (Value.slice Ao k co).ownBlock = some y → w2.heap.size ≤ y := own_block HO.out
      have HB' : Hid (Below w2.heap.size w2 w') := HB.out.trans (HSx.out.mono HB.out.size)
      clear hx0 hx1
      go_wp2_with (at_builtin; refine wpList_append_sl _ rfl (.tmp 45) (.tmp 48) 23 rfl w2.heap.size 3 i0 (.int .i64 0) 8 Tryd.underlying23 hi hz0 hz1 hz2 rfl _ _ _ _ rfl HO3.out _ _ 1 _ _ rfl rfl HSl.out (fun u hu => by simp at hu; subst hu; rfl) (by unfold maxLen; omega) (by omega) (by have := HBW.out; simp; omega) ?_; intro A' c' w8 hown hgrow hblk)
      go_roundw
      case rel =>
        rw [nats_snoc] at hown
        exact ⟨k + 1, q, A', c', l ++ [r], by omega, by go_num, (by first | rfl | exact int_eqv hdiv), rfl, hq1, ⟨HLl.out, HLr.out, HST.out⟩, hown, (HB'.out.alloc HBW.out _).grown hgrow (by have := HBW.out; simp; omega) hrow⟩
      case measure => simp [intOf]; omega
    · have hkn' : k = n + 1 := by omega
      have HEnd : Hid (Na.val l = x + y) := Na.radd_end x y k cr l n HP.out.1 hkn' HP.out.2.2 (by rw [HN.out]; omega) (by rw [HM.out]; omega)
      have hkN : (n : Int) < (k : Int) := by omega
      have HR := Lib.hid (nfit_any Ao k co l wr HP.out.1 (Sl.of_own ho) HP.out.2.1 (own_cap ho).1 (by omega))
      rw [HEnd.out] at HR
      have HBS : Hid (w2.heap.size ≤ wr.heap.size) := hb.size
      clear hkn' ho hb
      go_wp2_with fail
      refine HR.out.mono ?_
      rintro e w9 ⟨A9, n9, c9, rfl, hn9, ho9, hb9⟩
      have HN9 := Lib.hid hn9
      have HO9 := Lib.hid (own_more ho9 HBS.out)
      have HB9 := Lib.hid (btr HB.out hb9)
      have hk9 : w9.cell? ⟨w.heap.size + 2, 0, none⟩ = some (.slice none 0 0) := (HB9.out.cell (p := ⟨w.heap.size + 2, 0, none⟩) (by simp; omega)).trans he2
      have hk9f : w9.frozen? ⟨w.heap.size + 2, 0, none⟩ = false := (HB9.out.frozen (p := ⟨w.heap.size + 2, 0, none⟩) (by simp; omega)).trans hh2
      clear hn9 ho9 hb9
      go_wp2_with fail
      refine bodyPost_ret (v := .tuple #[.agg #[.slice A9 n9 c9], .int .i64 (resE (x + y))]) (by simp [results, Tryd.results17, go_sem, hk9]) rfl ?_
      exact resN_cell HO9.out HN9.out (by omega) (by omega) (HBx.out.trans (HB9.out.mono HBx.out.size)) (by omega) _ _

set_option maxHeartbeats 2000000 in
theorem nradd_lt (A A2 : Option Addr) (n c m c2 : Nat) (x y : Nat) (w : World) (hn : (Na.dig x).length = n) (hm : (Na.dig y).length = m) (hs : Sl w w.heap.size A (nats (Na.dig x))) (hs2 : Sl w w.heap.size A2 (nats (Na.dig y))) (hx : x < Na.top) (hy : y < Na.top) (hcmp : n < m) :
    Calls Tryd.prog 17 #[.agg #[.slice A n c], .agg #[.slice A2 m c2]] w (ResN w (resL (x + y)) (resE (x + y))) := by
  obtain ⟨i0, hi, hz0, hz1, hz2⟩ := info_parts infoI
  have hn2 : n ≤ 200 := by rw [← hn]; exact (Na.dig_200 x).2 hx
  have hm2 : m ≤ 200 := by rw [← hm]; exact (Na.dig_200 y).2 hy
  have HN := Lib.hid hn
  have HM := Lib.hid hm
  have HS := Lib.hid hs
  have HS2 := Lib.hid hs2
  have HX := Lib.hid hx
  have HY := Lib.hid hy
  have HV1 : Hid (∀ W, Below w.heap.size w W → Calls Tryd.prog 44 #[.agg #[.slice A n c]] W fun e w' => e = .returned (.bool true) ∧ Below W.heap.size W w') := fun W hW => by
    rw [← (Na.vld_dig HX.out)]
    exact nrvalid_any A n c w.heap.size _ W (by rw [Na.up_length]; exact HN.out) (by rw [nats_up]; exact HS.out.below hW) hW.size (by omega)
  have HV2 : Hid (∀ W, Below w.heap.size w W → Calls Tryd.prog 44 #[.agg #[.slice A2 m c2]] W fun e w' => e = .returned (.bool true) ∧ Below W.heap.size W w') := fun W hW => by
    rw [← (Na.vld_dig HY.out)]
    exact nrvalid_any A2 m c2 w.heap.size _ W (by rw [Na.up_length]; exact HM.out) (by rw [nats_up]; exact HS2.out.below hW) hW.size (by omega)
  obtain ⟨w0, hw0⟩ : ∃ w0, ((w.alloc (.cells #[.slice A n c] 29)).alloc (.cells #[.slice A2 m c2] 29)).alloc (.cells #[.slice none 0 0] 29) = w0 := ⟨_, rfl⟩
  have HW : Hid (((w.alloc (.cells #[.slice A n c] 29)).alloc (.cells #[.slice A2 m c2] 29)).alloc (.cells #[.slice none 0 0] 29) = w0) := hw0
  have hb0 : Below w.heap.size w w0 := by rw [← hw0]; exact bal (bal (bal (Below.refl _ _) _) _) _
  have HB0 := Lib.hid hb0
  have hzw : w0.heap.size = w.heap.size + 3 := by rw [← hw0]; simp
  have hc0 : w0.cell? ⟨w.heap.size, 0, none⟩ = some (.slice A n c) := by rw [← hw0]; simp [go_sem]
  have hc1 : w0.cell? ⟨w.heap.size + 1, 0, none⟩ = some (.slice A2 m c2) := by rw [← hw0]; simp [go_sem]
  have hc2 : w0.cell? ⟨w.heap.size + 2, 0, none⟩ = some (.slice none 0 0) := by rw [← hw0]; simp [go_sem]
  have hf2 : w0.frozen? ⟨w.heap.size + 2, 0, none⟩ = false := by rw [← hw0]; simp [go_sem]
  clear hs hs2 hn hm hb0 hw0 hx hy
  go_enter Tryd.func17, Tryd.ntmps17
  go_wp2_with fail
  rw [HW.out]
  refine (HV1.out _ HB0.out).mono ?_
  rintro e w1 ⟨rfl, hb⟩
  have HB1 := Lib.hid (btr HB0.out hb)
  have hd0 : w1.cell? ⟨w.heap.size, 0, none⟩ = some (.slice A n c) := (hb.cell (p := ⟨w.heap.size, 0, none⟩) (by simp [hzw])).trans hc0
  have hd1 : w1.cell? ⟨w.heap.size + 1, 0, none⟩ = some (.slice A2 m c2) := (hb.cell (p := ⟨w.heap.size + 1, 0, none⟩) (by simp [hzw])).trans hc1
  have hd2 : w1.cell? ⟨w.heap.size + 2, 0, none⟩ = some (.slice none 0 0) := (hb.cell (p := ⟨w.heap.size + 2, 0, none⟩) (by simp [hzw])).trans hc2
  have hg2 : w1.frozen? ⟨w.heap.size + 2, 0, none⟩ = false := (hb.frozen (p := ⟨w.heap.size + 2, 0, none⟩) (by simp [hzw])).trans hf2
  have hsz1 : w.heap.size + 3 ≤ w1.heap.size := by rw [← hzw]; exact hb.size
  clear hb hc0 hc1 hc2 hf2 HV1 HW hzw HB0
  go_wp2_with fail
  refine (HV2.out _ HB1.out).mono ?_
  rintro e w2 ⟨rfl, hb⟩
  have HBx := Lib.hid (btr HB1.out hb)
  have he0 : w2.cell? ⟨w.heap.size, 0, none⟩ = some (.slice A n c) := (hb.cell (p := ⟨w.heap.size, 0, none⟩) (by simp; omega)).trans hd0
  have he1 : w2.cell? ⟨w.heap.size + 1, 0, none⟩ = some (.slice A2 m c2) := (hb.cell (p := ⟨w.heap.size + 1, 0, none⟩) (by simp; omega)).trans hd1
  have he2 : w2.cell? ⟨w.heap.size + 2, 0, none⟩ = some (.slice none 0 0) := (hb.cell (p := ⟨w.heap.size + 2, 0, none⟩) (by simp; omega)).trans hd2
  have hh2 : w2.frozen? ⟨w.heap.size + 2, 0, none⟩ = false := (hb.frozen (p := ⟨w.heap.size + 2, 0, none⟩) (by simp; omega)).trans hg2
  have hsz2 : w.heap.size + 3 ≤ w2.heap.size := Nat.le_trans hsz1 hb.size
  clear hb hd0 hd1 hd2 hg2
  clear HV2
  have hdc : decide (n < m) = true := decide_eq_true hcmp
  go_wp2_with fail
  go_loopw [9, 7, 8] (fun i o cr wr => NRAdd w2 w2.heap.size (Na.dig x) (Na.dig y) m i o cr wr) (fun i _ _ _ => m + 1 - (intOf i).toNat)
  case atStart => exact ⟨0, 0, none, 0, [], by omega, rfl, rfl, rfl, Nat.zero_le _, ⟨rfl, Na.Lim.nil, by simp [Na.val]⟩, World.ownsRow_nil _ _ _ _, Below.refl _ _⟩
  case round =>
    obtain ⟨k, cr, Ao, co, l, hk, rfl, rfl, rfl, hcr, HP, ho, hb⟩ := hrel
    have HO := Lib.hid ho
    have HB := Lib.hid hb
    rcases Nat.lt_or_ge k (m + 1) with hkn | hkn
    · obtain ⟨a, hea⟩ : ∃ a, Na.at0 (Na.dig x) k = a := ⟨_, rfl⟩
      obtain ⟨b, heb⟩ : ∃ b, Na.at0 (Na.dig y) k = b := ⟨_, rfl⟩
      have ha24 : a < 16777216 := by rw [← hea]; exact Na.at0_lt (Na.dig_lim x) k
      have hb24 : b < 16777216 := by rw [← heb]; exact Na.at0_lt (Na.dig_lim y) k
      obtain ⟨t, ht⟩ : ∃ t, cr + a + b = t := ⟨_, rfl⟩
      obtain ⟨r, hr⟩ : ∃ r, t % 16777216 = r := ⟨_, rfl⟩
      obtain ⟨q, hq⟩ : ∃ q, t / 16777216 = q := ⟨_, rfl⟩
      have HST := Lib.hid (Na.add_step (Na.dig x) (Na.dig y) l k cr t HP.out.1 HP.out.2.2 (by rw [hea, heb]; omega))
      rw [hr, hq] at HST
      have HL1 : Hid (∀ W, Below wr.heap.size wr W → Calls Tryd.prog 45 #[.agg #[.slice A n c], .int .i64 (k : Int)] W fun e W' => e = .returned (.int .i64 (a : Int)) ∧ Below W.heap.size W W') := fun W hW => by
        rw [← hea]
        exact nlimb_any A n c w.heap.size k (Na.dig x) _ rfl W HN.out (HS.out.below (HBx.out.trans ((HB.out.mono HBx.out.size).trans (hW.mono (Nat.le_trans HBx.out.size HB.out.size))))) (Nat.le_trans HBx.out.size (Nat.le_trans HB.out.size hW.size)) (by omega)
      have HL2 : Hid (∀ W, Below wr.heap.size wr W → Calls Tryd.prog 45 #[.agg #[.slice A2 m c2], .int .i64 (k : Int)] W fun e W' => e = .returned (.int .i64 (b : Int)) ∧ Below W.heap.size W W') := fun W hW => by
        rw [← heb]
        exact nlimb_any A2 m c2 w.heap.size k (Na.dig y) _ rfl W HM.out (HS2.out.below (HBx.out.trans ((HB.out.mono HBx.out.size).trans (hW.mono (Nat.le_trans HBx.out.size HB.out.size))))) (Nat.le_trans HBx.out.size (Nat.le_trans HB.out.size hW.size)) (by omega)
      have hmod : ((a : Int) + (b : Int) + (cr : Int)) % 16777216 = (r : Int) := by omega
      have hdiv : ((a : Int) + (b : Int) + (cr : Int)) / 16777216 = (q : Int) := by omega
      have hq1 : q ≤ 1 := by omega
      have hr24 : r < 16777216 := by omega
      have HLr := Lib.hid (HP.out.2.1.append (Na.Lim.one hr24))
      have HLl : Hid ((l ++ [r]).length = k + 1) := by unfold Hid; rw [List.length_append, HP.out.1]; rfl
      have hx0 : wr.cell? ⟨w.heap.size, 0, none⟩ = some (.slice A n c) := (hb.cell (p := ⟨w.heap.size, 0, none⟩) (by simp; omega)).trans he0
      have hx1 : wr.cell? ⟨w.heap.size + 1, 0, none⟩ = some (.slice A2 m c2) := (hb.cell (p := ⟨w.heap.size + 1, 0, none⟩) (by simp; omega)).trans he1
      have hza : (⟨w.heap.size, 0, none⟩ : Addr).block < wr.heap.size := by have := hb.size; simp only; omega
      have hzb : (⟨w.heap.size + 1, 0, none⟩ : Addr).block < wr.heap.size := by have := hb.size; simp only; omega
      have hkN : (k : Int) ≤ (m : Int) := by omega
      clear ht hr hq hea heb ho hb
      go_wp2_with fail
      go_region_held3 (fun W => W.cell? ⟨w.heap.size, 0, none⟩ = some (.slice A n c) ∧ W.cell? ⟨w.heap.size + 1, 0, none⟩ = some (.slice A2 m c2) ∧ Below wr.heap.size wr W) (first | exact ⟨hx0, hx1, (Below.refl _ _).drew⟩ | go_keep | (go_split_ands; refine ⟨?_, ?_, ?_⟩ <;> assumption) | (go_split_ands; refine keepN3 ?_ ?_ ?_ hza hzb hbE <;> assumption)) ((first | (go_at_call 45; first | ((with_reducible refine (HL1.out _ ?_).mono ?_); (first | assumption | (go_split_ands; assumption)); rintro e w' ⟨rfl, hbE⟩) | ((with_reducible refine (HL2.out _ ?_).mono ?_); (first | assumption | (go_split_ands; assumption)); rintro e w' ⟨rfl, hbE⟩))))
      have HSx := Lib.hid (show Below wr.heap.size wr w' from (by assumption : _ ∧ _ ∧ Below wr.heap.size wr w').2.2)
      have HO3 : Hid ((w'.alloc (.cells #[.int .i64 (r : Int)] 3)).ownsRow w2.heap.size 3 1 (.slice Ao k co) k (nats l)) := own_alloc (own_below HO.out HSx.out) _
      have HSl := Lib.hid (sl_new1 w' 3 (.int .i64 (r : Int)))
      have HBW : Hid (w2.heap.size ≤ w'.heap.size) := Nat.le_trans HB.out.size HSx.out.size
      have hrow : ∀ y, (Value.slice Ao k co).ownBlock = some y → w2.heap.size ≤ y := own_block HO.out
      have HB' : Hid (Below w2.heap.size w2 w') := HB.out.trans (HSx.out.mono HB.out.size)
      clear hx0 hx1
      go_wp2_with (at_builtin; refine wpList_append_sl _ rfl (.tmp 45) (.tmp 48) 23 rfl w2.heap.size 3 i0 (.int .i64 0) 8 Tryd.underlying23 hi hz0 hz1 hz2 rfl _ _ _ _ rfl HO3.out _ _ 1 _ _ rfl rfl HSl.out (fun u hu => by simp at hu; subst hu; rfl) (by unfold maxLen; omega) (by omega) (by have := HBW.out; simp; omega) ?_; intro A' c' w8 hown hgrow hblk)
      go_roundw
      case rel =>
        rw [nats_snoc] at hown
        exact ⟨k + 1, q, A', c', l ++ [r], by omega, by go_num, (by first | rfl | exact int_eqv hdiv), rfl, hq1, ⟨HLl.out, HLr.out, HST.out⟩, hown, (HB'.out.alloc HBW.out _).grown hgrow (by have := HBW.out; simp; omega) hrow⟩
      case measure => simp [intOf]; omega
    · have hkn' : k = m + 1 := by omega
      have HEnd : Hid (Na.val l = x + y) := Na.radd_end x y k cr l m HP.out.1 hkn' HP.out.2.2 (by rw [HN.out]; omega) (by rw [HM.out]; omega)
      have hkN : (m : Int) < (k : Int) := by omega
      have HR := Lib.hid (nfit_any Ao k co l wr HP.out.1 (Sl.of_own ho) HP.out.2.1 (own_cap ho).1 (by omega))
      rw [HEnd.out] at HR
      have HBS : Hid (w2.heap.size ≤ wr.heap.size) := hb.size
      clear hkn' ho hb
      go_wp2_with fail
      refine HR.out.mono ?_
      rintro e w9 ⟨A9, n9, c9, rfl, hn9, ho9, hb9⟩
      have HN9 := Lib.hid hn9
      have HO9 := Lib.hid (own_more ho9 HBS.out)
      have HB9 := Lib.hid (btr HB.out hb9)
      have hk9 : w9.cell? ⟨w.heap.size + 2, 0, none⟩ = some (.slice none 0 0) := (HB9.out.cell (p := ⟨w.heap.size + 2, 0, none⟩) (by simp; omega)).trans he2
      have hk9f : w9.frozen? ⟨w.heap.size + 2, 0, none⟩ = false := (HB9.out.frozen (p := ⟨w.heap.size + 2, 0, none⟩) (by simp; omega)).trans hh2
      clear hn9 ho9 hb9
      go_wp2_with fail
      refine bodyPost_ret (v := .tuple #[.agg #[.slice A9 n9 c9], .int .i64 (resE (x + y))]) (by simp [results, Tryd.results17, go_sem, hk9]) rfl ?_
      exact resN_cell HO9.out HN9.out (by omega) (by omega) (HBx.out.trans (HB9.out.mono HBx.out.size)) (by omega) _ _

theorem nradd_any (A A2 : Option Addr) (n c m c2 : Nat) (zs ys : List Int) (w : World) (hn : zs.length = n) (hm : ys.length = m) (hs : Sl w w.heap.size A (ints zs)) (hs2 : Sl w w.heap.size A2 (ints ys)) (hl : n ≤ 140737488351232) (hl2 : m ≤ 140737488351232) :
    Calls Tryd.prog 17 #[.agg #[.slice A n c], .agg #[.slice A2 m c2]] w (ResN w (addL zs ys) (addE zs ys)) := by
  cases hv : (Na.vld zs && Na.vld ys)
  · have e1 : addL zs ys = [] := by unfold addL; rw [hv]; rfl
    have e2 : addE zs ys = 1 := by unfold addE; rw [hv]; rfl
    rw [e1, e2]
    cases h1 : Na.vld zs
    · exact nradd_bad1 A A2 n c m c2 zs ys w hn hm hs hs2 hl hl2 h1 _ rfl
    · rw [h1, Bool.true_and] at hv
      exact nradd_bad2 A A2 n c m c2 zs ys w hn hm hs hs2 hl hl2 h1 hv
  · obtain ⟨x, y, hx, hy, rfl, rfl⟩ := vv_ex hv
    rw [(add_ok hx hy).1, (add_ok hx hy).2]
    rw [nats_up] at hs hs2
    rw [Na.up_length] at hn hm
    rcases Nat.lt_or_ge n m with h | h
    · exact nradd_lt A A2 n c m c2 x y w hn hm hs hs2 hx hy h
    · exact nradd_ge A A2 n c m c2 x y w hn hm hs hs2 hx hy h
end Go.Proofs.YtflgfkelbniblaaDoor

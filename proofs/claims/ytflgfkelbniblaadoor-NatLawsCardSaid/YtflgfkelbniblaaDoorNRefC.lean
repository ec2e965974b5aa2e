/- The document's mul and Mul of numbers. -/
import Derived.Test.YtflgfkelbniblaaDoorNRefB
namespace Go.Proofs.YtflgfkelbniblaaDoor
open Go.RowKit
set_option linter.unusedVariables false
set_option maxRecDepth 100000
theorem keepN5 {wr W W' : World} {a b c d : Addr} {u v x y : Value} (h0 : W.cell? a = some u) (h1 : W.cell? b = some v) (h3 : W.cell? c = some x) (h4 : W.cell? d = some y) (h2 : Below wr.heap.size wr W) (ha : a.block < wr.heap.size) (hb' : b.block < wr.heap.size) (hc : c.block < wr.heap.size) (hd : d.block < wr.heap.size) (hb : Below W.heap.size W W') : W'.cell? a = some u ∧ W'.cell? b = some v ∧ W'.cell? c = some x ∧ W'.cell? d = some y ∧ Below wr.heap.size wr W' :=
  ⟨(hb.cell (Nat.lt_of_lt_of_le ha h2.size)).trans h0, (hb.cell (Nat.lt_of_lt_of_le hb' h2.size)).trans h1, (hb.cell (Nat.lt_of_lt_of_le hc h2.size)).trans h3, (hb.cell (Nat.lt_of_lt_of_le hd h2.size)).trans h4, h2.trans (hb.mono h2.size)⟩
namespace Na
/-- one place of a product by the school's rule -/
theorem rprod_step (l Y : List Nat) (i k e a c v S : Nat) (he : l[i + k]? = some e) (h : val l + 16777216 ^ (i + k) * c = S + 16777216 ^ i * (a * val (Y.take k))) (hv : v = e + a * at0 Y k + c) :
    val (l.set (i + k) (v % 16777216)) + 16777216 ^ (i + (k + 1)) * (v / 16777216) = S + 16777216 ^ i * (a * val (Y.take (k + 1))) := by
  have h1 := val_set l (i + k) e (v % 16777216) he
  have h2 := split24 (16777216 ^ (i + k)) v
  rw [val_take_at0, Nat.mul_add, Nat.mul_add, ← Nat.add_assoc S, ← h, show i + (k + 1) = i + k + 1 by omega, Nat.pow_succ]
  have h3 : 16777216 ^ i * (a * (16777216 ^ k * at0 Y k)) = 16777216 ^ (i + k) * (a * at0 Y k) := by rw [Nat.pow_add, Nat.mul_left_comm a, Nat.mul_assoc]
  have h4 : 16777216 ^ (i + k) * v = 16777216 ^ (i + k) * e + 16777216 ^ (i + k) * (a * at0 Y k) + 16777216 ^ (i + k) * c := by rw [hv, Nat.mul_add, Nat.mul_add]
  rw [h3]
  omega
/-- what is carried ends behind the second number -/
theorem rprod_room (l X Y : List Nat) (i k a c m : Nat) (hX : Lim X) (hY : Lim Y) (hm : Y.length = m) (ha : X[i]? = some a) (hk : m ≤ k) (h : val l + 16777216 ^ (i + k) * c = val (X.take i) * val Y + 16777216 ^ i * (a * val (Y.take k))) (hc : 0 < c) : k ≤ m := by
  rw [List.take_of_length_le (l := Y) (by omega), ← Nat.mul_assoc, ← Nat.add_mul, ← val_take_succ X i a ha] at h
  have h1 := val_lt (hX.take (i + 1))
  have h2 : (X.take (i + 1)).length ≤ i + 1 := List.length_take_le _ _
  have h3 := Nat.lt_of_lt_of_le h1 (Nat.pow_le_pow_right (show 0 < 16777216 by omega) h2)
  have h4 := val_lt hY
  rw [hm] at h4
  have h5 : val (X.take (i + 1)) * val Y < 16777216 ^ (i + 1) * 16777216 ^ m := Nat.mul_lt_mul_of_lt_of_lt h3 h4
  rw [← Nat.pow_add] at h5
  rcases Nat.lt_or_ge m k with h6 | h6
  · exfalso
    have h7 := Nat.mul_le_mul_left (16777216 ^ (i + k)) hc
    rw [Nat.mul_one] at h7
    have h8 := Nat.pow_le_pow_right (show 0 < 16777216 by omega) (show i + 1 + m ≤ i + k by omega)
    omega
  · exact h6
theorem sq24 {e a b c : Nat} (he : e < 16777216) (ha : a < 16777216) (hb : b < 16777216) (hc : c < 16777216) : e + a * b + c < 281474976710656 := by
  have := Nat.mul_le_mul (show a ≤ 16777215 by omega) (show b ≤ 16777215 by omega)
  omega
end Na
/-- what mul leaves -/
def Muld (w : World) (N V : Nat) (e : Ending) (w' : World) : Prop :=
  ∃ (A : Option Addr) (c : Nat) (o : List Nat), e = .returned (.slice A N c) ∧ o.length = N ∧ Na.Lim o ∧ Na.val o = V ∧ w'.ownsRow w.heap.size 3 1 (.slice A N c) N (nats o) ∧ Below w.heap.size w w'
def NRmo (w : World) (B g N : Nat) (X Y : List Nat) (n : Nat) (i : Value) (wr : World) : Prop :=
  ∃ (k : Nat) (l : List Nat), k ≤ n ∧ i = .int .i64 (k : Int) ∧ Hid (l.length = N ∧ Na.Lim l ∧ Na.val l = Na.val (X.take k) * Na.val Y) ∧ wr.ownsRow B 3 1 (.slice (some ⟨g, 0, none⟩) N N) N (nats l) ∧ Below B w wr
def NRmi (w : World) (B g N : Nat) (X Y : List Nat) (a i m : Nat) (v cr : Value) (wr : World) : Prop :=
  ∃ (k c : Nat) (l : List Nat), k ≤ m + 1 ∧ v = .int .i64 (k : Int) ∧ cr = .int .i64 (c : Int) ∧ c < 16777216 ∧ Hid (l.length = N ∧ Na.Lim l ∧ Na.val l + 16777216 ^ (i + k) * c = Na.val (X.take i) * Na.val Y + 16777216 ^ i * (a * Na.val (Y.take k))) ∧ wr.ownsRow B 3 1 (.slice (some ⟨g, 0, none⟩) N N) N (nats l) ∧ Below B w wr
set_option maxHeartbeats 4000000 in
theorem nrmul_any (A A2 : Option Addr) (n c m c2 : Nat) (X Y : List Nat) (w : World) (hn : X.length = n) (hm : Y.length = m) (hs : Sl w w.heap.size A (nats X)) (hs2 : Sl w w.heap.size A2 (nats Y)) (hX : Na.Lim X) (hY : Na.Lim Y) (hl : n ≤ 1000) (hl2 : m ≤ 1000) :
    Calls Tryd.prog 48 #[.agg #[.slice A n c], .agg #[.slice A2 m c2]] w (Muld w (n + m + 1) (Na.val X * Na.val Y)) := by
  obtain ⟨i0, hi, hz0, hz1, hz2⟩ := info_parts infoI
  have hmk := run_make_one (P := Tryd.prog) 23 3 i0 (.int .i64 0) Tryd.underlying23 hi hz0 hz1 .i64 .i64 ((n : Int) + (m : Int) + 1) ((n : Int) + (m : Int) + 1) (n + m + 1) (n + m + 1) (by omega) (by omega) (Nat.le_refl _) (by rw [hz2]; omega) (by omega)
  have HN := Lib.hid hn
  have HM := Lib.hid hm
  have HS := Lib.hid hs
  have HS2 := Lib.hid hs2
  obtain ⟨w0, hw0⟩ : ∃ w0, (w.alloc (.cells #[.slice A n c] 29)).alloc (.cells #[.slice A2 m c2] 29) = w0 := ⟨_, rfl⟩
  have HW : Hid ((w.alloc (.cells #[.slice A n c] 29)).alloc (.cells #[.slice A2 m c2] 29) = w0) := hw0
  have hb0 : Below w.heap.size w w0 := by rw [← hw0]; exact bal (bal (Below.refl _ _) _) _
  have HB0 := Lib.hid hb0
  have hzw : w.heap.size + 2 ≤ w0.heap.size := by rw [← hw0]; simp
  have hc0 : w0.cell? ⟨w.heap.size, 0, none⟩ = some (.slice A n c) := by rw [← hw0]; simp [go_sem]
  have hc1 : w0.cell? ⟨w.heap.size + 1, 0, none⟩ = some (.slice A2 m c2) := by rw [← hw0]; simp [go_sem]
  clear hs hs2 hn hm hb0 hw0
  go_enter Tryd.func48, Tryd.ntmps48
  go_upto_region 1 with (fail)
  rw [HW.out]
  have HO0 : Hid ((w0.alloc (.cells (madeCells #[Value.int .i64 0] (n + m + 1)) 3)).ownsRow w0.heap.size 3 1 (.slice (some ⟨w0.heap.size, 0, none⟩) (n + m + 1) (n + m + 1)) (n + m + 1) (nats (List.replicate (n + m + 1) 0))) := by
    rw [made_nats]
    exact own_made w0 3 (.int .i64 0) (n + m + 1) (n + m + 1) rfl (Nat.le_refl _) (by unfold maxLen; omega)
  have HBm := Lib.hid (bal (Below.refl w0.heap.size w0) (.cells (madeCells #[Value.int .i64 0] (n + m + 1)) 3))
  go_wp2_with fail
  clear hmk
  go_loopw [6] (fun i wr => NRmo w0 w0.heap.size w0.heap.size (n + m + 1) X Y n i wr) (fun i _ => n - (intOf i).toNat)
  case atStart => exact ⟨0, _, Nat.zero_le _, rfl, ⟨List.length_replicate, Na.Lim.zeros _, by rw [Na.val_zeros]; simp [Na.val]⟩, HO0.out, HBm.out⟩
  case round =>
    clear HO0 HBm
    obtain ⟨i, l, hin, rfl, HP, ho, hb⟩ := hrel
    have HO := Lib.hid ho
    have HB := Lib.hid hb
    have hx0 : wr.cell? ⟨w.heap.size, 0, none⟩ = some (.slice A n c) := (hb.cell (p := ⟨w.heap.size, 0, none⟩) (by simp only; omega)).trans hc0
    have hx1 : wr.cell? ⟨w.heap.size + 1, 0, none⟩ = some (.slice A2 m c2) := (hb.cell (p := ⟨w.heap.size + 1, 0, none⟩) (by simp only; omega)).trans hc1
    clear ho hb
    rcases Nat.lt_or_ge i n with hlt | hge
    · obtain ⟨a, ha⟩ := nat_at X i (by rw [HN.out]; exact hlt)
      have ha24 := hX.at ha
      have HA := Lib.hid ha
      have HRow := Lib.hid (Na.prod_row X Y i a ha)
      clear ha
      go_wp2_with fail
      clear hx0 hx1
      go_loopw [8, 7] (fun v cr wr => NRmi w0 w0.heap.size w0.heap.size (n + m + 1) X Y a i m v cr wr) (fun v _ _ => m + 2 - (intOf v).toNat)
      case atStart => exact ⟨0, 0, l, Nat.zero_le _, rfl, rfl, by omega, ⟨HP.out.1, HP.out.2.1, by rw [HP.out.2.2]; simp [Na.val]⟩, HO.out, HB.out⟩
      case round =>
        clear HP HO HB
        obtain ⟨k, cr, l, hk, rfl, rfl, hcr, HP, ho, hb⟩ := hrel
        have HO := Lib.hid ho
        have HB := Lib.hid hb
        have hx0 : wr.cell? ⟨w.heap.size, 0, none⟩ = some (.slice A n c) := (hb.cell (p := ⟨w.heap.size, 0, none⟩) (by simp only; omega)).trans hc0
        have hx1 : wr.cell? ⟨w.heap.size + 1, 0, none⟩ = some (.slice A2 m c2) := (hb.cell (p := ⟨w.heap.size + 1, 0, none⟩) (by simp only; omega)).trans hc1
        by_cases hgo : k < m ∨ 0 < cr
        · have hkm : k ≤ m := by
            rcases hgo with h | h
            · omega
            · rcases Nat.lt_or_ge k m with h1 | h1
              · omega
              · exact Na.rprod_room l X Y i k a cr m hX hY HM.out HA.out h1 HP.out.2.2 h
          obtain ⟨b, heb⟩ : ∃ b, Na.at0 Y k = b := ⟨_, rfl⟩
          have hb24 : b < 16777216 := by rw [← heb]; exact Na.at0_lt hY k
          obtain ⟨e, he⟩ := nat_at l (i + k) (by rw [HP.out.1]; omega)
          have he24 := HP.out.2.1.at he
          have hce := own_nat ho he
          have hfz := ho.frozenAt (i + k)
          obtain ⟨ad, rfl, hbk, hca⟩ := (HS.out.below (HB0.out.trans (hb.mono HB0.out.size))).nat HA.out
          obtain ⟨p, hp⟩ : ∃ p, a * b = p := ⟨_, rfl⟩
          have hp1 : (a : Int) * (b : Int) = (p : Int) := by rw [← hp]; rfl
          obtain ⟨v, hv⟩ : ∃ v, e + p + cr = v := ⟨_, rfl⟩
          have hv48 : v < 281474976710656 := by rw [← hv, ← hp]; exact Na.sq24 he24 ha24 hb24 hcr
          obtain ⟨r, hr⟩ : ∃ r, v % 16777216 = r := ⟨_, rfl⟩
          obtain ⟨q, hq⟩ : ∃ q, v / 16777216 = q := ⟨_, rfl⟩
          have HSt := Lib.hid (Na.rprod_step l Y i k e a cr v _ he HP.out.2.2 (by rw [heb, hp]; exact hv.symm))
          rw [hr, hq] at HSt
          have hmod : ((e : Int) + (p : Int) + (cr : Int)) % 16777216 = (r : Int) := by omega
          have hdiv : ((e : Int) + (p : Int) + (cr : Int)) / 16777216 = (q : Int) := by omega
          have hq24 : q < 16777216 := by omega
          have hr24 : r < 16777216 := by omega
          have HLr := Lib.hid (HP.out.2.1.set (i + k) hr24)
          have HLm : Hid (∀ W, Below wr.heap.size wr W → Calls Tryd.prog 45 #[.agg #[.slice A2 m c2], .int .i64 (k : Int)] W fun e W' => e = .returned (.int .i64 (b : Int)) ∧ Below W.heap.size W W') := fun W hW => by
            rw [← heb]
            exact nlimb_any A2 m c2 w.heap.size k Y _ rfl W HM.out (HS2.out.below (HB0.out.trans ((HB.out.mono HB0.out.size).trans (hW.mono (Nat.le_trans HB0.out.size HB.out.size))))) (Nat.le_trans HB0.out.size (Nat.le_trans HB.out.size hW.size)) (by omega)
          have hsz := HB.out.size
          have hza : (⟨w.heap.size, 0, none⟩ : Addr).block < wr.heap.size := by simp only; omega
          have hzb : (⟨w.heap.size + 1, 0, none⟩ : Addr).block < wr.heap.size := by simp only; omega
          have hzg : w0.heap.size < wr.heap.size := by obtain ⟨g', hg', _, h2⟩ := own_form ho (by omega); cases hg'; exact h2
          have hzc : (⟨w0.heap.size, i + k, none⟩ : Addr).block < wr.heap.size := hzg
          have hzd : (ad.add i).block < wr.heap.size := by rw [add_block]; omega
          have s1 : IntKind.i64.wrap ((i : Int) + (k : Int)) = (i : Int) + (k : Int) := IntWalk.i64_in _ (by omega)
          have s2 : 0 ≤ (i : Int) + (k : Int) := by omega
          have s3 : (i : Int) + (k : Int) < (n : Int) + (m : Int) + 1 := by omega
          have s4 : ((i : Int) + (k : Int)).toNat = i + k := by omega
          have s5 : (i : Int) < (n : Int) := by omega
          clear he heb hp hv hr hq ho hb hsz
          have HGo := Lib.hid hgo
          have hcond : decide (k < m) = true ∨ (decide (k < m) = false ∧ 0 < (cr : Int)) := by
            by_cases h : k < m
            · exact .inl (decide_eq_true h)
            · exact .inr ⟨decide_eq_false h, (by have := HGo.out; omega)⟩
          clear hgo
          rcases hcond with hd1 | ⟨hd1, hd2⟩
          · go_wp2_with fail
            go_region_held3 (fun W => W.cell? ⟨w.heap.size, 0, none⟩ = some (.slice (some ad) n c) ∧ W.cell? ⟨w.heap.size + 1, 0, none⟩ = some (.slice A2 m c2) ∧ W.cell? ⟨w0.heap.size, i + k, none⟩ = some (.int .i64 (e : Int)) ∧ W.cell? (ad.add i) = some (.int .i64 (a : Int)) ∧ Below wr.heap.size wr W) (first | exact ⟨hx0, hx1, hce, hca, (Below.refl _ _).drew⟩ | go_keep | (go_split_ands; refine ⟨?_, ?_, ?_, ?_, ?_⟩ <;> assumption) | (go_split_ands; refine keepN5 ?_ ?_ ?_ ?_ ?_ hza hzb hzc hzd hbE <;> assumption)) ((first | (go_at_call 45; ((with_reducible refine (HLm.out _ ?_).mono ?_); (first | assumption | (go_split_ands; assumption)); rintro e w' ⟨rfl, hbE⟩))))
            have HSx := Lib.hid (show Below wr.heap.size wr w' from (by assumption : _ ∧ _ ∧ _ ∧ _ ∧ Below wr.heap.size wr w').2.2.2.2)
            have HO5 := Lib.hid (own_below HO.out HSx.out)
            have HB5 := Lib.hid (HB.out.trans (HSx.out.mono HB.out.size))
            have hce5 : w'.cell? ⟨w0.heap.size, i + k, none⟩ = some (.int .i64 (e : Int)) := (HSx.out.cell hzc).trans hce
            have hfz5 := HO5.out.frozenAt (i + k)
            clear hx0 hx1 hce hca hfz
            go_wp2_with fail
            go_roundw
            case rel =>
              have o1 := own_put HO5.out (i + k) (.int .i64 (r : Int))
              rw [nats_set] at o1
              exact ⟨k + 1, q, l.set (i + k) r, by omega, by go_num, (by first | rfl | exact int_eqv hdiv), hq24, ⟨by rw [List.length_set]; exact HP.out.1, HLr.out, HSt.out⟩, o1, HB5.out.setCell (p := ⟨w0.heap.size, i + k, none⟩) (Nat.le_refl _) _⟩
            case measure => simp [intOf]; omega
          · go_wp2_with fail
            go_region_held3 (fun W => W.cell? ⟨w.heap.size, 0, none⟩ = some (.slice (some ad) n c) ∧ W.cell? ⟨w.heap.size + 1, 0, none⟩ = some (.slice A2 m c2) ∧ W.cell? ⟨w0.heap.size, i + k, none⟩ = some (.int .i64 (e : Int)) ∧ W.cell? (ad.add i) = some (.int .i64 (a : Int)) ∧ Below wr.heap.size wr W) (first | exact ⟨hx0, hx1, hce, hca, (Below.refl _ _).drew⟩ | go_keep | (go_split_ands; refine ⟨?_, ?_, ?_, ?_, ?_⟩ <;> assumption) | (go_split_ands; refine keepN5 ?_ ?_ ?_ ?_ ?_ hza hzb hzc hzd hbE <;> assumption)) ((first | (go_at_call 45; ((with_reducible refine (HLm.out _ ?_).mono ?_); (first | assumption | (go_split_ands; assumption)); rintro e w' ⟨rfl, hbE⟩))))
            have HSx := Lib.hid (show Below wr.heap.size wr w' from (by assumption : _ ∧ _ ∧ _ ∧ _ ∧ Below wr.heap.size wr w').2.2.2.2)
            have HO5 := Lib.hid (own_below HO.out HSx.out)
            have HB5 := Lib.hid (HB.out.trans (HSx.out.mono HB.out.size))
            have hce5 : w'.cell? ⟨w0.heap.size, i + k, none⟩ = some (.int .i64 (e : Int)) := (HSx.out.cell hzc).trans hce
            have hfz5 := HO5.out.frozenAt (i + k)
            clear hx0 hx1 hce hca hfz
            go_wp2_with fail
            go_roundw
            case rel =>
              have o1 := own_put HO5.out (i + k) (.int .i64 (r : Int))
              rw [nats_set] at o1
              exact ⟨k + 1, q, l.set (i + k) r, by omega, by go_num, (by first | rfl | exact int_eqv hdiv), hq24, ⟨by rw [List.length_set]; exact HP.out.1, HLr.out, HSt.out⟩, o1, HB5.out.setCell (p := ⟨w0.heap.size, i + k, none⟩) (Nat.le_refl _) _⟩
            case measure => simp [intOf]; omega
        · have hkm : m ≤ k := by omega
          have hc0' : cr = 0 := by omega
          have HP2 : Hid (l.length = n + m + 1 ∧ Na.Lim l ∧ Na.val l = Na.val (X.take (i + 1)) * Na.val Y) := by
            refine ⟨HP.out.1, HP.out.2.1, ?_⟩
            have h7 := HP.out.2.2
            rw [hc0', Nat.mul_zero, Nat.add_zero, List.take_of_length_le (l := Y) (by rw [HM.out]; exact hkm), HRow.out] at h7
            exact h7
          subst hc0'
          have hd1 : decide (k < m) = false := decide_eq_false (by omega)
          clear ho hb hgo HP
          go_wp2_with fail
          go_roundw
          case rel => exact ⟨i + 1, l, by omega, by go_num, HP2, HO.out, HB.out⟩
          case measure => simp [intOf]; omega
    · have HV : Hid (Na.val l = Na.val X * Na.val Y) := by
        have h7 := HP.out.2.2
        rw [List.take_of_length_le (by rw [HN.out]; exact hge)] at h7
        exact h7
      go_wp2_with fail
      go_ret
      exact ⟨_, _, l, rfl, HP.out.1, HP.out.2.1, HV.out, own_more HO.out HB0.out.size, HB0.out.trans (HB.out.mono HB0.out.size)⟩

set_option maxHeartbeats 1000000 in
theorem nrMul_bad1 (A A2 : Option Addr) (n c m c2 : Nat) (zs ys : List Int) (w : World) (hn : zs.length = n) (hm : ys.length = m) (hs : Sl w w.heap.size A (ints zs)) (hs2 : Sl w w.heap.size A2 (ints ys)) (hl : n ≤ 140737488351232) (hl2 : m ≤ 140737488351232) (hv1 : Na.vld zs = false) (b2 : Bool) (hv2 : Na.vld ys = b2) :
    Calls Tryd.prog 19 #[.agg #[.slice A n c], .agg #[.slice A2 m c2]] w (ResN w [] 1) := by
  have HN := Lib.hid hn
  have HM := Lib.hid hm
  have HS := Lib.hid hs
  have HS2 := Lib.hid hs2
  have HV1 : Hid (∀ W, Below w.heap.size w W → Calls Tryd.prog 44 #[.agg #[.slice A n c]] W fun e w' => e = .returned (.bool false) ∧ Below W.heap.size W w') := fun W hW => by
    rw [← hv1]
    exact nrvalid_any A n c w.heap.size _ W HN.out (HS.out.below hW) hW.size (by omega)
  have HV2 : Hid (∀ W, Below w.heap.size w W → Calls Tryd.prog 44 #[.agg #[.slice A2 m c2]] W fun e w' => e = .returned (.bool b2) ∧ Below W.heap.size W w') := fun W hW => by
    rw [← hv2]
    exact nrvalid_any A2 m c2 w.heap.size _ W HM.out (HS2.out.below hW) hW.size (by omega)
  obtain ⟨w0, hw0⟩ : ∃ w0, ((w.alloc (.cells #[.slice A n c] 29)).alloc (.cells #[.slice A2 m c2] 29)).alloc (.cells #[.slice none 0 0] 29) = w0 := ⟨_, rfl⟩
  have HW : Hid (((w.alloc (.cells #[.slice A n c] 29)).alloc (.cells #[.slice A2 m c2] 29)).alloc (.cells #[.slice none 0 0] 29) = w0) := hw0
  have hb0 : Below w.heap.size w w0 := by rw [← hw0]; exact bal (bal (bal (Below.refl _ _) _) _) _
  have HB0 := Lib.hid hb0
  have hzw : w0.heap.size = w.heap.size + 3 := by rw [← hw0]; simp
  have hc0 : w0.cell? ⟨w.heap.size, 0, none⟩ = some (.slice A n c) := by rw [← hw0]; simp [go_sem]
  have hc1 : w0.cell? ⟨w.heap.size + 1, 0, none⟩ = some (.slice A2 m c2) := by rw [← hw0]; simp [go_sem]
  have hc2 : w0.cell? ⟨w.heap.size + 2, 0, none⟩ = some (.slice none 0 0) := by rw [← hw0]; simp [go_sem]
  have hf2 : w0.frozen? ⟨w.heap.size + 2, 0, none⟩ = false := by rw [← hw0]; simp [go_sem]
  clear hs hs2 hn hm hb0 hw0 hv1 hv2
  go_enter Tryd.func19, Tryd.ntmps19
  go_wp2_with fail
  rw [HW.out]
  refine (HV1.out _ HB0.out).mono ?_
  rintro e w1 ⟨rfl, hb⟩
  have HB1 := Lib.hid (btr HB0.out hb)
  have hd0 : w1.cell? ⟨w.heap.size, 0, none⟩ = some (.slice A n c) := (hb.cell (p := ⟨w.heap.size, 0, none⟩) (by simp [hzw])).trans hc0
  have hd1 : w1.cell? ⟨w.heap.size + 1, 0, none⟩ = some (.slice A2 m c2) := (hb.cell (p := ⟨w.heap.size + 1, 0, none⟩) (by simp [hzw])).trans hc1
  have hd2 : w1.cell? ⟨w.heap.size + 2, 0, none⟩ = some (.slice none 0 0) := (hb.cell (p := ⟨w.heap.size + 2, 0, none⟩) (by simp [hzw])).trans hc2
  have hg2 : w1.frozen? ⟨w.heap.size + 2, 0, none⟩ = false := (hb.frozen (p := ⟨w.heap.size + 2, 0, none⟩) (by simp [hzw])).trans hf2
  have hsz1 : w.heap.size + 3 ≤ w1.heap.size := by rw [← hzw]; exact hb.size
  clear hb hc0 hc1 hc2 hf2 HV1 HW hzw HB0
  go_wp2_with fail
  refine bodyPost_ret (v := .tuple #[.agg #[.slice none 0 0], .int .i64 1]) (by simp [results, Tryd.results19, go_sem, hd2]) rfl ?_
  exact resN_nil _ _ _ (bset HB1.out _ (by show w.heap.size ≤ w.heap.size + 2; omega) _)

set_option maxHeartbeats 1000000 in
theorem nrMul_bad2 (A A2 : Option Addr) (n c m c2 : Nat) (zs ys : List Int) (w : World) (hn : zs.length = n) (hm : ys.length = m) (hs : Sl w w.heap.size A (ints zs)) (hs2 : Sl w w.heap.size A2 (ints ys)) (hl : n ≤ 140737488351232) (hl2 : m ≤ 140737488351232) (hv1 : Na.vld zs = true) (hv2 : Na.vld ys = false) :
    Calls Tryd.prog 19 #[.agg #[.slice A n c], .agg #[.slice A2 m c2]] w (ResN w [] 1) := by
  have HN := Lib.hid hn
  have HM := Lib.hid hm
  have HS := Lib.hid hs
  have HS2 := Lib.hid hs2
  have HV1 : Hid (∀ W, Below w.heap.size w W → Calls Tryd.prog 44 #[.agg #[.slice A n c]] W fun e w' => e = .returned (.bool true) ∧ Below W.heap.size W w') := fun W hW => by
    rw [← hv1]
    exact nrvalid_any A n c w.heap.size _ W HN.out (HS.out.below hW) hW.size (by omega)
  have HV2 : Hid (∀ W, Below w.heap.size w W → Calls Tryd.prog 44 #[.agg #[.slice A2 m c2]] W fun e w' => e = .returned (.bool false) ∧ Below W.heap.size W w') := fun W hW => by
    rw [← hv2]
    exact nrvalid_any A2 m c2 w.heap.size _ W HM.out (HS2.out.below hW) hW.size (by omega)
  obtain ⟨w0, hw0⟩ : ∃ w0, ((w.alloc (.cells #[.slice A n c] 29)).alloc (.cells #[.slice A2 m c2] 29)).alloc (.cells #[.slice none 0 0] 29) = w0 := ⟨_, rfl⟩
  have HW : Hid (((w.alloc (.cells #[.slice A n c] 29)).alloc (.cells #[.slice A2 m c2] 29)).alloc (.cells #[.slice none 0 0] 29) = w0) := hw0
  have hb0 : Below w.heap.size w w0 := by rw [← hw0]; exact bal (bal (bal (Below.refl _ _) _) _) _
  have HB0 := Lib.hid hb0
  have hzw : w0.heap.size = w.heap.size + 3 := by rw [← hw0]; simp
  have hc0 : w0.cell? ⟨w.heap.size, 0, none⟩ = some (.slice A n c) := by rw [← hw0]; simp [go_sem]
  have hc1 : w0.cell? ⟨w.heap.size + 1, 0, none⟩ = some (.slice A2 m c2) := by rw [← hw0]; simp [go_sem]
  have hc2 : w0.cell? ⟨w.heap.size + 2, 0, none⟩ = some (.slice none 0 0) := by rw [← hw0]; simp [go_sem]
  have hf2 : w0.frozen? ⟨w.heap.size + 2, 0, none⟩ = false := by rw [← hw0]; simp [go_sem]
  clear hs hs2 hn hm hb0 hw0 hv1 hv2
  go_enter Tryd.func19, Tryd.ntmps19
  go_wp2_with fail
  rw [HW.out]
  refine (HV1.out _ HB0.out).mono ?_
  rintro e w1 ⟨rfl, hb⟩
  have HB1 := Lib.hid (btr HB0.out hb)
  have hd0 : w1.cell? ⟨w.heap.size, 0, none⟩ = some (.slice A n c) := (hb.cell (p := ⟨w.heap.size, 0, none⟩) (by simp [hzw])).trans hc0
  have hd1 : w1.cell? ⟨w.heap.size + 1, 0, none⟩ = some (.slice A2 m c2) := (hb.cell (p := ⟨w.heap.size + 1, 0, none⟩) (by simp [hzw])).trans hc1
  have hd2 : w1.cell? ⟨w.heap.size + 2, 0, none⟩ = some (.slice none 0 0) := (hb.cell (p := ⟨w.heap.size + 2, 0, none⟩) (by simp [hzw])).trans hc2
  have hg2 : w1.frozen? ⟨w.heap.size + 2, 0, none⟩ = false := (hb.frozen (p := ⟨w.heap.size + 2, 0, none⟩) (by simp [hzw])).trans hf2
  have hsz1 : w.heap.size + 3 ≤ w1.heap.size := by rw [← hzw]; exact hb.size
  clear hb hc0 hc1 hc2 hf2 HV1 HW hzw HB0
  go_wp2_with fail
  refine (HV2.out _ HB1.out).mono ?_
  rintro e w2 ⟨rfl, hb⟩
  have HBx := Lib.hid (btr HB1.out hb)
  have he0 : w2.cell? ⟨w.heap.size, 0, none⟩ = some (.slice A n c) := (hb.cell (p := ⟨w.heap.size, 0, none⟩) (by simp; omega)).trans hd0
  have he1 : w2.cell? ⟨w.heap.size + 1, 0, none⟩ = some (.slice A2 m c2) := (hb.cell (p := ⟨w.heap.size + 1, 0, none⟩) (by simp; omega)).trans hd1
  have he2 : w2.cell? ⟨w.heap.size + 2, 0, none⟩ = some (.slice none 0 0) := (hb.cell (p := ⟨w.heap.size + 2, 0, none⟩) (by simp; omega)).trans hd2
  have hh2 : w2.frozen? ⟨w.heap.size + 2, 0, none⟩ = false := (hb.frozen (p := ⟨w.heap.size + 2, 0, none⟩) (by simp; omega)).trans hg2
  have hsz2 : w.heap.size + 3 ≤ w2.heap.size := Nat.le_trans hsz1 hb.size
  clear hb hd0 hd1 hd2 hg2
  go_wp2_with fail
  refine bodyPost_ret (v := .tuple #[.agg #[.slice none 0 0], .int .i64 1]) (by simp [results, Tryd.results19, go_sem, he2]) rfl ?_
  exact resN_nil _ _ _ (bset HBx.out _ (by show w.heap.size ≤ w.heap.size + 2; omega) _)

set_option maxHeartbeats 2000000 in
theorem nrMul_ok (A A2 : Option Addr) (n c m c2 : Nat) (x y : Nat) (w : World) (hn : (Na.dig x).length = n) (hm : (Na.dig y).length = m) (hs : Sl w w.heap.size A (nats (Na.dig x))) (hs2 : Sl w w.heap.size A2 (nats (Na.dig y))) (hx : x < Na.top) (hy : y < Na.top) :
    Calls Tryd.prog 19 #[.agg #[.slice A n c], .agg #[.slice A2 m c2]] w (ResN w (resL (x * y)) (resE (x * y))) := by
  obtain ⟨i0, hi, hz0, hz1, hz2⟩ := info_parts infoI
  have hn2 : n ≤ 200 := by rw [← hn]; exact (Na.dig_200 x).2 hx
  have hm2 : m ≤ 200 := by rw [← hm]; exact (Na.dig_200 y).2 hy
  have HN := Lib.hid hn
  have HM := Lib.hid hm
  have HS := Lib.hid hs
  have HS2 := Lib.hid hs2
  have HX := Lib.hid hx
  have HY := Lib.hid hy
  have HV1 : Hid (∀ W, Below w.heap.size w W → Calls Tryd.prog 44 #[.agg #[.slice A n c]] W fun e w' => e = .returned (.bool true) ∧ Below W.heap.size W w') := fun W hW => by
    rw [← (Na.vld_dig HX.out)]
    exact nrvalid_any A n c w.heap.size _ W (by rw [Na.up_length]; exact HN.out) (by rw [nats_up]; exact HS.out.below hW) hW.size (by omega)
  have HV2 : Hid (∀ W, Below w.heap.size w W → Calls Tryd.prog 44 #[.agg #[.slice A2 m c2]] W fun e w' => e = .returned (.bool true) ∧ Below W.heap.size W w') := fun W hW => by
    rw [← (Na.vld_dig HY.out)]
    exact nrvalid_any A2 m c2 w.heap.size _ W (by rw [Na.up_length]; exact HM.out) (by rw [nats_up]; exact HS2.out.below hW) hW.size (by omega)
  obtain ⟨w0, hw0⟩ : ∃ w0, ((w.alloc (.cells #[.slice A n c] 29)).alloc (.cells #[.slice A2 m c2] 29)).alloc (.cells #[.slice none 0 0] 29) = w0 := ⟨_, rfl⟩
  have HW : Hid (((w.alloc (.cells #[.slice A n c] 29)).alloc (.cells #[.slice A2 m c2] 29)).alloc (.cells #[.slice none 0 0] 29) = w0) := hw0
  have hb0 : Below w.heap.size w w0 := by rw [← hw0]; exact bal (bal (bal (Below.refl _ _) _) _) _
  have HB0 := Lib.hid hb0
  have hzw : w0.heap.size = w.heap.size + 3 := by rw [← hw0]; simp
  have hc0 : w0.cell? ⟨w.heap.size, 0, none⟩ = some (.slice A n c) := by rw [← hw0]; simp [go_sem]
  have hc1 : w0.cell? ⟨w.heap.size + 1, 0, none⟩ = some (.slice A2 m c2) := by rw [← hw0]; simp [go_sem]
  have hc2 : w0.cell? ⟨w.heap.size + 2, 0, none⟩ = some (.slice none 0 0) := by rw [← hw0]; simp [go_sem]
  have hf2 : w0.frozen? ⟨w.heap.size + 2, 0, none⟩ = false := by rw [← hw0]; simp [go_sem]
  clear hs hs2 hn hm hb0 hw0 hx hy
  go_enter Tryd.func19, Tryd.ntmps19
  go_wp2_with fail
  rw [HW.out]
  refine (HV1.out _ HB0.out).mono ?_
  rintro e w1 ⟨rfl, hb⟩
  have HB1 := Lib.hid (btr HB0.out hb)
  have hd0 : w1.cell? ⟨w.heap.size, 0, none⟩ = some (.slice A n c) := (hb.cell (p := ⟨w.heap.size, 0, none⟩) (by simp [hzw])).trans hc0
  have hd1 : w1.cell? ⟨w.heap.size + 1, 0, none⟩ = some (.slice A2 m c2) := (hb.cell (p := ⟨w.heap.size + 1, 0, none⟩) (by simp [hzw])).trans hc1
  have hd2 : w1.cell? ⟨w.heap.size + 2, 0, none⟩ = some (.slice none 0 0) := (hb.cell (p := ⟨w.heap.size + 2, 0, none⟩) (by simp [hzw])).trans hc2
  have hg2 : w1.frozen? ⟨w.heap.size + 2, 0, none⟩ = false := (hb.frozen (p := ⟨w.heap.size + 2, 0, none⟩) (by simp [hzw])).trans hf2
  have hsz1 : w.heap.size + 3 ≤ w1.heap.size := by rw [← hzw]; exact hb.size
  clear hb hc0 hc1 hc2 hf2 HV1 HW hzw HB0
  go_wp2_with fail
  refine (HV2.out _ HB1.out).mono ?_
  rintro e w2 ⟨rfl, hb⟩
  have HBx := Lib.hid (btr HB1.out hb)
  have he0 : w2.cell? ⟨w.heap.size, 0, none⟩ = some (.slice A n c) := (hb.cell (p := ⟨w.heap.size, 0, none⟩) (by simp; omega)).trans hd0
  have he1 : w2.cell? ⟨w.heap.size + 1, 0, none⟩ = some (.slice A2 m c2) := (hb.cell (p := ⟨w.heap.size + 1, 0, none⟩) (by simp; omega)).trans hd1
  have he2 : w2.cell? ⟨w.heap.size + 2, 0, none⟩ = some (.slice none 0 0) := (hb.cell (p := ⟨w.heap.size + 2, 0, none⟩) (by simp; omega)).trans hd2
  have hh2 : w2.frozen? ⟨w.heap.size + 2, 0, none⟩ = false := (hb.frozen (p := ⟨w.heap.size + 2, 0, none⟩) (by simp; omega)).trans hg2
  have hsz2 : w.heap.size + 3 ≤ w2.heap.size := Nat.le_trans hsz1 hb.size
  clear hb hd0 hd1 hd2 hg2
  clear HV2
  have HMu := Lib.hid (nrmul_any A A2 n c m c2 (Na.dig x) (Na.dig y) w2 HN.out HM.out ((HS.out.below HBx.out).more HBx.out.size) ((HS2.out.below HBx.out).more HBx.out.size) (Na.dig_lim x) (Na.dig_lim y) (by omega) (by omega))
  rw [Na.val_dig, Na.val_dig] at HMu
  go_wp2_with fail
  refine HMu.out.mono ?_
  rintro e w3 ⟨A5, c5, o5, rfl, hl5, hL5, hv5, ho5, hb5⟩
  have HR := Lib.hid (nfit_any A5 (n + m + 1) c5 o5 w3 hl5 (Sl.of_own ho5) hL5 (own_cap ho5).1 (by omega))
  rw [hv5] at HR
  have HB3 := Lib.hid hb5
  clear hl5 hL5 hv5 ho5 hb5 HMu
  go_wp2_with fail
  refine HR.out.mono ?_
  rintro e w9 ⟨A9, n9, c9, rfl, hn9, ho9, hb9⟩
  have HN9 := Lib.hid hn9
  have HO9 := Lib.hid (own_more ho9 HB3.out.size)
  have HB9 := Lib.hid (btr HB3.out hb9)
  have hk9 : w9.cell? ⟨w.heap.size + 2, 0, none⟩ = some (.slice none 0 0) := (HB9.out.cell (p := ⟨w.heap.size + 2, 0, none⟩) (by simp only; omega)).trans he2
  have hk9f : w9.frozen? ⟨w.heap.size + 2, 0, none⟩ = false := (HB9.out.frozen (p := ⟨w.heap.size + 2, 0, none⟩) (by simp only; omega)).trans hh2
  clear hn9 ho9 hb9
  go_wp2_with fail
  refine bodyPost_ret (v := .tuple #[.agg #[.slice A9 n9 c9], .int .i64 (resE (x * y))]) (by simp [results, Tryd.results19, go_sem, hk9]) rfl ?_
  exact resN_cell HO9.out HN9.out (by omega) (by omega) (HBx.out.trans (HB9.out.mono HBx.out.size)) (by omega) _ _

theorem nrMul_any (A A2 : Option Addr) (n c m c2 : Nat) (zs ys : List Int) (w : World) (hn : zs.length = n) (hm : ys.length = m) (hs : Sl w w.heap.size A (ints zs)) (hs2 : Sl w w.heap.size A2 (ints ys)) (hl : n ≤ 140737488351232) (hl2 : m ≤ 140737488351232) :
    Calls Tryd.prog 19 #[.agg #[.slice A n c], .agg #[.slice A2 m c2]] w (ResN w (mulL zs ys) (mulE zs ys)) := by
  cases hv : (Na.vld zs && Na.vld ys)
  · have e1 : mulL zs ys = [] := by unfold mulL; rw [hv]; rfl
    have e2 : mulE zs ys = 1 := by unfold mulE; rw [hv]; rfl
    rw [e1, e2]
    cases h1 : Na.vld zs
    · exact nrMul_bad1 A A2 n c m c2 zs ys w hn hm hs hs2 hl hl2 h1 _ rfl
    · rw [h1, Bool.true_and] at hv
      exact nrMul_bad2 A A2 n c m c2 zs ys w hn hm hs hs2 hl hl2 h1 hv
  · obtain ⟨x, y, hx, hy, rfl, rfl⟩ := vv_ex hv
    rw [(mul_ok hx hy).1, (mul_ok hx hy).2]
    rw [nats_up] at hs hs2
    rw [Na.up_length] at hn hm
    exact nrMul_ok A A2 n c m c2 x y w hn hm hs hs2 hx hy
end Go.Proofs.YtflgfkelbniblaaDoor

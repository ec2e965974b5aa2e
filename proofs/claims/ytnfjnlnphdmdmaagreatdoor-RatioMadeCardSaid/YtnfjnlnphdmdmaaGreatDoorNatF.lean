/- The contracts of product and Mul. -/
import Derived.Test.YtnfjnlnphdmdmaaGreatDoorNatE
namespace Go.Proofs.YtnfjnlnphdmdmaaGreatDoor
open Go.RowKit
set_option linter.unusedVariables false
set_option maxRecDepth 100000
def NPr (w : World) (B : Nat) (X Y : List Nat) (n N g c : Nat) (i : Value) (wr : World) : Prop :=
  ∃ (k : Nat) (out : List Nat), k ≤ n ∧ i = .int .i64 (k : Int) ∧ Hid (out.length = N ∧ Na.Cols out 281474976710656 k 0 ∧ Na.val out = Na.val (X.take k) * Na.val Y) ∧ wr.ownsRow B 3 1 (.slice (some ⟨g, 0, none⟩) N c) N (nats out) ∧ Below B w wr
def NPi (w : World) (B : Nat) (X Y : List Nat) (a i m N g c : Nat) (v : Value) (wr : World) : Prop :=
  ∃ (k : Nat) (out : List Nat), k ≤ m ∧ v = .int .i64 (k : Int) ∧ Hid (out.length = N ∧ Na.Cols out 281474976710656 i k ∧ Na.val out = Na.val (X.take i) * Na.val Y + 16777216 ^ i * (a * Na.val (Y.take k))) ∧ wr.ownsRow B 3 1 (.slice (some ⟨g, 0, none⟩) N c) N (nats out) ∧ Below B w wr
def NPc (w : World) (B : Nat) (out : List Nat) (V N g c : Nat) (i cr : Value) (wr : World) : Prop :=
  ∃ (k r : Nat) (o : List Nat), k ≤ N ∧ i = .int .i64 (k : Int) ∧ cr = .int .i64 (r : Int) ∧ r ≤ 288230376151711744 ∧ Hid (o.length = k ∧ Na.Lim o ∧ Na.val o + 16777216 ^ k * (r + Na.val (out.drop k)) = V) ∧ wr.ownsRow B 3 1 (.slice (some ⟨g, 0, none⟩) N c) N (nats (o ++ out.drop k)) ∧ Below B w wr
theorem made_nats (n : Nat) : nats (List.replicate n 0) = List.replicate n (.int .i64 0) := by simp [nats, encN]
set_option maxHeartbeats 4000000 in
theorem nproduct_any (A A2 : Option Addr) (n c m c2 : Nat) (X Y : List Nat) (w : World) (hn : X.length = n) (hm : Y.length = m) (hs : Sl w w.heap.size A (nats X)) (hs2 : Sl w w.heap.size A2 (nats Y)) (hX : Na.Lim X) (hY : Na.Lim Y) (hl : n ≤ 1000) (hl2 : m ≤ 1000) :
    Calls Tryz.prog 75 #[.slice A n c, .slice A2 m c2] w (FreshN w (Na.dig (Na.val X * Na.val Y))) := by
  obtain ⟨i0, hi, hz0, hz1, hz2⟩ := info_parts infoI
  rcases Nat.eq_zero_or_pos n with h0 | h0
  · subst h0
    have hx : X = [] := List.eq_nil_of_length_eq_zero hn
    have HR : Hid (Na.dig (Na.val X * Na.val Y) = []) := by unfold Hid; rw [hx, Na.val, Nat.zero_mul, Na.dig_zero]
    clear hs hs2 hn hm hx
    go_enter Tryz.func75, Tryz.ntmps75
    go_wp2_with fail
    go_ret
    rw [HR.out]
    exact ⟨none, 0, 0, rfl, rfl, World.ownsRow_nil _ _ _ _, Below.refl _ _⟩
  · have hz := nat_ne0 h0
    rcases Nat.eq_zero_or_pos m with h1 | h1
    · subst h1
      have hx : Y = [] := List.eq_nil_of_length_eq_zero hm
      have HR : Hid (Na.dig (Na.val X * Na.val Y) = []) := by unfold Hid; rw [hx, Na.val, Nat.mul_zero, Na.dig_zero]
      clear hs hs2 hn hm hx
      go_enter Tryz.func75, Tryz.ntmps75
      go_wp2_with fail
      go_ret
      rw [HR.out]
      exact ⟨none, 0, 0, rfl, rfl, World.ownsRow_nil _ _ _ _, Below.refl _ _⟩
    · have hz2' := nat_ne0 h1
      have hmk := run_make_one (P := Tryz.prog) 22 3 i0 (.int .i64 0) Tryz.underlying22 hi hz0 hz1 .i64 .i64 ((n : Int) + (m : Int)) ((n : Int) + (m : Int)) (n + m) (n + m) (by omega) (by omega) (Nat.le_refl _) (by rw [hz2]; omega) (by omega)
      have HN := Lib.hid hn
      have HM := Lib.hid hm
      have HS := Lib.hid hs
      have HS2 := Lib.hid hs2
      have HO0 : Hid ((w.alloc (.cells (madeCells #[Value.int .i64 0] (n + m)) 3)).ownsRow w.heap.size 3 1 (.slice (some ⟨w.heap.size, 0, none⟩) (n + m) (n + m)) (n + m) (nats (List.replicate (n + m) 0))) := by
        rw [made_nats]
        exact own_made w 3 (.int .i64 0) (n + m) (n + m) rfl (Nat.le_refl _) (by unfold maxLen; omega)
      have HB0 := Lib.hid (bal (Below.refl w.heap.size w) (.cells (madeCells #[Value.int .i64 0] (n + m)) 3))
      clear hs hs2 hn hm
      go_enter Tryz.func75, Tryz.ntmps75
      go_wp2_with fail
      clear hmk
      go_loopw [28] (fun i wr => NPr w w.heap.size X Y n (n + m) w.heap.size (n + m) i wr) (fun i _ => n - (intOf i).toNat)
      case atStart => exact ⟨0, _, Nat.zero_le _, rfl, ⟨List.length_replicate, Na.cols_zero _ _, by rw [Na.val_zeros]; simp [Na.val]⟩, HO0.out, HB0.out⟩
      case round =>
        clear HO0 HB0
        obtain ⟨i, out, hin, rfl, HP, ho, hb⟩ := hrel
        have HO := Lib.hid ho
        have HB := Lib.hid hb
        clear ho hb
        rcases Nat.lt_or_ge i n with hlt | hge
        · obtain ⟨a, ha⟩ := nat_at X i (by rw [HN.out]; exact hlt)
          obtain ⟨ad, rfl, hbk, hca⟩ := (HS.out.below HB.out).nat ha
          have ha24 := hX.at ha
          have HRow := Lib.hid (Na.prod_row X Y i a ha)
          clear ha
          go_wp2_with fail
          clear hca
          go_loopw [35] (fun v wr => NPi w w.heap.size X Y a i m (n + m) w.heap.size (n + m) v wr) (fun v _ => m - (intOf v).toNat)
          case atStart => exact ⟨0, out, Nat.zero_le _, rfl, ⟨HP.out.1, HP.out.2.1, by rw [HP.out.2.2]; simp [Na.val]⟩, HO.out, HB.out⟩
          case round =>
            clear HP HO HB
            obtain ⟨k, out, hk, rfl, HP, ho, hb⟩ := hrel
            have HO := Lib.hid ho
            have HB := Lib.hid hb
            rcases Nat.lt_or_ge k m with hkm | hkm
            · obtain ⟨b, hbb⟩ := nat_at Y k (by rw [HM.out]; exact hkm)
              obtain ⟨e, he⟩ := nat_at out (i + k) (by rw [HP.out.1]; omega)
              obtain ⟨ad2, rfl, hbk2, hcb⟩ := (HS2.out.below hb).nat hbb
              have hce := own_nat ho he
              have hfz := ho.frozenAt (i + k)
              have hp := Na.prod24 ha24 (hY.at hbb)
              obtain ⟨p, hpp⟩ : ∃ p, a * b = p := ⟨_, rfl⟩
              have hp1 : (a : Int) * (b : Int) = (p : Int) := by rw [← hpp]; rfl
              have he2 : e ≤ 281474976710656000 := by
                have h7 := (HP.out.2.1 _ _ he).2 (Nat.le_refl _)
                have h8 := Nat.mul_le_mul_right 281474976710656 (show i ≤ 1000 by omega)
                omega
              have HSt := Lib.hid (Na.prod_step out X Y i k e a b _ he HP.out.2.2 hbb)
              have HCo := Lib.hid (Na.cols_step HP.out.2.1 he hp)
              rw [hpp] at HSt HCo hp
              clear ho hb hbb he hpp
              have s1 : IntKind.i64.wrap ((i : Int) + (k : Int)) = (i : Int) + (k : Int) := IntWalk.i64_in _ (by omega)
              have s2 : 0 ≤ (i : Int) + (k : Int) := by omega
              have s3 : (i : Int) + (k : Int) < (n : Int) + (m : Int) := by omega
              have s4 : ((i : Int) + (k : Int)).toNat = i + k := by omega
              go_wp2_with fail
              go_roundw
              case rel =>
                have o1 := own_put HO.out (i + k) (.int .i64 ((e + p : Nat) : Int))
                rw [nats_set] at o1
                exact ⟨k + 1, out.set (i + k) (e + p), by omega, by go_num, ⟨by rw [List.length_set]; exact HP.out.1, HCo.out, HSt.out⟩, o1, bset HB.out ⟨w.heap.size, i + k, none⟩ (Nat.le_refl _) _⟩
              case measure => simp [intOf]; omega
            · have hkm' : k = m := by omega
              have HP2 : Hid (out.length = n + m ∧ Na.Cols out 281474976710656 (i + 1) 0 ∧ Na.val out = Na.val (X.take (i + 1)) * Na.val Y) := by
                refine ⟨HP.out.1, Na.cols_row HP.out.2.1, ?_⟩
                have h7 := HP.out.2.2
                rw [hkm', List.take_of_length_le (l := Y) (by rw [HM.out]; exact Nat.le_refl _), HRow.out] at h7
                exact h7
              clear hkm' ho hb
              go_wp2_with fail
              go_roundw
              case rel => exact ⟨i + 1, out, by omega, by go_num, HP2, HO.out, HB.out⟩
              case measure => simp [intOf]; omega
        · have hin' : i = n := by omega
          have HV : Hid (Na.val out = Na.val X * Na.val Y) := by
            have h7 := HP.out.2.2
            rw [List.take_of_length_le (by rw [HN.out]; exact hge)] at h7
            exact h7
          have HCol : Hid (∀ j e, out[j]? = some e → e ≤ 281756451687366656) := fun j e he => by
            have h7 := (HP.out.2.1 j e he).1
            have h8 := Nat.mul_le_mul_right 281474976710656 (show i + 1 ≤ 1001 by omega)
            omega
          have HLo : Hid (out.length = n + m) := HP.out.1
          clear hin' HP
          go_wp2_with fail
          go_loopw [55, 10] (fun v cr wr => NPc w w.heap.size out (Na.val X * Na.val Y) (n + m) w.heap.size (n + m) v cr wr) (fun v _ _ => n + m - (intOf v).toNat)
          case atStart => exact ⟨0, 0, [], Nat.zero_le _, rfl, rfl, Nat.zero_le _, ⟨rfl, Na.Lim.nil, by simp [Na.val, HV.out]⟩, by simpa using HO.out, HB.out⟩
          case round =>
            clear HO HB
            obtain ⟨k, r, o, hk, rfl, rfl, hr, HP, ho, hb⟩ := hrel
            have HO := Lib.hid ho
            have HB := Lib.hid hb
            rcases Nat.lt_or_ge k (n + m) with hkm | hkm
            · obtain ⟨e, he⟩ := nat_at out k (by rw [HLo.out]; exact hkm)
              have he2 := HCol.out k e he
              have hce := own_nat ho (Na.get_mid o out k e HP.out.1 he)
              have hfz := ho.frozenAt k
              obtain ⟨t, ht⟩ : ∃ t, r + e = t := ⟨_, rfl⟩
              obtain ⟨q, hq⟩ : ∃ q, t / 16777216 = q := ⟨_, rfl⟩
              obtain ⟨d, hd⟩ : ∃ d, t % 16777216 = d := ⟨_, rfl⟩
              have HSt := Lib.hid (Na.carry_step o out k r e t _ HP.out.1 he HP.out.2.2 ht.symm)
              rw [hq, hd] at HSt
              have hand : bits .and .i64 ((r : Int) + (e : Int)) 16777215 = (d : Int) := by rw [and24]; omega
              have hshr : ((r : Int) + (e : Int)) / 16777216 = (q : Int) := by omega
              have hq1 : q ≤ 288230376151711744 := by omega
              have hd24 : d < 16777216 := by omega
              have HLr := Lib.hid (HP.out.2.1.append (Na.Lim.one hd24))
              have HLl : Hid ((o ++ [d]).length = k + 1) := by unfold Hid; rw [List.length_append, HP.out.1]; rfl
              have HSet := Lib.hid (Na.set_mid o out k d HP.out.1 (by rw [HLo.out]; exact hkm))
              have s3 : (k : Int) < (n : Int) + (m : Int) := by omega
              clear ho hb he ht hq hd
              go_wp2_with fail
              go_roundw
              case rel =>
                have o1 := own_put HO.out k (.int .i64 (d : Int))
                rw [nats_set, HSet.out] at o1
                exact ⟨k + 1, q, o ++ [d], by omega, by go_num, rfl, hq1, ⟨HLl.out, HLr.out, HSt.out⟩, o1, bset HB.out ⟨w.heap.size, k, none⟩ (Nat.le_refl _) _⟩
              case measure => simp [intOf]; omega
            · have hkm' : k = n + m := by omega
              have HLen : Hid (o.length = n + m) := by unfold Hid; rw [← hkm']; exact HP.out.1
              have HEnd : Hid (Na.val o = Na.val X * Na.val Y) := by
                have h7 := Na.carry_end o out k r _ HP.out.1 (by rw [HLo.out]; exact hkm) HP.out.2.2 (by have := Na.val_mul_lt hX hY; rw [HN.out, HM.out] at this; rw [hkm']; exact this)
                exact h7
              have HOwn : Hid (wr.ownsRow w.heap.size 3 1 (.slice (some ⟨w.heap.size, 0, none⟩) (n + m) (n + m)) (n + m) (nats o)) := by
                have h7 := ho
                rw [List.drop_of_length_le (by rw [HLo.out]; exact hkm), List.append_nil] at h7
                exact h7
              have HTr := Lib.hid (ntrim_any (some ⟨w.heap.size, 0, none⟩) (n + m) (n + m) _ o wr HLen.out (Sl.of_own HOwn.out) (Nat.le_refl _) (by omega))
              have HT2 := Lib.hid (Na.trim_dig HP.out.2.1)
              clear ho hb hkm'
              go_wp2_with fail
              refine HTr.out.mono ?_
              rintro e w9 ⟨rfl, rfl⟩
              go_wp2_with fail
              go_ret
              rw [← HEnd.out, ← HT2.out]
              refine ⟨_, _, _, rfl, ?_, ?_, HB.out⟩
              · rw [Na.trim_length, HLen.out]
              · unfold Na.trim
                rw [HLen.out, ← nats_take]
                exact own_take HOwn.out (Na.tl_le o (n + m))

set_option maxHeartbeats 1000000 in
theorem nmul_bad (A A2 : Option Addr) (n c m c2 : Nat) (zs ys : List Int) (w : World) (hn : zs.length = n) (hm : ys.length = m) (hs : Sl w w.heap.size A (ints zs)) (hs2 : Sl w w.heap.size A2 (ints ys)) (hl : n ≤ 140737488351232) (hl2 : m ≤ 140737488351232) (hv : (Na.vld zs && Na.vld ys) = false) :
    Calls Tryz.prog 52 #[.agg #[.slice A n c], .agg #[.slice A2 m c2]] w (ResN w [] 1) := by
  obtain ⟨w0, hw0⟩ : ∃ w0, ((w.alloc (.cells #[.slice A n c] 24)).alloc (.cells #[.slice A2 m c2] 24)).alloc (.cells #[.slice none 0 0] 24) = w0 := ⟨_, rfl⟩
  have HW : Hid (((w.alloc (.cells #[.slice A n c] 24)).alloc (.cells #[.slice A2 m c2] 24)).alloc (.cells #[.slice none 0 0] 24) = w0) := hw0
  have hb0 : Below w.heap.size w w0 := by rw [← hw0]; exact bal (bal (bal (Below.refl _ _) _) _) _
  have HB0 := Lib.hid hb0
  have hzw : w0.heap.size = w.heap.size + 3 := by rw [← hw0]; simp
  have hc0 : w0.cell? ⟨w.heap.size, 0, none⟩ = some (.slice A n c) := by rw [← hw0]; simp [go_sem]
  have hc1 : w0.cell? ⟨w.heap.size + 1, 0, none⟩ = some (.slice A2 m c2) := by rw [← hw0]; simp [go_sem]
  have hc2 : w0.cell? ⟨w.heap.size + 2, 0, none⟩ = some (.slice none 0 0) := by rw [← hw0]; simp [go_sem]
  have hf2 : w0.frozen? ⟨w.heap.size + 2, 0, none⟩ = false := by rw [← hw0]; simp [go_sem]
  have HV := Lib.hid (nboth_any A A2 n c m c2 w0.heap.size zs ys w0 hn hm ((hs.below hb0).more hb0.size) ((hs2.below hb0).more hb0.size) (Nat.le_refl _) hl hl2)
  rw [hv] at HV
  clear hs hs2 hn hm hb0 hw0 hv
  go_enter Tryz.func52, Tryz.ntmps52
  go_wp2_with fail
  rw [HW.out]
  refine HV.out.mono ?_
  rintro e w1 ⟨rfl, hb⟩
  have HB1 := Lib.hid (btr HB0.out hb)
  have hd0 : w1.cell? ⟨w.heap.size, 0, none⟩ = some (.slice A n c) := (hb.cell (p := ⟨w.heap.size, 0, none⟩) (by simp [hzw])).trans hc0
  have hd1 : w1.cell? ⟨w.heap.size + 1, 0, none⟩ = some (.slice A2 m c2) := (hb.cell (p := ⟨w.heap.size + 1, 0, none⟩) (by simp [hzw])).trans hc1
  have hd2 : w1.cell? ⟨w.heap.size + 2, 0, none⟩ = some (.slice none 0 0) := (hb.cell (p := ⟨w.heap.size + 2, 0, none⟩) (by simp [hzw])).trans hc2
  have hg2 : w1.frozen? ⟨w.heap.size + 2, 0, none⟩ = false := (hb.frozen (p := ⟨w.heap.size + 2, 0, none⟩) (by simp [hzw])).trans hf2
  have hsz1 : w.heap.size + 3 ≤ w1.heap.size := by rw [← hzw]; exact hb.size
  clear hb hc0 hc1 hc2 hf2 HV HW hzw HB0
  go_wp2_with fail
  refine bodyPost_ret (v := .tuple #[.agg #[.slice none 0 0], .int .i64 1]) (by simp [results, Tryz.results52, go_sem, hd2]) rfl ?_
  exact resN_nil _ _ _ (bset HB1.out _ (by show w.heap.size ≤ w.heap.size + 2; omega) _)

def mulL (zs ys : List Int) : List Nat := if Na.vld zs && Na.vld ys then resL (num zs * num ys) else []
def mulE (zs ys : List Int) : Int := if Na.vld zs && Na.vld ys then resE (num zs * num ys) else 1
theorem mul_ok {x y : Nat} (hx : x < Na.top) (hy : y < Na.top) : mulL (Na.up (Na.dig x)) (Na.up (Na.dig y)) = resL (x * y) ∧ mulE (Na.up (Na.dig x)) (Na.up (Na.dig y)) = resE (x * y) := by
  unfold mulL mulE
  rw [Na.vld_dig hx, Na.vld_dig hy, num_dig, num_dig]
  exact ⟨rfl, rfl⟩
set_option maxHeartbeats 1000000 in
theorem nmul_ok (A A2 : Option Addr) (n c m c2 : Nat) (x y : Nat) (w : World) (hn : (Na.dig x).length = n) (hm : (Na.dig y).length = m) (hs : Sl w w.heap.size A (nats (Na.dig x))) (hs2 : Sl w w.heap.size A2 (nats (Na.dig y))) (hx : x < Na.top) (hy : y < Na.top) :
    Calls Tryz.prog 52 #[.agg #[.slice A n c], .agg #[.slice A2 m c2]] w (ResN w (resL (x * y)) (resE (x * y))) := by
  have hn2 : n ≤ 200 := by rw [← hn]; exact (Na.dig_200 x).2 hx
  have hm2 : m ≤ 200 := by rw [← hm]; exact (Na.dig_200 y).2 hy
  obtain ⟨w0, hw0⟩ : ∃ w0, ((w.alloc (.cells #[.slice A n c] 24)).alloc (.cells #[.slice A2 m c2] 24)).alloc (.cells #[.slice none 0 0] 24) = w0 := ⟨_, rfl⟩
  have HW : Hid (((w.alloc (.cells #[.slice A n c] 24)).alloc (.cells #[.slice A2 m c2] 24)).alloc (.cells #[.slice none 0 0] 24) = w0) := hw0
  have hb0 : Below w.heap.size w w0 := by rw [← hw0]; exact bal (bal (bal (Below.refl _ _) _) _) _
  have HB0 := Lib.hid hb0
  have hzw : w0.heap.size = w.heap.size + 3 := by rw [← hw0]; simp
  have hc0 : w0.cell? ⟨w.heap.size, 0, none⟩ = some (.slice A n c) := by rw [← hw0]; simp [go_sem]
  have hc1 : w0.cell? ⟨w.heap.size + 1, 0, none⟩ = some (.slice A2 m c2) := by rw [← hw0]; simp [go_sem]
  have hc2 : w0.cell? ⟨w.heap.size + 2, 0, none⟩ = some (.slice none 0 0) := by rw [← hw0]; simp [go_sem]
  have hf2 : w0.frozen? ⟨w.heap.size + 2, 0, none⟩ = false := by rw [← hw0]; simp [go_sem]
  have hvv : (Na.vld (Na.up (Na.dig x)) && Na.vld (Na.up (Na.dig y))) = true := by rw [Na.vld_dig hx, Na.vld_dig hy]; rfl
  have HV := Lib.hid (nboth_any A A2 n c m c2 w0.heap.size _ _ w0 (by rw [Na.up_length]; exact hn) (by rw [Na.up_length]; exact hm) (by rw [nats_up]; exact (hs.below hb0).more hb0.size) (by rw [nats_up]; exact (hs2.below hb0).more hb0.size) (Nat.le_refl _) (by omega) (by omega))
  rw [hvv] at HV
  have HN := Lib.hid hn
  have HM := Lib.hid hm
  have HS := Lib.hid hs
  have HS2 := Lib.hid hs2
  clear hs hs2 hn hm hb0 hw0 hvv hx hy
  go_enter Tryz.func52, Tryz.ntmps52
  go_wp2_with fail
  rw [HW.out]
  refine HV.out.mono ?_
  rintro e w1 ⟨rfl, hb⟩
  have HB1 := Lib.hid (btr HB0.out hb)
  have hd0 : w1.cell? ⟨w.heap.size, 0, none⟩ = some (.slice A n c) := (hb.cell (p := ⟨w.heap.size, 0, none⟩) (by simp [hzw])).trans hc0
  have hd1 : w1.cell? ⟨w.heap.size + 1, 0, none⟩ = some (.slice A2 m c2) := (hb.cell (p := ⟨w.heap.size + 1, 0, none⟩) (by simp [hzw])).trans hc1
  have hd2 : w1.cell? ⟨w.heap.size + 2, 0, none⟩ = some (.slice none 0 0) := (hb.cell (p := ⟨w.heap.size + 2, 0, none⟩) (by simp [hzw])).trans hc2
  have hg2 : w1.frozen? ⟨w.heap.size + 2, 0, none⟩ = false := (hb.frozen (p := ⟨w.heap.size + 2, 0, none⟩) (by simp [hzw])).trans hf2
  have hsz1 : w.heap.size + 3 ≤ w1.heap.size := by rw [← hzw]; exact hb.size
  clear hb hc0 hc1 hc2 hf2 HV HW hzw HB0
  have HPr := Lib.hid (nproduct_any A A2 n c m c2 (Na.dig x) (Na.dig y) w1 HN.out HM.out ((HS.out.below HB1.out).more HB1.out.size) ((HS2.out.below HB1.out).more HB1.out.size) (Na.dig_lim x) (Na.dig_lim y) (by omega) (by omega))
  rw [Na.val_dig, Na.val_dig] at HPr
  go_wp2_with fail
  refine HPr.out.mono ?_
  rintro e w2 ⟨A5, n5, c5, rfl, hn5, ho5, hb5⟩
  have hl5 : n5 ≤ 400 := by
    rw [← hn5]
    have h1 := Na.dig_len_mul x y
    rw [HN.out, HM.out] at h1
    omega
  have HR := Lib.hid (nresult_any A5 n5 c5 w1.heap.size (Na.dig (x * y)) w2 hn5 ho5 (Na.dig_lim _) (by omega))
  rw [Na.val_dig] at HR
  have HB2 := Lib.hid hb5
  clear hn5 ho5 hb5
  go_wp2_with fail
  refine HR.out.mono ?_
  rintro e w9 ⟨A9, n9, c9, rfl, hn9, ho9, hb9⟩
  have HN9 := Lib.hid hn9
  have HO9 := Lib.hid ho9
  have HB9 := Lib.hid (btr HB2.out hb9)
  have hk9 : w9.cell? ⟨w.heap.size + 2, 0, none⟩ = some (.slice none 0 0) := (HB9.out.cell (p := ⟨w.heap.size + 2, 0, none⟩) (by simp; omega)).trans hd2
  have hk9f : w9.frozen? ⟨w.heap.size + 2, 0, none⟩ = false := (HB9.out.frozen (p := ⟨w.heap.size + 2, 0, none⟩) (by simp; omega)).trans hg2
  clear hn9 ho9 hb9 hd0 hd1 hd2 hg2
  go_wp2_with fail
  refine bodyPost_ret (v := .tuple #[.agg #[.slice A9 n9 c9], .int .i64 (resE (x * y))]) (by simp [results, Tryz.results52, go_sem, hk9]) rfl ?_
  exact resN_cell HO9.out HN9.out (by omega) (by omega) (HB1.out.trans (HB9.out.mono HB1.out.size)) (by omega) _ _
theorem nmul_any (A A2 : Option Addr) (n c m c2 : Nat) (zs ys : List Int) (w : World) (hn : zs.length = n) (hm : ys.length = m) (hs : Sl w w.heap.size A (ints zs)) (hs2 : Sl w w.heap.size A2 (ints ys)) (hl : n ≤ 140737488351232) (hl2 : m ≤ 140737488351232) :
    Calls Tryz.prog 52 #[.agg #[.slice A n c], .agg #[.slice A2 m c2]] w (ResN w (mulL zs ys) (mulE zs ys)) := by
  cases hv : (Na.vld zs && Na.vld ys)
  · have e1 : mulL zs ys = [] := by unfold mulL; rw [hv]; rfl
    have e2 : mulE zs ys = 1 := by unfold mulE; rw [hv]; rfl
    rw [e1, e2]
    exact nmul_bad A A2 n c m c2 zs ys w hn hm hs hs2 hl hl2 hv
  · obtain ⟨x, y, hx, hy, rfl, rfl⟩ := vv_ex hv
    rw [(mul_ok hx hy).1, (mul_ok hx hy).2]
    rw [nats_up] at hs hs2
    rw [Na.up_length] at hn hm
    exact nmul_ok A A2 n c m c2 x y w hn hm hs hs2 hx hy
end Go.Proofs.YtnfjnlnphdmdmaaGreatDoor

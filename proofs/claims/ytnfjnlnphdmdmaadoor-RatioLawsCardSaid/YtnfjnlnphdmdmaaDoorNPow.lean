/- The contract of Power. -/
import Derived.Test.YtnfjnlnphdmdmaaDoorNatF
import Derived.Test.YtnfjnlnphdmdmaaDoorNPowA
namespace Go.Proofs.YtnfjnlnphdmdmaaDoor
open Go.RowKit
set_option linter.unusedVariables false
set_option maxRecDepth 100000
def NPw (w1 : World) (x m : Nat) (i o : Value) (wr : World) : Prop :=
  ∃ (v : Int) (j : Nat) (A : Option Addr) (n c : Nat), i = .int .i64 v ∧ v = (j : Int) - 1 ∧ o = .slice A n c ∧ j ≤ 13 ∧ n ≤ 401 ∧ Hid ((Na.dig (x ^ (m / 2 ^ j))).length = n) ∧ wr.ownsRow w1.heap.size 3 1 (.slice A n c) n (nats (Na.dig (x ^ (m / 2 ^ j)))) ∧ Below w1.heap.size w1 wr ∧ w1.heap.size ≤ wr.heap.size
set_option maxHeartbeats 4000000 in
theorem npower_ok (A : Option Addr) (n c x m : Nat) (w : World) (hn : (Na.dig x).length = n) (hs : Sl w w.heap.size A (nats (Na.dig x))) (hx : x < Na.top) (hm : m ≤ 4800) :
    Calls Tryd.prog 105 #[.agg #[.slice A n c], .int .i64 (m : Int)] w (ResN w (resL (x ^ m)) (resE (x ^ m))) := by
  have hn200 : n ≤ 200 := by rw [← hn]; exact (Na.dig_200 x).2 hx
  obtain ⟨w0, hw0⟩ : ∃ w0, (w.alloc (.cells #[.slice A n c] 25)).alloc (.cells #[.slice none 0 0] 25) = w0 := ⟨_, rfl⟩
  have HW : Hid ((w.alloc (.cells #[.slice A n c] 25)).alloc (.cells #[.slice none 0 0] 25) = w0) := hw0
  have hb0 : Below w.heap.size w w0 := by rw [← hw0]; exact bal (bal (Below.refl _ _) _) _
  have HB0 := Lib.hid hb0
  have hzw : w0.heap.size = w.heap.size + 2 := by rw [← hw0]; simp
  have hc0 : w0.cell? ⟨w.heap.size, 0, none⟩ = some (.slice A n c) := by rw [← hw0]; simp [go_sem]
  have hc2 : w0.cell? ⟨w.heap.size + 1, 0, none⟩ = some (.slice none 0 0) := by rw [← hw0]; simp [go_sem]
  have hf2 : w0.frozen? ⟨w.heap.size + 1, 0, none⟩ = false := by rw [← hw0]; simp [go_sem]
  have HV := Lib.hid (nvalid_any A n c w0.heap.size (Na.up (Na.dig x)) w0 (by rw [Na.up_length]; exact hn) (by rw [nats_up]; exact (hs.below hb0).more hb0.size) (Nat.le_refl _) (by omega))
  rw [Na.vld_dig hx] at HV
  have HN := Lib.hid hn
  have HS := Lib.hid hs
  clear hs hn hb0 hw0 hx
  have hbm : Nbl m ≤ 13 := nbl_le (k := 13) (by omega) (by omega)
  have h1 : decide ((m : Int) < 0) = false := decide_eq_false (by omega)
  have h2 : decide (4800 < (m : Int)) = false := decide_eq_false (by omega)
  go_enter Tryd.func105, Tryd.ntmps105
  go_wp2_with fail
  rw [HW.out]
  refine HV.out.mono ?_
  rintro e w1 ⟨rfl, hb⟩
  have HB1 := Lib.hid (btr HB0.out hb)
  have hd0 : w1.cell? ⟨w.heap.size, 0, none⟩ = some (.slice A n c) := (hb.cell (p := ⟨w.heap.size, 0, none⟩) (by simp [hzw])).trans hc0
  have hd2 : w1.cell? ⟨w.heap.size + 1, 0, none⟩ = some (.slice none 0 0) := (hb.cell (p := ⟨w.heap.size + 1, 0, none⟩) (by simp [hzw])).trans hc2
  have hg2 : w1.frozen? ⟨w.heap.size + 1, 0, none⟩ = false := (hb.frozen (p := ⟨w.heap.size + 1, 0, none⟩) (by simp [hzw])).trans hf2
  have hsz1 : w.heap.size + 2 ≤ w1.heap.size := by rw [← hzw]; exact hb.size
  clear hb hc0 hc2 hf2 HV HW hzw HB0
  have HO0 : Hid ((w1.alloc (.cells #[.int .i64 1] 3)).ownsRow w1.heap.size 3 1 (.slice (some ⟨w1.heap.size, 0, none⟩) 1 1) 1 (nats (Na.dig (x ^ (m / 2 ^ Nbl m))))) := by
    unfold Hid
    rw [Na.pow_start m hm, Nat.pow_zero, Na.dig_small 1 (by omega) (by omega)]
    exact World.ownsRow_lit (base := w1.heap.size) (e := 3) (size := 1) w1 #[.int .i64 1] 1 (Nat.le_refl _) (by unfold maxLen; omega) rfl
  have HL0 : Hid ((Na.dig (x ^ (m / 2 ^ Nbl m))).length = 1) := by unfold Hid; rw [Na.pow_start m hm, Nat.pow_zero, Na.dig_small 1 (by omega) (by omega)]; rfl
  have HBL0 : Hid (Below w1.heap.size w1 (w1.alloc (.cells #[.int .i64 1] 3))) := bal (Below.refl _ _) _
  have HSZ0 : Hid (w1.heap.size ≤ (w1.alloc (.cells #[.int .i64 1] 3)).heap.size) := by unfold Hid; simp
  rcases Nat.eq_zero_or_pos x with hx0 | hx0
  · have hn0 : n = 0 := by rw [← HN.out]; exact Na.dig_len0.2 hx0
    subst hn0
    have HLB : Hid (∀ j, j ≤ m → (Na.dig (x ^ j)).length ≤ 401) := fun j _ => by rw [hx0]; exact Na.pow_400_zero j
    clear hx0
    go_wp2_with fail
    have HBl := Lib.hid (blen_any m (m : Int) rfl w1 (by omega))
    go_wp2_with fail
    refine (blen_any m (m : Int) rfl _ (by omega)).mono ?_
    rintro e w1' ⟨rfl, rfl⟩
    go_wp2_with fail
    go_loopw [9, 8] (fun i o wr => NPw w1 x m i o wr) (fun i _ _ => (intOf i + 1).toNat)
    case atStart => exact ⟨_, Nbl m, _, 1, 1, rfl, by omega, rfl, hbm, by omega, HL0.out, HO0.out, HBL0.out, HSZ0.out⟩
    case round =>
      clear HO0 HL0 HBL0 HSZ0 HBl
      obtain ⟨v, j, A1, n1, c1, rfl, hvj, rfl, hj13, hn1, HLn, ho, hb, hbs⟩ := hrel
      have HO := Lib.hid ho
      have HB := Lib.hid hb
      have HBS := Lib.hid hbs
      clear ho hb hbs
      rcases Nat.eq_zero_or_pos j with hj0 | hj0
      · have hv : v = -1 := by omega
        subst hv
        have HEq : Hid (Na.dig (x ^ (m / 2 ^ j)) = Na.dig (x ^ m)) := by unfold Hid; rw [hj0, Nat.pow_zero, Nat.div_one]
        clear hvj hj0
        rw [HEq.out] at HO HLn
        have HR := Lib.hid (nresult_any A1 n1 c1 w1.heap.size (Na.dig (x ^ m)) wr HLn.out HO.out (Na.dig_lim _) (by omega))
        rw [Na.val_dig] at HR
        go_wp2_with fail
        refine HR.out.mono ?_
        rintro e w9 ⟨A9, n9, c9, rfl, hn9, ho9, hb9⟩
        have HN9 := Lib.hid hn9
        have HO9 := Lib.hid ho9
        have HB9 := Lib.hid (HB.out.trans (hb9.mono HBS.out))
        have hk9 : w9.cell? ⟨w.heap.size + 1, 0, none⟩ = some (.slice none 0 0) := (HB9.out.cell (p := ⟨w.heap.size + 1, 0, none⟩) (by simp; omega)).trans hd2
        have hk9f : w9.frozen? ⟨w.heap.size + 1, 0, none⟩ = false := (HB9.out.frozen (p := ⟨w.heap.size + 1, 0, none⟩) (by simp; omega)).trans hg2
        clear hn9 ho9 hb9 hd0 hd2 hg2
        go_wp2_with fail
        refine bodyPost_ret (v := .tuple #[.agg #[.slice A9 n9 c9], .int .i64 (resE (x ^ m))]) (by simp [results, Tryd.results105, go_sem, hk9]) rfl ?_
        exact resN_cell HO9.out HN9.out (by omega) (by omega) (HB1.out.trans (HB9.out.mono HB1.out.size)) (by omega) _ _
      · obtain ⟨q, hq⟩ : ∃ q, j = q + 1 := ⟨j - 1, by omega⟩
        have hv : v = (q : Int) := by omega
        subst hv
        have hq13 : q ≤ 12 := by omega
        obtain ⟨s, hs1⟩ : ∃ s, m / 2 ^ q = s := ⟨_, rfl⟩
        have hsh : (m : Int) / 2 ^ q = (s : Int) := by rw [← hs1]; norm_cast
        have HSQ : Hid (s % 2 = 0 → x ^ (m / 2 ^ j) * x ^ (m / 2 ^ j) = x ^ s) := fun h => by rw [hq, ← hs1]; exact Na.pow_sq x m q (by rw [hs1]; exact h)
        have HSX : Hid (s % 2 = 1 → x ^ (m / 2 ^ j) * x ^ (m / 2 ^ j) * x = x ^ s) := fun h => by rw [hq, ← hs1]; exact Na.pow_sqx x m q (by rw [hs1]; exact h)
        have HSM : Hid (m / 2 ^ j + m / 2 ^ j ≤ m) := by
          unfold Hid
          have h1 := Na.pow_half m q
          have h2 : m / 2 ^ q ≤ m := Nat.div_le_self _ _
          rw [hq]; omega
        have HSS : Hid (m / 2 ^ q = s) := hs1
        have HSLE : Hid (s ≤ m) := by unfold Hid; rw [← hs1]; exact Nat.div_le_self _ _
        have HPr := Lib.hid (nproduct_any A1 A1 n1 c1 n1 c1 _ _ wr HLn.out HLn.out (Sl.of_own HO.out) (Sl.of_own HO.out) (Na.dig_lim _) (Na.dig_lim _) (by omega) (by omega))
        rw [Na.val_dig, ← Nat.pow_add] at HPr
        rw [← Nat.pow_add] at HSQ HSX
        have HC1 : Hid (n1 ≤ c1) := (own_cap HO.out).1
        clear hvj hj0 hs1
        go_wp2_with fail
        refine HPr.out.mono ?_
        rintro e w2 ⟨A2, n2, c2, rfl, hn2, ho2, hb2⟩
        have HN2 := Lib.hid hn2
        have HO2 := Lib.hid ho2
        have HB2 := Lib.hid (HB.out.trans (hb2.mono HBS.out))
        have HS2 := Lib.hid (Nat.le_trans HBS.out hb2.size)
        have hn2l : n2 ≤ 401 := by rw [← hn2]; exact HLB.out _ HSM.out
        clear hn2 ho2 hb2 HPr
        rcases Nat.mod_two_eq_zero_or_one s with hbit | hbit
        · have hand : bits .and .i64 (s : Int) 1 = 0 := by rw [and1]; omega
          have HE := Lib.hid (HSQ.out hbit)
          clear HSQ HSX hbit
          go_wp2_with fail
          go_roundw
          case rel =>
            refine ⟨_, q, A2, n2, c2, rfl, by omega, rfl, by omega, hn2l, ?_, ?_, HB2.out, HS2.out⟩
            · rw [HSS.out, ← HE.out]; exact HN2.out
            · rw [HSS.out, ← HE.out]; exact own_more HO2.out HBS.out
          case measure => (simp [intOf]) <;> omega
        · have hand : bits .and .i64 (s : Int) 1 = 1 := by rw [and1]; omega
          have HE := Lib.hid (HSX.out hbit)
          clear HSQ HSX hbit
          have hm0 : w2.cell? ⟨w.heap.size, 0, none⟩ = some (.slice A 0 c) := (HB2.out.cell (p := ⟨w.heap.size, 0, none⟩) (by simp; omega)).trans hd0
          have HPx := Lib.hid (nproduct_any A2 A n2 c2 0 c _ (Na.dig x) w2 HN2.out HN.out (Sl.of_own HO2.out) ((HS.out.below ((HB1.out.trans (HB2.out.mono HB1.out.size)))).more (Nat.le_trans HB1.out.size HS2.out)) (Na.dig_lim _) (Na.dig_lim _) (by omega) (by omega))
          rw [Na.val_dig, Na.val_dig, HE.out] at HPx
          go_wp2_with fail
          refine HPx.out.mono ?_
          rintro e w3 ⟨A3, n3, c3, rfl, hn3, ho3, hb3⟩
          have HN3 := Lib.hid hn3
          have HO3 := Lib.hid ho3
          have HB3 := Lib.hid (HB2.out.trans (hb3.mono HS2.out))
          have HS3 := Lib.hid (Nat.le_trans HS2.out hb3.size)
          have hn3l : n3 ≤ 401 := by rw [← hn3]; exact HLB.out _ HSLE.out
          clear hn3 ho3 hb3 HPx hm0
          go_wp2_with fail
          go_roundw
          case rel =>
            refine ⟨_, q, A3, n3, c3, rfl, by omega, rfl, by omega, hn3l, ?_, ?_, HB3.out, HS3.out⟩
            · rw [HSS.out]; exact HN3.out
            · rw [HSS.out]; exact own_more HO3.out HS2.out
          case measure => (simp [intOf]) <;> omega
  · have hn1 : 0 < n := by
      rcases Nat.eq_zero_or_pos n with h0 | h0
      · rw [← HN.out, Na.dig_len0] at h0
        omega
      · exact h0
    obtain ⟨k, hk⟩ : ∃ k, n = k + 1 := ⟨n - 1, by omega⟩
    obtain ⟨a, ha⟩ := nat_at (Na.dig x) k (by rw [HN.out]; omega)
    obtain ⟨ha0, hb1, hb2, hb3⟩ := Na.bitlen x k a (by rw [HN.out]; exact hk) ha
    have ha24 := (Na.dig_lim x).at ha
    have hbl24 : Nbl a ≤ 24 := nbl_le (k := 24) (by omega) (by omega)
    obtain ⟨ad, rfl, hbk, hca⟩ := (HS.out.below HB1.out).nat ha
    obtain ⟨L, hL⟩ : ∃ L, k * 24 + Nbl a = L + 1 := ⟨k * 24 + Nbl a - 1, by omega⟩
    obtain ⟨p, hp⟩ : ∃ p, L * m = p := ⟨_, rfl⟩
    have hpb : p ≤ 23040000 := by
      rw [← hp]
      exact Nat.mul_le_mul (show L ≤ 4800 by omega) hm
    rw [hL, Nat.add_sub_cancel] at hb2
    rw [hL] at hb3
    have HX1 := Lib.hid hb2
    have HX2 := Lib.hid hb3
    have HP := Lib.hid hp
    have e1 : (n : Int) - 1 = (k : Int) := by omega
    have e2 : (k : Int) * 24 + (Nbl a : Int) = (L : Int) + 1 := by omega
    have e3 : (L : Int) + 1 - 1 = (L : Int) := by omega
    have e4 : (L : Int) * (m : Int) = (p : Int) := by rw [← hp]; norm_cast
    have hLb : L ≤ 4800 := by omega
    have hk0 : 0 < n := by omega
    have hk9 : k < n := by omega
    have hk1 : (k : Int) < (n : Int) := by omega
    clear hb2 hb3 hp hL hk ha
    rcases Nat.lt_or_ge p 4800 with hp1 | hp1
    · have HLB : Hid (∀ j, j ≤ m → (Na.dig (x ^ j)).length ≤ 401) := fun j hj => Na.pow_400 (L := L + 1) (by omega) HX2.out (by rw [Nat.add_sub_cancel, HP.out]; exact hp1) hx0 hj
      have t1 : decide (4800 ≤ (p : Int)) = false := decide_eq_false (by omega)
      clear HX1 HX2 HP
      go_wp2_with fail
      refine (blen_any a _ rfl _ (by omega)).mono ?_
      rintro e w1' ⟨rfl, rfl⟩
      have HBl := Lib.hid (blen_any m (m : Int) rfl w1 (by omega))
      go_wp2_with fail
      refine (blen_any m (m : Int) rfl _ (by omega)).mono ?_
      rintro e w1' ⟨rfl, rfl⟩
      go_wp2_with fail
      go_loopw [9, 8] (fun i o wr => NPw w1 x m i o wr) (fun i _ _ => (intOf i + 1).toNat)
      case atStart => exact ⟨_, Nbl m, _, 1, 1, rfl, by omega, rfl, hbm, by omega, HL0.out, HO0.out, HBL0.out, HSZ0.out⟩
      case round =>
        clear HO0 HL0 HBL0 HSZ0 HBl
        obtain ⟨v, j, A1, n1, c1, rfl, hvj, rfl, hj13, hn1, HLn, ho, hb, hbs⟩ := hrel
        have HO := Lib.hid ho
        have HB := Lib.hid hb
        have HBS := Lib.hid hbs
        clear ho hb hbs
        rcases Nat.eq_zero_or_pos j with hj0 | hj0
        · have hv : v = -1 := by omega
          subst hv
          have HEq : Hid (Na.dig (x ^ (m / 2 ^ j)) = Na.dig (x ^ m)) := by unfold Hid; rw [hj0, Nat.pow_zero, Nat.div_one]
          clear hvj hj0
          rw [HEq.out] at HO HLn
          have HR := Lib.hid (nresult_any A1 n1 c1 w1.heap.size (Na.dig (x ^ m)) wr HLn.out HO.out (Na.dig_lim _) (by omega))
          rw [Na.val_dig] at HR
          go_wp2_with fail
          refine HR.out.mono ?_
          rintro e w9 ⟨A9, n9, c9, rfl, hn9, ho9, hb9⟩
          have HN9 := Lib.hid hn9
          have HO9 := Lib.hid ho9
          have HB9 := Lib.hid (HB.out.trans (hb9.mono HBS.out))
          have hk9 : w9.cell? ⟨w.heap.size + 1, 0, none⟩ = some (.slice none 0 0) := (HB9.out.cell (p := ⟨w.heap.size + 1, 0, none⟩) (by simp; omega)).trans hd2
          have hk9f : w9.frozen? ⟨w.heap.size + 1, 0, none⟩ = false := (HB9.out.frozen (p := ⟨w.heap.size + 1, 0, none⟩) (by simp; omega)).trans hg2
          clear hn9 ho9 hb9 hd0 hd2 hg2
          go_wp2_with fail
          refine bodyPost_ret (v := .tuple #[.agg #[.slice A9 n9 c9], .int .i64 (resE (x ^ m))]) (by simp [results, Tryd.results105, go_sem, hk9]) rfl ?_
          exact resN_cell HO9.out HN9.out (by omega) (by omega) (HB1.out.trans (HB9.out.mono HB1.out.size)) (by omega) _ _
        · obtain ⟨q, hq⟩ : ∃ q, j = q + 1 := ⟨j - 1, by omega⟩
          have hv : v = (q : Int) := by omega
          subst hv
          have hq13 : q ≤ 12 := by omega
          obtain ⟨s, hs1⟩ : ∃ s, m / 2 ^ q = s := ⟨_, rfl⟩
          have hsh : (m : Int) / 2 ^ q = (s : Int) := by rw [← hs1]; norm_cast
          have HSQ : Hid (s % 2 = 0 → x ^ (m / 2 ^ j) * x ^ (m / 2 ^ j) = x ^ s) := fun h => by rw [hq, ← hs1]; exact Na.pow_sq x m q (by rw [hs1]; exact h)
          have HSX : Hid (s % 2 = 1 → x ^ (m / 2 ^ j) * x ^ (m / 2 ^ j) * x = x ^ s) := fun h => by rw [hq, ← hs1]; exact Na.pow_sqx x m q (by rw [hs1]; exact h)
          have HSM : Hid (m / 2 ^ j + m / 2 ^ j ≤ m) := by
            unfold Hid
            have h1 := Na.pow_half m q
            have h2 : m / 2 ^ q ≤ m := Nat.div_le_self _ _
            rw [hq]; omega
          have HSS : Hid (m / 2 ^ q = s) := hs1
          have HSLE : Hid (s ≤ m) := by unfold Hid; rw [← hs1]; exact Nat.div_le_self _ _
          have HPr := Lib.hid (nproduct_any A1 A1 n1 c1 n1 c1 _ _ wr HLn.out HLn.out (Sl.of_own HO.out) (Sl.of_own HO.out) (Na.dig_lim _) (Na.dig_lim _) (by omega) (by omega))
          rw [Na.val_dig, ← Nat.pow_add] at HPr
          rw [← Nat.pow_add] at HSQ HSX
          have HC1 : Hid (n1 ≤ c1) := (own_cap HO.out).1
          clear hvj hj0 hs1
          go_wp2_with fail
          refine HPr.out.mono ?_
          rintro e w2 ⟨A2, n2, c2, rfl, hn2, ho2, hb2⟩
          have HN2 := Lib.hid hn2
          have HO2 := Lib.hid ho2
          have HB2 := Lib.hid (HB.out.trans (hb2.mono HBS.out))
          have HS2 := Lib.hid (Nat.le_trans HBS.out hb2.size)
          have hn2l : n2 ≤ 401 := by rw [← hn2]; exact HLB.out _ HSM.out
          clear hn2 ho2 hb2 HPr
          rcases Nat.mod_two_eq_zero_or_one s with hbit | hbit
          · have hand : bits .and .i64 (s : Int) 1 = 0 := by rw [and1]; omega
            have HE := Lib.hid (HSQ.out hbit)
            clear HSQ HSX hbit
            go_wp2_with fail
            go_roundw
            case rel =>
              refine ⟨_, q, A2, n2, c2, rfl, by omega, rfl, by omega, hn2l, ?_, ?_, HB2.out, HS2.out⟩
              · rw [HSS.out, ← HE.out]; exact HN2.out
              · rw [HSS.out, ← HE.out]; exact own_more HO2.out HBS.out
            case measure => (simp [intOf]) <;> omega
          · have hand : bits .and .i64 (s : Int) 1 = 1 := by rw [and1]; omega
            have HE := Lib.hid (HSX.out hbit)
            clear HSQ HSX hbit
            have hm0 : w2.cell? ⟨w.heap.size, 0, none⟩ = some (.slice (some ad) n c) := (HB2.out.cell (p := ⟨w.heap.size, 0, none⟩) (by simp; omega)).trans hd0
            have HPx := Lib.hid (nproduct_any A2 (some ad) n2 c2 n c _ (Na.dig x) w2 HN2.out HN.out (Sl.of_own HO2.out) ((HS.out.below ((HB1.out.trans (HB2.out.mono HB1.out.size)))).more (Nat.le_trans HB1.out.size HS2.out)) (Na.dig_lim _) (Na.dig_lim _) (by omega) (by omega))
            rw [Na.val_dig, Na.val_dig, HE.out] at HPx
            go_wp2_with fail
            refine HPx.out.mono ?_
            rintro e w3 ⟨A3, n3, c3, rfl, hn3, ho3, hb3⟩
            have HN3 := Lib.hid hn3
            have HO3 := Lib.hid ho3
            have HB3 := Lib.hid (HB2.out.trans (hb3.mono HS2.out))
            have HS3 := Lib.hid (Nat.le_trans HS2.out hb3.size)
            have hn3l : n3 ≤ 401 := by rw [← hn3]; exact HLB.out _ HSLE.out
            clear hn3 ho3 hb3 HPx hm0
            go_wp2_with fail
            go_roundw
            case rel =>
              refine ⟨_, q, A3, n3, c3, rfl, by omega, rfl, by omega, hn3l, ?_, ?_, HB3.out, HS3.out⟩
              · rw [HSS.out]; exact HN3.out
              · rw [HSS.out]; exact own_more HO3.out HS2.out
            case measure => (simp [intOf]) <;> omega
    · have HR : Hid (resL (x ^ m) = []) := resL_no (Na.pow_big HX1.out (by rw [HP.out]; exact hp1))
      have HE : Hid (resE (x ^ m) = 3) := resE_no (Na.pow_big HX1.out (by rw [HP.out]; exact hp1))
      have t1 : decide (4800 ≤ (p : Int)) = true := decide_eq_true (by omega)
      clear HX1 HX2 HP HO0 HL0 HBL0 HSZ0
      go_wp2_with fail
      refine (blen_any a _ rfl _ (by omega)).mono ?_
      rintro e w1' ⟨rfl, rfl⟩
      go_wp2_with fail
      rw [HR.out, HE.out]
      refine bodyPost_ret (v := .tuple #[.agg #[.slice none 0 0], .int .i64 3]) (by simp [results, Tryd.results105, go_sem, hd2]) rfl ?_
      exact resN_nil _ _ _ (bset HB1.out _ (by show w.heap.size ≤ w.heap.size + 1; omega) _)
end Go.Proofs.YtnfjnlnphdmdmaaDoor

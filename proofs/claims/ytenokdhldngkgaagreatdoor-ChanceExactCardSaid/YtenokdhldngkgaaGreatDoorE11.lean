/- NPow Num Qma Qmc Qmd RegB -/
import Derived.Test.YtenokdhldngkgaaGreatDoorE03
import Derived.Test.YtenokdhldngkgaaGreatDoorE04
import Derived.Test.YtenokdhldngkgaaGreatDoorE05
import Derived.Test.YtenokdhldngkgaaGreatDoorE06
import Derived.Test.YtenokdhldngkgaaGreatDoorE07
import Derived.Test.YtenokdhldngkgaaGreatDoorE08
import Derived.Test.YtenokdhldngkgaaGreatDoorE10
namespace Go.Proofs.YtenokdhldngkgaaGreatDoor
open Go.RowKit
set_option linter.unusedVariables false
set_option maxRecDepth 100000
def NPw (w1 : World) (x m : Nat) (i o : Value) (wr : World) : Prop :=
 ∃ (v : Int) (j : Nat) (A : Option Addr) (n c : Nat), i = .int .i64 v ∧ v = (j : Int) - 1 ∧ o = .slice A n c ∧ j ≤ 13 ∧ n ≤ 401 ∧ Hid ((Na.dig (x ^ (m / 2 ^ j))).length = n) ∧ wr.ownsRow w1.heap.size 3 1 (.slice A n c) n (nats (Na.dig (x ^ (m / 2 ^ j)))) ∧ Below w1.heap.size w1 wr ∧ w1.heap.size ≤ wr.heap.size
set_option maxHeartbeats 4000000 in
theorem npower_ok (A : Option Addr) (n c x m : Nat) (w : World) (hn : (Na.dig x).length = n) (hs : Sl w w.heap.size A (nats (Na.dig x))) (hx : x < Na.top) (hm : m ≤ 4800) :
  Calls Tryz.prog 182 #[.agg #[.slice A n c], .int .i64 (m : Int)] w (ResN w (resL (x ^ m)) (resE (x ^ m))) := by
 have hn200 : n ≤ 200 := by rw [← hn]; exact (Na.dig_200 x).2 hx
 obtain ⟨w0, hw0⟩ : ∃ w0, (w.alloc (.cells #[.slice A n c] 25)).alloc (.cells #[.slice none 0 0] 25) = w0 := ⟨_, rfl⟩
 have HW : Hid ((w.alloc (.cells #[.slice A n c] 25)).alloc (.cells #[.slice none 0 0] 25) = w0) := hw0
 have hb0 : Below w.heap.size w w0 := by rw [← hw0]; exact bal (bal (Below.refl _ _) _) _
 have HB0 := Lib.hid hb0
 have hzw : w0.heap.size = w.heap.size + 2 := by rw [← hw0]; simp
 have hc0 : w0.cell? ⟨w.heap.size, 0, none⟩ = some (.slice A n c) := by rw [← hw0]; simp [go_sem]
 have hc2 : w0.cell? ⟨w.heap.size + 1, 0, none⟩ = some (.slice none 0 0) := by rw [← hw0]; simp [go_sem]
 have hf2 : w0.frozen? ⟨w.heap.size + 1, 0, none⟩ = false := by rw [← hw0]; simp [go_sem]
 have HV := Lib.hid (nvalid_any A n c w0.heap.size (Na.up (Na.dig x)) w0 (by rw [Na.up_length]; exact hn) (by rw [nats_up]; exact (hs.below hb0).more hb0.size) (Nat.le_refl _) (by omega))
 rw [Na.vld_dig hx] at HV
 have HN := Lib.hid hn
 have HS := Lib.hid hs
 clear hs hn hb0 hw0 hx
 have hbm : Nbl m ≤ 13 := nbl_le (k := 13) (by omega) (by omega)
 have h1 : decide ((m : Int) < 0) = false := decide_eq_false (by omega)
 have h2 : decide (4800 < (m : Int)) = false := decide_eq_false (by omega)
 go_enter Tryz.func182, Tryz.ntmps182
 go_wp2_with fail
 rw [HW.out]
 refine HV.out.mono ?_
 rintro e w1 ⟨rfl, hb⟩
 have HB1 := Lib.hid (btr HB0.out hb)
 have hd0 : w1.cell? ⟨w.heap.size, 0, none⟩ = some (.slice A n c) := (hb.cell (p := ⟨w.heap.size, 0, none⟩) (by simp [hzw])).trans hc0
 have hd2 : w1.cell? ⟨w.heap.size + 1, 0, none⟩ = some (.slice none 0 0) := (hb.cell (p := ⟨w.heap.size + 1, 0, none⟩) (by simp [hzw])).trans hc2
 have hg2 : w1.frozen? ⟨w.heap.size + 1, 0, none⟩ = false := (hb.frozen (p := ⟨w.heap.size + 1, 0, none⟩) (by simp [hzw])).trans hf2
 have hsz1 : w.heap.size + 2 ≤ w1.heap.size := by rw [← hzw]; exact hb.size
 clear hb hc0 hc2 hf2 HV HW hzw HB0
 have HO0 : Hid ((w1.alloc (.cells #[.int .i64 1] 3)).ownsRow w1.heap.size 3 1 (.slice (some ⟨w1.heap.size, 0, none⟩) 1 1) 1 (nats (Na.dig (x ^ (m / 2 ^ Nbl m))))) := by
  unfold Hid
  rw [Na.pow_start m hm, Nat.pow_zero, Na.dig_small 1 (by omega) (by omega)]
  exact World.ownsRow_lit (base := w1.heap.size) (e := 3) (size := 1) w1 #[.int .i64 1] 1 (Nat.le_refl _) (by unfold maxLen; omega) rfl
 have HL0 : Hid ((Na.dig (x ^ (m / 2 ^ Nbl m))).length = 1) := by unfold Hid; rw [Na.pow_start m hm, Nat.pow_zero, Na.dig_small 1 (by omega) (by omega)]; rfl
 have HBL0 : Hid (Below w1.heap.size w1 (w1.alloc (.cells #[.int .i64 1] 3))) := bal (Below.refl _ _) _
 have HSZ0 : Hid (w1.heap.size ≤ (w1.alloc (.cells #[.int .i64 1] 3)).heap.size) := by unfold Hid; simp
 rcases Nat.eq_zero_or_pos x with hx0 | hx0
 ·have hn0 : n = 0 := by rw [← HN.out]; exact Na.dig_len0.2 hx0
  subst hn0
  have HLB : Hid (∀ j, j ≤ m → (Na.dig (x ^ j)).length ≤ 401) := fun j _ => by rw [hx0]; exact Na.pow_400_zero j
  clear hx0
  go_wp2_with fail
  have HBl := Lib.hid (blen_any m (m : Int) rfl w1 (by omega))
  go_wp2_with fail
  refine (blen_any m (m : Int) rfl _ (by omega)).mono ?_
  rintro e w1' ⟨rfl, rfl⟩
  go_wp2_with fail
  go_loopw [9, 8] (fun i o wr => NPw w1 x m i o wr) (fun i _ _ => (intOf i + 1).toNat)
  case atStart => exact ⟨_, Nbl m, _, 1, 1, rfl, by omega, rfl, hbm, by omega, HL0.out, HO0.out, HBL0.out, HSZ0.out⟩
  case round =>
   clear HO0 HL0 HBL0 HSZ0 HBl
   obtain ⟨v, j, A1, n1, c1, rfl, hvj, rfl, hj13, hn1, HLn, ho, hb, hbs⟩ := hrel
   have HO := Lib.hid ho
   have HB := Lib.hid hb
   have HBS := Lib.hid hbs
   clear ho hb hbs
   rcases Nat.eq_zero_or_pos j with hj0 | hj0
   ·have hv : v = -1 := by omega
    subst hv
    have HEq : Hid (Na.dig (x ^ (m / 2 ^ j)) = Na.dig (x ^ m)) := by unfold Hid; rw [hj0, Nat.pow_zero, Nat.div_one]
    clear hvj hj0
    rw [HEq.out] at HO HLn
    have HR := Lib.hid (nresult_any A1 n1 c1 w1.heap.size (Na.dig (x ^ m)) wr HLn.out HO.out (Na.dig_lim _) (by omega))
    rw [Na.val_dig] at HR
    go_wp2_with fail
    refine HR.out.mono ?_
    rintro e w9 ⟨A9, n9, c9, rfl, hn9, ho9, hb9⟩
    have HN9 := Lib.hid hn9
    have HO9 := Lib.hid ho9
    have HB9 := Lib.hid (HB.out.trans (hb9.mono HBS.out))
    have hk9 : w9.cell? ⟨w.heap.size + 1, 0, none⟩ = some (.slice none 0 0) := (HB9.out.cell (p := ⟨w.heap.size + 1, 0, none⟩) (by simp; omega)).trans hd2
    have hk9f : w9.frozen? ⟨w.heap.size + 1, 0, none⟩ = false := (HB9.out.frozen (p := ⟨w.heap.size + 1, 0, none⟩) (by simp; omega)).trans hg2
    clear hn9 ho9 hb9 hd0 hd2 hg2
    go_wp2_with fail
    refine bodyPost_ret (v := .tuple #[.agg #[.slice A9 n9 c9], .int .i64 (resE (x ^ m))]) (by simp [results, Tryz.results182, go_sem, hk9]) rfl ?_
    exact resN_cell HO9.out HN9.out (by omega) (by omega) (HB1.out.trans (HB9.out.mono HB1.out.size)) (by omega) _ _
   ·obtain ⟨q, hq⟩ : ∃ q, j = q + 1 := ⟨j - 1, by omega⟩
    have hv : v = (q : Int) := by omega
    subst hv
    have hq13 : q ≤ 12 := by omega
    obtain ⟨s, hs1⟩ : ∃ s, m / 2 ^ q = s := ⟨_, rfl⟩
    have hsh : (m : Int) / 2 ^ q = (s : Int) := by rw [← hs1]; norm_cast
    have HSQ : Hid (s % 2 = 0 → x ^ (m / 2 ^ j) * x ^ (m / 2 ^ j) = x ^ s) := fun h => by rw [hq, ← hs1]; exact Na.pow_sq x m q (by rw [hs1]; exact h)
    have HSX : Hid (s % 2 = 1 → x ^ (m / 2 ^ j) * x ^ (m / 2 ^ j) * x = x ^ s) := fun h => by rw [hq, ← hs1]; exact Na.pow_sqx x m q (by rw [hs1]; exact h)
    have HSM : Hid (m / 2 ^ j + m / 2 ^ j ≤ m) := by
     unfold Hid
     have h1 := Na.pow_half m q
     have h2 : m / 2 ^ q ≤ m := Nat.div_le_self _ _
     rw [hq]; omega
    have HSS : Hid (m / 2 ^ q = s) := hs1
    have HSLE : Hid (s ≤ m) := by unfold Hid; rw [← hs1]; exact Nat.div_le_self _ _
    have HPr := Lib.hid (nproduct_any A1 A1 n1 c1 n1 c1 _ _ wr HLn.out HLn.out (Sl.of_own HO.out) (Sl.of_own HO.out) (Na.dig_lim _) (Na.dig_lim _) (by omega) (by omega))
    rw [Na.val_dig, ← Nat.pow_add] at HPr
    rw [← Nat.pow_add] at HSQ HSX
    have HC1 : Hid (n1 ≤ c1) := (own_cap HO.out).1
    clear hvj hj0 hs1
    go_wp2_with fail
    refine HPr.out.mono ?_
    rintro e w2 ⟨A2, n2, c2, rfl, hn2, ho2, hb2⟩
    have HN2 := Lib.hid hn2
    have HO2 := Lib.hid ho2
    have HB2 := Lib.hid (HB.out.trans (hb2.mono HBS.out))
    have HS2 := Lib.hid (Nat.le_trans HBS.out hb2.size)
    have hn2l : n2 ≤ 401 := by rw [← hn2]; exact HLB.out _ HSM.out
    clear hn2 ho2 hb2 HPr
    rcases Nat.mod_two_eq_zero_or_one s with hbit | hbit
    ·have hand : bits .and .i64 (s : Int) 1 = 0 := by rw [and1]; omega
     have HE := Lib.hid (HSQ.out hbit)
     clear HSQ HSX hbit
     go_wp2_with fail
     go_roundw
     case rel =>
      refine ⟨_, q, A2, n2, c2, rfl, by omega, rfl, by omega, hn2l, ?_, ?_, HB2.out, HS2.out⟩
      ·rw [HSS.out, ← HE.out]; exact HN2.out
      ·rw [HSS.out, ← HE.out]; exact own_more HO2.out HBS.out
     case measure => (simp [intOf]) <;> omega
    ·have hand : bits .and .i64 (s : Int) 1 = 1 := by rw [and1]; omega
     have HE := Lib.hid (HSX.out hbit)
     clear HSQ HSX hbit
     have hm0 : w2.cell? ⟨w.heap.size, 0, none⟩ = some (.slice A 0 c) := (HB2.out.cell (p := ⟨w.heap.size, 0, none⟩) (by simp; omega)).trans hd0
     have HPx := Lib.hid (nproduct_any A2 A n2 c2 0 c _ (Na.dig x) w2 HN2.out HN.out (Sl.of_own HO2.out) ((HS.out.below ((HB1.out.trans (HB2.out.mono HB1.out.size)))).more (Nat.le_trans HB1.out.size HS2.out)) (Na.dig_lim _) (Na.dig_lim _) (by omega) (by omega))
     rw [Na.val_dig, Na.val_dig, HE.out] at HPx
     go_wp2_with fail
     refine HPx.out.mono ?_
     rintro e w3 ⟨A3, n3, c3, rfl, hn3, ho3, hb3⟩
     have HN3 := Lib.hid hn3
     have HO3 := Lib.hid ho3
     have HB3 := Lib.hid (HB2.out.trans (hb3.mono HS2.out))
     have HS3 := Lib.hid (Nat.le_trans HS2.out hb3.size)
     have hn3l : n3 ≤ 401 := by rw [← hn3]; exact HLB.out _ HSLE.out
     clear hn3 ho3 hb3 HPx hm0
     go_wp2_with fail
     go_roundw
     case rel =>
      refine ⟨_, q, A3, n3, c3, rfl, by omega, rfl, by omega, hn3l, ?_, ?_, HB3.out, HS3.out⟩
      ·rw [HSS.out]; exact HN3.out
      ·rw [HSS.out]; exact own_more HO3.out HS2.out
     case measure => (simp [intOf]) <;> omega
 ·have hn1 : 0 < n := by
   rcases Nat.eq_zero_or_pos n with h0 | h0
   ·rw [← HN.out, Na.dig_len0] at h0
    omega
   ·exact h0
  obtain ⟨k, hk⟩ : ∃ k, n = k + 1 := ⟨n - 1, by omega⟩
  obtain ⟨a, ha⟩ := nat_at (Na.dig x) k (by rw [HN.out]; omega)
  obtain ⟨ha0, hb1, hb2, hb3⟩ := Na.bitlen x k a (by rw [HN.out]; exact hk) ha
  have ha24 := (Na.dig_lim x).at ha
  have hbl24 : Nbl a ≤ 24 := nbl_le (k := 24) (by omega) (by omega)
  obtain ⟨ad, rfl, hbk, hca⟩ := (HS.out.below HB1.out).nat ha
  obtain ⟨L, hL⟩ : ∃ L, k * 24 + Nbl a = L + 1 := ⟨k * 24 + Nbl a - 1, by omega⟩
  obtain ⟨p, hp⟩ : ∃ p, L * m = p := ⟨_, rfl⟩
  have hpb : p ≤ 23040000 := by
   rw [← hp]
   exact Nat.mul_le_mul (show L ≤ 4800 by omega) hm
  rw [hL, Nat.add_sub_cancel] at hb2
  rw [hL] at hb3
  have HX1 := Lib.hid hb2
  have HX2 := Lib.hid hb3
  have HP := Lib.hid hp
  have e1 : (n : Int) - 1 = (k : Int) := by omega
  have e2 : (k : Int) * 24 + (Nbl a : Int) = (L : Int) + 1 := by omega
  have e3 : (L : Int) + 1 - 1 = (L : Int) := by omega
  have e4 : (L : Int) * (m : Int) = (p : Int) := by rw [← hp]; norm_cast
  have hLb : L ≤ 4800 := by omega
  have hk0 : 0 < n := by omega
  have hk9 : k < n := by omega
  have hk1 : (k : Int) < (n : Int) := by omega
  clear hb2 hb3 hp hL hk ha
  rcases Nat.lt_or_ge p 4800 with hp1 | hp1
  ·have HLB : Hid (∀ j, j ≤ m → (Na.dig (x ^ j)).length ≤ 401) := fun j hj => Na.pow_400 (L := L + 1) (by omega) HX2.out (by rw [Nat.add_sub_cancel, HP.out]; exact hp1) hx0 hj
   have t1 : decide (4800 ≤ (p : Int)) = false := decide_eq_false (by omega)
   clear HX1 HX2 HP
   go_wp2_with fail
   refine (blen_any a _ rfl _ (by omega)).mono ?_
   rintro e w1' ⟨rfl, rfl⟩
   have HBl := Lib.hid (blen_any m (m : Int) rfl w1 (by omega))
   go_wp2_with fail
   refine (blen_any m (m : Int) rfl _ (by omega)).mono ?_
   rintro e w1' ⟨rfl, rfl⟩
   go_wp2_with fail
   go_loopw [9, 8] (fun i o wr => NPw w1 x m i o wr) (fun i _ _ => (intOf i + 1).toNat)
   case atStart => exact ⟨_, Nbl m, _, 1, 1, rfl, by omega, rfl, hbm, by omega, HL0.out, HO0.out, HBL0.out, HSZ0.out⟩
   case round =>
    clear HO0 HL0 HBL0 HSZ0 HBl
    obtain ⟨v, j, A1, n1, c1, rfl, hvj, rfl, hj13, hn1, HLn, ho, hb, hbs⟩ := hrel
    have HO := Lib.hid ho
    have HB := Lib.hid hb
    have HBS := Lib.hid hbs
    clear ho hb hbs
    rcases Nat.eq_zero_or_pos j with hj0 | hj0
    ·have hv : v = -1 := by omega
     subst hv
     have HEq : Hid (Na.dig (x ^ (m / 2 ^ j)) = Na.dig (x ^ m)) := by unfold Hid; rw [hj0, Nat.pow_zero, Nat.div_one]
     clear hvj hj0
     rw [HEq.out] at HO HLn
     have HR := Lib.hid (nresult_any A1 n1 c1 w1.heap.size (Na.dig (x ^ m)) wr HLn.out HO.out (Na.dig_lim _) (by omega))
     rw [Na.val_dig] at HR
     go_wp2_with fail
     refine HR.out.mono ?_
     rintro e w9 ⟨A9, n9, c9, rfl, hn9, ho9, hb9⟩
     have HN9 := Lib.hid hn9
     have HO9 := Lib.hid ho9
     have HB9 := Lib.hid (HB.out.trans (hb9.mono HBS.out))
     have hk9 : w9.cell? ⟨w.heap.size + 1, 0, none⟩ = some (.slice none 0 0) := (HB9.out.cell (p := ⟨w.heap.size + 1, 0, none⟩) (by simp; omega)).trans hd2
     have hk9f : w9.frozen? ⟨w.heap.size + 1, 0, none⟩ = false := (HB9.out.frozen (p := ⟨w.heap.size + 1, 0, none⟩) (by simp; omega)).trans hg2
     clear hn9 ho9 hb9 hd0 hd2 hg2
     go_wp2_with fail
     refine bodyPost_ret (v := .tuple #[.agg #[.slice A9 n9 c9], .int .i64 (resE (x ^ m))]) (by simp [results, Tryz.results182, go_sem, hk9]) rfl ?_
     exact resN_cell HO9.out HN9.out (by omega) (by omega) (HB1.out.trans (HB9.out.mono HB1.out.size)) (by omega) _ _
    ·obtain ⟨q, hq⟩ : ∃ q, j = q + 1 := ⟨j - 1, by omega⟩
     have hv : v = (q : Int) := by omega
     subst hv
     have hq13 : q ≤ 12 := by omega
     obtain ⟨s, hs1⟩ : ∃ s, m / 2 ^ q = s := ⟨_, rfl⟩
     have hsh : (m : Int) / 2 ^ q = (s : Int) := by rw [← hs1]; norm_cast
     have HSQ : Hid (s % 2 = 0 → x ^ (m / 2 ^ j) * x ^ (m / 2 ^ j) = x ^ s) := fun h => by rw [hq, ← hs1]; exact Na.pow_sq x m q (by rw [hs1]; exact h)
     have HSX : Hid (s % 2 = 1 → x ^ (m / 2 ^ j) * x ^ (m / 2 ^ j) * x = x ^ s) := fun h => by rw [hq, ← hs1]; exact Na.pow_sqx x m q (by rw [hs1]; exact h)
     have HSM : Hid (m / 2 ^ j + m / 2 ^ j ≤ m) := by
      unfold Hid
      have h1 := Na.pow_half m q
      have h2 : m / 2 ^ q ≤ m := Nat.div_le_self _ _
      rw [hq]; omega
     have HSS : Hid (m / 2 ^ q = s) := hs1
     have HSLE : Hid (s ≤ m) := by unfold Hid; rw [← hs1]; exact Nat.div_le_self _ _
     have HPr := Lib.hid (nproduct_any A1 A1 n1 c1 n1 c1 _ _ wr HLn.out HLn.out (Sl.of_own HO.out) (Sl.of_own HO.out) (Na.dig_lim _) (Na.dig_lim _) (by omega) (by omega))
     rw [Na.val_dig, ← Nat.pow_add] at HPr
     rw [← Nat.pow_add] at HSQ HSX
     have HC1 : Hid (n1 ≤ c1) := (own_cap HO.out).1
     clear hvj hj0 hs1
     go_wp2_with fail
     refine HPr.out.mono ?_
     rintro e w2 ⟨A2, n2, c2, rfl, hn2, ho2, hb2⟩
     have HN2 := Lib.hid hn2
     have HO2 := Lib.hid ho2
     have HB2 := Lib.hid (HB.out.trans (hb2.mono HBS.out))
     have HS2 := Lib.hid (Nat.le_trans HBS.out hb2.size)
     have hn2l : n2 ≤ 401 := by rw [← hn2]; exact HLB.out _ HSM.out
     clear hn2 ho2 hb2 HPr
     rcases Nat.mod_two_eq_zero_or_one s with hbit | hbit
     ·have hand : bits .and .i64 (s : Int) 1 = 0 := by rw [and1]; omega
      have HE := Lib.hid (HSQ.out hbit)
      clear HSQ HSX hbit
      go_wp2_with fail
      go_roundw
      case rel =>
       refine ⟨_, q, A2, n2, c2, rfl, by omega, rfl, by omega, hn2l, ?_, ?_, HB2.out, HS2.out⟩
       ·rw [HSS.out, ← HE.out]; exact HN2.out
       ·rw [HSS.out, ← HE.out]; exact own_more HO2.out HBS.out
      case measure => (simp [intOf]) <;> omega
     ·have hand : bits .and .i64 (s : Int) 1 = 1 := by rw [and1]; omega
      have HE := Lib.hid (HSX.out hbit)
      clear HSQ HSX hbit
      have hm0 : w2.cell? ⟨w.heap.size, 0, none⟩ = some (.slice (some ad) n c) := (HB2.out.cell (p := ⟨w.heap.size, 0, none⟩) (by simp; omega)).trans hd0
      have HPx := Lib.hid (nproduct_any A2 (some ad) n2 c2 n c _ (Na.dig x) w2 HN2.out HN.out (Sl.of_own HO2.out) ((HS.out.below ((HB1.out.trans (HB2.out.mono HB1.out.size)))).more (Nat.le_trans HB1.out.size HS2.out)) (Na.dig_lim _) (Na.dig_lim _) (by omega) (by omega))
      rw [Na.val_dig, Na.val_dig, HE.out] at HPx
      go_wp2_with fail
      refine HPx.out.mono ?_
      rintro e w3 ⟨A3, n3, c3, rfl, hn3, ho3, hb3⟩
      have HN3 := Lib.hid hn3
      have HO3 := Lib.hid ho3
      have HB3 := Lib.hid (HB2.out.trans (hb3.mono HS2.out))
      have HS3 := Lib.hid (Nat.le_trans HS2.out hb3.size)
      have hn3l : n3 ≤ 401 := by rw [← hn3]; exact HLB.out _ HSLE.out
      clear hn3 ho3 hb3 HPx hm0
      go_wp2_with fail
      go_roundw
      case rel =>
       refine ⟨_, q, A3, n3, c3, rfl, by omega, rfl, by omega, hn3l, ?_, ?_, HB3.out, HS3.out⟩
       ·rw [HSS.out]; exact HN3.out
       ·rw [HSS.out]; exact own_more HO3.out HS2.out
      case measure => (simp [intOf]) <;> omega
  ·have HR : Hid (resL (x ^ m) = []) := resL_no (Na.pow_big HX1.out (by rw [HP.out]; exact hp1))
   have HE : Hid (resE (x ^ m) = 3) := resE_no (Na.pow_big HX1.out (by rw [HP.out]; exact hp1))
   have t1 : decide (4800 ≤ (p : Int)) = true := decide_eq_true (by omega)
   clear HX1 HX2 HP HO0 HL0 HBL0 HSZ0
   go_wp2_with fail
   refine (blen_any a _ rfl _ (by omega)).mono ?_
   rintro e w1' ⟨rfl, rfl⟩
   go_wp2_with fail
   rw [HR.out, HE.out]
   refine bodyPost_ret (v := .tuple #[.agg #[.slice none 0 0], .int .i64 3]) (by simp [results, Tryz.results182, go_sem, hd2]) rfl ?_
   exact resN_nil _ _ _ (bset HB1.out _ (by show w.heap.size ≤ w.heap.size + 1; omega) _)
end Go.Proofs.YtenokdhldngkgaaGreatDoor
namespace Go.Proofs.YtenokdhldngkgaaGreatDoor
open Go.RowKit Go.Sort
set_option linter.unusedVariables false
set_option maxRecDepth 100000
section
variable {w0 w w' : World} {g : Option Nat} {M : List (Nat × Value)} {L : List Ob} {O : List Rw} {A A2 : Option Addr} {n c m c2 x y : Nat}
theorem valid_ok (h : Ow w0 w g M L O) (i : Nat) (hi : L[i]? = some ⟨A, n, c, nats (Na.dig x)⟩) (hx : x < Na.top) :
  Calls Tryz.prog 107 #[.agg #[.slice A n c]] w fun e w' => e = .returned (.bool true) ∧ Ow w0 w' g M L O := by
 rw [← nats_up] at hi
 have := ag_vld h i hi
 rwa [Na.vld_dig hx] at this
end
theorem npower_range (A : Option Addr) (n c x : Nat) (v : Int) (w : World) (hn : (Na.dig x).length = n) (hnc : n ≤ c) (hs : Sl w w.heap.size A (nats (Na.dig x))) (hx : x < Na.top) (hv : v < 0 ∨ 4800 < v) :
  Calls Tryz.prog 182 #[.agg #[.slice A n c], .int .i64 v] w (ResN w [] 2) := by
 have hn2 : n ≤ 200 := by rw [← hn]; exact (Na.dig_200 x).2 hx
 have H0 := (((Ow.of (St.refl w)).old hs (by rw [nats_length]; exact hn) hnc (by omega)).boxed (.slice A n c) 25).boxed (.slice none 0 0) 25
 simp only [World.size_alloc, List.nil_append, List.cons_append] at H0
 have hc0 := H0.cell 0 rfl
 have HH := Lib.hid (valid_ok H0 0 rfl hx)
 clear hn hs H0 hx
 rcases hv with hv | hv
 ·have hd : decide (v < 0) = true := decide_eq_true hv
  go_enter Tryz.func182, Tryz.ntmps182
  go_wp2_with fail
  refine HH.out.mono ?_
  rintro e w1 ⟨rfl, H1⟩
  have hs1 := H1.cell 1 rfl
  have hf1 := H1.free 1 rfl
  clear hc0 HH
  go_wp2_with fail
  have G := H1.setv 1 rfl (.slice none 0 0)
  have hz := G.cell 1 rfl
  refine bodyPost_ret (v := .tuple #[.agg #[.slice none 0 0], .int .i64 2]) (by simp [results, Tryz.results182, go_sem, hz]) rfl ?_
  exact resN_nil _ _ _ G.below
 ·have hd : decide (v < 0) = false := decide_eq_false (by omega)
  have hd2 : decide (4800 < v) = true := decide_eq_true hv
  go_enter Tryz.func182, Tryz.ntmps182
  go_wp2_with fail
  refine HH.out.mono ?_
  rintro e w1 ⟨rfl, H1⟩
  have hs1 := H1.cell 1 rfl
  have hf1 := H1.free 1 rfl
  clear hc0 HH
  go_wp2_with fail
  have G := H1.setv 1 rfl (.slice none 0 0)
  have hz := G.cell 1 rfl
  refine bodyPost_ret (v := .tuple #[.agg #[.slice none 0 0], .int .i64 2]) (by simp [results, Tryz.results182, go_sem, hz]) rfl ?_
  exact resN_nil _ _ _ G.below
theorem nrpower_range (A : Option Addr) (n c x : Nat) (v : Int) (w : World) (hn : (Na.dig x).length = n) (hnc : n ≤ c) (hs : Sl w w.heap.size A (nats (Na.dig x))) (hx : x < Na.top) (hv : v < 0 ∨ 4800 < v) :
  Calls Tryz.prog 90 #[.agg #[.slice A n c], .int .i64 v] w (ResN w [] 2) := by
 have hn2 : n ≤ 200 := by rw [← hn]; exact (Na.dig_200 x).2 hx
 have H0 := (((Ow.of (St.refl w)).old hs (by rw [nats_length]; exact hn) hnc (by omega)).boxed (.slice A n c) 25).boxed (.slice none 0 0) 25
 simp only [World.size_alloc, List.nil_append, List.cons_append] at H0
 have hc0 := H0.cell 0 rfl
 have HH := Lib.hid (rvalid_ok H0 0 rfl hx)
 clear hn hs H0 hx
 rcases hv with hv | hv
 ·have hd : decide (v < 0) = true := decide_eq_true hv
  go_enter Tryz.func90, Tryz.ntmps90
  go_wp2_with fail
  refine HH.out.mono ?_
  rintro e w1 ⟨rfl, H1⟩
  have hs1 := H1.cell 1 rfl
  have hf1 := H1.free 1 rfl
  clear hc0 HH
  go_wp2_with fail
  have G := H1.setv 1 rfl (.slice none 0 0)
  have hz := G.cell 1 rfl
  refine bodyPost_ret (v := .tuple #[.agg #[.slice none 0 0], .int .i64 2]) (by simp [results, Tryz.results90, go_sem, hz]) rfl ?_
  exact resN_nil _ _ _ G.below
 ·have hd : decide (v < 0) = false := decide_eq_false (by omega)
  have hd2 : decide (4800 < v) = true := decide_eq_true hv
  go_enter Tryz.func90, Tryz.ntmps90
  go_wp2_with fail
  refine HH.out.mono ?_
  rintro e w1 ⟨rfl, H1⟩
  have hs1 := H1.cell 1 rfl
  have hf1 := H1.free 1 rfl
  clear hc0 HH
  go_wp2_with fail
  have G := H1.setv 1 rfl (.slice none 0 0)
  have hz := G.cell 1 rfl
  refine bodyPost_ret (v := .tuple #[.agg #[.slice none 0 0], .int .i64 2]) (by simp [results, Tryz.results90, go_sem, hz]) rfl ?_
  exact resN_nil _ _ _ G.below
def powL (x : Nat) (v : Int) : List Nat := if v < 0 ∨ 4800 < v then [] else resL (x ^ v.toNat)
def powE (x : Nat) (v : Int) : Int := if v < 0 ∨ 4800 < v then 2 else resE (x ^ v.toNat)
theorem powL_1000 (x : Nat) (v : Int) : (powL x v).length ≤ 1000 := by
 unfold powL
 split
 ·exact Nat.zero_le _
 ·exact resL_1000 _
theorem choL_1000 (n k : Int) : (choL n k).length ≤ 1000 := by
 unfold choL
 split
 ·exact Nat.zero_le _
 ·split
  ·exact Nat.zero_le _
  ·exact Nat.le_trans (Na.bin_top n.toNat k.toNat (by omega)).2 (by omega)
theorem ofL_1000 {v : Int} (h : v ≤ 9223372036854775807) : (ofL v).length ≤ 1000 := by
 unfold ofL
 split
 ·exact Nat.zero_le _
 ·exact Nat.le_trans (Na.dig_len_le (n := 3) (Nat.lt_of_le_of_lt (show v.toNat ≤ 9223372036854775807 by omega) (by decide))) (by omega)
section
variable {w0 w w' : World} {g : Option Nat} {M : List (Nat × Value)} {L : List Ob} {O : List Rw} {A A2 : Option Addr} {n c m c2 x y : Nat}
theorem ag_pow (h : Ow w0 w g M L O) (i : Nat) (hi : L[i]? = some ⟨A, n, c, nats (Na.dig x)⟩) (hx : x < Na.top) (v : Int) :
  Calls Tryz.prog 182 #[.agg #[.slice A n c], .int .i64 v] w (GotO w0 g M L O (powL x v) (powE x v)) := by
 obtain ⟨h1, h2, h3, h4⟩ := h.sl hi
 rw [nats_length] at h1
 have key : Calls Tryz.prog 182 #[.agg #[.slice A n c], .int .i64 v] w (ResN w (powL x v) (powE x v)) := by
  by_cases hv : v < 0 ∨ 4800 < v
  ·have e1 : powL x v = [] := if_pos hv
   have e2 : powE x v = 2 := if_pos hv
   rw [e1, e2]
   exact npower_range A n c x v w h1 h2 h4 hx hv
  ·have e1 : powL x v = resL (x ^ v.toNat) := if_neg hv
   have e2 : powE x v = resE (x ^ v.toNat) := if_neg hv
   rw [e1, e2]
   have h0 : 0 ≤ v := by omega
   obtain ⟨k, rfl⟩ := Int.eq_ofNat_of_zero_le h0
   exact npower_ok A n c x k w h1 h4 hx (by omega)
 exact key.mono fun en w' hr => got_o h (powL_1000 x v) hr
theorem ag_rpow (h : Ow w0 w g M L O) (i : Nat) (hi : L[i]? = some ⟨A, n, c, nats (Na.dig x)⟩) (hx : x < Na.top) (v : Int) :
  Calls Tryz.prog 90 #[.agg #[.slice A n c], .int .i64 v] w (GotO w0 g M L O (powL x v) (powE x v)) := by
 obtain ⟨h1, h2, h3, h4⟩ := h.sl hi
 rw [nats_length] at h1
 have key : Calls Tryz.prog 90 #[.agg #[.slice A n c], .int .i64 v] w (ResN w (powL x v) (powE x v)) := by
  by_cases hv : v < 0 ∨ 4800 < v
  ·have e1 : powL x v = [] := if_pos hv
   have e2 : powE x v = 2 := if_pos hv
   rw [e1, e2]
   exact nrpower_range A n c x v w h1 h2 h4 hx hv
  ·have e1 : powL x v = resL (x ^ v.toNat) := if_neg hv
   have e2 : powE x v = resE (x ^ v.toNat) := if_neg hv
   rw [e1, e2]
   have h0 : 0 ≤ v := by omega
   obtain ⟨k, rfl⟩ := Int.eq_ofNat_of_zero_le h0
   exact nrpower_ok A n c x k w h1 h2 h4 hx (by omega)
 exact key.mono fun en w' hr => got_o h (powL_1000 x v) hr
theorem ag_of (h : Ow w0 w g M L O) (v : Int) (hv : v ≤ 9223372036854775807) : Calls Tryz.prog 140 #[.int .i64 v] w (GotO w0 g M L O (ofL v) (ofE v)) :=
 (nof_any v w hv).mono fun en w' hr => got_o h (ofL_1000 hv) hr
theorem ag_rof (h : Ow w0 w g M L O) (v : Int) (hv : v ≤ 9223372036854775807) : Calls Tryz.prog 73 #[.int .i64 v] w (GotO w0 g M L O (ofL v) (ofE v)) :=
 (nrof_any v w hv).mono fun en w' hr => got_o h (ofL_1000 hv) hr
theorem ag_cho (h : Ow w0 w g M L O) (u v : Int) : Calls Tryz.prog 187 #[.int .i64 u, .int .i64 v] w (GotO w0 g M L O (choL u v) (choE u v)) :=
 (nchoose_any u v w).mono fun en w' hr => got_o h (choL_1000 u v) hr
theorem ag_rcho (h : Ow w0 w g M L O) (u v : Int) : Calls Tryz.prog 161 #[.int .i64 u, .int .i64 v] w (GotO w0 g M L O (choL u v) (choE u v)) :=
 (nrchoose_any u v w).mono fun en w' hr => got_o h (choL_1000 u v) hr
end
end Go.Proofs.YtenokdhldngkgaaGreatDoor
namespace Go.Proofs.YtenokdhldngkgaaGreatDoor
open Go.RowKit
set_option linter.unusedVariables false
abbrev Rw.pair (b : Nat) (T : TypeId) (x y : Value) : Rw := ⟨some ⟨b, 0, none⟩, 2, 2, T, [x, y]⟩
section
variable {w0 w w' : World} {g : Option Nat} {M : List (Nat × Value)} {L : List Ob} {O : List Rw}
theorem Ow.pair (h : Ow w0 w g M L O) (x y : Value) (T : TypeId) : Ow w0 (w.alloc (.cells #[x, y] T)) g M L (O ++ [Rw.pair w.heap.size T x y]) :=
 h.add (World.ownsRow_lit (base := w.heap.size) (e := T) (size := 1) w #[x, y] 2 (Nat.le_refl _) (by decide) rfl) (own_box1 _ _)
theorem Ow.p0 (h : Ow w0 w g M L O) (i : Nat) {b : Nat} {T : TypeId} {x y : Value} (hi : O[i]? = some (Rw.pair b T x y)) : w.cell? ⟨b, 0, none⟩ = some x :=
 (h.own i _ hi).cellAt 0 (show 0 < 2 * 1 by decide)
theorem Ow.p1 (h : Ow w0 w g M L O) (i : Nat) {b : Nat} {T : TypeId} {x y : Value} (hi : O[i]? = some (Rw.pair b T x y)) : w.cell? ⟨b, 1, none⟩ = some y :=
 (h.own i _ hi).cellAt 1 (show 1 < 2 * 1 by decide)
theorem Ow.pf (h : Ow w0 w g M L O) (i : Nat) {b : Nat} {T : TypeId} {x y : Value} (hi : O[i]? = some (Rw.pair b T x y)) (k : Nat) : w.frozen? ⟨b, k, none⟩ = false :=
 (h.own i _ hi).frozenAt k
theorem Ow.set0 (h : Ow w0 w g M L O) (i : Nat) {b : Nat} {T : TypeId} {x y : Value} (hi : O[i]? = some (Rw.pair b T x y)) (v : Value) : Ow w0 (w.setCell ⟨b, 0, none⟩ v) g M L (O.set i (Rw.pair b T v y)) := h.put i hi 0 v
theorem Ow.set1 (h : Ow w0 w g M L O) (i : Nat) {b : Nat} {T : TypeId} {x y : Value} (hi : O[i]? = some (Rw.pair b T x y)) (v : Value) : Ow w0 (w.setCell ⟨b, 1, none⟩ v) g M L (O.set i (Rw.pair b T x v)) := h.put i hi 1 v
end
def rv (p q : List Int) : Bool := (Na.vld p && Na.vld q) && (!(decide (num q = 0)) && decide (Nat.gcd (num p) (num q) = 1))
def frE (e : Int) : Nat × Nat × Int := (0, 0, e)
def frM (x y : Nat) : Nat × Nat × Int := if y = 0 then (0, 0, 4) else (x / Nat.gcd x y, y / Nat.gcd x y, 0)
def makeF (p q : List Int) : Nat × Nat × Int := if Na.vld p && Na.vld q then frM (num p) (num q) else frE 1
theorem frM_top {x y : Nat} (hx : x < Na.top) (hy : y < Na.top) : (frM x y).1 < Na.top ∧ (frM x y).2.1 < Na.top := by
 unfold frM
 split
 ·exact ⟨by show 0 < Na.top; omega, by show 0 < Na.top; omega⟩
 ·exact ⟨Nat.lt_of_le_of_lt (Nat.div_le_self _ _) hx, Nat.lt_of_le_of_lt (Nat.div_le_self _ _) hy⟩
def ResF (w : World) (t : Nat × Nat × Int) (en : Ending) (w' : World) : Prop :=
 ∃ (A1 : Option Addr) (n1 c1 : Nat) (A2 : Option Addr) (n2 c2 : Nat), en = .returned (.tuple #[.agg #[.slice A1 n1 c1, .slice A2 n2 c2], .int .i64 t.2.2]) ∧ (Na.dig t.1).length = n1 ∧ (Na.dig t.2.1).length = n2 ∧ w'.ownsRow w.heap.size 3 1 (.slice A1 n1 c1) n1 (nats (Na.dig t.1)) ∧ w'.ownsRow w.heap.size 3 1 (.slice A2 n2 c2) n2 (nats (Na.dig t.2.1)) ∧ Below w.heap.size w w'
theorem resF_nil (w w' : World) (err : Int) (h : Below w.heap.size w w') : ResF w (frE err) (.returned (.tuple #[.agg #[.slice none 0 0, .slice none 0 0], .int .i64 err])) w' :=
 ⟨none, 0, 0, none, 0, 0, rfl, by show (Na.dig 0).length = 0; rw [Na.dig_zero]; rfl, by show (Na.dig 0).length = 0; rw [Na.dig_zero]; rfl, by show World.ownsRow _ _ _ _ _ _ (nats (Na.dig 0)); rw [Na.dig_zero]; exact World.ownsRow_nil _ _ _ _, by show World.ownsRow _ _ _ _ _ _ (nats (Na.dig 0)); rw [Na.dig_zero]; exact World.ownsRow_nil _ _ _ _, h⟩
def GotF (w0 : World) (g : Option Nat) (M : List (Nat × Value)) (L : List Ob) (O : List Rw) (t : Nat × Nat × Int) (en : Ending) (w' : World) : Prop :=
 ∃ (A1 : Option Addr) (n1 c1 : Nat) (A2 : Option Addr) (n2 c2 : Nat), en = .returned (.tuple #[.agg #[.slice A1 n1 c1, .slice A2 n2 c2], .int .i64 t.2.2]) ∧ Ow w0 w' g M (L ++ [⟨A1, n1, c1, nats (Na.dig t.1)⟩] ++ [⟨A2, n2, c2, nats (Na.dig t.2.1)⟩]) O
section
variable {w0 w w' : World} {g : Option Nat} {M : List (Nat × Value)} {L : List Ob} {O : List Rw} {A A2 : Option Addr} {n c m c2 x y : Nat}
theorem got_f (h : Ow w0 w g M L O) {t : Nat × Nat × Int} (h1 : t.1 < Na.top) (h2 : t.2.1 < Na.top) {en : Ending} (hr : ResF w t en w') : GotF w0 g M L O t en w' := by
 obtain ⟨A1, n1, c1, A2, n2, c2, rfl, k1, k2, o1, o2, hb⟩ := hr
 exact ⟨A1, n1, c1, A2, n2, c2, rfl, h.push2 o1 o2 (by rw [← k1]; exact dig_1000 h1) (by rw [← k2]; exact dig_1000 h2) hb⟩
theorem resF_of (h : Ow w w' g M L O) (i j : Nat) {e : Int} {t : Nat × Nat × Int} (ht : t.2.2 = e) (hi : O[i]? = some ⟨A, n, c, 3, nats (Na.dig t.1)⟩) (hj : O[j]? = some ⟨A2, m, c2, 3, nats (Na.dig t.2.1)⟩) : ResF w t (.returned (.tuple #[.agg #[.slice A n c, .slice A2 m c2], .int .i64 e])) w' := by
 have ho := h.row i hi
 have hp := h.row j hj
 subst ht
 exact ⟨A, n, c, A2, m, c2, rfl, by have := own_len ho; rwa [nats_length] at this, by have := own_len hp; rwa [nats_length] at this, ho, hp, h.below⟩
theorem div_at (h : Ow w0 w g M L O) (hA : (Na.dig x).length = n ∧ n ≤ c ∧ Sl w w.heap.size A (nats (Na.dig x))) (hB : (Na.dig y).length = m ∧ m ≤ c2 ∧ Sl w w.heap.size A2 (nats (Na.dig y))) (hx : x < Na.top) (hy : y < Na.top) (hy0 : 0 < y) :
  Calls Tryz.prog 150 #[.agg #[.slice A n c], .agg #[.slice A2 m c2]] w fun e w' => ∃ (A1 : Option Addr) (n1 c1 : Nat) (A2 : Option Addr) (n2 c2 : Nat), e = .returned (.tuple #[.agg #[.slice A1 n1 c1], .agg #[.slice A2 n2 c2], .int .i64 0]) ∧ (Na.dig (x / y)).length = n1 ∧ Ow w0 w' g M L (O ++ [⟨A1, n1, c1, 3, nats (Na.dig (x / y))⟩]) :=
 (nDivide_ok A A2 n c m c2 x y w hA.1 hB.1 hA.2.2 hB.2.2 hx hy hy0).mono fun en w' ⟨A1, n1, c1, A3, n2, c3, he, e1, e2, o1, o2, hb⟩ => ⟨A1, n1, c1, A3, n2, c3, he, e1, h.add o1 hb⟩
theorem gcd_at (h : Ow w0 w g M L O) (hA : (Na.dig x).length = n ∧ n ≤ c ∧ Sl w w.heap.size A (nats (Na.dig x))) (hB : (Na.dig y).length = m ∧ m ≤ c2 ∧ Sl w w.heap.size A2 (nats (Na.dig y))) (hx : x < Na.top) (hy : y < Na.top) (ht : Tab w0) :
  Calls Tryz.prog 128 #[.agg #[.slice A n c], .agg #[.slice A2 m c2]] w fun e w' => ∃ (A' : Option Addr) (n' c' : Nat), e = .returned (.tuple #[.agg #[.slice A' n' c'], .int .i64 0]) ∧ (Na.dig (Nat.gcd x y)).length = n' ∧ Ow w0 w' g M L (O ++ [⟨A', n', c', 3, nats (Na.dig (Nat.gcd x y))⟩]) :=
 (nGcd_ok A A2 n c m c2 x y w hA.1 hB.1 hA.2.2 hB.2.2 hx hy (ht.below h.below)).mono fun en w' hr => h.addN hr
theorem rgcd_at (h : Ow w0 w g M L O) (hA : (Na.dig x).length = n ∧ n ≤ c ∧ Sl w w.heap.size A (nats (Na.dig x))) (hB : (Na.dig y).length = m ∧ m ≤ c2 ∧ Sl w w.heap.size A2 (nats (Na.dig y))) (hx : x < Na.top) (hy : y < Na.top) :
  Calls Tryz.prog 94 #[.agg #[.slice A n c], .agg #[.slice A2 m c2]] w fun e w' => ∃ (A' : Option Addr) (n' c' : Nat), e = .returned (.tuple #[.agg #[.slice A' n' c'], .int .i64 0]) ∧ (Na.dig (Nat.gcd x y)).length = n' ∧ Ow w0 w' g M L (O ++ [⟨A', n', c', 3, nats (Na.dig (Nat.gcd x y))⟩]) :=
 (nrgcd_ok A A2 n c m c2 x y w hA.1 hB.1 hA.2.1 hB.2.1 hA.2.2 hB.2.2 hx hy).mono fun en w' hr => h.addN hr
theorem cmp_at (h : Ow w0 w g M L O) (hA : (Na.dig x).length = n ∧ n ≤ c ∧ Sl w w.heap.size A (nats (Na.dig x))) (hB : (Na.dig y).length = m ∧ m ≤ c2 ∧ Sl w w.heap.size A2 (nats (Na.dig y))) (hl : n ≤ 1000) (hl2 : m ≤ 1000) :
  Calls Tryz.prog 129 #[.agg #[.slice A n c], .agg #[.slice A2 m c2]] w fun e w' => e = .returned (.int .i64 (Na.sgn x y)) ∧ Ow w0 w' g M L O :=
 (ncmp_any A A2 n c m c2 w.heap.size x y w hA.1 hB.1 hA.2.2 hB.2.2 (Nat.le_refl _) (by omega) (by omega)).mono fun en w' ⟨he, hb⟩ => ⟨he, h.go hb⟩
end
theorem frM_pos {x y : Nat} (hy : 0 < y) : frM x y = (x / Nat.gcd x y, y / Nat.gcd x y, 0) := if_neg (by omega)
theorem frM_spec {x y : Nat} (hy : 0 < y) : ∃ n d, frM x y = (n, d, 0) ∧ 0 < d ∧ Nat.gcd n d = 1 ∧ n * y = x * d ∧ n ≤ x ∧ d ≤ y := by
 have hg : 0 < Nat.gcd x y := Nat.gcd_pos_of_pos_right _ hy
 obtain ⟨n, hn⟩ := Nat.gcd_dvd_left x y
 obtain ⟨d, hd⟩ := Nat.gcd_dvd_right x y
 have e1 : x / Nat.gcd x y = n := Nat.div_eq_of_eq_mul_right hg hn
 have e2 : y / Nat.gcd x y = d := Nat.div_eq_of_eq_mul_right hg hd
 have hd0 : 0 < d := by
  rcases Nat.eq_zero_or_pos d with h | h
  ·rw [h, Nat.mul_zero] at hd; omega
  ·exact h
 refine ⟨n, d, by rw [frM_pos hy, e1, e2], hd0, ?_, ?_, ?_, ?_⟩
 ·have := Nat.gcd_div (Nat.gcd_dvd_left x y) (Nat.gcd_dvd_right x y)
  rwa [e1, e2, Nat.div_self hg] at this
 ·generalize Nat.gcd x y = k at hn hd
  subst hn hd
  grind
 ·rw [← e1]; exact Nat.div_le_self _ _
 ·rw [← e2]; exact Nat.div_le_self _ _
theorem rv_low {n d : Nat} (hn : n < Na.top) (hd : d < Na.top) (hd0 : 0 < d) (hg : Nat.gcd n d = 1) : rv (Na.up (Na.dig n)) (Na.up (Na.dig d)) = true := by
 unfold rv
 rw [Na.vld_dig hn, Na.vld_dig hd, num_dig, num_dig]
 simp [hg]
 omega
end Go.Proofs.YtenokdhldngkgaaGreatDoor
namespace Go.Proofs.YtenokdhldngkgaaGreatDoor
open Go.RowKit Go.Sort
set_option linter.unusedVariables false
set_option maxRecDepth 100000
theorem dig_one : Na.dig 1 = [1] := Na.dig_small 1 (by omega) (by omega)
set_option maxHeartbeats 1000000 in
theorem qone_any (w : World) : Calls Tryz.prog 130 #[] w (FreshS w (Na.dig 1)) := by
 go_enter Tryz.func130, Tryz.ntmps130
 go_wp2_with fail
 have H2 := ((Ow.of (St.refl w)).boxed (.slice (some ⟨w.heap.size + 1, 0, none⟩) 1 1) 25).lit1 (.int .i64 1) 3
 simp only [List.nil_append, World.size_alloc] at H2
 refine bodyPost_ret (v := .agg #[.slice (some ⟨w.heap.size + 1, 0, none⟩) 1 1]) (by simp [results, Tryz.results130, go_sem]) rfl ?_
 rw [dig_one]
 exact freshS_of (l := [1]) H2 0 rfl
set_option maxHeartbeats 1000000 in
theorem qzero_any (A : Option Addr) (n c : Nat) (w : World) (hl : n ≤ 1000) : Calls Tryz.prog 127 #[.agg #[.slice A n c]] w fun e w' => e = .returned (.bool ((n : Int) == 0)) ∧ Below w.heap.size w w' := by
 have H0 := (Ow.of (St.refl w)).boxed (.slice A n c) 25
 simp only [List.nil_append] at H0
 have hc0 := H0.cell 0 rfl
 have HB := Lib.hid H0.below
 clear H0
 go_enter Tryz.func127, Tryz.ntmps127
 go_wp2_with fail
 go_ret
 exact ⟨rfl, HB.out⟩
section
variable {w0 w w' : World} {g : Option Nat} {M : List (Nat × Value)} {L : List Ob} {O : List Rw} {A A2 : Option Addr} {n c m c2 x y : Nat}
theorem qone_ow (h : Ow w0 w g M L O) : Calls Tryz.prog 130 #[] w fun e w' => ∃ (A' : Option Addr) (n' c' : Nat), e = .returned (.agg #[.slice A' n' c']) ∧ Ow w0 w' g M (L ++ [⟨A', n', c', nats (Na.dig 1)⟩]) O :=
 (qone_any w).mono fun e w' hr => by
  obtain ⟨A', n', c', he, -, ho⟩ := h.pushS hr (by rw [dig_one]; decide)
  exact ⟨A', n', c', he, ho⟩
theorem cmp_ow (h : Ow w0 w g M L O) (i j : Nat) (hi : L[i]? = some ⟨A, n, c, nats (Na.dig x)⟩) (hj : L[j]? = some ⟨A2, m, c2, nats (Na.dig y)⟩) :
  Calls Tryz.prog 129 #[.agg #[.slice A n c], .agg #[.slice A2 m c2]] w fun e w' => e = .returned (.int .i64 (Na.sgn x y)) ∧ Ow w0 w' g M L O :=
 cmp_at h (h.seenL i hi) (h.seenL j hj) (h.sl hi).2.2.1 (h.sl hj).2.2.1
theorem gcd_ow {p q : List Int} (h : Ow w0 w g M L O) (i j : Nat) (hi : L[i]? = some ⟨A, n, c, ints p⟩) (hj : L[j]? = some ⟨A2, m, c2, ints q⟩) (h1 : Na.vld p = true) (h2 : Na.vld q = true) (ht : Tab w0) :
  Calls Tryz.prog 128 #[.agg #[.slice A n c], .agg #[.slice A2 m c2]] w (GotO w0 g M L O (Na.dig (Nat.gcd (num p) (num q))) 0) := by
 have h := ag_gcd h i j hi hj ht
 have e1 : gcdL p q = Na.dig (Nat.gcd (num p) (num q)) := by unfold gcdL; rw [h1, h2]; rfl
 have e2 : gcdE p q = 0 := by unfold gcdE; rw [h1, h2]; rfl
 rwa [e1, e2] at h
theorem qzero_ow (h : Ow w0 w g M L O) (hl : n ≤ 1000) : Calls Tryz.prog 127 #[.agg #[.slice A n c]] w fun e w' => e = .returned (.bool ((n : Int) == 0)) ∧ Ow w0 w' g M L O :=
 (qzero_any A n c w hl).mono fun e w' ⟨he, hb⟩ => ⟨he, h.go hb⟩
end
theorem rv_gcd {p q : List Int} (h1 : Na.vld p = true) (h2 : Na.vld q = true) (h0 : 0 < num q) : rv p q = (Na.sgn (Nat.gcd (num p) (num q)) 1 == 0) := by
 unfold rv
 rw [h1, h2]
 have : decide (num q = 0) = false := decide_eq_false (by omega)
 rw [this]
 rcases Na.sgn_cases (Nat.gcd (num p) (num q)) 1 with ⟨h, e⟩ | ⟨h, e⟩ | ⟨h, e⟩ <;> rw [e]
 ·rw [decide_eq_false (by omega)]; rfl
 ·simp [h]
 ·rw [decide_eq_false (by omega)]; rfl
set_option maxHeartbeats 4000000 in
theorem qvalid_any (A A2 : Option Addr) (n c m c2 : Nat) (p q : List Int) (w : World) (hn : p.length = n) (hm : q.length = m) (hnc : n ≤ c) (hmc : m ≤ c2) (hs : Sl w w.heap.size A (ints p)) (hs2 : Sl w w.heap.size A2 (ints q)) (hl : n ≤ 1000) (hl2 : m ≤ 1000) (ht : Tab w) :
  Calls Tryz.prog 76 #[.agg #[.slice A n c, .slice A2 m c2]] w fun e w' => e = .returned (.bool (rv p q)) ∧ Below w.heap.size w w' := by
 have H0 := (((Ow.of (St.refl w)).old hs (by rw [ints_length]; exact hn) hnc hl).old hs2 (by rw [ints_length]; exact hm) hmc hl2).pair (.slice A n c) (.slice A2 m c2) 27
 simp only [List.nil_append, List.cons_append] at H0
 have hc0 := H0.p0 0 rfl
 have HV := Lib.hid (ag_vld H0 0 rfl)
 have HT := Lib.hid ht
 have HM := Lib.hid hm
 clear H0 hs hs2 hn hm ht
 cases h1 : Na.vld p
 ·have hr : rv p q = false := by unfold rv; rw [h1]; rfl
  rw [hr]
  rw [h1] at HV
  clear h1 hr
  go_enter Tryz.func76, Tryz.ntmps76
  go_wp2_with fail
  refine HV.out.mono ?_
  rintro e w1 ⟨rfl, H1⟩
  have HB := Lib.hid H1.below
  clear H1 HV
  go_wp2_with fail
  go_ret
  exact ⟨rfl, HB.out⟩
 rw [h1] at HV
 cases h2 : Na.vld q
 ·have hr : rv p q = false := by unfold rv; rw [h1, h2]; rfl
  rw [hr]
  clear h1 hr
  have H2 := Lib.hid h2
  clear h2
  go_enter Tryz.func76, Tryz.ntmps76
  go_wp2_with fail
  refine HV.out.mono ?_
  rintro e w1 ⟨rfl, H1⟩
  have hc1 := H1.p1 0 rfl
  have HK := Lib.hid (ag_vld H1 1 rfl)
  rw [H2.out] at HK
  clear H1 HV
  go_wp2_with fail
  refine HK.out.mono ?_
  rintro e w1 ⟨rfl, H1⟩
  have HB := Lib.hid H1.below
  clear H1 HK
  go_wp2_with fail
  go_ret
  exact ⟨rfl, HB.out⟩
 have H12 := Lib.hid (And.intro h1 h2)
 rcases Nat.eq_zero_or_pos (num q) with h0 | h0
 ·have hr : rv p q = false := by unfold rv; rw [h1, h2, h0]; rfl
  obtain rfl : m = 0 := by
   obtain ⟨y, hy, e⟩ := Na.vld_ex h2
   rw [e, num_dig] at h0
   rw [← HM.out, e, h0, Na.dig_zero]; rfl
  rw [hr]
  clear h1 h2 hr h0
  go_enter Tryz.func76, Tryz.ntmps76
  go_wp2_with fail
  refine HV.out.mono ?_
  rintro e w1 ⟨rfl, H1⟩
  have hc1 := H1.p1 0 rfl
  have HK := Lib.hid (ag_vld H1 1 rfl)
  rw [H12.out.2] at HK
  clear H1 HV
  go_wp2_with fail
  refine HK.out.mono ?_
  rintro e w1 ⟨rfl, H1⟩
  have hc1 := H1.p1 0 rfl
  have HZ := Lib.hid (qzero_ow (A := A2) (n := 0) (c := c2) H1 (by omega))
  clear H1 HK
  go_wp2_with fail
  refine HZ.out.mono ?_
  rintro e w1 ⟨rfl, H1⟩
  have HB := Lib.hid H1.below
  clear H1 HZ
  go_wp2_with fail
  go_ret
  exact ⟨rfl, HB.out⟩
 ·have hr := rv_gcd h1 h2 h0
  obtain ⟨sg, hsg⟩ : ∃ s : Int, Na.sgn (Nat.gcd (num p) (num q)) 1 = s := ⟨_, rfl⟩
  rw [hsg] at hr
  have HR := Lib.hid hr
  have HS := Lib.hid hsg
  have hm0 : ((m : Int) == 0) = false := by
   rw [beq_eq_false_iff_ne]
   intro e
   obtain ⟨y, hy, e2⟩ := Na.vld_ex h2
   rw [e2, num_dig] at h0
   have h3 := HM.out
   rw [e2, Na.up_length] at h3
   have := Na.dig_len0.1 (show (Na.dig y).length = 0 by omega)
   omega
  clear h1 h2 hr h0 hsg
  go_enter Tryz.func76, Tryz.ntmps76
  go_wp2_with fail
  refine HV.out.mono ?_
  rintro e w1 ⟨rfl, H1⟩
  have hc1 := H1.p1 0 rfl
  have HK := Lib.hid (ag_vld H1 1 rfl)
  rw [H12.out.2] at HK
  clear H1 HV
  go_wp2_with fail
  refine HK.out.mono ?_
  rintro e w1 ⟨rfl, H1⟩
  have hc1 := H1.p1 0 rfl
  have HZ := Lib.hid (qzero_ow (A := A2) (n := m) (c := c2) H1 hl2)
  clear H1 HK
  go_wp2_with fail
  refine HZ.out.mono ?_
  rw [hm0]
  rintro e w1 ⟨rfl, H1⟩
  have hc0 := H1.p0 0 rfl
  have hc1 := H1.p1 0 rfl
  have HG := Lib.hid (gcd_ow H1 0 1 rfl rfl H12.out.1 H12.out.2 HT.out)
  clear H1 HZ
  go_wp2_with fail
  refine HG.out.mono ?_
  rintro e w2 ⟨A3, n3, c3, rfl, H2⟩
  have H3 := H2.boxed (.slice A3 n3 c3) 25
  simp only [List.nil_append, List.cons_append] at H3
  have hk3 := H3.cell 0 rfl
  have HD := Lib.hid H3.drew
  clear HG H2 H3 hc0 hc1
  go_upto_region 4 with (fail)
  go_region_held3 (fun W => W.cell? ⟨w2.heap.size, 0, none⟩ = some (.slice A3 n3 c3)) (first | exact hk3 | exact how.cell 0 rfl | exact how2.cell 0 rfl) ((first | (go_at_call 130; (with_reducible refine (qone_ow HD.out).mono ?_); rintro e w11 ⟨A5, n5, c5, rfl, how⟩) | (go_at_call 129; (with_reducible refine (cmp_ow how 2 3 rfl rfl).mono ?_); rw [HS.out]; rintro e w12 ⟨rfl, how2⟩)))
  have HB := Lib.hid how2.below
  clear how how2
  go_wp2_with fail
  go_ret
  exact ⟨by rw [HR.out]; rfl, HB.out⟩
theorem gcd_le {x y : Nat} (hx : x < Na.top) (hy : y < Na.top) (h0 : 0 < y) : Nat.gcd x y < Na.top ∧ 0 < Nat.gcd x y := ⟨gcd_top hx hy, Nat.gcd_pos_of_pos_right _ h0⟩
set_option maxHeartbeats 4000000 in
theorem qmake_ok (A A2 : Option Addr) (n c m c2 x y : Nat) (w : World) (hn : (Na.dig x).length = n) (hm : (Na.dig y).length = m) (hnc : n ≤ c) (hmc : m ≤ c2) (hs : Sl w w.heap.size A (nats (Na.dig x))) (hs2 : Sl w w.heap.size A2 (nats (Na.dig y))) (hx : x < Na.top) (hy : y < Na.top) (h0 : 0 < y) (ht : Tab w) :
  Calls Tryz.prog 99 #[.agg #[.slice A n c], .agg #[.slice A2 m c2]] w (ResF w (frM x y)) := by
 have hn2 : n ≤ 200 := by rw [← hn]; exact (Na.dig_200 x).2 hx
 have hm2 : m ≤ 200 := by rw [← hm]; exact (Na.dig_200 y).2 hy
 have H0 := (((((Ow.of (St.refl w)).old hs (by rw [nats_length]; exact hn) hnc (by omega)).old hs2 (by rw [nats_length]; exact hm) hmc (by omega)).boxed (.slice A n c) 25).boxed (.slice A2 m c2) 25).pair (.slice none 0 0) (.slice none 0 0) 27
 simp only [World.size_alloc, List.nil_append, List.cons_append] at H0
 have hc0 := H0.cell 0 rfl
 have HV := Lib.hid (ag_vld (zs := Na.up (Na.dig x)) H0 0 (by rw [nats_up]; rfl))
 rw [Na.vld_dig hx] at HV
 have HT := Lib.hid ht
 have HX := Lib.hid (And.intro hx (And.intro hy h0))
 have HGp := Lib.hid (gcd_le hx hy h0)
 have HF := Lib.hid (frM_pos (x := x) h0)
 have hm0 : ((m : Int) == 0) = false := by
  rw [beq_eq_false_iff_ne]
  intro e
  have := Na.dig_len0.1 (show (Na.dig y).length = 0 by omega)
  omega
 clear H0 hs hs2 hn hm ht hx hy h0
 go_enter Tryz.func99, Tryz.ntmps99
 go_wp2_with fail
 refine HV.out.mono ?_
 rintro e w1 ⟨rfl, H1⟩
 have hc1 := H1.cell 1 rfl
 have HK := Lib.hid (ag_vld (zs := Na.up (Na.dig y)) H1 1 (by rw [nats_up]; rfl))
 rw [Na.vld_dig HX.out.2.1] at HK
 clear H1 HV hc0
 go_wp2_with fail
 refine HK.out.mono ?_
 rintro e w1 ⟨rfl, H1⟩
 have hc1 := H1.cell 1 rfl
 have HZ := Lib.hid (qzero_ow (A := A2) (n := m) (c := c2) H1 (by omega))
 clear H1 HK
 go_wp2_with fail
 refine HZ.out.mono ?_
 rw [hm0]
 rintro e w1 ⟨rfl, H1⟩
 have hc0 := H1.cell 0 rfl
 have hc1 := H1.cell 1 rfl
 have HG := Lib.hid (gcd_at H1 (H1.seenL 0 rfl) (H1.seenL 1 rfl) HX.out.1 HX.out.2.1 HT.out)
 clear H1 HZ
 go_wp2_with fail
 refine HG.out.mono ?_
 rintro e w2 ⟨A3, n3, c3, rfl, -, H2⟩
 have H3 := (H2.boxed (.slice A3 n3 c3) 25).pair (.slice none 0 0) (.slice none 0 0) 27
 simp only [List.nil_append, List.cons_append, World.size_alloc] at H3
 have hc0 := H3.cell 0 rfl
 have hc2 := H3.cell 2 rfl
 have HD := Lib.hid (div_at H3 (H3.seenL 0 rfl) (H3.seen 1 rfl) HX.out.1 HGp.out.1 HGp.out.2)
 clear HG H2 H3 hc1
 go_wp2_with fail
 refine HD.out.mono ?_
 rintro e w3 ⟨A4, n4, c4, A5, n5, c5, rfl, -, H4⟩
 simp only [List.nil_append, List.cons_append] at H4
 have hp := H4.p0 2 rfl
 have hpf := H4.pf 2 rfl 0
 have H5 := H4.set0 2 rfl (.slice A4 n4 c4)
 simp only [List.set_cons_succ, List.set_cons_zero] at H5
 have hc1 := H5.cell 1 rfl
 have hc2 := H5.cell 2 rfl
 have HD2 := Lib.hid (div_at H5 (H5.seenL 1 rfl) (H5.seen 1 rfl) HX.out.2.1 HGp.out.1 HGp.out.2)
 clear HD H4 H5 hc0
 go_wp2_with fail
 clear hp hpf
 refine HD2.out.mono ?_
 rintro e w4 ⟨A6, n6, c6, A7, n7, c7, rfl, -, H6⟩
 simp only [List.nil_append, List.cons_append] at H6
 have hq := H6.p1 2 rfl
 have hqf := H6.pf 2 rfl 1
 have H7 := H6.set1 2 rfl (.slice A6 n6 c6)
 simp only [List.set_cons_succ, List.set_cons_zero] at H7
 have ha := H7.p0 2 rfl
 have hb := H7.p1 2 rfl
 have hr0 := H7.p0 0 rfl
 have hr1 := H7.p1 0 rfl
 have hrf0 := H7.pf 0 rfl 0
 have hrf1 := H7.pf 0 rfl 1
 have H8 := (H7.set0 0 rfl (.slice A4 n4 c4)).set1 0 rfl (.slice A6 n6 c6)
 simp only [List.set_cons_zero] at H8
 clear HD2 H6 hc1 hc2
 go_wp2_with fail
 have hs0 := H8.p0 0 rfl
 have hs1 := H8.p1 0 rfl
 refine bodyPost_ret (v := .tuple #[.agg #[.slice A4 n4 c4, .slice A6 n6 c6], .int .i64 0]) (by simp [results, Tryz.results99, go_sem, hs0, hs1]) rfl ?_
 rw [HF.out]
 exact resF_of H8 3 4 rfl rfl rfl
set_option maxHeartbeats 4000000 in
theorem qmake_bad (A A2 : Option Addr) (n c m c2 : Nat) (p q : List Int) (w : World) (hn : p.length = n) (hm : q.length = m) (hnc : n ≤ c) (hmc : m ≤ c2) (hs : Sl w w.heap.size A (ints p)) (hs2 : Sl w w.heap.size A2 (ints q)) (hl : n ≤ 1000) (hl2 : m ≤ 1000) (hb : (Na.vld p && Na.vld q) = false ∨ (Na.vld p = true ∧ Na.vld q = true ∧ m = 0)) :
  Calls Tryz.prog 99 #[.agg #[.slice A n c], .agg #[.slice A2 m c2]] w (ResF w (frE (if (Na.vld p && Na.vld q) then 4 else 1))) := by
 have H0 := (((((Ow.of (St.refl w)).old hs (by rw [ints_length]; exact hn) hnc hl).old hs2 (by rw [ints_length]; exact hm) hmc hl2).boxed (.slice A n c) 25).boxed (.slice A2 m c2) 25).pair (.slice none 0 0) (.slice none 0 0) 27
 simp only [World.size_alloc, List.nil_append, List.cons_append] at H0
 have hc0 := H0.cell 0 rfl
 have HV := Lib.hid (ag_vld H0 0 rfl)
 clear H0 hs hs2 hn hm
 cases h1 : Na.vld p
 ·rw [h1] at HV
  rw [Bool.false_and, if_neg (by decide)]
  clear hb h1
  go_enter Tryz.func99, Tryz.ntmps99
  go_wp2_with fail
  refine HV.out.mono ?_
  rintro e w1 ⟨rfl, H1⟩
  have hr0 := H1.p0 0 rfl
  have hr1 := H1.p1 0 rfl
  have hrf0 := H1.pf 0 rfl 0
  have hrf1 := H1.pf 0 rfl 1
  have HH := Lib.hid H1
  clear H1 HV
  go_wp2_with fail
  have H8 := (HH.out.set0 0 rfl (.slice none 0 0)).set1 0 rfl (.slice none 0 0)
  have hs0 := H8.p0 0 rfl
  have hs1 := H8.p1 0 rfl
  refine bodyPost_ret (v := .tuple #[.agg #[.slice none 0 0, .slice none 0 0], .int .i64 1]) (by simp [results, Tryz.results99, go_sem, hs0, hs1]) rfl ?_
  exact resF_nil _ _ _ H8.below
 rw [h1] at HV
 rw [h1, Bool.true_and] at hb
 cases h2 : Na.vld q
 ·rw [Bool.and_false, if_neg (by decide)]
  have HQ := Lib.hid h2
  clear hb h1 h2
  go_enter Tryz.func99, Tryz.ntmps99
  go_wp2_with fail
  refine HV.out.mono ?_
  rintro e w1 ⟨rfl, H1⟩
  have hc1 := H1.cell 1 rfl
  have HK := Lib.hid (ag_vld H1 1 rfl)
  rw [HQ.out] at HK
  clear H1 HV
  go_wp2_with fail
  refine HK.out.mono ?_
  rintro e w1 ⟨rfl, H1⟩
  have HV := 0
  have hr0 := H1.p0 0 rfl
  have hr1 := H1.p1 0 rfl
  have hrf0 := H1.pf 0 rfl 0
  have hrf1 := H1.pf 0 rfl 1
  have HH := Lib.hid H1
  clear H1 HV
  go_wp2_with fail
  have H8 := (HH.out.set0 0 rfl (.slice none 0 0)).set1 0 rfl (.slice none 0 0)
  have hs0 := H8.p0 0 rfl
  have hs1 := H8.p1 0 rfl
  refine bodyPost_ret (v := .tuple #[.agg #[.slice none 0 0, .slice none 0 0], .int .i64 1]) (by simp [results, Tryz.results99, go_sem, hs0, hs1]) rfl ?_
  exact resF_nil _ _ _ H8.below
 ·obtain rfl : m = 0 := by
   rcases hb with hb | hb
   ·rw [h2] at hb; cases hb
   ·exact hb.2.2
  rw [Bool.and_true, if_pos rfl]
  have HQ := Lib.hid h2
  clear hb h1 h2
  go_enter Tryz.func99, Tryz.ntmps99
  go_wp2_with fail
  refine HV.out.mono ?_
  rintro e w1 ⟨rfl, H1⟩
  have hc1 := H1.cell 1 rfl
  have HK := Lib.hid (ag_vld H1 1 rfl)
  rw [HQ.out] at HK
  clear H1 HV
  go_wp2_with fail
  refine HK.out.mono ?_
  rintro e w1 ⟨rfl, H1⟩
  have HV := 0
  have hc1 := H1.cell 1 rfl
  have HZ := Lib.hid (qzero_ow (A := A2) (n := 0) (c := c2) H1 (by omega))
  clear H1 HV
  go_wp2_with fail
  refine HZ.out.mono ?_
  rintro e w1 ⟨rfl, H1⟩
  have HV := 0
  have hr0 := H1.p0 0 rfl
  have hr1 := H1.p1 0 rfl
  have hrf0 := H1.pf 0 rfl 0
  have hrf1 := H1.pf 0 rfl 1
  have HH := Lib.hid H1
  clear H1 HV
  go_wp2_with fail
  have H8 := (HH.out.set0 0 rfl (.slice none 0 0)).set1 0 rfl (.slice none 0 0)
  have hs0 := H8.p0 0 rfl
  have hs1 := H8.p1 0 rfl
  refine bodyPost_ret (v := .tuple #[.agg #[.slice none 0 0, .slice none 0 0], .int .i64 4]) (by simp [results, Tryz.results99, go_sem, hs0, hs1]) rfl ?_
  exact resF_nil _ _ _ H8.below
theorem qmake_any (A A2 : Option Addr) (n c m c2 : Nat) (p q : List Int) (w : World) (hn : p.length = n) (hm : q.length = m) (hnc : n ≤ c) (hmc : m ≤ c2) (hs : Sl w w.heap.size A (ints p)) (hs2 : Sl w w.heap.size A2 (ints q)) (hl : n ≤ 1000) (hl2 : m ≤ 1000) (ht : Tab w) :
  Calls Tryz.prog 99 #[.agg #[.slice A n c], .agg #[.slice A2 m c2]] w (ResF w (makeF p q)) := by
 rcases vv_cases p q with hv | ⟨hv, hx, hy, e1, e2⟩
 ·have := qmake_bad A A2 n c m c2 p q w hn hm hnc hmc hs hs2 hl hl2 (.inl hv)
  rw [hv] at this
  unfold makeF
  rw [hv]
  exact this
 ·unfold makeF
  rw [hv, if_pos rfl]
  rcases Nat.eq_zero_or_pos (num q) with h0 | h0
  ·have hm0 : m = 0 := by rw [← hm, e2, h0, Na.dig_zero]; rfl
   have := qmake_bad A A2 n c m c2 p q w hn hm hnc hmc hs hs2 hl hl2 (.inr ⟨(Bool.and_eq_true_iff.1 hv).1, (Bool.and_eq_true_iff.1 hv).2, hm0⟩)
   rw [hv] at this
   unfold frM
   rw [if_pos h0]
   exact this
  ·exact qmake_ok A A2 n c m c2 _ _ w (by rw [← hn]; conv => rhs; rw [e1]; rw [Na.up_length]) (by rw [← hm]; conv => rhs; rw [e2]; rw [Na.up_length]) hnc hmc (nats_eq hs e1) (nats_eq hs2 e2) hx hy h0 ht
set_option maxHeartbeats 4000000 in
theorem qrmake_ok (A A2 : Option Addr) (n c m c2 x y : Nat) (w : World) (hn : (Na.dig x).length = n) (hm : (Na.dig y).length = m) (hnc : n ≤ c) (hmc : m ≤ c2) (hs : Sl w w.heap.size A (nats (Na.dig x))) (hs2 : Sl w w.heap.size A2 (nats (Na.dig y))) (hx : x < Na.top) (hy : y < Na.top) (h0 : 0 < y) :
  Calls Tryz.prog 48 #[.agg #[.slice A n c], .agg #[.slice A2 m c2]] w (ResF w (frM x y)) := by
 have hn2 : n ≤ 200 := by rw [← hn]; exact (Na.dig_200 x).2 hx
 have hm2 : m ≤ 200 := by rw [← hm]; exact (Na.dig_200 y).2 hy
 have H0 := (((((Ow.of (St.refl w)).old hs (by rw [nats_length]; exact hn) hnc (by omega)).old hs2 (by rw [nats_length]; exact hm) hmc (by omega)).boxed (.slice A n c) 25).boxed (.slice A2 m c2) 25).pair (.slice none 0 0) (.slice none 0 0) 27
 simp only [World.size_alloc, List.nil_append, List.cons_append] at H0
 have hc0 := H0.cell 0 rfl
 have HV := Lib.hid (rvalid_ok H0 0 rfl hx)
 have HX := Lib.hid (And.intro hx (And.intro hy h0))
 have HGp : Hid (Nat.gcd x y < Na.top ∧ 0 < Nat.gcd x y) := ⟨gcd_top hx hy, Nat.gcd_pos_of_pos_right _ h0⟩
 have HF := Lib.hid (frM_pos (x := x) h0)
 have hm0 : ((m : Int) == 0) = false := by
  rw [beq_eq_false_iff_ne]
  intro e
  have := Na.dig_len0.1 (show (Na.dig y).length = 0 by omega)
  omega
 clear H0 hs hs2 hn hm hx hy h0
 go_enter Tryz.func48, Tryz.ntmps48
 go_wp2_with fail
 refine HV.out.mono ?_
 rintro e w1 ⟨rfl, H1⟩
 have hc1 := H1.cell 1 rfl
 have HK := Lib.hid (rvalid_ok H1 1 rfl HX.out.2.1)
 clear H1 HV hc0
 go_wp2_with fail
 refine HK.out.mono ?_
 rintro e w1 ⟨rfl, H1⟩
 have hc0 := H1.cell 0 rfl
 have hc1 := H1.cell 1 rfl
 have HG := Lib.hid (rgcd_at H1 (H1.seenL 0 rfl) (H1.seenL 1 rfl) HX.out.1 HX.out.2.1)
 clear H1 HK
 go_wp2_with fail
 refine HG.out.mono ?_
 rintro e w2 ⟨A3, n3, c3, rfl, -, H2⟩
 have H3 := H2.boxed (.slice A3 n3 c3) 25
 simp only [List.nil_append, List.cons_append] at H3
 have hc0 := H3.cell 0 rfl
 have hc2 := H3.cell 2 rfl
 have HD := Lib.hid (rdivide_at H3 (H3.seenL 0 rfl) (H3.seen 1 rfl) HX.out.1 HGp.out.1 HGp.out.2)
 clear HG H2 H3 hc1
 go_wp2_with fail
 refine HD.out.mono ?_
 rintro e w3 ⟨A4, n4, c4, A5, n5, c5, rfl, -, H4⟩
 have H5 := (H4.boxed (.slice A4 n4 c4) 25).boxed (.slice A5 n5 c5) 25
 simp only [List.nil_append, List.cons_append, World.size_alloc] at H5
 have hc1 := H5.cell 1 rfl
 have hc2 := H5.cell 2 rfl
 have HD2 := Lib.hid (rdivide_at H5 (H5.seenL 1 rfl) (H5.seen 1 rfl) HX.out.2.1 HGp.out.1 HGp.out.2)
 clear HD H4 H5 hc0
 go_wp2_with fail
 refine HD2.out.mono ?_
 rintro e w4 ⟨A6, n6, c6, A7, n7, c7, rfl, -, H6⟩
 have H7 := (H6.boxed (.slice A6 n6 c6) 25).boxed (.slice A7 n7 c7) 25
 simp only [List.nil_append, List.cons_append, World.size_alloc] at H7
 have ha := H7.cell 3 rfl
 have hb := H7.cell 5 rfl
 have hr0 := H7.p0 0 rfl
 have hr1 := H7.p1 0 rfl
 have hrf0 := H7.pf 0 rfl 0
 have hrf1 := H7.pf 0 rfl 1
 have H8 := (H7.set0 0 rfl (.slice A4 n4 c4)).set1 0 rfl (.slice A6 n6 c6)
 simp only [List.set_cons_zero] at H8
 clear HD2 H6 hc1 hc2
 go_wp2_with fail
 have hs0 := H8.p0 0 rfl
 have hs1 := H8.p1 0 rfl
 refine bodyPost_ret (v := .tuple #[.agg #[.slice A4 n4 c4, .slice A6 n6 c6], .int .i64 0]) (by simp [results, Tryz.results48, go_sem, hs0, hs1]) rfl ?_
 rw [HF.out]
 exact resF_of H8 2 3 rfl rfl rfl
set_option maxHeartbeats 4000000 in
theorem qrmake_bad (A A2 : Option Addr) (n c m c2 : Nat) (p q : List Int) (w : World) (hn : p.length = n) (hm : q.length = m) (hnc : n ≤ c) (hmc : m ≤ c2) (hs : Sl w w.heap.size A (ints p)) (hs2 : Sl w w.heap.size A2 (ints q)) (hl : n ≤ 1000) (hl2 : m ≤ 1000) (hb : (Na.vld p && Na.vld q) = false ∨ (Na.vld p = true ∧ Na.vld q = true ∧ m = 0)) :
  Calls Tryz.prog 48 #[.agg #[.slice A n c], .agg #[.slice A2 m c2]] w (ResF w (frE (if (Na.vld p && Na.vld q) then 4 else 1))) := by
 have H0 := (((((Ow.of (St.refl w)).old hs (by rw [ints_length]; exact hn) hnc hl).old hs2 (by rw [ints_length]; exact hm) hmc hl2).boxed (.slice A n c) 25).boxed (.slice A2 m c2) 25).pair (.slice none 0 0) (.slice none 0 0) 27
 simp only [World.size_alloc, List.nil_append, List.cons_append] at H0
 have hc0 := H0.cell 0 rfl
 have HV := Lib.hid (rvalid_ow H0 0 rfl)
 clear H0 hs hs2 hn hm
 cases h1 : Na.vld p
 ·rw [h1] at HV
  rw [Bool.false_and, if_neg (by decide)]
  clear hb h1
  go_enter Tryz.func48, Tryz.ntmps48
  go_wp2_with fail
  refine HV.out.mono ?_
  rintro e w1 ⟨rfl, H1⟩
  have hr0 := H1.p0 0 rfl
  have hr1 := H1.p1 0 rfl
  have hrf0 := H1.pf 0 rfl 0
  have hrf1 := H1.pf 0 rfl 1
  have HH := Lib.hid H1
  clear H1 HV
  go_wp2_with fail
  have H8 := (HH.out.set0 0 rfl (.slice none 0 0)).set1 0 rfl (.slice none 0 0)
  have hs0 := H8.p0 0 rfl
  have hs1 := H8.p1 0 rfl
  refine bodyPost_ret (v := .tuple #[.agg #[.slice none 0 0, .slice none 0 0], .int .i64 1]) (by simp [results, Tryz.results48, go_sem, hs0, hs1]) rfl ?_
  exact resF_nil _ _ _ H8.below
 rw [h1] at HV
 rw [h1, Bool.true_and] at hb
 cases h2 : Na.vld q
 ·rw [Bool.and_false, if_neg (by decide)]
  have HQ := Lib.hid h2
  clear hb h1 h2
  go_enter Tryz.func48, Tryz.ntmps48
  go_wp2_with fail
  refine HV.out.mono ?_
  rintro e w1 ⟨rfl, H1⟩
  have hc1 := H1.cell 1 rfl
  have HK := Lib.hid (rvalid_ow H1 1 rfl)
  rw [HQ.out] at HK
  clear H1 HV
  go_wp2_with fail
  refine HK.out.mono ?_
  rintro e w1 ⟨rfl, H1⟩
  have HV := 0
  have hr0 := H1.p0 0 rfl
  have hr1 := H1.p1 0 rfl
  have hrf0 := H1.pf 0 rfl 0
  have hrf1 := H1.pf 0 rfl 1
  have HH := Lib.hid H1
  clear H1 HV
  go_wp2_with fail
  have H8 := (HH.out.set0 0 rfl (.slice none 0 0)).set1 0 rfl (.slice none 0 0)
  have hs0 := H8.p0 0 rfl
  have hs1 := H8.p1 0 rfl
  refine bodyPost_ret (v := .tuple #[.agg #[.slice none 0 0, .slice none 0 0], .int .i64 1]) (by simp [results, Tryz.results48, go_sem, hs0, hs1]) rfl ?_
  exact resF_nil _ _ _ H8.below
 ·obtain rfl : m = 0 := by
   rcases hb with hb | hb
   ·rw [h2] at hb; cases hb
   ·exact hb.2.2
  rw [Bool.and_true, if_pos rfl]
  have HQ := Lib.hid h2
  clear hb h1 h2
  go_enter Tryz.func48, Tryz.ntmps48
  go_wp2_with fail
  refine HV.out.mono ?_
  rintro e w1 ⟨rfl, H1⟩
  have hc1 := H1.cell 1 rfl
  have HK := Lib.hid (rvalid_ow H1 1 rfl)
  rw [HQ.out] at HK
  clear H1 HV
  go_wp2_with fail
  refine HK.out.mono ?_
  rintro e w1 ⟨rfl, H1⟩
  have HV := 0
  have hc1 := H1.cell 1 rfl
  have hr0 := H1.p0 0 rfl
  have hr1 := H1.p1 0 rfl
  have hrf0 := H1.pf 0 rfl 0
  have hrf1 := H1.pf 0 rfl 1
  have HH := Lib.hid H1
  clear H1 HV
  go_wp2_with fail
  have H8 := (HH.out.set0 0 rfl (.slice none 0 0)).set1 0 rfl (.slice none 0 0)
  have hs0 := H8.p0 0 rfl
  have hs1 := H8.p1 0 rfl
  refine bodyPost_ret (v := .tuple #[.agg #[.slice none 0 0, .slice none 0 0], .int .i64 4]) (by simp [results, Tryz.results48, go_sem, hs0, hs1]) rfl ?_
  exact resF_nil _ _ _ H8.below
theorem qrmake_any (A A2 : Option Addr) (n c m c2 : Nat) (p q : List Int) (w : World) (hn : p.length = n) (hm : q.length = m) (hnc : n ≤ c) (hmc : m ≤ c2) (hs : Sl w w.heap.size A (ints p)) (hs2 : Sl w w.heap.size A2 (ints q)) (hl : n ≤ 1000) (hl2 : m ≤ 1000) :
  Calls Tryz.prog 48 #[.agg #[.slice A n c], .agg #[.slice A2 m c2]] w (ResF w (makeF p q)) := by
 rcases vv_cases p q with hv | ⟨hv, hx, hy, e1, e2⟩
 ·have := qrmake_bad A A2 n c m c2 p q w hn hm hnc hmc hs hs2 hl hl2 (.inl hv)
  rw [hv] at this
  unfold makeF
  rw [hv]
  exact this
 ·unfold makeF
  rw [hv, if_pos rfl]
  rcases Nat.eq_zero_or_pos (num q) with h0 | h0
  ·have hm0 : m = 0 := by rw [← hm, e2, h0, Na.dig_zero]; rfl
   have := qrmake_bad A A2 n c m c2 p q w hn hm hnc hmc hs hs2 hl hl2 (.inr ⟨(Bool.and_eq_true_iff.1 hv).1, (Bool.and_eq_true_iff.1 hv).2, hm0⟩)
   rw [hv] at this
   unfold frM
   rw [if_pos h0]
   exact this
  ·exact qrmake_ok A A2 n c m c2 _ _ w (by rw [← hn]; conv => rhs; rw [e1]; rw [Na.up_length]) (by rw [← hm]; conv => rhs; rw [e2]; rw [Na.up_length]) hnc hmc (nats_eq hs e1) (nats_eq hs2 e2) hx hy h0
theorem makeF_top (p q : List Int) : (makeF p q).1 < Na.top ∧ (makeF p q).2.1 < Na.top := by
 unfold makeF
 rcases vv_cases p q with hv | ⟨hv, hx, hy, e1, e2⟩
 ·rw [hv]; exact ⟨by show 0 < Na.top; exact Nat.pos_of_ne_zero (by decide +kernel), by show 0 < Na.top; exact Nat.pos_of_ne_zero (by decide +kernel)⟩
 ·rw [hv]; exact frM_top hx hy
section
variable {w0 w w' : World} {g : Option Nat} {M : List (Nat × Value)} {L : List Ob} {O : List Rw} {A A2 : Option Addr} {n c m c2 x y : Nat} {p q : List Int}
theorem qvalid_b (h : Ow w0 w g M L O) (i j : Nat) (hi : L[i]? = some ⟨A, n, c, ints p⟩) (hj : L[j]? = some ⟨A2, m, c2, ints q⟩) (ht : Tab w0) :
  Calls Tryz.prog 76 #[.agg #[.slice A n c, .slice A2 m c2]] w fun e w' => e = .returned (.bool (rv p q)) ∧ Below w.heap.size w w' := by
 have a := h.raw hi
 have b := h.raw hj
 exact qvalid_any A A2 n c m c2 p q w a.1 b.1 a.2.1 b.2.1 a.2.2.2 b.2.2.2 a.2.2.1 b.2.2.1 (ht.below h.below)
theorem qvalid_ow (h : Ow w0 w g M L O) (i j : Nat) (hi : L[i]? = some ⟨A, n, c, ints p⟩) (hj : L[j]? = some ⟨A2, m, c2, ints q⟩) (ht : Tab w0) :
  Calls Tryz.prog 76 #[.agg #[.slice A n c, .slice A2 m c2]] w fun e w' => e = .returned (.bool (rv p q)) ∧ Ow w0 w' g M L O :=
 (qvalid_b h i j hi hj ht).mono fun e w' ⟨he, hb⟩ => ⟨he, h.go hb⟩
theorem qmake_r (h : Ow w0 w g M L O) (i j : Nat) (hi : L[i]? = some ⟨A, n, c, ints p⟩) (hj : L[j]? = some ⟨A2, m, c2, ints q⟩) (ht : Tab w0) :
  Calls Tryz.prog 99 #[.agg #[.slice A n c], .agg #[.slice A2 m c2]] w (ResF w (makeF p q)) := by
 have a := h.raw hi
 have b := h.raw hj
 exact qmake_any A A2 n c m c2 p q w a.1 b.1 a.2.1 b.2.1 a.2.2.2 b.2.2.2 a.2.2.1 b.2.2.1 (ht.below h.below)
theorem qrmake_r (h : Ow w0 w g M L O) (i j : Nat) (hi : L[i]? = some ⟨A, n, c, ints p⟩) (hj : L[j]? = some ⟨A2, m, c2, ints q⟩) :
  Calls Tryz.prog 48 #[.agg #[.slice A n c], .agg #[.slice A2 m c2]] w (ResF w (makeF p q)) := by
 have a := h.raw hi
 have b := h.raw hj
 exact qrmake_any A A2 n c m c2 p q w a.1 b.1 a.2.1 b.2.1 a.2.2.2 b.2.2.2 a.2.2.1 b.2.2.1
theorem qmake_ow (h : Ow w0 w g M L O) (i j : Nat) (hi : L[i]? = some ⟨A, n, c, ints p⟩) (hj : L[j]? = some ⟨A2, m, c2, ints q⟩) (ht : Tab w0) :
  Calls Tryz.prog 99 #[.agg #[.slice A n c], .agg #[.slice A2 m c2]] w (GotF w0 g M L O (makeF p q)) :=
 (qmake_r h i j hi hj ht).mono fun e w' hr => got_f h (makeF_top p q).1 (makeF_top p q).2 hr
theorem qrmake_ow (h : Ow w0 w g M L O) (i j : Nat) (hi : L[i]? = some ⟨A, n, c, ints p⟩) (hj : L[j]? = some ⟨A2, m, c2, ints q⟩) :
  Calls Tryz.prog 48 #[.agg #[.slice A n c], .agg #[.slice A2 m c2]] w (GotF w0 g M L O (makeF p q)) :=
 (qrmake_r h i j hi hj).mono fun e w' hr => got_f h (makeF_top p q).1 (makeF_top p q).2 hr
end
section
variable {w0 w w' : World} {g : Option Nat} {M : List (Nat × Value)} {L : List Ob} {O : List Rw} {A A2 A3 A4 : Option Addr} {n c m c2 n3 c3 n4 c4 : Nat}
set_option maxHeartbeats 4000000 in
theorem qsame_b (h : Ow w0 w g M L O) (i j k l : Nat) {xs ys : List Nat} (hi : L[i]? = some ⟨A, n, c, nats xs⟩) (hj : L[j]? = some ⟨A2, m, c2, nats ys⟩) (hk : L[k]? = some ⟨A3, n3, c3, nats xs⟩) (hl : L[l]? = some ⟨A4, n4, c4, nats ys⟩) :
  Calls Tryz.prog 67 #[.agg #[.slice A n c, .slice A2 m c2], .agg #[.slice A3 n3 c3, .slice A4 n4 c4]] w fun e w' => e = .returned (.bool true) ∧ Below w.heap.size w w' := by
 have H0 := ((((((Ow.of (St.refl w)).old (h.sl hi).2.2.2 (h.sl hi).1 (h.sl hi).2.1 (h.sl hi).2.2.1).old (h.sl hj).2.2.2 (h.sl hj).1 (h.sl hj).2.1 (h.sl hj).2.2.1).old (h.sl hk).2.2.2 (h.sl hk).1 (h.sl hk).2.1 (h.sl hk).2.2.1).old (h.sl hl).2.2.2 (h.sl hl).1 (h.sl hl).2.1 (h.sl hl).2.2.1).pair (.slice A n c) (.slice A2 m c2) 27).pair (.slice A3 n3 c3) (.slice A4 n4 c4) 27
 simp only [List.nil_append, List.cons_append, World.size_alloc] at H0
 have hc0 := H0.p0 0 rfl
 have hc1 := H0.p0 1 rfl
 have HV := Lib.hid (ag_same H0 0 2 rfl rfl)
 clear H0 h hi hj hk hl
 go_enter Tryz.func67, Tryz.ntmps67
 go_wp2_with fail
 refine HV.out.mono ?_
 rintro e w1 ⟨rfl, H1⟩
 have hc2 := H1.p1 0 rfl
 have hc3 := H1.p1 1 rfl
 have HK := Lib.hid (ag_same H1 1 3 rfl rfl)
 clear HV H1 hc0 hc1
 go_wp2_with fail
 refine HK.out.mono ?_
 rintro e w1 ⟨rfl, H1⟩
 have HB := Lib.hid H1.below
 clear HK H1
 go_wp2_with fail
 go_ret
 exact ⟨rfl, HB.out⟩
theorem qsame_ow (h : Ow w0 w g M L O) (i j k l : Nat) {xs ys : List Nat} (hi : L[i]? = some ⟨A, n, c, nats xs⟩) (hj : L[j]? = some ⟨A2, m, c2, nats ys⟩) (hk : L[k]? = some ⟨A3, n3, c3, nats xs⟩) (hl : L[l]? = some ⟨A4, n4, c4, nats ys⟩) :
  Calls Tryz.prog 67 #[.agg #[.slice A n c, .slice A2 m c2], .agg #[.slice A3 n3 c3, .slice A4 n4 c4]] w fun e w' => e = .returned (.bool true) ∧ Ow w0 w' g M L O :=
 (qsame_b h i j k l hi hj hk hl).mono fun e w' ⟨he, hb⟩ => ⟨he, h.go hb⟩
end
def BX (L : Nat → Bool) (a s : Nat) (v u : Value) (ps : List (Nat × Value)) : Prop :=
 L a = true → ∃ (t b : Nat) (x : Value), v = .pointer (some ⟨b, 0, none⟩) ∧ ps[t]? = some (b, x) ∧ (L s = false → x = .slice none 0 0) ∧ (L s = true → u = .agg #[x])
def GX (L : Nat → Bool) (k : Nat) (u : Value) (X : Nat) (Ls : List Ob) : Prop :=
 L k = true → ∃ (t : Nat) (B : Option Addr) (m d : Nat), u = .agg #[.slice B m d] ∧ Ls[t]? = some ⟨B, m, d, nats (Na.dig X)⟩
theorem GX.more {L : Nat → Bool} {k : Nat} {u : Value} {X : Nat} {Ls l : List Ob} (h : GX L k u X Ls) : GX L k u X (Ls ++ l) := fun e => by
 obtain ⟨t, B, m, d, h1, h2⟩ := h e
 exact ⟨t, B, m, d, h1, by rw [List.getElem?_append_left (get_lt h2)]; exact h2⟩
theorem BX.more {L : Nat → Bool} {a s : Nat} {v u : Value} {ps l : List (Nat × Value)} (h : BX L a s v u ps) : BX L a s v u (ps ++ l) := fun e => by
 obtain ⟨t, b, x, h1, h2, h3⟩ := h e
 exact ⟨t, b, x, h1, by rw [List.getElem?_append_left (get_lt h2)]; exact h2, h3⟩
theorem BX.set {L : Nat → Bool} {a s : Nat} {v v' u : Value} {ps : List (Nat × Value)} (h : BX L a s v u ps) {t b : Nat} {x y : Value} (ht : ps[t]? = some (b, x)) (e : v' = .pointer (some ⟨b, 0, none⟩)) (hne : L a = true → v ≠ v') : BX L a s v u (ps.set t (b, y)) := fun hl => by
 obtain ⟨t', b', x', h1, h2, h3⟩ := h hl
 refine ⟨t', b', x', h1, ?_, h3⟩
 rw [List.getElem?_set_ne]
 ·exact h2
 ·rintro rfl
  rw [ht] at h2
  obtain ⟨rfl, rfl⟩ := Prod.mk.inj (Option.some.inj h2)
  exact hne hl (by rw [h1, e])
section
variable {w0 W : World} {g : Option Nat} {M ps : List (Nat × Value)} {s : Nat × Value} {Ls : List Ob} {O : List Rw}
end
structure Four where
 A : Option Addr
 n : Nat
 c : Nat
 A2 : Option Addr
 m : Nat
 c2 : Nat
 A3 : Option Addr
 n3 : Nat
 c3 : Nat
 A4 : Option Addr
 n4 : Nat
 c4 : Nat
def doE (e0 : Int) (v : Nat) : Int := if e0 = 0 then resE v else e0
def doL (e0 : Int) (v : Nat) : List Nat := if e0 = 0 then resL v else []
theorem resE_zero {v : Nat} (h : resE v = 0) : v < Na.top := by
 unfold resE at h
 split at h
 ·assumption
 ·cases h
theorem resE_nt {v : Nat} (h : ¬ v < Na.top) : resE v = 3 := if_neg h
theorem doE_zero {e : Int} {v : Nat} (h : doE e v = 0) : e = 0 ∧ v < Na.top := by
 unfold doE at h
 split at h
 ·exact ⟨by assumption, resE_zero h⟩
 ·exact absurd h (by assumption)
theorem doL_of {v : Nat} (h : v < Na.top) : doL 0 v = Na.dig v := by rw [doL, if_pos rfl, resL_ok h]
theorem doE_of {v : Nat} (h : v < Na.top) : doE 0 v = 0 := by rw [doE, if_pos rfl, resE_ok h]
theorem doE_no {v : Nat} (h : ¬ v < Na.top) : doE 0 v = 3 := by rw [doE, if_pos rfl, resE_nt h]
theorem doE_on {e : Int} (v : Nat) (h : e ≠ 0) : doE e v = e := if_neg h
section
variable {w0 w w' : World} {g : Option Nat} {M M2 : List (Nat × Value)} {L : List Ob} {O : List Rw} {A A2 A3 A4 : Option Addr} {b n c m c2 n3 c3 n4 c4 x y : Nat} {p q r s : List Int}
end
def GY (L : Nat → Bool) (k : Nat) (u : Value) (l : List Nat) (Ls : List Ob) : Prop :=
 L k = true → ∃ (t : Nat) (B : Option Addr) (m d : Nat), u = .agg #[.slice B m d] ∧ Ls[t]? = some ⟨B, m, d, nats l⟩
theorem GY.more {L : Nat → Bool} {k : Nat} {u : Value} {l0 : List Nat} {Ls l : List Ob} (h : GY L k u l0 Ls) : GY L k u l0 (Ls ++ l) := fun e => by
 obtain ⟨t, B, m, d, h1, h2⟩ := h e
 exact ⟨t, B, m, d, h1, by rw [List.getElem?_append_left (get_lt h2)]; exact h2⟩
structure KO (L : Nat → Bool) (X Y : Nat) (er : Int) (l4 l9 : List Nat) : Prop where
 a : er = 0 → L 4 = true → X < Na.top ∧ l4 = Na.dig X
 b : er = 0 → L 9 = true → Y < Na.top ∧ l9 = Na.dig Y
 no : er ≠ 0 → er = 3 ∧ ¬(X < Na.top ∧ Y < Na.top)
theorem KO.c4 {L : Nat → Bool} {X Y : Nat} {er : Int} {l4 l9 : List Nat} (h : KO L X Y er l4 l9) : KO (dset L 4) X Y (doE er X) (doL er X) l9 := by
 refine ⟨fun e _ => ?_, fun e e2 => h.b (doE_zero e).1 e2, fun e => ?_⟩
 ·obtain ⟨rfl, h1⟩ := doE_zero e
  exact ⟨h1, doL_of h1⟩
 ·by_cases h0 : er = 0
  ·subst h0
   by_cases h1 : X < Na.top
   ·exact absurd (doE_of h1) e
   ·exact ⟨doE_no h1, fun h => h1 h.1⟩
  ·rw [doE_on _ h0]
   exact h.no h0
theorem KO.c9 {L : Nat → Bool} {X Y : Nat} {er : Int} {l4 l9 : List Nat} (h : KO L X Y er l4 l9) : KO (dset L 9) X Y (doE er Y) l4 (doL er Y) := by
 refine ⟨fun e e2 => h.a (doE_zero e).1 e2, fun e _ => ?_, fun e => ?_⟩
 ·obtain ⟨rfl, h1⟩ := doE_zero e
  exact ⟨h1, doL_of h1⟩
 ·by_cases h0 : er = 0
  ·subst h0
   by_cases h1 : Y < Na.top
   ·exact absurd (doE_of h1) e
   ·exact ⟨doE_no h1, fun h => h1 h.2⟩
  ·rw [doE_on _ h0]
   exact h.no h0
structure CX (w0 : World) (g : Option Nat) (M : List (Nat × Value)) (s pa pb : Nat) (F : Four) (X Y : Nat) (Lh : List Ob) (O : List Rw) (L : Nat → Bool) (u0 u1 u2 u3 u4 u5 u6 u7 u8 u9 v1 v2 : Value) (ps : List (Nat × Value)) (Ls : List Ob) (er : Int) (l4 l9 : List Nat) (W : World) : Prop where
 ow : Ow w0 W g (M ++ (s, .int .i64 er) :: ps) (Lh ++ Ls) O
 h0 : L 0 = true → u0 = .pointer (some ⟨pa, 0, none⟩)
 h1 : L 1 = true → u1 = .agg #[.slice F.A F.n F.c]
 h2 : L 2 = true → u2 = .pointer (some ⟨pb, 1, none⟩)
 h3 : L 3 = true → u3 = .agg #[.slice F.A4 F.n4 F.c4]
 h5 : L 5 = true → u5 = .pointer (some ⟨pb, 0, none⟩)
 h6 : L 6 = true → u6 = .agg #[.slice F.A3 F.n3 F.c3]
 h7 : L 7 = true → u7 = .pointer (some ⟨pa, 1, none⟩)
 h8 : L 8 = true → u8 = .agg #[.slice F.A2 F.m F.c2]
 h4 : GY L 4 u4 l4 Ls
 h9 : GY L 9 u9 l9 Ls
 b1 : BX L 10 12 v1 u4 ps
 b2 : BX L 11 13 v2 u9 ps
 ne : L 10 = true → L 11 = true → v1 ≠ v2
 s1 : L 12 = true → L 4 = true ∧ L 10 = true
 s2 : L 13 = true → L 9 = true ∧ L 11 = true
 ko : KO L X Y er l4 l9
section
variable {w0 : World} {g : Option Nat} {M : List (Nat × Value)} {s pa pb : Nat} {F : Four} {X Y : Nat} {Lh : List Ob} {O : List Rw} {L : Nat → Bool} {u0 u1 u2 u3 u4 u5 u6 u7 u8 u9 v1 v2 : Value} {ps : List (Nat × Value)} {Ls : List Ob} {er : Int} {l4 l9 : List Nat} {W W' : World}
theorem CX.c4 (h : CX w0 g M s pa pb F X Y Lh O L u0 u1 u2 u3 u4 u5 u6 u7 u8 u9 v1 v2 ps Ls er l4 l9 W) (hf : L 4 = false) {B : Option Addr} {m d : Nat} (ho : Ow w0 W' g (M ++ (s, .int .i64 (doE er X)) :: ps) (Lh ++ Ls ++ [⟨B, m, d, nats (doL er X)⟩]) O) :
  CX w0 g M s pa pb F X Y Lh O (dset L 4) u0 u1 u2 u3 (.agg #[.slice B m d]) u5 u6 u7 u8 u9 v1 v2 ps (Ls ++ [⟨B, m, d, nats (doL er X)⟩]) (doE er X) (doL er X) l9 W' :=
 ⟨by rw [← List.append_assoc]; exact ho, h.h0, h.h1, h.h2, h.h3, h.h5, h.h6, h.h7, h.h8, fun _ => ⟨Ls.length, B, m, d, rfl, by rw [List.getElem?_append_right (Nat.le_refl _), Nat.sub_self]; rfl⟩, h.h9.more, fun e => by
  obtain ⟨t, b, x, k1, k2, k3, k4⟩ := h.b1 e
  exact ⟨t, b, x, k1, k2, k3, fun e2 => by have := (h.s1 e2).1; rw [hf] at this; cases this⟩, h.b2, h.ne, fun e => (by have := (h.s1 e).1; rw [hf] at this; cases this), h.s2, h.ko.c4⟩
theorem CX.c9 (h : CX w0 g M s pa pb F X Y Lh O L u0 u1 u2 u3 u4 u5 u6 u7 u8 u9 v1 v2 ps Ls er l4 l9 W) (hf : L 9 = false) {B : Option Addr} {m d : Nat} (ho : Ow w0 W' g (M ++ (s, .int .i64 (doE er Y)) :: ps) (Lh ++ Ls ++ [⟨B, m, d, nats (doL er Y)⟩]) O) :
  CX w0 g M s pa pb F X Y Lh O (dset L 9) u0 u1 u2 u3 u4 u5 u6 u7 u8 (.agg #[.slice B m d]) v1 v2 ps (Ls ++ [⟨B, m, d, nats (doL er Y)⟩]) (doE er Y) l4 (doL er Y) W' :=
 ⟨by rw [← List.append_assoc]; exact ho, h.h0, h.h1, h.h2, h.h3, h.h5, h.h6, h.h7, h.h8, h.h4.more, fun _ => ⟨Ls.length, B, m, d, rfl, by rw [List.getElem?_append_right (Nat.le_refl _), Nat.sub_self]; rfl⟩, h.b1, fun e => by
  obtain ⟨t, b, x, k1, k2, k3, k4⟩ := h.b2 e
  exact ⟨t, b, x, k1, k2, k3, fun e2 => by have := (h.s2 e2).1; rw [hf] at this; cases this⟩, h.ne, h.s1, fun e => (by have := (h.s2 e).1; rw [hf] at this; cases this), h.ko.c9⟩
end
section
variable {w0 w w' : World} {g : Option Nat} {M M2 : List (Nat × Value)} {L : List Ob} {O : List Rw} {A A2 A3 A4 : Option Addr} {b n c m c2 n3 c3 n4 c4 x y : Nat} {p q r s : List Int}
end
theorem top_ten {x k : Nat} (hk : k = 24 * 200) (h : x < Na.top) : x < 10 ^ k := by
 have h1 : Na.top ≤ (10 ^ 24) ^ 200 := Nat.pow_le_pow_left (by decide) 200
 rw [← Nat.pow_mul, ← hk] at h1
 exact Nat.lt_of_lt_of_le h h1
theorem text_size {x : Nat} (h : x < Na.top) : (str (De.text x)).size ≤ 4801 := by
 rw [str_size]
 unfold De.text
 split
 ·decide
 ·rw [List.length_reverse, List.length_map]
  obtain ⟨k, hk⟩ : ∃ k, k = 24 * 200 := ⟨_, rfl⟩
  exact Nat.le_trans ((De.dig_len_iff x k).2 (top_ten hk h)) (by omega)
section
variable {w0 w w' : World} {g : Option Nat} {M M2 : List (Nat × Value)} {L : List Ob} {O : List Rw} {A A2 : Option Addr} {b n c m c2 x y : Nat}
theorem prt_d (h : Ow w0 w g M L O) (i : Nat) (hi : L[i]? = some ⟨A, n, c, nats (Na.dig x)⟩) (hx : x < Na.top) :
  Calls Tryz.prog 57 #[.agg #[.slice A n c]] w fun e w' => e = .returned (.string (str (De.text x))) ∧ Below w.heap.size w w' := by
 have := ag_prt_b (zs := Na.up (Na.dig x)) h i (by rw [nats_up]; exact hi)
 unfold prtL at this
 rw [Na.vld_dig hx, num_dig] at this
 exact this
theorem prt_d_ow (h : Ow w0 w g M L O) (i : Nat) (hi : L[i]? = some ⟨A, n, c, nats (Na.dig x)⟩) (hx : x < Na.top) :
  Calls Tryz.prog 57 #[.agg #[.slice A n c]] w fun e w' => e = .returned (.string (str (De.text x))) ∧ Ow w0 w' g M L O :=
 (prt_d h i hi hx).mono fun e w' ⟨he, hb⟩ => ⟨he, h.go hb⟩
set_option maxHeartbeats 4000000 in
theorem qprint_ok (h : Ow w0 w g M L O) (i j : Nat) (hi : L[i]? = some ⟨A, n, c, nats (Na.dig x)⟩) (hj : L[j]? = some ⟨A2, m, c2, nats (Na.dig y)⟩) (ht : Tab w0) (hx : x < Na.top) (hy : y < Na.top) (h1 : rv (Na.up (Na.dig x)) (Na.up (Na.dig y)) = true) :
  Calls Tryz.prog 58 #[.agg #[.slice A n c, .slice A2 m c2]] w fun e w' => e = .returned (.string (str (De.text x ++ 47 :: De.text y))) ∧ Ow w0 w' g M L O := by
 have H0 := h.pair (.slice A n c) (.slice A2 m c2) 27
 have a0 := H0.p0 (O.length + 0) (by rw [get_r]; rfl)
 have a1 := H0.p1 (O.length + 0) (by rw [get_r]; rfl)
 have HV := Lib.hid (qvalid_ow (p := Na.up (Na.dig x)) (q := Na.up (Na.dig y)) H0 i j (by rw [nats_up]; exact hi) (by rw [nats_up]; exact hj) ht)
 rw [h1] at HV
 have HI := Lib.hid (And.intro hi hj)
 have HX := Lib.hid (And.intro hx hy)
 obtain ⟨sx, hsx⟩ : ∃ s, str (De.text x) = s := ⟨_, rfl⟩
 obtain ⟨sy, hsy⟩ : ∃ s, str (De.text y) = s := ⟨_, rfl⟩
 have hz1 : sx.size ≤ 4801 := by rw [← hsx]; exact text_size hx
 have hz2 : sy.size ≤ 4801 := by rw [← hsy]; exact text_size hy
 have hz3 : ¬ 9223372036854775807 < sx.size + 1 := by omega
 have hz4 : ¬ 9223372036854775807 < sx.size + 1 + sy.size := by omega
 clear hz1 hz2
 have HS : Hid (sx ++ ⟨#[47]⟩ ++ sy = str (De.text x ++ 47 :: De.text y)) := by
  unfold Hid
  rw [← hsx, ← hsy, show (⟨#[47]⟩ : ByteArray) = str [47] from rfl, str_append, str_append, List.append_assoc]; rfl
 have HSx := Lib.hid hsx
 have HSy := Lib.hid hsy
 clear h H0 hi hj h1 hx hy hsx hsy ht
 go_enter Tryz.func58, Tryz.ntmps58
 go_wp2_with fail
 refine HV.out.mono ?_
 rintro e w1 ⟨rfl, H1⟩
 have HF := Lib.hid H1
 have HD := Lib.hid H1.drew
 have a0 := HD.out.p0 (O.length + 0) (by rw [get_r]; rfl)
 have a1 := HD.out.p1 (O.length + 0) (by rw [get_r]; rfl)
 have cP1 := Lib.hid (prt_d_ow HD.out i HI.out.1 HX.out.1)
 rw [HSx.out] at cP1
 clear H1 HV HF
 go_upto_region 3 with (fail)
 go_region_held3 (fun W => W.cell? ⟨w.heap.size, 0, none⟩ = some (.slice A n c) ∧ W.cell? ⟨w.heap.size, 1, none⟩ = some (.slice A2 m c2)) (first | exact ⟨a0, a1⟩ | exact ⟨how.p0 (O.length + 0) (by rw [get_r]; rfl), how.p1 (O.length + 0) (by rw [get_r]; rfl)⟩ | exact ⟨how2.p0 (O.length + 0) (by rw [get_r]; rfl), how2.p1 (O.length + 0) (by rw [get_r]; rfl)⟩) ((first | (go_at_call 57; (with_reducible refine cP1.out.mono ?_); rintro e v2 ⟨rfl, how⟩; have cP2 := Lib.hid (prt_d_ow how j HI.out.2 HX.out.2); rw [HSy.out] at cP2) | (go_at_call 57; (with_reducible refine cP2.out.mono ?_); rintro e v3 ⟨rfl, how2⟩)))
 have HZ := Lib.hid how2.fewO
 clear a0 a1 cP1 cP2 how how2
 go_wp2_with fail
 go_ret
 rw [← HS.out]
 exact ⟨rfl, HZ.out⟩
end
section
variable {w0 w w' : World} {g : Option Nat} {M M2 : List (Nat × Value)} {L : List Ob} {O : List Rw} {A A2 A3 A4 : Option Addr} {b n c m c2 n3 c3 n4 c4 x y : Nat} {p q r s : List Int}
end
section
variable {w0 w w' : World} {g : Option Nat} {M : List (Nat × Value)} {L : List Ob} {O : List Rw}
end
theorem tiny_top {x : Nat} (h : x ≤ 9223372036854775807) : x < Na.top := Nat.lt_of_le_of_lt h (by decide +kernel)
end Go.Proofs.YtenokdhldngkgaaGreatDoor
namespace Go.Proofs.YtenokdhldngkgaaGreatDoor
set_option linter.unusedVariables false
set_option maxRecDepth 100000
section
variable {P : Program} {md : Region.Mode} {ops : Array Oper} {Q : Exit → Act → World → Prop}
def backE (md : Region.Mode) (ops : Array Oper) : Bool := (List.range ops.size).all fun i => ((ops[i]?).map fun o => o.after.all fun e => !Region.binds md e || decide (e.on < i)).getD true
theorem ready_none4 {l : Array Bool} (hb : backE md ops = true) (h : Region.ready md ops l = []) : ∀ j, j < ops.size → l.getD j true = true := by
 intro j
 induction j using Nat.strongRecOn with
 | _ j ih =>
  intro hj
  cases hl : l.getD j true with
  | true => rfl
  | false =>
   exfalso
   have : j ∈ Region.ready md ops l := by
    unfold Region.ready
    rw [List.mem_filter]
    refine ⟨List.mem_range.2 hj, ?_⟩
    rw [hl]
    have ho : ops[j]? = some ops[j] := Array.getElem?_eq_getElem hj
    have hbj := List.all_eq_true.1 hb j (List.mem_range.2 hj)
    rw [ho] at hbj
    have hbj' : (ops[j].after.all fun e => !Region.binds md e || decide (e.on < j)) = true := hbj
    rw [ho]
    show (!false && (ops[j].after.all fun e => !Region.binds md e || l.getD e.on false)) = true
    rw [Bool.not_false, Bool.true_and, Array.all_eq_true_iff_forall_mem]
    intro e he
    have h50 := Array.all_eq_true_iff_forall_mem.1 hbj' e he
    cases hbi : Region.binds md e with
    | false => rfl
    | true =>
    rw [hbi] at h50
    have h5 : e.on < j := of_decide_eq_true h50
    have h6 := ih e.on h5 (by omega)
    have h7 : l.getD e.on false = true := by
     rw [Array.getD_eq_getD_getElem?] at h6 ⊢
     rcases Nat.lt_or_ge e.on l.size with h8 | h8
     ·rw [Array.getElem?_eq_getElem h8] at h6 ⊢; exact h6
     ·exfalso
      have h9 : l.size ≤ j := by omega
      rw [Array.getD_eq_getD_getElem?, Array.getElem?_eq_none h9] at hl
      cases hl
    rw [h7, Bool.or_true]
   rw [h] at this
   cases this
theorem reg_inv_go4 (Inv : (Nat → Bool) → Act → World → Prop) (hb : backE md ops = true)
  (hstep : ∀ j L a w, j < ops.size → L j = false → (∀ o, ops[j]? = some o → ∀ e ∈ o.after, Region.binds md e = true → L e.on = true) → Inv L a w → wpOp P ops Q j (Inv (dset L j)) a w)
  (hend : ∀ L a w, (∀ i, i < ops.size → L i = true) → Inv L a w → Q .normal a w) : ∀ (n : Nat) (l : Array Bool) (a : Act) (w : World), l.size = ops.size → (l.toList.countP (· == false)) ≤ n →
   Inv (fun i => l.getD i false) a w → wpAny P md ops Q n l a w := by
 intro n
 have fin : ∀ (l : Array Bool) (a : Act) (w : World), l.size = ops.size → Inv (fun i => l.getD i false) a w → Region.ready md ops l = [] → Q .normal a w := fun l a w hs hi hr => by
  refine hend _ a w (fun i hi => ?_) hi
  have h1 := ready_none4 hb hr i hi
  rw [Array.getD_eq_getD_getElem?] at h1 ⊢
  rw [Array.getElem?_eq_getElem (by omega)] at h1 ⊢
  exact h1
 induction n with
 | zero =>
  intro l a w hs hc hi
  have hr : Region.ready md ops l = [] := by
   cases e : Region.ready md ops l with
   | nil => rfl
   | cons j r =>
    exfalso
    obtain ⟨h1, h2, _⟩ := mem_ready (md := md) (ops := ops) (l := l) (j := j) (by rw [e]; exact List.mem_cons_self)
    have h3 : l.toList.countP (· == false) = 0 := by omega
    rw [List.countP_eq_zero] at h3
    rw [Array.getD_eq_getD_getElem?, Array.getElem?_eq_getElem (by omega)] at h2
    have h4 : j < l.size := by omega
    exact h3 _ (Array.mem_toList_iff.2 (Array.getElem_mem h4)) (by simpa using h2)
  exact ⟨hr, fin l a w hs hi hr⟩
 | succ n ih =>
  intro l a w hs hc hi
  refine ⟨fin l a w hs hi, fun j hj => ?_⟩
  obtain ⟨h1, h2, h3⟩ := mem_ready hj
  have hjl : j < l.size := by omega
  have h2' : l[j] = false := by rw [Array.getD_eq_getD_getElem?, Array.getElem?_eq_getElem hjl] at h2; exact h2
  have e1 : (fun i => (l.setIfInBounds j true).getD i false) = dset (fun i => l.getD i false) j := by
   funext i
   unfold dset
   by_cases e : i = j
   ·subst e
    rw [if_pos rfl, Array.getD_eq_getD_getElem?, Array.getElem?_setIfInBounds_self_of_lt hjl]; rfl
   ·rw [if_neg e, Array.getD_eq_getD_getElem?, Array.getElem?_setIfInBounds_ne (fun e' => e e'.symm)]
    exact (Array.getD_eq_getD_getElem? ..).symm
  refine wpOp_mono (fun a' w' h => ih _ a' w' (by rw [Array.size_setIfInBounds]; exact hs) ?_ (by rw [e1]; exact h)) (hstep j _ a w h1 (by show l.getD j false = false; rw [Array.getD_eq_getD_getElem?, Array.getElem?_eq_getElem hjl]; exact h2') h3 hi)
  have h5 : (l.setIfInBounds j true).toList = l.toList.set j true := by simp
  rw [h5]
  have key : ∀ (xs : List Bool) (j : Nat), xs[j]? = some false → (xs.set j true).countP (· == false) + 1 = xs.countP (· == false) := by
   intro xs
   induction xs with
   | nil => intro j h; simp at h
   | cons x xs ih2 =>
    intro j h
    cases j with
    | zero =>
     simp at h
     subst h
     simp
    | succ j =>
     simp at h
     have := ih2 j h
     simp only [List.set_cons_succ, List.countP_cons]
     omega
  have := key l.toList j (by rw [Array.getElem?_toList, Array.getElem?_eq_getElem hjl, h2'])
  omega
theorem reg_inv4 {id : Nat} {a : Act} {w : World} (Inv : (Nat → Bool) → Act → World → Prop) (hm : P.follows .mixedOrders = true) (hb : backE .any ops = true)
  (h0 : Inv (fun _ => false) a w.drew)
  (hstep : ∀ j L a w, j < ops.size → L j = false → (∀ o, ops[j]? = some o → ∀ e ∈ o.after, Region.binds .any e = true → L e.on = true) → Inv L a w → wpOp P ops Q j (Inv (dset L j)) a w)
  (hend : ∀ L a w, (∀ i, i < ops.size → L i = true) → Inv L a w → Q .normal a w) : (Code.region id ops true).wp P Q a w := by
 refine wp_region_any hm (reg_inv_go4 Inv hb hstep hend _ _ _ _ (by simp) ?_ ?_)
 ·refine Nat.le_trans List.countP_le_length ?_
  simp
 ·have : (fun i => (Array.replicate ops.size false).getD i false) = fun _ => false := by
   funext i
   rw [Array.getD_eq_getD_getElem?]
   rcases Nat.lt_or_ge i ops.size with h | h
   ·rw [Array.getElem?_eq_getElem (by simpa using h)]; simp
   ·rw [Array.getElem?_eq_none (by simpa using h)]; rfl
  rw [this]
  exact h0
theorem reg_inv24 {id : Nat} {a : Act} {w : World} (I : Act → (Nat → Bool) → Act → World → Prop) (hm : P.follows .mixedOrders = true) (hb : backE .any ops = true)
  (h0 : I a (fun _ => false) a w.drew)
  (hstep : ∀ j L b v, j < ops.size → L j = false → (∀ i, (preds .any ops j).elem i = true → L i = true) → I a L b v → wpOp P ops Q j (I a (dset L j)) b v)
  (hend : ∀ L b v, (∀ i, i < ops.size → L i = true) → I a L b v → Q .normal b v) : (Code.region id ops true).wp P Q a w :=
 reg_inv4 (I a) hm hb h0 (fun j L b v hj hf hd hi => hstep j L b v hj hf (mem_preds (Array.getElem?_eq_getElem hj) (fun e he hb => hd _ (Array.getElem?_eq_getElem hj) e he hb)) hi) hend
theorem reg_inv34 {id : Nat} {a : Act} {w : World} (I : Act → (Nat → Bool) → Act → World → Prop) (hm : P.follows .mixedOrders = true) (hb : backE .any ops = true)
  (h0 : I a (fun _ => false) a w.drew)
  (hstep : ∀ j L b v, j < ops.size → L j = false → Closed ops L → (∀ i, (preds .any ops j).elem i = true → L i = true) → I a L b v → wpOp P ops Q j (I a (dset L j)) b v)
  (hend : ∀ L b v, (∀ i, i < ops.size → L i = true) → I a L b v → Q .normal b v) : (Code.region id ops true).wp P Q a w := by
 refine reg_inv24 (fun a L b v => Closed ops L ∧ I a L b v) hm hb ⟨(fun j i h => nomatch h), h0⟩ (fun j L b v hj hf hp hi => ?_) (fun L b v hl hi => hend L b v hl hi.2)
 refine wpOp_mono (fun a' w' h => ⟨fun j' i' h1 h2 => ?_, h⟩) (hstep j L b v hj hf hi.1 hp hi.2)
 unfold dset at h1 ⊢
 by_cases e : i' = j
 ·rw [if_pos e]
 ·rw [if_neg e]
  by_cases e2 : j' = j
  ·subst e2
   exact hp i' h2
  ·rw [if_neg e2] at h1
   exact hi.1 j' i' h1 h2
end
end Go.Proofs.YtenokdhldngkgaaGreatDoor

/- The contracts of grow and Choose. -/
import Derived.Test.YtnfjnlnphdmdmaaDoorNatF
import Derived.Test.YtnfjnlnphdmdmaaDoorNatS
import Derived.Test.YtnfjnlnphdmdmaaDoorNp
namespace Go.Proofs.YtnfjnlnphdmdmaaDoor
open Go.RowKit
set_option linter.unusedVariables false
set_option maxRecDepth 100000
def NGr (w : World) (base : Nat) (L : List Nat) (A : Option Addr) (n c t m0 : Nat) (i mr : Value) (wr : World) : Prop :=
  ∃ (k r : Nat) (o : List Nat), k ≤ n ∧ i = .int .i64 (k : Int) ∧ mr = .int .i64 (r : Int) ∧ r ≤ 1152921504606846976 ∧ Hid (o.length = k ∧ Na.Lim o ∧ Na.val o + 16777216 ^ k * r = Na.val (L.take k) * t + m0) ∧ wr.ownsRow base 3 1 (.slice A n c) n (nats (o ++ L.drop k)) ∧ Below base w wr ∧ base ≤ wr.heap.size
/-- limbs that were put on do not end in zero -/
def Tight (n : Nat) (o : List Nat) : Prop := o.length = n ∨ ∃ a, o[o.length - 1]? = some a ∧ a ≠ 0
theorem tight_put (n : Nat) (o : List Nat) (d : Nat) (h : d ≠ 0) : Tight n (o ++ [d]) := .inr ⟨d, by rw [List.length_append, List.length_singleton, Nat.add_sub_cancel, List.getElem?_append_right (Nat.le_refl _), Nat.sub_self]; rfl, h⟩
def NGm (w : World) (base : Nat) (V n : Nat) (mr l : Value) (wr : World) : Prop :=
  ∃ (r : Nat) (A : Option Addr) (n' c' j : Nat) (o : List Nat), mr = .int .i64 (r : Int) ∧ l = .slice A n' c' ∧ n' = n + j ∧ ((j = 0 ∧ r ≤ 1152921504606846976) ∨ (j = 1 ∧ r ≤ 68719476736) ∨ (j = 2 ∧ r ≤ 4096) ∨ (j = 3 ∧ r = 0)) ∧
    Hid (o.length = n' ∧ Na.Lim o ∧ Na.val o + 16777216 ^ n' * r = V) ∧ Hid (r = 0 → Tight n o) ∧ wr.ownsRow base 3 1 (.slice A n' c') n' (nats o) ∧ Below base w wr ∧ base ≤ wr.heap.size
/-- what a growth leaves -/
def Grew (w : World) (base n V : Nat) (e : Ending) (w' : World) : Prop :=
  ∃ (A : Option Addr) (n' c' : Nat) (o : List Nat), e = .returned (.slice A n' c') ∧ o.length = n' ∧ n' ≤ n + 3 ∧ Na.Lim o ∧ Na.val o = V ∧ w'.ownsRow base 3 1 (.slice A n' c') n' (nats o) ∧ Below base w w' ∧ base ≤ w'.heap.size ∧ Tight n o
set_option maxHeartbeats 2000000 in
theorem ngrow_any (A : Option Addr) (n c base : Nat) (L : List Nat) (t m0 : Nat) (tv mv : Int) (htv : tv = (t : Int)) (hmv : mv = (m0 : Int)) (w : World) (hn : L.length = n) (ho : w.ownsRow base 3 1 (.slice A n c) n (nats L)) (hL : Na.Lim L) (ht : t ≤ 16777216) (hm : m0 ≤ 1152921504606846976) (hl : n ≤ 1000) (hbase : base ≤ w.heap.size) :
    Calls Tryd.prog 124 #[.slice A n c, .int .i64 tv, .int .i64 mv] w (Grew w base n (Na.val L * t + m0)) := by
  subst htv hmv
  obtain ⟨i0, hi, hz0, hz1, hz2⟩ := info_parts infoI
  have HN := Lib.hid hn
  have HL := Lib.hid hL
  have HO0 := Lib.hid ho
  clear hn hL ho
  go_enter Tryd.func124, Tryd.ntmps124
  go_wp2_with fail
  go_loopw [10, 2] (fun i mr wr => NGr w base L A n c t m0 i mr wr) (fun i _ _ => n - (intOf i).toNat)
  case atStart => exact ⟨0, m0, [], Nat.zero_le _, rfl, rfl, hm, ⟨rfl, Na.Lim.nil, by simp [Na.val]⟩, by simpa using HO0.out, Below.refl _ _, hbase⟩
  case round =>
    clear HO0 hm hbase
    obtain ⟨k, r, o, hk, rfl, rfl, hr, HP, ho, hb, hbs⟩ := hrel
    have HO := Lib.hid ho
    have HB := Lib.hid hb
    have HBS := Lib.hid hbs
    rcases Nat.lt_or_ge k n with hkn | hkn
    · obtain ⟨a, ha⟩ := nat_at L k (by rw [HN.out]; exact hkn)
      obtain ⟨g, rfl, hgb, hgw⟩ := own_form ho (by omega)
      have hca := own_nat ho (Na.get_mid o L k a HP.out.1 ha)
      have hfz := ho.frozenAt k
      have ha24 := HL.out.at ha
      obtain ⟨p, hp⟩ : ∃ p, a * t = p := ⟨_, rfl⟩
      have hp1 : (a : Int) * (t : Int) = (p : Int) := by rw [← hp]; rfl
      have hp2 : p ≤ 281474976710656 := by
        rw [← hp]
        have := Nat.mul_le_mul (Nat.le_of_lt ha24) ht
        omega
      obtain ⟨s, hs⟩ : ∃ s, r + p = s := ⟨_, rfl⟩
      obtain ⟨q, hq⟩ : ∃ q, s / 16777216 = q := ⟨_, rfl⟩
      obtain ⟨d, hd⟩ : ∃ d, s % 16777216 = d := ⟨_, rfl⟩
      have HSt := Lib.hid (Na.grow_step L o k a t r m0 s HP.out.1 ha HP.out.2.2 (by rw [hp]; exact hs.symm))
      rw [hq, hd] at HSt
      have hand : bits .and .i64 ((r : Int) + (p : Int)) 16777215 = (d : Int) := by rw [and24]; omega
      have hshr : ((r : Int) + (p : Int)) / 16777216 = (q : Int) := by omega
      have hq1 : q ≤ 1152921504606846976 := by omega
      have hd24 : d < 16777216 := by omega
      have HLr := Lib.hid (HP.out.2.1.append (Na.Lim.one hd24))
      have HLl : Hid ((o ++ [d]).length = k + 1) := by unfold Hid; rw [List.length_append, HP.out.1]; rfl
      have HSet := Lib.hid (Na.set_mid o L k d HP.out.1 (by rw [HN.out]; exact hkn))
      clear ho hb hbs ha hs hq hd hp
      go_wp2_with fail
      go_roundw
      case rel =>
        have o1 := own_put HO.out k (.int .i64 (d : Int))
        rw [nats_set, HSet.out] at o1
        exact ⟨k + 1, q, o ++ [d], by omega, by go_num, rfl, hq1, ⟨HLl.out, HLr.out, HSt.out⟩, o1, HB.out.setCell (p := ⟨g, k, none⟩) hgb _, by simpa [World.setCell] using HBS.out⟩
      case measure => simp [intOf]; omega
    · have hkn' : k = n := by omega
      have HP2 : Hid (o.length = n ∧ Na.Lim o ∧ Na.val o + 16777216 ^ n * r = Na.val L * t + m0) := by
        have h7 := HP.out
        rw [hkn', List.take_of_length_le (by rw [HN.out]; exact Nat.le_refl _)] at h7
        exact h7
      have HO2 : Hid (wr.ownsRow base 3 1 (.slice A n c) n (nats o)) := by
        have h7 := ho
        rw [List.drop_of_length_le (by rw [HN.out]; exact hkn), List.append_nil] at h7
        exact h7
      have hdk : decide (k < n) = false := decide_eq_false (by omega)
      clear ho hb hbs hkn' HP
      go_wp2_with fail
      go_loopw [2, 0] (fun mr l wr => NGm w base (Na.val L * t + m0) n mr l wr) (fun mr _ _ => (intOf mr).toNat)
      case atStart => exact ⟨r, A, n, c, 0, o, rfl, rfl, rfl, .inl ⟨rfl, hr⟩, HP2.out, fun _ => .inl HP2.out.1, HO2.out, HB.out, HBS.out⟩
      case round =>
        clear HP2 HO2 HB HBS hr
        obtain ⟨r, A1, n1, c1, j, o, rfl, rfl, hn1, hj, HP, HTi, ho, hb, hbs⟩ := hrel
        rcases Nat.eq_zero_or_pos r with h0 | h0
        · subst h0
          have HV : Hid (Na.val o = Na.val L * t + m0) := by
            have h7 := HP.out.2.2
            rw [Nat.mul_zero, Nat.add_zero] at h7
            exact h7
          have HTt := Lib.hid (HTi.out rfl)
          have HO := Lib.hid ho
          have HB := Lib.hid hb
          have HBS := Lib.hid hbs
          have hn3 : n1 ≤ n + 3 := by omega
          clear ho hb hbs hj hn1 HTi
          go_wp2_with fail
          go_ret
          exact ⟨A1, n1, c1, o, rfl, HP.out.1, hn3, HP.out.2.1, HV.out, HO.out, HB.out, HBS.out, HTt.out⟩
        · obtain ⟨q, hq⟩ : ∃ q, r / 16777216 = q := ⟨_, rfl⟩
          obtain ⟨d, hd⟩ : ∃ d, r % 16777216 = d := ⟨_, rfl⟩
          have HJ : Hid ((j + 1 = 0 ∧ q ≤ 1152921504606846976) ∨ (j + 1 = 1 ∧ q ≤ 68719476736) ∨ (j + 1 = 2 ∧ q ≤ 4096) ∨ (j + 1 = 3 ∧ q = 0)) := by unfold Hid; omega
          have hj3 : j ≤ 2 := by omega
          have hr2 : r ≤ 1152921504606846976 := by omega
          have HSt := Lib.hid (Na.grow_more o n1 r _ HP.out.1 HP.out.2.2)
          rw [hq, hd] at HSt
          have hand : bits .and .i64 (r : Int) 16777215 = (d : Int) := by rw [and24]; omega
          have hshr : (r : Int) / 16777216 = (q : Int) := by omega
          have hpos : decide (0 < (r : Int)) = true := decide_eq_true (by omega)
          have hd24 : d < 16777216 := by omega
          have hqr : q < r := by omega
          have HTn : Hid (q = 0 → Tight n (o ++ [d])) := fun e => tight_put n o d (by omega)
          have HLr := Lib.hid (HP.out.2.1.append (Na.Lim.one hd24))
          have HLl : Hid ((o ++ [d]).length = n1 + 1) := by unfold Hid; rw [List.length_append, HP.out.1]; rfl
          have HO3 : Hid ((wr.alloc (.cells #[.int .i64 (d : Int)] 3)).ownsRow base 3 1 (.slice A1 n1 c1) n1 (nats o)) := own_alloc ho _
          have HSl := Lib.hid (sl_new1 wr 3 (.int .i64 (d : Int)))
          have HB := Lib.hid hb
          have HBS := Lib.hid hbs
          have hrow : ∀ y, (Value.slice A1 n1 c1).ownBlock = some y → base ≤ y := own_block ho
          have hn4 : n1 ≤ 1003 := by omega
          have HN1 := Lib.hid hn1
          clear ho hb hbs hq hd hj hn1
          go_wp2_with (at_builtin; refine wpList_append_sl _ rfl (.tmp 33) (.tmp 36) 23 rfl base 3 i0 (.int .i64 0) 8 Tryd.underlying23 hi hz0 hz1 hz2 rfl _ _ _ _ rfl HO3.out _ _ 1 _ _ rfl rfl HSl.out (fun u hu => by simp at hu; subst hu; rfl) (by unfold maxLen; omega) (by omega) (by have := HBS.out; simp; omega) ?_; intro A' c' w8 hown hgrow hblk)
          go_roundw
          case rel =>
            rw [nats_snoc] at hown
            have hz9 : base ≤ w8.heap.size := Nat.le_trans HBS.out (Nat.le_trans (by simp) hgrow.size)
            have hn1 := HN1.out
            exact ⟨q, A', n1 + 1, c', j + 1, o ++ [d], rfl, rfl, by omega, HJ.out, ⟨HLl.out, HLr.out, HSt.out⟩, HTn.out, hown, (HB.out.alloc HBS.out _).grown hgrow (by have := HBS.out; simp; omega) hrow, hz9⟩
          case measure => simp [intOf]; omega
/-- Choose: the numbers that are out of range, and those without a set -/
def choL (n k : Int) : List Nat := if n < 0 ∨ 4096 < n then [] else if k < 0 ∨ n < k then [] else Na.dig (Na.bin n.toNat k.toNat)
def choE (n k : Int) : Int := if n < 0 ∨ 4096 < n then 2 else 0
def NCh (w : World) (B m kk : Nat) (i o : Value) (wr : World) : Prop :=
  ∃ (j : Nat) (A : Option Addr) (n' c' : Nat), j ≤ kk ∧ i = .int .i64 ((j : Int) + 1) ∧ o = .slice A n' c' ∧ n' ≤ 171 ∧ Hid ((Na.dig (Na.bin (m + j) j)).length = n') ∧ wr.ownsRow B 3 1 (.slice A n' c') n' (nats (Na.dig (Na.bin (m + j) j))) ∧ Below B w wr ∧ B ≤ wr.heap.size
theorem below_row {B : Nat} {w w' : World} {row : Option Nat} (hg : w.grownBy w' row) (hB : B ≤ w.heap.size) (hr : ∀ g, row = some g → B ≤ g) : Below B w w' := (Below.refl B w).grown hg hB hr
set_option maxHeartbeats 2000000 in
theorem nchoose_a (n kv m : Nat) (w : World) (hn : n ≤ 4096) (hk : kv ≤ n) (hmin : kv ≤ n - kv) (hm : m = n - kv) :
    Calls Tryd.prog 104 #[.int .i64 (n : Int), .int .i64 (kv : Int)] w (ResN w (Na.dig (Na.bin n kv)) 0) := by
  have h1 : decide ((n : Int) < 0) = false := decide_eq_false (by omega)
  have h2 : decide (4096 < (n : Int)) = false := decide_eq_false (by omega)
  have h3 : decide ((kv : Int) < 0) = false := decide_eq_false (by omega)
  have h4 : decide (n < kv) = false := decide_eq_false (by omega)
  have h5 : (kv : Int) ≤ (n : Int) - (kv : Int) := by omega
  have hmk : (n : Int) - (kv : Int) = (m : Int) := by omega
  have HBin : Hid (Na.bin (m + kv) kv = Na.bin n kv) := by unfold Hid; rw [show m + kv = n by omega]
  have hmn : m + kv ≤ 4096 := by omega
  rw [hmk] at h5
  clear hmin hm
  have HO0 : Hid (((w.alloc (.cells #[.slice none 0 0] 25)).alloc (.cells #[.int .i64 1] 3)).ownsRow (w.heap.size + 1) 3 1 (.slice (some ⟨w.heap.size + 1, 0, none⟩) 1 1) 1 (nats (Na.dig (Na.bin (m + 0) 0)))) := by
    unfold Hid
    rw [Na.bin_zero, Na.dig_small 1 (by omega) (by omega)]
    have h := World.ownsRow_lit (base := (w.alloc (.cells #[.slice none 0 0] 25)).heap.size) (e := 3) (size := 1) (w.alloc (.cells #[.slice none 0 0] 25)) #[.int .i64 1] 1 (Nat.le_refl _) (by unfold maxLen; omega) rfl
    rw [World.size_alloc] at h
    exact h
  have HL0 : Hid ((Na.dig (Na.bin (m + 0) 0)).length = 1) := by unfold Hid; rw [Na.bin_zero, Na.dig_small 1 (by omega) (by omega)]; rfl
  have hw1 : (w.alloc (.cells #[.slice none 0 0] 25)).cell? ⟨w.heap.size, 0, none⟩ = some (.slice none 0 0) := by simp [go_sem]
  have hw2 : (w.alloc (.cells #[.slice none 0 0] 25)).frozen? ⟨w.heap.size, 0, none⟩ = false := by simp [go_sem]
  obtain ⟨w0, hw0⟩ : ∃ w0, w.alloc (.cells #[.slice none 0 0] 25) = w0 := ⟨_, rfl⟩
  have HW : Hid (w.alloc (.cells #[.slice none 0 0] 25) = w0) := hw0
  have HB0 : Hid (Below w.heap.size w w0) := by rw [← hw0]; exact own_box1 _ _
  have hz0w : w0.heap.size = w.heap.size + 1 := by rw [← hw0]; simp
  rw [hw0] at hw1 hw2 HO0
  clear hw0
  go_enter Tryd.func104, Tryd.ntmps104
  go_wp2_with fail
  rw [HW.out]
  clear h1 h2 h3 h4
  go_loopw [7, 6] (fun i o wr => NCh w0 (w.heap.size + 1) m kv i o wr) (fun i _ _ => kv + 1 - (intOf i).toNat)
  case atStart => exact ⟨0, _, 1, 1, Nat.zero_le _, rfl, rfl, by omega, HL0.out, HO0.out, (Below.refl _ _).alloc (by omega) _, by simp; omega⟩
  case round =>
    clear HO0 HL0 HW
    obtain ⟨j, A1, n1, c1, hj, rfl, rfl, hn1, HLn, ho, hb, hbs⟩ := hrel
    have HO := Lib.hid ho
    have HB := Lib.hid hb
    have HBS := Lib.hid hbs
    clear ho hb hbs
    rcases Nat.lt_or_ge j kv with hlt | hge
    · have ht1 : (j : Int) + 1 ≤ (kv : Int) := by omega
      have HGr := Lib.hid (ngrow_any A1 n1 c1 (w.heap.size + 1) (Na.dig (Na.bin (m + j) j)) (m + (j + 1)) 0 ((m : Int) + ((j : Int) + 1)) 0 (by omega) rfl wr HLn.out HO.out (Na.dig_lim _) (by omega) (by omega) (by omega) HBS.out)
      rw [Na.val_dig, Nat.add_zero] at HGr
      go_wp2_with fail
      refine HGr.out.mono ?_
      rintro e w2 ⟨A2, n2, c2, o, rfl, ho1, ho2, ho3, ho4, ho5, hb2, hbs2, -⟩
      have HSm := Lib.hid (nsmall_any A2 n2 c2 (w.heap.size + 1) o (j + 1) ((j : Int) + 1) (by omega) w2 ho1 ho5 ho3 (by omega) (by omega) (by omega))
      have HRow : Hid (∀ g, (Value.slice A2 n2 c2).ownBlock = some g → w.heap.size + 1 ≤ g) := own_block ho5
      have HC2 : Hid (n2 ≤ c2) := (own_cap ho5).1
      have HV := Lib.hid ho4
      have HB2 := Lib.hid hb2
      have HBS2 := Lib.hid hbs2
      have hn2 : n2 ≤ 174 := by omega
      clear ho1 ho2 ho3 ho4 ho5 hb2 hbs2 HGr
      go_wp2_with fail
      refine HSm.out.mono ?_
      rintro e w3 ⟨Q, rfl, hq1, hq2, hq3, hq4, hg3⟩
      have HD : Hid (Na.trim Q = Na.dig (Na.bin (m + (j + 1)) (j + 1))) := by
        unfold Hid
        rw [Na.trim_dig hq2, hq3, HV.out, Nat.add_zero, Na.bin_next]
      have HO3 := Lib.hid hq4
      have HB3 : Hid (Below (w.heap.size + 1) w2 w3) := below_row hg3 HBS2.out HRow.out
      have HQ1 := Lib.hid hq1
      have HT := Lib.hid (ntrim_any A2 n2 c2 _ Q w3 hq1 (Sl.of_own hq4) HC2.out (by omega))
      clear hq1 hq2 hq3 hq4 hg3 HSm
      go_wp2_with fail
      refine HT.out.mono ?_
      rintro e w4 ⟨rfl, rfl⟩
      go_wp2_with fail
      go_roundw
      case rel =>
        refine ⟨j + 1, A2, _, c2, by omega, by go_num, rfl, ?_, ?_, ?_, (HB.out.trans HB2.out).trans HB3.out, Nat.le_trans HBS2.out HB3.out.size⟩
        · have h9 := Na.trim_length Q
          rw [HD.out, HQ1.out] at h9
          rw [← h9]
          exact (Na.bin_top _ _ (by omega)).2
        · show (Na.dig (Na.bin (m + (j + 1)) (j + 1))).length = Na.tl Q n2
          rw [← HD.out, Na.trim_length, HQ1.out]
        · rw [← HD.out]
          unfold Na.trim
          rw [HQ1.out, ← nats_take]
          exact own_take HO3.out (Na.tl_le Q n2)
      case measure => simp [intOf]; omega
    · have ht1 : (kv : Int) < (j : Int) + 1 := by omega
      have hjk : j = kv := by omega
      have HEq : Hid (Na.bin (m + j) j = Na.bin n kv) := by unfold Hid; rw [hjk]; exact HBin.out
      have HR := Lib.hid (nresult_any A1 n1 c1 (w.heap.size + 1) (Na.dig (Na.bin (m + j) j)) wr HLn.out HO.out (Na.dig_lim _) (by omega))
      rw [Na.val_dig, HEq.out, resL_ok (Na.bin_top n kv hn).1, resE_ok (Na.bin_top n kv hn).1] at HR
      clear hjk
      go_wp2_with fail
      refine HR.out.mono ?_
      rintro e w9 ⟨A9, n9, c9, rfl, hn9, ho9, hb9⟩
      have HN9 := Lib.hid hn9
      have HO9 := Lib.hid ho9
      have HB9 := Lib.hid (HB.out.trans (hb9.mono HBS.out))
      have hk9 : w9.cell? ⟨w.heap.size, 0, none⟩ = some (.slice none 0 0) := (HB9.out.cell (p := ⟨w.heap.size, 0, none⟩) (by simp)).trans hw1
      have hk9f : w9.frozen? ⟨w.heap.size, 0, none⟩ = false := (HB9.out.frozen (p := ⟨w.heap.size, 0, none⟩) (by simp)).trans hw2
      clear hn9 ho9 hb9 hw1 hw2
      go_wp2_with fail
      refine bodyPost_ret (v := .tuple #[.agg #[.slice A9 n9 c9], .int .i64 0]) (by simp [results, Tryd.results104, go_sem, hk9]) rfl ?_
      exact resN_cell HO9.out HN9.out (by omega) (by omega) (HB0.out.trans (HB9.out.mono (by omega))) (Nat.le_refl _) _ _
set_option maxHeartbeats 2000000 in
theorem nchoose_b (n kv m kk : Nat) (w : World) (hn : n ≤ 4096) (hk : kv ≤ n) (hmin : n - kv < kv) (hkk : kk = n - kv) (hm : m = kv) :
    Calls Tryd.prog 104 #[.int .i64 (n : Int), .int .i64 (kv : Int)] w (ResN w (Na.dig (Na.bin n kv)) 0) := by
  have h1 : decide ((n : Int) < 0) = false := decide_eq_false (by omega)
  have h2 : decide (4096 < (n : Int)) = false := decide_eq_false (by omega)
  have h3 : decide ((kv : Int) < 0) = false := decide_eq_false (by omega)
  have h4 : decide (n < kv) = false := decide_eq_false (by omega)
  have hkn : (n : Int) - (kv : Int) = (kk : Int) := by omega
  have h5 : (kk : Int) < (kv : Int) := by omega
  have hmk : (n : Int) - (kk : Int) = (m : Int) := by omega
  have HBin : Hid (Na.bin (m + kk) kk = Na.bin n kv) := by unfold Hid; rw [show m + kk = n by omega, hkk, Na.bin_symm hk]
  have hmn : m + kk ≤ 4096 := by omega
  clear hmin hm hkk
  have HO0 : Hid (((w.alloc (.cells #[.slice none 0 0] 25)).alloc (.cells #[.int .i64 1] 3)).ownsRow (w.heap.size + 1) 3 1 (.slice (some ⟨w.heap.size + 1, 0, none⟩) 1 1) 1 (nats (Na.dig (Na.bin (m + 0) 0)))) := by
    unfold Hid
    rw [Na.bin_zero, Na.dig_small 1 (by omega) (by omega)]
    have h := World.ownsRow_lit (base := (w.alloc (.cells #[.slice none 0 0] 25)).heap.size) (e := 3) (size := 1) (w.alloc (.cells #[.slice none 0 0] 25)) #[.int .i64 1] 1 (Nat.le_refl _) (by unfold maxLen; omega) rfl
    rw [World.size_alloc] at h
    exact h
  have HL0 : Hid ((Na.dig (Na.bin (m + 0) 0)).length = 1) := by unfold Hid; rw [Na.bin_zero, Na.dig_small 1 (by omega) (by omega)]; rfl
  have hw1 : (w.alloc (.cells #[.slice none 0 0] 25)).cell? ⟨w.heap.size, 0, none⟩ = some (.slice none 0 0) := by simp [go_sem]
  have hw2 : (w.alloc (.cells #[.slice none 0 0] 25)).frozen? ⟨w.heap.size, 0, none⟩ = false := by simp [go_sem]
  obtain ⟨w0, hw0⟩ : ∃ w0, w.alloc (.cells #[.slice none 0 0] 25) = w0 := ⟨_, rfl⟩
  have HW : Hid (w.alloc (.cells #[.slice none 0 0] 25) = w0) := hw0
  have HB0 : Hid (Below w.heap.size w w0) := by rw [← hw0]; exact own_box1 _ _
  have hz0w : w0.heap.size = w.heap.size + 1 := by rw [← hw0]; simp
  rw [hw0] at hw1 hw2 HO0
  clear hw0
  go_enter Tryd.func104, Tryd.ntmps104
  go_wp2_with fail
  rw [HW.out]
  clear h1 h2 h3 h4
  go_loopw [7, 6] (fun i o wr => NCh w0 (w.heap.size + 1) m kk i o wr) (fun i _ _ => kk + 1 - (intOf i).toNat)
  case atStart => exact ⟨0, _, 1, 1, Nat.zero_le _, rfl, rfl, by omega, HL0.out, HO0.out, (Below.refl _ _).alloc (by omega) _, by simp; omega⟩
  case round =>
    clear HO0 HL0 HW
    obtain ⟨j, A1, n1, c1, hj, rfl, rfl, hn1, HLn, ho, hb, hbs⟩ := hrel
    have HO := Lib.hid ho
    have HB := Lib.hid hb
    have HBS := Lib.hid hbs
    clear ho hb hbs
    rcases Nat.lt_or_ge j kk with hlt | hge
    · have ht1 : (j : Int) + 1 ≤ (kk : Int) := by omega
      have HGr := Lib.hid (ngrow_any A1 n1 c1 (w.heap.size + 1) (Na.dig (Na.bin (m + j) j)) (m + (j + 1)) 0 ((m : Int) + ((j : Int) + 1)) 0 (by omega) rfl wr HLn.out HO.out (Na.dig_lim _) (by omega) (by omega) (by omega) HBS.out)
      rw [Na.val_dig, Nat.add_zero] at HGr
      go_wp2_with fail
      refine HGr.out.mono ?_
      rintro e w2 ⟨A2, n2, c2, o, rfl, ho1, ho2, ho3, ho4, ho5, hb2, hbs2, -⟩
      have HSm := Lib.hid (nsmall_any A2 n2 c2 (w.heap.size + 1) o (j + 1) ((j : Int) + 1) (by omega) w2 ho1 ho5 ho3 (by omega) (by omega) (by omega))
      have HRow : Hid (∀ g, (Value.slice A2 n2 c2).ownBlock = some g → w.heap.size + 1 ≤ g) := own_block ho5
      have HC2 : Hid (n2 ≤ c2) := (own_cap ho5).1
      have HV := Lib.hid ho4
      have HB2 := Lib.hid hb2
      have HBS2 := Lib.hid hbs2
      have hn2 : n2 ≤ 174 := by omega
      clear ho1 ho2 ho3 ho4 ho5 hb2 hbs2 HGr
      go_wp2_with fail
      refine HSm.out.mono ?_
      rintro e w3 ⟨Q, rfl, hq1, hq2, hq3, hq4, hg3⟩
      have HD : Hid (Na.trim Q = Na.dig (Na.bin (m + (j + 1)) (j + 1))) := by
        unfold Hid
        rw [Na.trim_dig hq2, hq3, HV.out, Nat.add_zero, Na.bin_next]
      have HO3 := Lib.hid hq4
      have HB3 : Hid (Below (w.heap.size + 1) w2 w3) := below_row hg3 HBS2.out HRow.out
      have HQ1 := Lib.hid hq1
      have HT := Lib.hid (ntrim_any A2 n2 c2 _ Q w3 hq1 (Sl.of_own hq4) HC2.out (by omega))
      clear hq1 hq2 hq3 hq4 hg3 HSm
      go_wp2_with fail
      refine HT.out.mono ?_
      rintro e w4 ⟨rfl, rfl⟩
      go_wp2_with fail
      go_roundw
      case rel =>
        refine ⟨j + 1, A2, _, c2, by omega, by go_num, rfl, ?_, ?_, ?_, (HB.out.trans HB2.out).trans HB3.out, Nat.le_trans HBS2.out HB3.out.size⟩
        · have h9 := Na.trim_length Q
          rw [HD.out, HQ1.out] at h9
          rw [← h9]
          exact (Na.bin_top _ _ (by omega)).2
        · show (Na.dig (Na.bin (m + (j + 1)) (j + 1))).length = Na.tl Q n2
          rw [← HD.out, Na.trim_length, HQ1.out]
        · rw [← HD.out]
          unfold Na.trim
          rw [HQ1.out, ← nats_take]
          exact own_take HO3.out (Na.tl_le Q n2)
      case measure => simp [intOf]; omega
    · have ht1 : (kk : Int) < (j : Int) + 1 := by omega
      have hjk : j = kk := by omega
      have HEq : Hid (Na.bin (m + j) j = Na.bin n kv) := by unfold Hid; rw [hjk]; exact HBin.out
      have HR := Lib.hid (nresult_any A1 n1 c1 (w.heap.size + 1) (Na.dig (Na.bin (m + j) j)) wr HLn.out HO.out (Na.dig_lim _) (by omega))
      rw [Na.val_dig, HEq.out, resL_ok (Na.bin_top n kv hn).1, resE_ok (Na.bin_top n kv hn).1] at HR
      clear hjk
      go_wp2_with fail
      refine HR.out.mono ?_
      rintro e w9 ⟨A9, n9, c9, rfl, hn9, ho9, hb9⟩
      have HN9 := Lib.hid hn9
      have HO9 := Lib.hid ho9
      have HB9 := Lib.hid (HB.out.trans (hb9.mono HBS.out))
      have hk9 : w9.cell? ⟨w.heap.size, 0, none⟩ = some (.slice none 0 0) := (HB9.out.cell (p := ⟨w.heap.size, 0, none⟩) (by simp)).trans hw1
      have hk9f : w9.frozen? ⟨w.heap.size, 0, none⟩ = false := (HB9.out.frozen (p := ⟨w.heap.size, 0, none⟩) (by simp)).trans hw2
      clear hn9 ho9 hb9 hw1 hw2
      go_wp2_with fail
      refine bodyPost_ret (v := .tuple #[.agg #[.slice A9 n9 c9], .int .i64 0]) (by simp [results, Tryd.results104, go_sem, hk9]) rfl ?_
      exact resN_cell HO9.out HN9.out (by omega) (by omega) (HB0.out.trans (HB9.out.mono (by omega))) (Nat.le_refl _) _ _

theorem nchoose_any (n k : Int) (w : World) : Calls Tryd.prog 104 #[.int .i64 n, .int .i64 k] w (ResN w (choL n k) (choE n k)) := by
  by_cases h1 : n < 0
  · have HR : Hid (choL n k = []) := if_pos (.inl h1)
    have HE : Hid (choE n k = 2) := if_pos (.inl h1)
    go_enter Tryd.func104, Tryd.ntmps104
    go_wp2_with fail
    refine bodyPost_ret (v := .tuple #[.agg #[.slice none 0 0], .int .i64 2]) (by simp [results, Tryd.results104, go_sem]) rfl ?_
    rw [HR.out, HE.out]
    exact resN_nil _ _ _ (own_box1 _ _)
  · by_cases h2 : 4096 < n
    · have HR : Hid (choL n k = []) := if_pos (.inr h2)
      have HE : Hid (choE n k = 2) := if_pos (.inr h2)
      have h1' : 0 ≤ n := by omega
      clear h1
      go_enter Tryd.func104, Tryd.ntmps104
      go_wp2_with fail
      refine bodyPost_ret (v := .tuple #[.agg #[.slice none 0 0], .int .i64 2]) (by simp [results, Tryd.results104, go_sem]) rfl ?_
      rw [HR.out, HE.out]
      exact resN_nil _ _ _ (own_box1 _ _)
    · have hn : ¬ (n < 0 ∨ 4096 < n) := by omega
      have h1' : 0 ≤ n := by omega
      have h2' : n ≤ 4096 := by omega
      by_cases h3 : k < 0
      · have HR : Hid (choL n k = []) := by unfold Hid choL; rw [if_neg hn, if_pos (.inl h3)]
        have HE : Hid (choE n k = 0) := by unfold Hid choE; rw [if_neg hn]
        clear h1 h2 hn
        go_enter Tryd.func104, Tryd.ntmps104
        go_wp2_with fail
        refine bodyPost_ret (v := .tuple #[.agg #[.slice none 0 0], .int .i64 0]) (by simp [results, Tryd.results104, go_sem]) rfl ?_
        rw [HR.out, HE.out]
        exact resN_nil _ _ _ (own_box1 _ _)
      · by_cases h4 : n < k
        · have HR : Hid (choL n k = []) := by unfold Hid choL; rw [if_neg hn, if_pos (.inr h4)]
          have HE : Hid (choE n k = 0) := by unfold Hid choE; rw [if_neg hn]
          have h3' : 0 ≤ k := by omega
          clear h1 h2 h3 hn
          go_enter Tryd.func104, Tryd.ntmps104
          go_wp2_with fail
          refine bodyPost_ret (v := .tuple #[.agg #[.slice none 0 0], .int .i64 0]) (by simp [results, Tryd.results104, go_sem]) rfl ?_
          rw [HR.out, HE.out]
          exact resN_nil _ _ _ (own_box1 _ _)
        · obtain ⟨a, rfl⟩ := Int.eq_ofNat_of_zero_le h1'
          obtain ⟨b, rfl⟩ := Int.eq_ofNat_of_zero_le (show 0 ≤ k by omega)
          have e1 : choL (a : Int) (b : Int) = Na.dig (Na.bin a b) := by unfold choL; rw [if_neg hn, if_neg (by omega)]; rfl
          have e2 : choE (a : Int) (b : Int) = 0 := by unfold choE; rw [if_neg hn]
          rw [e1, e2]
          rcases Nat.lt_or_ge (a - b) b with h5 | h5
          · exact nchoose_b a b b (a - b) w (by omega) (by omega) h5 rfl rfl
          · exact nchoose_a a b (a - b) w (by omega) (by omega) h5 rfl
end Go.Proofs.YtnfjnlnphdmdmaaDoor

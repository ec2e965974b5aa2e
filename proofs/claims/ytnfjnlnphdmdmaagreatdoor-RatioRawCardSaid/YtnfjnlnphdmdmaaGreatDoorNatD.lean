/- The contracts of both, Clone, Add of numbers. -/
import Derived.Test.YtnfjnlnphdmdmaaGreatDoorNi
import Derived.Test.YtnfjnlnphdmdmaaGreatDoorNp
import Derived.StillTailTactics
import Derived.Deep.QuietTactic
import Derived.BigQuiet
namespace Go.Proofs.YtnfjnlnphdmdmaaGreatDoor
open Go.RowKit
set_option linter.unusedVariables false
set_option maxRecDepth 100000
theorem nboth_any (A A2 : Option Addr) (n c m c2 B : Nat) (zs ys : List Int) (w : World) (hn : zs.length = n) (hm : ys.length = m) (hs : Sl w B A (ints zs)) (hs2 : Sl w B A2 (ints ys)) (hB : B ≤ w.heap.size) (hl : n ≤ 140737488351232) (hl2 : m ≤ 140737488351232) :
    Calls Tryz.prog 59 #[.agg #[.slice A n c], .agg #[.slice A2 m c2]] w fun e w' => e = .returned (.bool (Na.vld zs && Na.vld ys)) ∧ Below w.heap.size w w' := by
  obtain ⟨w0, hw0⟩ : ∃ w0, (w.alloc (.cells #[.slice A n c] 24)).alloc (.cells #[.slice A2 m c2] 24) = w0 := ⟨_, rfl⟩
  have HW : Hid ((w.alloc (.cells #[.slice A n c] 24)).alloc (.cells #[.slice A2 m c2] 24) = w0) := hw0
  have hb0 : Below w.heap.size w w0 := by rw [← hw0]; exact bal (bal (Below.refl _ _) _) _
  have HB0 := Lib.hid hb0
  have HV1 := Lib.hid (nvalid_any A n c w0.heap.size zs w0 hn ((hs.more hB |>.below hb0).more hb0.size) (Nat.le_refl _) (by omega))
  have hzw : w0.heap.size = w.heap.size + 2 := by rw [← hw0]; simp
  have hc1 : w0.cell? ⟨w.heap.size + 1, 0, none⟩ = some (.slice A2 m c2) := by rw [← hw0]; simp [go_sem]
  have HV2 : Hid (∀ W, Below w0.heap.size w0 W → Calls Tryz.prog 34 #[.agg #[.slice A2 m c2]] W fun e w' => e = .returned (.bool (Na.vld ys)) ∧ Below W.heap.size W w') := fun W hW =>
    nvalid_any A2 m c2 w0.heap.size ys W hm (((hs2.more hB).below hb0).more hb0.size |>.below hW) hW.size (by omega)
  clear hs hs2 hn hm hb0 hw0
  cases hv : Na.vld zs
  · rw [hv] at HV1
    clear hv
    go_enter Tryz.func59, Tryz.ntmps59
    go_wp2_with fail
    rw [HW.out]
    refine HV1.out.mono ?_
    rintro e w1 ⟨rfl, hb⟩
    have HB := Lib.hid (btr HB0.out hb)
    clear hb
    go_wp2_with fail
    go_ret
    exact ⟨rfl, HB.out⟩
  · rw [hv] at HV1
    clear hv
    go_enter Tryz.func59, Tryz.ntmps59
    go_wp2_with fail
    rw [HW.out]
    refine HV1.out.mono ?_
    rintro e w1 ⟨rfl, hb⟩
    have hc2 : w1.cell? ⟨w.heap.size + 1, 0, none⟩ = some (.slice A2 m c2) := (hb.cell (p := ⟨w.heap.size + 1, 0, none⟩) (by simp [hzw])).trans hc1
    have HB := Lib.hid hb
    clear hb
    go_wp2_with fail
    refine (HV2.out _ HB.out).mono ?_
    rintro e w2 ⟨rfl, hb⟩
    have HB2 := Lib.hid (btr (btr HB0.out HB.out) hb)
    clear hb
    go_wp2_with fail
    go_ret
    exact ⟨by simp, HB2.out⟩
theorem nclone_any (A : Option Addr) (n c B : Nat) (l : List Nat) (w : World) (hn : l.length = n) (hs : Sl w B A (nats l)) (hB : B ≤ w.heap.size) (hl : n ≤ 17592186044416) :
    Calls Tryz.prog 60 #[.slice A n c] w (FreshN w l) := by
  obtain ⟨i0, hi, hz0, hz1, hz2⟩ := info_parts infoI
  cases A with
  | none =>
    have h0 : n = 0 := by
      rcases Nat.eq_zero_or_pos n with h | h
      · exact h
      · obtain ⟨ad, h, _⟩ := hs (by rw [nats_length]; omega)
        cases h
    subst h0
    have hl0 : l = [] := List.eq_nil_of_length_eq_zero hn
    subst hl0
    have heq := fun w => Lib.run_eql_slice_nil (P := Tryz.prog) w 22 3 none 0 c 0 0 Tryz.underlying22
    clear hs hn
    go_enter Tryz.func60, Tryz.ntmps60
    go_wp2_with fail
    go_ret
    exact ⟨none, 0, 0, rfl, rfl, World.ownsRow_nil _ _ _ _, Below.refl _ _⟩
  | some ad =>
    have heq := fun w => Lib.run_eql_slice_nil (P := Tryz.prog) w 22 3 (some ad) n c 0 0 Tryz.underlying22
    have HN := Lib.hid ((nats_length l).trans hn)
    have HN2 := Lib.hid hn
    have hbw := (Below.refl w.heap.size w).alloc (Nat.le_refl _) (.cells #[] 3)
    have HS : Hid (Sl (w.alloc (.cells #[] 3)) B (some ad) (nats l)) := hs.alloc hB _
    have HO := Lib.hid (own_empty w 3)
    clear hn hs
    go_enter Tryz.func60, Tryz.ntmps60
    go_wp2_with (at_builtin; refine wpList_append_sl _ rfl (.tmp 5) (.tmp 6) 22 rfl w.heap.size 3 i0 (.int .i64 0) 8 Tryz.underlying22 hi hz0 hz1 hz2 rfl _ _ _ _ rfl HO.out B _ _ _ _ rfl HN.out HS.out (nats_one l) (by unfold maxLen; omega) (by omega) (by simp) ?_; intro A' c' w1 hown hgrow hblk)
    go_ret
    rw [Nat.zero_add] at hown
    exact ⟨_, _, _, rfl, HN2.out, hown, hbw.grown hgrow (by simp) (fun g hg => by cases hg; exact Nat.le_refl _)⟩
/-- what a sum of two lists is -/
def num (zs : List Int) : Nat := Na.val (zs.map Int.toNat)
theorem num_up (l : List Nat) : num (Na.up l) = Na.val l := by
  unfold num Na.up
  rw [List.map_map]
  congr 1
  exact (List.map_congr_left (fun a _ => rfl)).trans (List.map_id l)
theorem num_dig (x : Nat) : num (Na.up (Na.dig x)) = x := by rw [num_up, Na.val_dig]
def NAdd (w : World) (B : Nat) (X Y : List Nat) (n : Nat) (i cr o : Value) (wr : World) : Prop :=
  ∃ (k c : Nat) (A : Option Addr) (ca : Nat) (l : List Nat), k ≤ n ∧ i = .int .i64 (k : Int) ∧ cr = .int .i64 (c : Int) ∧ o = .slice A k ca ∧ c ≤ 1 ∧ Hid (l.length = k ∧ Na.Lim l ∧ Na.val l + 16777216 ^ k * c = Na.val (X.take k) + Na.val (Y.take k)) ∧ wr.ownsRow B 3 1 (.slice A k ca) k (nats l) ∧ Below B w wr
def addL (zs ys : List Int) : List Nat := if Na.vld zs && Na.vld ys then resL (num zs + num ys) else []
def addE (zs ys : List Int) : Int := if Na.vld zs && Na.vld ys then resE (num zs + num ys) else 1
theorem own_zero (w : World) (z : Value) (n : Nat) (e : TypeId) (hz : z.cells = #[z]) (hc : n ≤ maxLen) : (w.alloc (.cells (madeCells z.cells n) e)).ownsRow w.heap.size e 1 (.slice (some ⟨w.heap.size, 0, none⟩) 0 n) 0 [] :=
  own_made w e z 0 n hz (Nat.zero_le _) hc

set_option maxHeartbeats 2000000 in
theorem nadd_ge (A A2 : Option Addr) (n c m c2 : Nat) (x y : Nat) (w : World) (hn : (Na.dig x).length = n) (hm : (Na.dig y).length = m) (hs : Sl w w.heap.size A (nats (Na.dig x))) (hs2 : Sl w w.heap.size A2 (nats (Na.dig y))) (hx : x < Na.top) (hy : y < Na.top) (hcmp : m ≤ n) :
    Calls Tryz.prog 43 #[.agg #[.slice A n c], .agg #[.slice A2 m c2]] w (ResN w (resL (x + y)) (resE (x + y))) := by
  obtain ⟨i0, hi, hz0, hz1, hz2⟩ := info_parts infoI
  have hn2 : n ≤ 200 := by rw [← hn]; exact (Na.dig_200 x).2 hx
  have hm2 : m ≤ 200 := by rw [← hm]; exact (Na.dig_200 y).2 hy
  obtain ⟨w0, hw0⟩ : ∃ w0, ((w.alloc (.cells #[.slice A n c] 24)).alloc (.cells #[.slice A2 m c2] 24)).alloc (.cells #[.slice none 0 0] 24) = w0 := ⟨_, rfl⟩
  have HW : Hid (((w.alloc (.cells #[.slice A n c] 24)).alloc (.cells #[.slice A2 m c2] 24)).alloc (.cells #[.slice none 0 0] 24) = w0) := hw0
  have hb0 : Below w.heap.size w w0 := by rw [← hw0]; exact bal (bal (bal (Below.refl _ _) _) _) _
  have HB0 := Lib.hid hb0
  have hzw : w0.heap.size = w.heap.size + 3 := by rw [← hw0]; simp
  have hc0 : w0.cell? ⟨w.heap.size, 0, none⟩ = some (.slice A n c) := by rw [← hw0]; simp [go_sem]
  have hc1 : w0.cell? ⟨w.heap.size + 1, 0, none⟩ = some (.slice A2 m c2) := by rw [← hw0]; simp [go_sem]
  have hc2 : w0.cell? ⟨w.heap.size + 2, 0, none⟩ = some (.slice none 0 0) := by rw [← hw0]; simp [go_sem]
  have hf2 : w0.frozen? ⟨w.heap.size + 2, 0, none⟩ = false := by rw [← hw0]; simp [go_sem]
  have hvv : (Na.vld (Na.up (Na.dig x)) && Na.vld (Na.up (Na.dig y))) = true := by rw [Na.vld_dig hx, Na.vld_dig hy]; rfl
  have HV := Lib.hid (nboth_any A A2 n c m c2 w0.heap.size _ _ w0 (by rw [Na.up_length]; exact hn) (by rw [Na.up_length]; exact hm) (by rw [nats_up]; exact (hs.below hb0).more hb0.size) (by rw [nats_up]; exact (hs2.below hb0).more hb0.size) (Nat.le_refl _) (by omega) (by omega))
  rw [hvv] at HV
  have HN := Lib.hid hn
  have HM := Lib.hid hm
  have HS := Lib.hid hs
  have HS2 := Lib.hid hs2
  have HX := Lib.hid hx
  have HY := Lib.hid hy
  have hdc : decide (n < m) = false := decide_eq_false (by omega)
  have hmk := run_make_one (P := Tryz.prog) 22 3 i0 (.int .i64 0) Tryz.underlying22 hi hz0 hz1 .i64 .i64 0 ((n : Int) + 1) 0 (n + 1) (by omega) (by omega) (Nat.zero_le _) (by rw [hz2]; omega) (by omega)
  clear hs hs2 hn hm hb0 hw0 hvv hx hy
  go_enter Tryz.func43, Tryz.ntmps43
  go_wp2_with fail
  rw [HW.out]
  refine HV.out.mono ?_
  rintro e w1 ⟨rfl, hb⟩
  have HB1 := Lib.hid (btr HB0.out hb)
  have hd0 : w1.cell? ⟨w.heap.size, 0, none⟩ = some (.slice A n c) := (hb.cell (p := ⟨w.heap.size, 0, none⟩) (by simp [hzw])).trans hc0
  have hd1 : w1.cell? ⟨w.heap.size + 1, 0, none⟩ = some (.slice A2 m c2) := (hb.cell (p := ⟨w.heap.size + 1, 0, none⟩) (by simp [hzw])).trans hc1
  have hd2 : w1.cell? ⟨w.heap.size + 2, 0, none⟩ = some (.slice none 0 0) := (hb.cell (p := ⟨w.heap.size + 2, 0, none⟩) (by simp [hzw])).trans hc2
  have hg2 : w1.frozen? ⟨w.heap.size + 2, 0, none⟩ = false := (hb.frozen (p := ⟨w.heap.size + 2, 0, none⟩) (by simp [hzw])).trans hf2
  have hsz1 : w.heap.size + 3 ≤ w1.heap.size := by rw [← hzw]; exact hb.size
  clear hb hc0 hc1 hc2 hf2 HV HW hzw HB0
  go_wp2_with fail
  go_quiet (fail)
  go_wp2_with fail
  clear hmk
  have HO0 : Hid (((w1.drewN nq).alloc (.cells (madeCells #[Value.int .i64 0] (n + 1)) 3)).ownsRow w1.heap.size 3 1 (.slice (some ⟨w1.heap.size, 0, none⟩) 0 (n + 1)) 0 (nats [])) := own_zero (w1.drewN nq) (.int .i64 0) (n + 1) 3 rfl (by unfold maxLen; omega)
  have HBB : Hid (Below w1.heap.size w1 ((w1.drewN nq).alloc (.cells (madeCells #[Value.int .i64 0] (n + 1)) 3))) := (below_drewN (Below.refl w1.heap.size w1) nq).alloc (Nat.le_refl _) _
  go_loopw [34, 9, 8] (fun i cr o wr => NAdd w1 w1.heap.size (Na.dig x) (Na.dig y) n i cr o wr) (fun i _ _ _ => n - (intOf i).toNat)
  case atStart => exact ⟨0, 0, _, _, [], Nat.zero_le _, rfl, rfl, rfl, Nat.zero_le _, ⟨rfl, Na.Lim.nil, by simp [Na.val]⟩, HO0.out, HBB.out⟩
  case round =>
    clear HO0 HBB
    obtain ⟨k, cr, Ao, co, l, hk, rfl, rfl, rfl, hcr, HP, ho, hb⟩ := hrel
    have HO := Lib.hid ho
    have HB := Lib.hid hb
    rcases Nat.lt_or_ge k n with hkn | hkn
    · obtain ⟨a, ha⟩ := nat_at (Na.dig x) k (by rw [HN.out]; exact hkn)
      obtain ⟨ad, rfl, hbk, hca⟩ := (HS.out.below (HB1.out.trans (hb.mono HB1.out.size))).nat ha
      have ha24 := (Na.dig_lim x).at ha
      have hea := Na.at0_some ha
      clear ho hb
      rcases Nat.lt_or_ge k m with hkm | hkm
      · obtain ⟨b, hbb⟩ := nat_at (Na.dig y) k (by rw [HM.out]; exact hkm)
        obtain ⟨ad2, rfl, hbk2, hcb⟩ := (HS2.out.below (HB1.out.trans (HB.out.mono HB1.out.size))).nat hbb
        have hb24 := (Na.dig_lim y).at hbb
        have heb := Na.at0_some hbb
        obtain ⟨t, ht⟩ : ∃ t, cr + a + b = t := ⟨_, rfl⟩
        obtain ⟨r, hr⟩ : ∃ r, t % 16777216 = r := ⟨_, rfl⟩
        obtain ⟨q, hq⟩ : ∃ q, t / 16777216 = q := ⟨_, rfl⟩
        have HST := Lib.hid (Na.add_step (Na.dig x) (Na.dig y) l k cr t HP.out.1 HP.out.2.2 (by rw [hea, heb]; omega))
        rw [hr, hq] at HST
        have hand : bits .and .i64 ((cr : Int) + (a : Int) + (b : Int)) 16777215 = (r : Int) := by rw [and24]; omega
        have hshr : ((cr : Int) + (a : Int) + (b : Int)) / 16777216 = (q : Int) := by omega
        have hq1 : q ≤ 1 := by omega
        have hr24 : r < 16777216 := by omega
        have HLr := Lib.hid (HP.out.2.1.append (Na.Lim.one hr24))
        have HLl : Hid ((l ++ [r]).length = k + 1) := by unfold Hid; rw [List.length_append, HP.out.1]; rfl
        clear ht hr hq ha hbb hea heb
        have HO3 : Hid ((wr.alloc (.cells #[.int .i64 (r : Int)] 3)).ownsRow w1.heap.size 3 1 (.slice Ao k co) k (nats l)) := own_alloc HO.out _
        have HSl := Lib.hid (sl_new1 wr 3 (.int .i64 (r : Int)))
        have HBW : Hid (w1.heap.size ≤ wr.heap.size) := HB.out.size
        have hrow : ∀ y, (Value.slice Ao k co).ownBlock = some y → w1.heap.size ≤ y := own_block HO.out
        go_wp2_with (at_builtin; refine wpList_append_sl _ rfl (.tmp 52) (.tmp 55) 22 rfl w1.heap.size 3 i0 (.int .i64 0) 8 Tryz.underlying22 hi hz0 hz1 hz2 rfl _ _ _ _ rfl HO3.out _ _ 1 _ _ rfl rfl HSl.out (fun u hu => by simp at hu; subst hu; rfl) (by unfold maxLen; omega) (by omega) (by have := HBW.out; simp; omega) ?_; intro A' c' w8 hown hgrow hblk)
        go_roundw
        case rel =>
          rw [nats_snoc] at hown
          exact ⟨k + 1, q, A', c', l ++ [r], by omega, by go_num, rfl, rfl, hq1, ⟨HLl.out, HLr.out, HST.out⟩, hown, (HB.out.alloc HBW.out _).grown hgrow (by have := HBW.out; simp; omega) hrow⟩
        case measure => simp [intOf]; omega
      · obtain ⟨t, ht⟩ : ∃ t, cr + a = t := ⟨_, rfl⟩
        have heb : Na.at0 (Na.dig y) k = 0 := Na.at0_none (by rw [HM.out]; exact hkm)
        obtain ⟨r, hr⟩ : ∃ r, t % 16777216 = r := ⟨_, rfl⟩
        obtain ⟨q, hq⟩ : ∃ q, t / 16777216 = q := ⟨_, rfl⟩
        have HST := Lib.hid (Na.add_step (Na.dig x) (Na.dig y) l k cr t HP.out.1 HP.out.2.2 (by rw [hea, heb]; omega))
        rw [hr, hq] at HST
        have hand : bits .and .i64 ((cr : Int) + (a : Int)) 16777215 = (r : Int) := by rw [and24]; omega
        have hshr : ((cr : Int) + (a : Int)) / 16777216 = (q : Int) := by omega
        have hq1 : q ≤ 1 := by omega
        have hr24 : r < 16777216 := by omega
        have HLr := Lib.hid (HP.out.2.1.append (Na.Lim.one hr24))
        have HLl : Hid ((l ++ [r]).length = k + 1) := by unfold Hid; rw [List.length_append, HP.out.1]; rfl
        clear ht hr hq ha hea heb
        have HO3 : Hid ((wr.alloc (.cells #[.int .i64 (r : Int)] 3)).ownsRow w1.heap.size 3 1 (.slice Ao k co) k (nats l)) := own_alloc HO.out _
        have HSl := Lib.hid (sl_new1 wr 3 (.int .i64 (r : Int)))
        have HBW : Hid (w1.heap.size ≤ wr.heap.size) := HB.out.size
        have hrow : ∀ y, (Value.slice Ao k co).ownBlock = some y → w1.heap.size ≤ y := own_block HO.out
        go_wp2_with (at_builtin; refine wpList_append_sl _ rfl (.tmp 52) (.tmp 55) 22 rfl w1.heap.size 3 i0 (.int .i64 0) 8 Tryz.underlying22 hi hz0 hz1 hz2 rfl _ _ _ _ rfl HO3.out _ _ 1 _ _ rfl rfl HSl.out (fun u hu => by simp at hu; subst hu; rfl) (by unfold maxLen; omega) (by omega) (by have := HBW.out; simp; omega) ?_; intro A' c' w8 hown hgrow hblk)
        go_roundw
        case rel =>
          rw [nats_snoc] at hown
          exact ⟨k + 1, q, A', c', l ++ [r], by omega, by go_num, rfl, rfl, hq1, ⟨HLl.out, HLr.out, HST.out⟩, hown, (HB.out.alloc HBW.out _).grown hgrow (by have := HBW.out; simp; omega) hrow⟩
        case measure => simp [intOf]; omega
    · have hkn' : k = n := by omega
      have HEnd : Hid (Na.val (l ++ [cr]) = x + y) := by
        have h1 := Na.add_end (Na.dig x) (Na.dig y) l k cr HP.out.1 HP.out.2.2 (by rw [HN.out]; omega) (by rw [HM.out]; omega)
        rw [Na.val_dig, Na.val_dig] at h1
        unfold Hid
        omega
      have HLr := Lib.hid (HP.out.2.1.append (Na.Lim.one (show cr < 16777216 by omega)))
      have HLl : Hid ((l ++ [cr]).length = k + 1) := by unfold Hid; rw [List.length_append, HP.out.1]; rfl
      have HO3 : Hid ((wr.alloc (.cells #[.int .i64 (cr : Int)] 3)).ownsRow w1.heap.size 3 1 (.slice Ao k co) k (nats l)) := own_alloc HO.out _
      have HSl := Lib.hid (sl_new1 wr 3 (.int .i64 (cr : Int)))
      have HBW : Hid (w1.heap.size ≤ wr.heap.size) := HB.out.size
      have hrow : ∀ y, (Value.slice Ao k co).ownBlock = some y → w1.heap.size ≤ y := own_block HO.out
      clear ho hb hkn'
      go_wp2_with (at_builtin; refine wpList_append_sl _ rfl (.tmp 60) (.tmp 62) 22 rfl w1.heap.size 3 i0 (.int .i64 0) 8 Tryz.underlying22 hi hz0 hz1 hz2 rfl _ _ _ _ rfl HO3.out _ _ 1 _ _ rfl rfl HSl.out (fun u hu => by simp at hu; subst hu; rfl) (by unfold maxLen; omega) (by omega) (by have := HBW.out; simp; omega) ?_; intro A' c' w8 hown hgrow hblk)
      rw [nats_snoc] at hown
      have HB8 := Lib.hid ((HB.out.alloc HBW.out (.cells #[.int .i64 (cr : Int)] 3)).grown hgrow (by have := HBW.out; simp; omega) hrow)
      refine (nresult_any A' (k + 1) c' w1.heap.size (l ++ [cr]) w8 HLl.out hown HLr.out (by omega)).mono ?_
      rw [HEnd.out]
      rintro e w9 ⟨A9, n9, c9, rfl, hn9, ho9, hb9⟩
      have HN9 := Lib.hid hn9
      have HO9 := Lib.hid ho9
      have HB9 := Lib.hid (btr HB8.out hb9)
      have hk9 : w9.cell? ⟨w.heap.size + 2, 0, none⟩ = some (.slice none 0 0) := (HB9.out.cell (p := ⟨w.heap.size + 2, 0, none⟩) (by simp; omega)).trans hd2
      have hk9f : w9.frozen? ⟨w.heap.size + 2, 0, none⟩ = false := (HB9.out.frozen (p := ⟨w.heap.size + 2, 0, none⟩) (by simp; omega)).trans hg2
      clear hn9 ho9 hb9 hown hgrow hblk hrow hd0 hd1 hd2 hg2
      go_wp2_with fail
      refine bodyPost_ret (v := .tuple #[.agg #[.slice A9 n9 c9], .int .i64 (resE (x + y))]) (by simp [results, Tryz.results43, go_sem, hk9]) rfl ?_
      exact resN_cell HO9.out HN9.out (by omega) (by omega) (HB1.out.trans (HB9.out.mono HB1.out.size)) (by omega) _ _

set_option maxHeartbeats 2000000 in
theorem nadd_lt (A A2 : Option Addr) (n c m c2 : Nat) (x y : Nat) (w : World) (hn : (Na.dig x).length = n) (hm : (Na.dig y).length = m) (hs : Sl w w.heap.size A (nats (Na.dig x))) (hs2 : Sl w w.heap.size A2 (nats (Na.dig y))) (hx : x < Na.top) (hy : y < Na.top) (hcmp : n < m) :
    Calls Tryz.prog 43 #[.agg #[.slice A n c], .agg #[.slice A2 m c2]] w (ResN w (resL (x + y)) (resE (x + y))) := by
  obtain ⟨i0, hi, hz0, hz1, hz2⟩ := info_parts infoI
  have hn2 : n ≤ 200 := by rw [← hn]; exact (Na.dig_200 x).2 hx
  have hm2 : m ≤ 200 := by rw [← hm]; exact (Na.dig_200 y).2 hy
  obtain ⟨w0, hw0⟩ : ∃ w0, ((w.alloc (.cells #[.slice A n c] 24)).alloc (.cells #[.slice A2 m c2] 24)).alloc (.cells #[.slice none 0 0] 24) = w0 := ⟨_, rfl⟩
  have HW : Hid (((w.alloc (.cells #[.slice A n c] 24)).alloc (.cells #[.slice A2 m c2] 24)).alloc (.cells #[.slice none 0 0] 24) = w0) := hw0
  have hb0 : Below w.heap.size w w0 := by rw [← hw0]; exact bal (bal (bal (Below.refl _ _) _) _) _
  have HB0 := Lib.hid hb0
  have hzw : w0.heap.size = w.heap.size + 3 := by rw [← hw0]; simp
  have hc0 : w0.cell? ⟨w.heap.size, 0, none⟩ = some (.slice A n c) := by rw [← hw0]; simp [go_sem]
  have hc1 : w0.cell? ⟨w.heap.size + 1, 0, none⟩ = some (.slice A2 m c2) := by rw [← hw0]; simp [go_sem]
  have hc2 : w0.cell? ⟨w.heap.size + 2, 0, none⟩ = some (.slice none 0 0) := by rw [← hw0]; simp [go_sem]
  have hf2 : w0.frozen? ⟨w.heap.size + 2, 0, none⟩ = false := by rw [← hw0]; simp [go_sem]
  have hvv : (Na.vld (Na.up (Na.dig x)) && Na.vld (Na.up (Na.dig y))) = true := by rw [Na.vld_dig hx, Na.vld_dig hy]; rfl
  have HV := Lib.hid (nboth_any A A2 n c m c2 w0.heap.size _ _ w0 (by rw [Na.up_length]; exact hn) (by rw [Na.up_length]; exact hm) (by rw [nats_up]; exact (hs.below hb0).more hb0.size) (by rw [nats_up]; exact (hs2.below hb0).more hb0.size) (Nat.le_refl _) (by omega) (by omega))
  rw [hvv] at HV
  have HN := Lib.hid hn
  have HM := Lib.hid hm
  have HS := Lib.hid hs
  have HS2 := Lib.hid hs2
  have HX := Lib.hid hx
  have HY := Lib.hid hy
  have hdc : decide (n < m) = true := decide_eq_true hcmp
  have hmk := run_make_one (P := Tryz.prog) 22 3 i0 (.int .i64 0) Tryz.underlying22 hi hz0 hz1 .i64 .i64 0 ((m : Int) + 1) 0 (m + 1) (by omega) (by omega) (Nat.zero_le _) (by rw [hz2]; omega) (by omega)
  clear hs hs2 hn hm hb0 hw0 hvv hx hy
  go_enter Tryz.func43, Tryz.ntmps43
  go_wp2_with fail
  rw [HW.out]
  refine HV.out.mono ?_
  rintro e w1 ⟨rfl, hb⟩
  have HB1 := Lib.hid (btr HB0.out hb)
  have hd0 : w1.cell? ⟨w.heap.size, 0, none⟩ = some (.slice A n c) := (hb.cell (p := ⟨w.heap.size, 0, none⟩) (by simp [hzw])).trans hc0
  have hd1 : w1.cell? ⟨w.heap.size + 1, 0, none⟩ = some (.slice A2 m c2) := (hb.cell (p := ⟨w.heap.size + 1, 0, none⟩) (by simp [hzw])).trans hc1
  have hd2 : w1.cell? ⟨w.heap.size + 2, 0, none⟩ = some (.slice none 0 0) := (hb.cell (p := ⟨w.heap.size + 2, 0, none⟩) (by simp [hzw])).trans hc2
  have hg2 : w1.frozen? ⟨w.heap.size + 2, 0, none⟩ = false := (hb.frozen (p := ⟨w.heap.size + 2, 0, none⟩) (by simp [hzw])).trans hf2
  have hsz1 : w.heap.size + 3 ≤ w1.heap.size := by rw [← hzw]; exact hb.size
  clear hb hc0 hc1 hc2 hf2 HV HW hzw HB0
  go_wp2_with fail
  go_quiet (fail)
  go_wp2_with fail
  clear hmk
  have HO0 : Hid (((w1.drewN nq).alloc (.cells (madeCells #[Value.int .i64 0] (m + 1)) 3)).ownsRow w1.heap.size 3 1 (.slice (some ⟨w1.heap.size, 0, none⟩) 0 (m + 1)) 0 (nats [])) := own_zero (w1.drewN nq) (.int .i64 0) (m + 1) 3 rfl (by unfold maxLen; omega)
  have HBB : Hid (Below w1.heap.size w1 ((w1.drewN nq).alloc (.cells (madeCells #[Value.int .i64 0] (m + 1)) 3))) := (below_drewN (Below.refl w1.heap.size w1) nq).alloc (Nat.le_refl _) _
  go_loopw [34, 9, 8] (fun i cr o wr => NAdd w1 w1.heap.size (Na.dig y) (Na.dig x) m i cr o wr) (fun i _ _ _ => m - (intOf i).toNat)
  case atStart => exact ⟨0, 0, _, _, [], Nat.zero_le _, rfl, rfl, rfl, Nat.zero_le _, ⟨rfl, Na.Lim.nil, by simp [Na.val]⟩, HO0.out, HBB.out⟩
  case round =>
    clear HO0 HBB
    obtain ⟨k, cr, Ao, co, l, hk, rfl, rfl, rfl, hcr, HP, ho, hb⟩ := hrel
    have HO := Lib.hid ho
    have HB := Lib.hid hb
    rcases Nat.lt_or_ge k m with hkn | hkn
    · obtain ⟨a, ha⟩ := nat_at (Na.dig y) k (by rw [HM.out]; exact hkn)
      obtain ⟨ad, rfl, hbk, hca⟩ := (HS2.out.below (HB1.out.trans (hb.mono HB1.out.size))).nat ha
      have ha24 := (Na.dig_lim y).at ha
      have hea := Na.at0_some ha
      clear ho hb
      rcases Nat.lt_or_ge k n with hkm | hkm
      · obtain ⟨b, hbb⟩ := nat_at (Na.dig x) k (by rw [HN.out]; exact hkm)
        obtain ⟨ad2, rfl, hbk2, hcb⟩ := (HS.out.below (HB1.out.trans (HB.out.mono HB1.out.size))).nat hbb
        have hb24 := (Na.dig_lim x).at hbb
        have heb := Na.at0_some hbb
        obtain ⟨t, ht⟩ : ∃ t, cr + a + b = t := ⟨_, rfl⟩
        obtain ⟨r, hr⟩ : ∃ r, t % 16777216 = r := ⟨_, rfl⟩
        obtain ⟨q, hq⟩ : ∃ q, t / 16777216 = q := ⟨_, rfl⟩
        have HST := Lib.hid (Na.add_step (Na.dig y) (Na.dig x) l k cr t HP.out.1 HP.out.2.2 (by rw [hea, heb]; omega))
        rw [hr, hq] at HST
        have hand : bits .and .i64 ((cr : Int) + (a : Int) + (b : Int)) 16777215 = (r : Int) := by rw [and24]; omega
        have hshr : ((cr : Int) + (a : Int) + (b : Int)) / 16777216 = (q : Int) := by omega
        have hq1 : q ≤ 1 := by omega
        have hr24 : r < 16777216 := by omega
        have HLr := Lib.hid (HP.out.2.1.append (Na.Lim.one hr24))
        have HLl : Hid ((l ++ [r]).length = k + 1) := by unfold Hid; rw [List.length_append, HP.out.1]; rfl
        clear ht hr hq ha hbb hea heb
        have HO3 : Hid ((wr.alloc (.cells #[.int .i64 (r : Int)] 3)).ownsRow w1.heap.size 3 1 (.slice Ao k co) k (nats l)) := own_alloc HO.out _
        have HSl := Lib.hid (sl_new1 wr 3 (.int .i64 (r : Int)))
        have HBW : Hid (w1.heap.size ≤ wr.heap.size) := HB.out.size
        have hrow : ∀ y, (Value.slice Ao k co).ownBlock = some y → w1.heap.size ≤ y := own_block HO.out
        go_wp2_with (at_builtin; refine wpList_append_sl _ rfl (.tmp 52) (.tmp 55) 22 rfl w1.heap.size 3 i0 (.int .i64 0) 8 Tryz.underlying22 hi hz0 hz1 hz2 rfl _ _ _ _ rfl HO3.out _ _ 1 _ _ rfl rfl HSl.out (fun u hu => by simp at hu; subst hu; rfl) (by unfold maxLen; omega) (by omega) (by have := HBW.out; simp; omega) ?_; intro A' c' w8 hown hgrow hblk)
        go_roundw
        case rel =>
          rw [nats_snoc] at hown
          exact ⟨k + 1, q, A', c', l ++ [r], by omega, by go_num, rfl, rfl, hq1, ⟨HLl.out, HLr.out, HST.out⟩, hown, (HB.out.alloc HBW.out _).grown hgrow (by have := HBW.out; simp; omega) hrow⟩
        case measure => simp [intOf]; omega
      · obtain ⟨t, ht⟩ : ∃ t, cr + a = t := ⟨_, rfl⟩
        have heb : Na.at0 (Na.dig x) k = 0 := Na.at0_none (by rw [HN.out]; exact hkm)
        obtain ⟨r, hr⟩ : ∃ r, t % 16777216 = r := ⟨_, rfl⟩
        obtain ⟨q, hq⟩ : ∃ q, t / 16777216 = q := ⟨_, rfl⟩
        have HST := Lib.hid (Na.add_step (Na.dig y) (Na.dig x) l k cr t HP.out.1 HP.out.2.2 (by rw [hea, heb]; omega))
        rw [hr, hq] at HST
        have hand : bits .and .i64 ((cr : Int) + (a : Int)) 16777215 = (r : Int) := by rw [and24]; omega
        have hshr : ((cr : Int) + (a : Int)) / 16777216 = (q : Int) := by omega
        have hq1 : q ≤ 1 := by omega
        have hr24 : r < 16777216 := by omega
        have HLr := Lib.hid (HP.out.2.1.append (Na.Lim.one hr24))
        have HLl : Hid ((l ++ [r]).length = k + 1) := by unfold Hid; rw [List.length_append, HP.out.1]; rfl
        clear ht hr hq ha hea heb
        have HO3 : Hid ((wr.alloc (.cells #[.int .i64 (r : Int)] 3)).ownsRow w1.heap.size 3 1 (.slice Ao k co) k (nats l)) := own_alloc HO.out _
        have HSl := Lib.hid (sl_new1 wr 3 (.int .i64 (r : Int)))
        have HBW : Hid (w1.heap.size ≤ wr.heap.size) := HB.out.size
        have hrow : ∀ y, (Value.slice Ao k co).ownBlock = some y → w1.heap.size ≤ y := own_block HO.out
        go_wp2_with (at_builtin; refine wpList_append_sl _ rfl (.tmp 52) (.tmp 55) 22 rfl w1.heap.size 3 i0 (.int .i64 0) 8 Tryz.underlying22 hi hz0 hz1 hz2 rfl _ _ _ _ rfl HO3.out _ _ 1 _ _ rfl rfl HSl.out (fun u hu => by simp at hu; subst hu; rfl) (by unfold maxLen; omega) (by omega) (by have := HBW.out; simp; omega) ?_; intro A' c' w8 hown hgrow hblk)
        go_roundw
        case rel =>
          rw [nats_snoc] at hown
          exact ⟨k + 1, q, A', c', l ++ [r], by omega, by go_num, rfl, rfl, hq1, ⟨HLl.out, HLr.out, HST.out⟩, hown, (HB.out.alloc HBW.out _).grown hgrow (by have := HBW.out; simp; omega) hrow⟩
        case measure => simp [intOf]; omega
    · have hkn' : k = m := by omega
      have HEnd : Hid (Na.val (l ++ [cr]) = x + y) := by
        have h1 := Na.add_end (Na.dig y) (Na.dig x) l k cr HP.out.1 HP.out.2.2 (by rw [HM.out]; omega) (by rw [HN.out]; omega)
        rw [Na.val_dig, Na.val_dig] at h1
        unfold Hid
        omega
      have HLr := Lib.hid (HP.out.2.1.append (Na.Lim.one (show cr < 16777216 by omega)))
      have HLl : Hid ((l ++ [cr]).length = k + 1) := by unfold Hid; rw [List.length_append, HP.out.1]; rfl
      have HO3 : Hid ((wr.alloc (.cells #[.int .i64 (cr : Int)] 3)).ownsRow w1.heap.size 3 1 (.slice Ao k co) k (nats l)) := own_alloc HO.out _
      have HSl := Lib.hid (sl_new1 wr 3 (.int .i64 (cr : Int)))
      have HBW : Hid (w1.heap.size ≤ wr.heap.size) := HB.out.size
      have hrow : ∀ y, (Value.slice Ao k co).ownBlock = some y → w1.heap.size ≤ y := own_block HO.out
      clear ho hb hkn'
      go_wp2_with (at_builtin; refine wpList_append_sl _ rfl (.tmp 60) (.tmp 62) 22 rfl w1.heap.size 3 i0 (.int .i64 0) 8 Tryz.underlying22 hi hz0 hz1 hz2 rfl _ _ _ _ rfl HO3.out _ _ 1 _ _ rfl rfl HSl.out (fun u hu => by simp at hu; subst hu; rfl) (by unfold maxLen; omega) (by omega) (by have := HBW.out; simp; omega) ?_; intro A' c' w8 hown hgrow hblk)
      rw [nats_snoc] at hown
      have HB8 := Lib.hid ((HB.out.alloc HBW.out (.cells #[.int .i64 (cr : Int)] 3)).grown hgrow (by have := HBW.out; simp; omega) hrow)
      refine (nresult_any A' (k + 1) c' w1.heap.size (l ++ [cr]) w8 HLl.out hown HLr.out (by omega)).mono ?_
      rw [HEnd.out]
      rintro e w9 ⟨A9, n9, c9, rfl, hn9, ho9, hb9⟩
      have HN9 := Lib.hid hn9
      have HO9 := Lib.hid ho9
      have HB9 := Lib.hid (btr HB8.out hb9)
      have hk9 : w9.cell? ⟨w.heap.size + 2, 0, none⟩ = some (.slice none 0 0) := (HB9.out.cell (p := ⟨w.heap.size + 2, 0, none⟩) (by simp; omega)).trans hd2
      have hk9f : w9.frozen? ⟨w.heap.size + 2, 0, none⟩ = false := (HB9.out.frozen (p := ⟨w.heap.size + 2, 0, none⟩) (by simp; omega)).trans hg2
      clear hn9 ho9 hb9 hown hgrow hblk hrow hd0 hd1 hd2 hg2
      go_wp2_with fail
      refine bodyPost_ret (v := .tuple #[.agg #[.slice A9 n9 c9], .int .i64 (resE (x + y))]) (by simp [results, Tryz.results43, go_sem, hk9]) rfl ?_
      exact resN_cell HO9.out HN9.out (by omega) (by omega) (HB1.out.trans (HB9.out.mono HB1.out.size)) (by omega) _ _
end Go.Proofs.YtnfjnlnphdmdmaaGreatDoor

/- Sw DiceB Dy Sx PolyO Sy Ya Yb Yc Yd Ye RefA RefB -/
import Derived.Test.YtnplaejlmbncfaaGreatDoorM01
import Derived.Test.YtnplaejlmbncfaaGreatDoorM02
import Derived.Test.YtnplaejlmbncfaaGreatDoorM04
import Derived.Test.YtnplaejlmbncfaaGreatDoorM05
import Derived.Test.YtnplaejlmbncfaaGreatDoorM06
import Derived.Test.YtnplaejlmbncfaaGreatDoorM11
import Derived.Outline
namespace Go.Proofs.YtnplaejlmbncfaaGreatDoor
open Go.RowKit
set_option linter.unusedVariables false
set_option maxRecDepth 100000
theorem ers_nil (n m : Nat) : Sy.Ers [] n m := ⟨List.Pairwise.nil, fun p hp => absurd hp (by simp), Nat.zero_le _⟩
set_option maxHeartbeats 4000000 in
theorem awake07_any (w : World) : Calls Tryz.prog 12 #[] w fun e w' => e = .returned (.bool true) ∧ Below w.heap.size w w' := by
  have H1 := (Ow.of (St.refl w)).arr #[.int .i64 2, .int .i64 2, .int .i64 2, .int .i64 1] 4 rfl (by omega) 28
  have H2 := H1.arr #[.int .u8 5, .int .u8 6] 2 rfl (by omega) 5
  simp only [List.nil_append, List.cons_append, World.size_alloc] at H1 H2
  have HO := Lib.hid H2
  have HE1 : Hid (Sy.enc 1 [5, 6] = [5, 6, 3]) := by unfold Hid; decide +kernel
  have HE2 : Hid (Sy.wd (Sy.enc 2 [5, 6]) 1 = 6) := by unfold Hid; decide +kernel
  have HD : Hid (Sy.decM 2 1 ((Sy.enc 2 [5, 6]).set 1 75) [] = (1, Sy.enc 2 [5, 6], [1])) := by unfold Hid; decide +kernel
  have hcd1 : Cd 2 1 0 := ⟨by decide, by decide, by decide, by decide, by decide⟩
  have hcd2 : Cd 2 2 1 := ⟨by decide, by decide, by decide, by decide, by decide⟩
  have HC1 : Hid (Calls Tryz.prog 46 #[.agg #[.int .i64 2, .int .i64 2, .int .i64 1, .int .i64 0], .slice (some ⟨w.heap.size + 1, 0, none⟩) 2 2] ((w.alloc (.cells #[.int .i64 2, .int .i64 2, .int .i64 2, .int .i64 1] 28)).alloc (.cells #[.int .u8 5, .int .u8 6] 5)) (ResB ((w.alloc (.cells #[.int .i64 2, .int .i64 2, .int .i64 2, .int .i64 1] 28)).alloc (.cells #[.int .u8 5, .int .u8 6] 5)) [5, 6, 3] 0)) := by
    unfold Hid
    rw [← HE1.out]
    exact encode_ok hcd1 (by decide) (some ⟨w.heap.size + 1, 0, none⟩) 2 [5, 6] _ rfl (Sl.of_own (H2.row 1 rfl)) (Nat.le_refl _)
  clear H1 H2
  go_enter Tryz.func12, Tryz.ntmps12
  go_wp2_with fail
  refine HC1.out.mono ?_
  rintro e w1 ⟨A1, n1, c1, rfl, hn1, ho1, hb1⟩
  obtain rfl : 3 = n1 := hn1
  have H3 := (HO.out.add ho1 hb1)
  obtain ⟨g1, rfl, -, -⟩ := own_form ho1 (by omega)
  have H4 := H3.arr #[.int .u8 5, .int .u8 6] 2 rfl (by omega) 5
  simp only [List.nil_append, List.cons_append] at H3 H4
  have HO4 := Lib.hid H4
  have hk0 : (w1.alloc (.cells #[.int .u8 5, .int .u8 6] 5)).cell? ⟨w.heap.size, 0, none⟩ = some (.int .i64 2) := (H4.row 0 rfl).cellAt 0 (by decide)
  have hk1 : (w1.alloc (.cells #[.int .u8 5, .int .u8 6] 5)).cell? ⟨w.heap.size, 1, none⟩ = some (.int .i64 2) := (H4.row 0 rfl).cellAt 1 (by decide)
  have hk2 : (w1.alloc (.cells #[.int .u8 5, .int .u8 6] 5)).cell? ⟨w.heap.size, 2, none⟩ = some (.int .i64 2) := (H4.row 0 rfl).cellAt 2 (by decide)
  have hk3 : (w1.alloc (.cells #[.int .u8 5, .int .u8 6] 5)).cell? ⟨w.heap.size, 3, none⟩ = some (.int .i64 1) := (H4.row 0 rfl).cellAt 3 (by decide)
  have hj0 : w1.cell? ⟨w.heap.size, 0, none⟩ = some (.int .i64 2) := (H3.row 0 rfl).cellAt 0 (by decide)
  have hj1 : w1.cell? ⟨w.heap.size, 1, none⟩ = some (.int .i64 2) := (H3.row 0 rfl).cellAt 1 (by decide)
  have hj2 : w1.cell? ⟨w.heap.size, 2, none⟩ = some (.int .i64 2) := (H3.row 0 rfl).cellAt 2 (by decide)
  have hj3 : w1.cell? ⟨w.heap.size, 3, none⟩ = some (.int .i64 1) := (H3.row 0 rfl).cellAt 3 (by decide)
  have HC2 : Hid (Calls Tryz.prog 46 #[.agg #[.int .i64 2, .int .i64 2, .int .i64 2, .int .i64 1], .slice (some ⟨w1.heap.size, 0, none⟩) 2 2] (w1.alloc (.cells #[.int .u8 5, .int .u8 6] 5)) (ResB (w1.alloc (.cells #[.int .u8 5, .int .u8 6] 5)) (Sy.enc 2 [5, 6]) 0)) :=
    encode_ok hcd2 (by decide) (some ⟨w1.heap.size, 0, none⟩) 2 [5, 6] _ rfl (Sl.of_own (H4.row 3 rfl)) (Nat.le_refl _)
  clear H3 H4 HO HC1 ho1 hb1
  go_wp2_with fail
  refine HC2.out.mono ?_
  rintro e w2 ⟨A2, n2, c2, rfl, hn2, ho2, hb2⟩
  obtain rfl : 4 = n2 := (Sy.enc_length 2 [5, 6]).symm.trans hn2
  have H5 := HO4.out.add ho2 hb2
  obtain ⟨g2, rfl, -, -⟩ := own_form ho2 (by omega)
  simp only [List.nil_append, List.cons_append] at H5
  have HO5 := Lib.hid H5
  have hx3 : w2.cell? ⟨g1, 2, none⟩ = some (.int .u8 3) := H5.byteO 2 (b := 3) rfl rfl
  have hx6 : w2.cell? ⟨g2, 1, none⟩ = some (.int .u8 6) := H5.byteO 4 (b := 6) rfl (by have h6 := Sy.wd_lt (l := Sy.enc 2 [5, 6]) (i := 1) (by rw [Sy.enc_length]; decide); rw [HE2.out] at h6; exact h6)
  have hf6 := H5.frzO 4 (vs := _) rfl 1
  have H6 : Ow w (w2.setCell ⟨g2, 1, none⟩ (.int .u8 75)) none [] [] _ := H5.putB 4 rfl 1 75
  have HO6 := Lib.hid H6
  have hi0 : w2.cell? ⟨w.heap.size, 0, none⟩ = some (.int .i64 2) := (H5.row 0 rfl).cellAt 0 (by decide)
  have hi1 : w2.cell? ⟨w.heap.size, 1, none⟩ = some (.int .i64 2) := (H5.row 0 rfl).cellAt 1 (by decide)
  have hi2 : w2.cell? ⟨w.heap.size, 2, none⟩ = some (.int .i64 2) := (H5.row 0 rfl).cellAt 2 (by decide)
  have hi3 : w2.cell? ⟨w.heap.size, 3, none⟩ = some (.int .i64 1) := (H5.row 0 rfl).cellAt 3 (by decide)
  clear H5 H6 HO4 HC2 ho2 hb2 hj0 hj1 hj2 hj3 hk0 hk1 hk2 hk3
  go_upto_region 7 with fail
  clear hi0 hi1 hi2 hi3
  generalize hw3 : World.setCell w2 ⟨g2, 1, none⟩ _ = w3
  have HO6' := HO6.out
  have hw3' : w2.setCell ⟨g2, 1, none⟩ (.int .u8 75) = w3 := hw3
  rw [hw3'] at HO6'
  have HO6 := Lib.hid HO6'
  clear hw3 hw3' HO6' hx3 hx6 hf6
  have h60 : w3.cell? ⟨w.heap.size, 0, none⟩ = some (.int .i64 2) := (HO6.out.row 0 rfl).cellAt 0 (by decide)
  have h61 : w3.cell? ⟨w.heap.size, 1, none⟩ = some (.int .i64 2) := (HO6.out.row 0 rfl).cellAt 1 (by decide)
  have h62 : w3.cell? ⟨w.heap.size, 2, none⟩ = some (.int .i64 2) := (HO6.out.row 0 rfl).cellAt 2 (by decide)
  have h63 : w3.cell? ⟨w.heap.size, 3, none⟩ = some (.int .i64 1) := (HO6.out.row 0 rfl).cellAt 3 (by decide)
  have HDc : Hid (Calls Tryz.prog 47 #[.agg #[.int .i64 2, .int .i64 2, .int .i64 2, .int .i64 1], .slice (some ⟨g2, 0, none⟩) 4 c2, .slice none 0 0] w3 (DecR w3 (1, Sy.enc 2 [5, 6], [1]))) := by
    unfold Hid
    rw [← HD.out]
    exact decode_any hcd2 (by decide) (some ⟨g2, 0, none⟩) c2 none 0 0 ((Sy.enc 2 [5, 6]).set 1 75) [] w3 (by rw [List.length_set, Sy.enc_length]; rfl) (Sl.of_own (HO6.out.row 4 rfl)) (own_cap (HO6.out.row 4 rfl)).1 rfl (Sl.nil _ _ _) (Nat.le_refl _) (ers_nil _ _)
  have HB3 := Lib.hid HO6.out.below
  clear HO6 HO5 HD HE1
  go_wp2_with fail
  refine HDc.out.mono ?_
  rintro e w4 ⟨A5, n5, c5, A6, n6, c6, rfl, hn5, hn6, ho5, ho6, hb⟩
  obtain rfl : 4 = n5 := (Sy.enc_length 2 [5, 6]).symm.trans hn5
  obtain rfl : 1 = n6 := hn6
  obtain ⟨g5, rfl, -, hg5⟩ := own_form ho5 (by omega)
  obtain ⟨g6, rfl, -, hg6⟩ := own_form ho6 (by omega)
  have hbx := own_box1 w4 (.cells #[.int .i64 1, .slice (some ⟨g5, 0, none⟩) 4 c5, .slice (some ⟨g6, 0, none⟩) 1 c6] 83)
  have hy1 : (w4.alloc (.cells #[.int .i64 1, .slice (some ⟨g5, 0, none⟩) 4 c5, .slice (some ⟨g6, 0, none⟩) 1 c6] 83)).cell? ⟨g5, 1, none⟩ = some (.int .u8 6) := (hbx.cell hg5).trans (own_byte ho5 (k := 1) (b := 6) (by have h6 := Sy.wd_lt (l := Sy.enc 2 [5, 6]) (i := 1) (by rw [Sy.enc_length]; decide); rw [HE2.out] at h6; exact h6))
  have hy2 : (w4.alloc (.cells #[.int .i64 1, .slice (some ⟨g5, 0, none⟩) 4 c5, .slice (some ⟨g6, 0, none⟩) 1 c6] 83)).cell? ⟨g6, 0, none⟩ = some (.int .i64 1) := (hbx.cell hg6).trans (ho6.cellAt 0 (by decide))
  have H9 := (Ow.of (St.refl w4)).arr #[.int .i64 1, .slice (some ⟨g5, 0, none⟩) 4 c5, .slice (some ⟨g6, 0, none⟩) 1 c6] 3 rfl (by omega) 83
  have hz0 : (w4.alloc (.cells #[.int .i64 1, .slice (some ⟨g5, 0, none⟩) 4 c5, .slice (some ⟨g6, 0, none⟩) 1 c6] 83)).cell? ⟨w4.heap.size, 0, none⟩ = some (.int .i64 1) := (H9.row 0 rfl).cellAt 0 (by decide)
  have hz1 : (w4.alloc (.cells #[.int .i64 1, .slice (some ⟨g5, 0, none⟩) 4 c5, .slice (some ⟨g6, 0, none⟩) 1 c6] 83)).cell? ⟨w4.heap.size, 1, none⟩ = some (.slice (some ⟨g5, 0, none⟩) 4 c5) := (H9.row 0 rfl).cellAt 1 (by decide)
  have hz2 : (w4.alloc (.cells #[.int .i64 1, .slice (some ⟨g5, 0, none⟩) 4 c5, .slice (some ⟨g6, 0, none⟩) 1 c6] 83)).cell? ⟨w4.heap.size, 2, none⟩ = some (.slice (some ⟨g6, 0, none⟩) 1 c6) := (H9.row 0 rfl).cellAt 2 (by decide)
  have HBel : Hid (Below w.heap.size w (w4.alloc (.cells #[.int .i64 1, .slice (some ⟨g5, 0, none⟩) 4 c5, .slice (some ⟨g6, 0, none⟩) 1 c6] 83))) := (HB3.out.trans (hb.mono HB3.out.size)).trans (hbx.mono (Nat.le_trans HB3.out.size hb.size))
  clear H9 hbx ho5 ho6 hb h60 h61 h62 h63 HDc hg5 hg6
  go_wp2_with fail
  go_ret
  exact ⟨rfl, HBel.out⟩
end Go.Proofs.YtnplaejlmbncfaaGreatDoor

namespace Go.Proofs.YtnplaejlmbncfaaGreatDoor
open Go.RowKit
set_option linter.unusedVariables false
set_option maxRecDepth 100000
theorem infoBd : (Tryz.prog.info? 5).map (fun i => (i.zero, i.size, i.bytes)) = some (some (.int .u8 0), 1, 1) := by kernel_rfl
theorem next256 (g B : Nat) (w : World) (hd : Dice w g B) : Calls Tryz.prog 17 #[.pointer (some ⟨g, 0, none⟩), .int .i64 256] w fun e w' => ∃ b : UInt8, e = .returned (.int .i64 (b.toNat : Int)) ∧ Hid (Dice w' g B) ∧ Hid (w.grownBy w' (some g)) := by
  refine (next_any g B 256 w (by omega) (by omega) hd).mono ?_
  rintro e w' ⟨r, rfl, h0, h1, hd', hg⟩
  refine ⟨UInt8.ofNat r.toNat, ?_, hd', hg⟩
  rw [UInt8.toNat_ofNat', show ((r.toNat % 2 ^ 8 : Nat) : Int) = r from by omega]
def GaveBs (w : World) (g B : Nat) (n : Nat) (e : Ending) (w' : World) : Prop :=
  ∃ (A : Option Addr) (c : Nat) (l : List UInt8), e = .returned (.slice A n c) ∧ l.length = n ∧ w'.ownsRow w.heap.size 5 1 (.slice A n c) n (bys l) ∧ Dice w' g B ∧ w.grownBy w' (some g)
def BytesRel (w : World) (g B n : Nat) (v b : Value) (wr : World) : Prop :=
  ∃ (k : Nat) (A : Option Addr) (c : Nat) (l : List UInt8), k ≤ n ∧ v = .int .i64 (((n - k : Nat)) : Int) ∧ b = .slice A k c ∧ l.length = k ∧ wr.ownsRow w.heap.size 5 1 (.slice A k c) k (bys l) ∧ Dice wr g B ∧ w.grownBy wr (some g)
theorem bytes_any (g B : Nat) (n : Nat) (w : World) (hn : n ≤ 140737488355328) (hd : Dice w g B) : Calls Tryz.prog 15 #[.pointer (some ⟨g, 0, none⟩), .int .i64 (n : Int)] w (GaveBs w g B n) := by
  obtain ⟨i0, hi, hz0, hz1, hz2⟩ := info_parts infoBd
  have hgw := hd.lt
  go_enter Tryz.func15, Tryz.ntmps15
  go_wp2_with fail
  go_loopw [1, 5] (fun v b wr => BytesRel w g B n v b wr) (fun v _ _ => (intOf v).toNat)
  case atStart => exact ⟨0, none, 0, [], Nat.zero_le _, rfl, rfl, rfl, World.ownsRow_nil _ _ _ _, hd, World.grownBy.refl _ _⟩
  case round =>
    obtain ⟨k, A, c, l, hk, rfl, rfl, hl, ho, hd2, hg⟩ := hrel
    have HL := Lib.hid hl
    have HO := Lib.hid ho
    have HG := Lib.hid hg
    clear hl ho hg hd
    rcases Nat.lt_or_ge k n with hkn | hkn
    · have HN := Lib.hid (next256 g B wr hd2)
      clear hd2
      have hpos : 0 < ((n - k : Nat) : Int) := by omega
      go_wp2_with fail
      refine HN.out.mono ?_
      rintro e w1 ⟨b, rfl, HD1, HG1⟩
      have hb8 := u8_lt' b
      have HO1 : Hid ((w1.alloc (.cells #[.int .u8 (b.toNat : Int)] 5)).ownsRow w.heap.size 5 1 (.slice A k c) k (bys l)) := own_alloc (own_grown HO.out HG1.out hgw) _
      have HS := Lib.hid (sl_new1 w1 5 (.int .u8 (b.toNat : Int)))
      have HBW : Hid (w.heap.size ≤ w1.heap.size) := Nat.le_trans HG.out.size HG1.out.size
      go_wp2_with (at_builtin; refine wpList_append_sl _ rfl (.tmp 10) (.tmp 14) 30 rfl w.heap.size 5 i0 (.int .u8 0) 1 Tryz.underlying30 hi hz0 hz1 hz2 rfl _ _ _ _ rfl HO1.out _ _ 1 _ _ rfl rfl HS.out (fun u hu => by simp at hu; subst hu; rfl) (by unfold maxLen; omega) (by omega) (by have := HBW.out; simp; omega) ?_; intro A' c' w2 hown hgrow hblk)
      have hrow : ∀ x, (Value.slice A k c).ownBlock = some x → w.heap.size ≤ x := own_block HO.out
      go_roundw
      case rel =>
        rw [bys_snoc] at hown
        exact ⟨k + 1, A', c', l ++ [b], by omega, int_eqv (by omega), rfl, by rw [List.length_append, HL.out]; rfl, hown, (HD1.out.grown (row := none) (World.grownBy_alloc _ _ _) (fun _ e => by cases e)).grown hgrow (fun x hx => by have := hrow x hx; omega), grown_far (grown_alloc (grown_trans HG.out HG1.out) _) hgrow hrow⟩
      case measure => simp [intOf]; omega
    · have hkn' : k = n := by omega
      subst hkn'
      have hpos : ((k - k : Nat) : Int) = 0 := by omega
      rw [hpos]
      clear hpos
      have HD := Lib.hid hd2
      clear hd2
      go_wp2_with fail
      go_ret
      exact ⟨A, c, l, rfl, HL.out, HO.out, HD.out, HG.out⟩
end Go.Proofs.YtnplaejlmbncfaaGreatDoor

namespace Go.Proofs.YtnplaejlmbncfaaGreatDoor
open Go.RowKit Go.Sort
set_option linter.unusedVariables false
set_option maxRecDepth 100000
theorem light_yes (A : Option Addr) (n c : Nat) (w : World) (h : n ≤ 400) : Calls Tryz.prog 11 #[.slice A n c] w fun e w' => e = .returned (.bool true) ∧ w = w' := by
  have := light_any A n c w (by omega)
  rwa [decide_eq_true (show (n : Int) ≤ 400 by omega)] at this
theorem light_no (A : Option Addr) (n c : Nat) (w : World) (h : 400 < n) (hl : n ≤ 9223372036854775807) : Calls Tryz.prog 11 #[.slice A n c] w fun e w' => e = .returned (.bool false) ∧ w = w' := by
  have := light_any A n c w hl
  rwa [decide_eq_false (show ¬ (n : Int) ≤ 400 by omega)] at this
theorem rollB_any (A : Option Addr) (n c B : Nat) (ts : List Int) (w : World) (hn : ts.length = n) (hl : n ≤ 140737488355328) (hs : Sl w B A (ints ts)) (hB : B ≤ w.heap.size) :
    Calls Tryz.prog 13 #[.slice A n c] w fun e w' => e = .returned (.pointer (some ⟨w.heap.size, 0, none⟩)) ∧ Dice w' w.heap.size B ∧ w'.heap.size = w.heap.size + 1 ∧ Below w.heap.size w w' := by
  have HD : Hid (Dice (w.alloc (.cells #[.slice A n c, .int .i64 0] 87)) w.heap.size B) :=
    ⟨A, n, c, 0, ts, heap_alloc_new w _, hn, Nat.zero_le _, hl, hs.below ((Below.refl _ _).alloc hB _), hB⟩
  clear hn hs
  go_enter Tryz.func13, Tryz.ntmps13
  go_wp2_with fail
  go_ret
  exact ⟨rfl, HD.out, by simp, (Below.refl _ _).alloc (Nat.le_refl _) _⟩
/-- dice over a list that lay there at the beginning -/
theorem roll_at {w0 w : World} {M : List (Nat × Value)} {L : List Ob} (h : St w0 w none M L) (A : Option Addr) (n c B : Nat) (ts : List Int) (hn : ts.length = n) (hl : n ≤ 140737488355328) (hB : B ≤ w0.heap.size) (hs : Sl w B A (ints ts)) :
    Calls Tryz.prog 13 #[.slice A n c] w fun e w' => ∃ g, e = .returned (.pointer (some ⟨g, 0, none⟩)) ∧ Dice w' g B ∧ St w0 w' (some g) M L := by
  refine (rollB_any A n c B ts w hn hl hs (Nat.le_trans hB h.size)).mono ?_
  rintro e w' ⟨he, hd, hz, hb⟩
  have h' := h.go hb
  refine ⟨_, he, hd, ⟨h'.below, fun x e => by cases e; exact ⟨by omega, h.size⟩, fun i b v hi => ?_, h'.one, fun o ho => ?_⟩⟩
  · obtain ⟨h1, h2, h3, h4, _⟩ := h'.box i b v hi
    exact ⟨h1, h2, h3, h4, fun e => by cases e; have := (h.box i _ v hi).1; omega⟩
  · obtain ⟨h1, h2, h3, B, hB, hs2, hne⟩ := h.held o ho
    refine ⟨h1, h2, h3, B, Nat.le_trans hB hb.size, hs2.below (hb.mono hB), fun ad e h0 => ⟨fun e2 => ?_, (hne ad e h0).2⟩⟩
    obtain ⟨ad', e', hbk, _⟩ := hs2 (by omega)
    rw [e] at e'
    obtain rfl := Option.some.inj e'
    have := Option.some.inj e2
    omega
section
variable {w0 w w' : World} {g B : Nat} {M : List (Nat × Value)} {L : List Ob} {O : List Rw} {A : Option Addr} {n c : Nat}
theorem Ow.roll (h : Ow w0 w (some g) M L O) (hg : w.grownBy w' (some g)) : Ow w0 w' (some g) M L O := by
  refine ⟨h.st.roll hg, fun i r hi => own_keep (h.own i r hi) hg ?_, h.ap, h.two⟩
  by_cases e : (Value.slice r.A r.n r.c).ownBlock = none
  · exact .inl e
  · exact .inr fun e2 => (h.ap i r hi g e2).1 rfl
def GotB (w0 : World) (g B : Nat) (M : List (Nat × Value)) (L : List Ob) (O : List Rw) (e : Ending) (w' : World) : Prop := ∃ r : Bool, e = .returned (.bool r) ∧ Dice w' g B ∧ Ow w0 w' (some g) M L O
theorem next_ow (h : Ow w0 w (some g) M L O) (hd : Dice w g B) (m : Nat) (hm : 0 < m) (hm2 : m ≤ 9223372036854775807) :
    Calls Tryz.prog 17 #[.pointer (some ⟨g, 0, none⟩), .int .i64 (m : Int)] w fun e w' => ∃ r : Nat, e = .returned (.int .i64 (r : Int)) ∧ r < m ∧ Dice w' g B ∧ Ow w0 w' (some g) M L O ∧ w.grownBy w' (some g) :=
  (next_any g B m w (by omega) (by omega) hd).mono fun e w' ⟨r, he, h0, h1, hd', hg⟩ => ⟨r.toNat, by rw [he]; congr 2; omega, by omega, hd', h.roll hg, hg⟩
theorem one_ow (h : Ow w0 w (some g) M L O) (hd : Dice w g B) (m : Int) (hm : 1 ≤ m) (hm2 : m ≤ 9223372036854775807) :
    Calls Tryz.prog 30 #[.pointer (some ⟨g, 0, none⟩), .int .i64 m] w (GotB w0 g B M L O) := by
  have HN := Lib.hid (next_any g B m w hm hm2 hd)
  have HH := Lib.hid h
  clear hd h
  go_enter Tryz.func30, Tryz.ntmps30
  go_wp2_with fail
  refine HN.out.mono ?_
  rintro e w1 ⟨r, rfl, h0, h1, hd, hg⟩
  have HD := Lib.hid hd
  have HG := Lib.hid hg
  clear hd hg
  go_wp2_with fail
  go_ret
  exact ⟨_, rfl, HD.out, HH.out.roll HG.out⟩
theorem Dice.turned (hd : Dice w g B) (hB : B ≤ w0.heap.size) (h : Ow w0 w (some g) M L O) {i : Nat} {r : Rw} (hi : O[i]? = some r) (hg : w.grownBy w' r.blk) : Dice w' g B := by
  have hlt := hd.lt
  obtain ⟨A, n, c, at_, ts, hh, h1, h2, h3, hs, hBg⟩ := hd
  refine ⟨A, n, c, at_, ts, (hg.block g hlt (fun e => (h.ap i r hi g e.symm).1 rfl)).trans hh, h1, h2, h3, hs.keep fun p hp => World.cell?_of_block (hg.block p.block (by omega) (fun e => ?_)), hBg⟩
  have := (h.lt hi e.symm).2
  omega
theorem ow_append' {P : Program} {t e : TypeId} {z : Value} {bytes : Nat} {ops : Array Oper} {rest : List Oper} {o : Oper} {a : Act} {Q : Exit → Act → World → Prop} (hE : Elem P t e z bytes) (h : Ow w0 w (some g) M L O) (hd : Dice w g B) (hB : B ≤ w0.heap.size) (i : Nat) (s x : Operand) {A : Option Addr} {n c : Nat} {xs : List Value} (hi : O[i]? = some ⟨A, n, c, e, xs⟩)
    {B' : Nat} {A2 : Option Addr} {m c2 : Nat} {news : List Value} (hm : news.length = m) (hr : Sl w B' A2 news) (h1 : ∀ u ∈ news, u.oneCell' = true) (h63 : n + m ≤ maxLen) (hbytes : (n + m) * bytes ≤ 140737488355328)
    (hgd : o.guard = none) (ho : o.op = .call { callee := .builtin .append, args := #[s, x], argTypes := #[t, t] }) (hs : a.eval s = .slice A n c) (hx : a.eval x = .slice A2 m c2)
    (hk : ∀ A' c' w', Ow w0 w' (some g) M L (O.set i ⟨A', n + m, c', e, xs ++ news⟩) → Dice w' g B → wpList P ops Q rest (a.put o.dst (.slice A' (n + m) c')) w') : wpList P ops Q (o :: rest) a w := by
  obtain ⟨ht, hzc, inf, hi0, hz, hsz, hby⟩ := hE
  exact wpList_append_sl w hgd s x t ho w0.heap.size e inf z bytes ht hi0 hz hsz hby (by rw [hzc]; rfl) A n c xs hs (h.own i _ hi) B' A2 m c2 news hx hm hr h1 h63 hbytes h.size fun A' c' w' h2 h3 h4 =>
    hk A' c' w' (h.turn i hi (r' := ⟨A', n + m, c', e, xs ++ news⟩) h3 h2 h4) (hd.turned hB h hi h3)
theorem Dice.set (hd : Dice w g B) (hB : B ≤ w0.heap.size) (h : Ow w0 w (some g) M L O) {i b : Nat} {v : Value} (hi : M[i]? = some (b, v)) (u : Value) : Dice (w.setCell ⟨b, 0, none⟩ u) g B := by
  have hlt := hd.lt
  have hg := grown_set w ⟨b, 0, none⟩ u
  obtain ⟨h1, h2, h3, h4, h5⟩ := h.st.box i b v hi
  obtain ⟨A, n, c, at_, ts, hh, k1, k2, k3, hs, hBg⟩ := hd
  exact ⟨A, n, c, at_, ts, (hg.block g hlt (fun e => h5 e)).trans hh, k1, k2, k3, hs.keep fun p hp => World.cell?_of_block (hg.block p.block (by omega) (fun e => by have := Option.some.inj e; simp only at this; omega)), hBg⟩
theorem at_end (O : List Rw) (r : Rw) : (O ++ [r])[O.length]? = some r := by simp
theorem set_end (O : List Rw) (r s : Rw) : (O ++ [r]).set O.length s = O ++ [s] := by simp
/-- bytes that dice give, as a row of their own -/
theorem Ow.addG (h : Ow w0 w (some g) M L O) {e : TypeId} {vs : List Value} (ho : w'.ownsRow w.heap.size e 1 (.slice A n c) n vs) (hg : w.grownBy w' (some g)) : Ow w0 w' (some g) M L (O ++ [⟨A, n, c, e, vs⟩]) := by
  have h' := h.roll hg
  have key : ∀ (i : Nat) (r : Rw), (O ++ [⟨A, n, c, e, vs⟩])[i]? = some r → O[i]? = some r ∨ (O.length = i ∧ r = ⟨A, n, c, e, vs⟩) := fun i r hi => by
    rcases Nat.lt_or_ge i O.length with h1 | h1
    · rw [List.getElem?_append_left h1] at hi
      exact .inl hi
    · rw [List.getElem?_append_right h1] at hi
      have h2 : i - O.length = 0 := by have := get_lt hi; simp at this; omega
      rw [h2] at hi
      simp at hi
      exact .inr ⟨by omega, hi.symm⟩
  have new : ∀ b, (⟨A, n, c, e, vs⟩ : Rw).blk = some b → w.heap.size ≤ b := fun b hb' => (ho.lt b hb').1
  refine ⟨h'.st, fun i r hi => ?_, fun i r hi b hb' => ?_, fun i j r s hi hj hij b hb' e2 => ?_⟩
  · rcases key i r hi with h1 | ⟨_, rfl⟩
    · exact h'.own i r h1
    · exact own_more ho h.size
  · rcases key i r hi with h1 | ⟨_, rfl⟩
    · exact h'.ap i r h1 b hb'
    · have h3 := new b hb'
      refine ⟨fun e => by have := (h.st.lt b e).1; omega, fun j k v hj e => by have := (h.st.box j k v hj).1; omega, fun o ho' ad ha h0 e => ?_⟩
      obtain ⟨h4, _, _, B, hB, hs, _⟩ := h.st.held o ho'
      obtain ⟨ad', ha', hlt, _⟩ := hs (by omega)
      rw [ha] at ha'
      obtain rfl := Option.some.inj ha'
      omega
  · rcases key i r hi with h1 | ⟨h1, rfl⟩ <;> rcases key j s hj with h2 | ⟨h2, rfl⟩
    · exact h.two i j r s h1 h2 hij b hb' e2
    · have := (h.lt h1 hb').1; have := new b e2; omega
    · have := (h.lt h2 e2).1; have := new b hb'; omega
    · omega
end
end Go.Proofs.YtnplaejlmbncfaaGreatDoor

namespace Go.Proofs.YtnplaejlmbncfaaGreatDoor
open Go.RowKit
set_option linter.unusedVariables false
set_option maxRecDepth 100000
theorem at_arr3 {w0 w : World} {g : Option Nat} {M : List (Nat × Value)} {L : List Ob} {O : List Rw} {b : Nat} {T : TypeId} (h : Ow w0 w g M L O) (i : Nat) (hi : O[i]? = some ⟨some ⟨b, 0, none⟩, 3, 3, T, [.int .i64 4, .int .i64 8, .int .i64 32]⟩) {r : Nat} (hr : r < 3) :
    ∃ k : Nat, 1 ≤ k ∧ k ≤ 32 ∧ w.cell? ⟨b, r, none⟩ = some (.int .i64 (k : Int)) := by
  rcases (show r = 0 ∨ r = 1 ∨ r = 2 by omega) with rfl | rfl | rfl
  · exact ⟨4, by omega, by omega, (h.row i hi).cellAt 0 (by decide)⟩
  · exact ⟨8, by omega, by omega, (h.row i hi).cellAt 1 (by decide)⟩
  · exact ⟨32, by omega, by omega, (h.row i hi).cellAt 2 (by decide)⟩
theorem row4 {w0 w : World} {g : Option Nat} {M : List (Nat × Value)} {L : List Ob} {O : List Rw} {b : Nat} {T : TypeId} {x0 x1 x2 x3 : Value} (h : Ow w0 w g M L O) (i : Nat) (hi : O[i]? = some ⟨some ⟨b, 0, none⟩, 4, 4, T, [x0, x1, x2, x3]⟩) :
    w.cell? ⟨b, 0, none⟩ = some x0 ∧ w.cell? ⟨b, 1, none⟩ = some x1 ∧ w.cell? ⟨b, 2, none⟩ = some x2 ∧ w.cell? ⟨b, 3, none⟩ = some x3 :=
  ⟨(h.row i hi).cellAt 0 (by decide), (h.row i hi).cellAt 1 (by decide), (h.row i hi).cellAt 2 (by decide), (h.row i hi).cellAt 3 (by decide)⟩
theorem put4 {w0 w : World} {g B : Nat} {M : List (Nat × Value)} {L : List Ob} {O : List Rw} {b : Nat} {T : TypeId} {x0 x1 x2 x3 : Value} (h : Ow w0 w (some g) M L O) (hd : Dice w g B) (hB : B ≤ w0.heap.size) (i : Nat) (hi : O[i]? = some ⟨some ⟨b, 0, none⟩, 4, 4, T, [x0, x1, x2, x3]⟩) (y0 y1 y2 y3 : Value) {w' : World} (hw : (((w.setCell ⟨b, 0, none⟩ y0).setCell ⟨b, 1, none⟩ y1).setCell ⟨b, 2, none⟩ y2).setCell ⟨b, 3, none⟩ y3 = w') :
    Ow w0 w' (some g) M L (O.set i ⟨some ⟨b, 0, none⟩, 4, 4, T, [y0, y1, y2, y3]⟩) ∧ Dice w' g B := by
  subst hw
  have hlt := get_lt hi
  have g1 := h.put i hi 0 y0
  have d1 := hd.turned hB h hi (grown_set w ⟨b, 0, none⟩ y0)
  have hi1 : (O.set i ⟨some ⟨b, 0, none⟩, 4, 4, T, [x0, x1, x2, x3].set 0 y0⟩)[i]? = some ⟨some ⟨b, 0, none⟩, 4, 4, T, [y0, x1, x2, x3]⟩ := List.getElem?_set_self hlt
  have g2 := g1.put i hi1 1 y1
  have d2 := d1.turned hB g1 hi1 (grown_set _ ⟨b, 1, none⟩ y1)
  rw [List.set_set] at g2
  have hi2 : (O.set i ⟨some ⟨b, 0, none⟩, 4, 4, T, [y0, x1, x2, x3].set 1 y1⟩)[i]? = some ⟨some ⟨b, 0, none⟩, 4, 4, T, [y0, y1, x2, x3]⟩ := List.getElem?_set_self hlt
  have g3 := g2.put i hi2 2 y2
  have d3 := d2.turned hB g2 hi2 (grown_set _ ⟨b, 2, none⟩ y2)
  rw [List.set_set] at g3
  have hi3 : (O.set i ⟨some ⟨b, 0, none⟩, 4, 4, T, [y0, y1, x2, x3].set 2 y2⟩)[i]? = some ⟨some ⟨b, 0, none⟩, 4, 4, T, [y0, y1, y2, x3]⟩ := List.getElem?_set_self hlt
  have g4 := g3.put i hi3 3 y3
  have d4 := d3.turned hB g3 hi3 (grown_set _ ⟨b, 3, none⟩ y3)
  rw [List.set_set] at g4
  exact ⟨g4, d4⟩
theorem Ow.none0 {w0 w : World} {g : Option Nat} {M : List (Nat × Value)} {L : List Ob} {O : List Rw} (h : Ow w0 w g M L O) : Ow w0 w g M L [] := by
  have := h.few 0
  rwa [List.take_zero] at this
set_option maxHeartbeats 2000000 in
theorem symbols_ow {w0 w : World} {g B : Nat} {L : List Ob} (h : Ow w0 w (some g) [] L []) (hd : Dice w g B) (hB : B ≤ w0.heap.size) :
    Calls Tryz.prog 14 #[.pointer (some ⟨g, 0, none⟩)] w fun e w' => ∃ d m f : Nat, e = .returned (.agg #[.int .i64 2, .int .i64 (d : Int), .int .i64 (m : Int), .int .i64 (f : Int)]) ∧ Cd d m f ∧ f ≤ m / 2 ∧ Dice w' g B ∧ Ow w0 w' (some g) [] L [] := by
  have H1 := (h.arr #[.int .i64 0, .int .i64 0, .int .i64 0, .int .i64 0] 4 rfl (by omega) 28).arr #[.int .i64 4, .int .i64 8, .int .i64 32] 3 rfl (by omega) 3
  simp only [List.nil_append, List.cons_append, World.size_alloc] at H1
  have HD1 : Hid (Dice ((w.alloc (.cells #[.int .i64 0, .int .i64 0, .int .i64 0, .int .i64 0] 28)).alloc (.cells #[.int .i64 4, .int .i64 8, .int .i64 32] 3)) g B) := (hd.grown (row := none) (World.grownBy_alloc _ _ _) (fun _ e => by cases e)).grown (row := none) (World.grownBy_alloc _ _ _) (fun _ e => by cases e)
  have HN := Lib.hid (next_ow H1 HD1.out 3 (by omega) (by omega))
  clear h H1 HD1 hd
  go_enter Tryz.func14, Tryz.ntmps14
  go_wp2_with fail
  refine HN.out.mono ?_
  rintro e w1 ⟨r1, rfl, hr1, hd1, h1, -⟩
  clear HN
  obtain ⟨k1, hk1, hk2, hc1⟩ := at_arr3 h1 1 rfl hr1
  have HN := Lib.hid (next_ow h1 hd1 k1 hk1 (by omega))
  clear h1 hd1
  go_wp2_with fail
  refine HN.out.mono ?_
  rintro e w2 ⟨r2, rfl, hr2, hd2, h2, -⟩
  clear HN hc1
  have HN := Lib.hid (next_ow h2 hd2 8 (by omega) (by omega))
  clear h2 hd2
  go_wp2_with fail
  refine HN.out.mono ?_
  rintro e w3 ⟨r3, rfl, hr3, hd3, h3, -⟩
  clear HN
  obtain ⟨d, hdd⟩ : ∃ d : Nat, d = 1 + r2 := ⟨_, rfl⟩
  obtain ⟨m, hmm⟩ : ∃ m : Nat, m = 1 + r3 := ⟨_, rfl⟩
  have ed : (1 : Int) + (r2 : Int) = (d : Int) := by omega
  have em : (1 : Int) + (r3 : Int) = (m : Int) := by omega
  obtain ⟨q2, hq2⟩ : ∃ q2 : Nat, Hid (q2 = m / 2) := ⟨_, rfl⟩
  have ef : (m : Int) / 2 = (q2 : Int) := by have := hq2.out; omega
  obtain ⟨hd1, hd2, hm1, hm2, hq4⟩ : 1 ≤ d ∧ d ≤ 32 ∧ 1 ≤ m ∧ m ≤ 8 ∧ q2 ≤ 4 := by have := hq2.out; omega
  have H4 := h3.arr #[.int .i64 2, .int .i64 (d : Int), .int .i64 (m : Int), .int .i64 (q2 : Int)] 4 rfl (by omega) 28
  simp only [List.nil_append, List.cons_append] at H4
  have HD4 : Hid (Dice (w3.alloc (.cells #[.int .i64 2, .int .i64 (d : Int), .int .i64 (m : Int), .int .i64 (q2 : Int)] 28)) g B) := hd3.grown (row := none) (World.grownBy_alloc _ _ _) (fun _ e => by cases e)
  have HN := Lib.hid (one_ow H4 HD4.out 3 (by omega) (by omega))
  clear h3 hd3 H4 HD4 hdd hmm hr3 hr2
  go_wp2_with fail
  refine HN.out.mono ?_
  rintro e w4 ⟨q, rfl, hd4, h4⟩
  clear HN
  have HH4 := Lib.hid h4
  have HD4 := Lib.hid hd4
  obtain ⟨c0, c1, c2, c3⟩ := h4.cdc 2 rfl
  have hf := h4.frzO 2 rfl 3
  have g0 := h4.frzO 0 rfl 0
  have g1 := h4.frzO 0 rfl 1
  have g2 := h4.frzO 0 rfl 2
  have g3 := h4.frzO 0 rfl 3
  clear h4 hd4
  obtain ⟨b0, b1, b2, b3⟩ := row4 HH4.out 0 rfl
  cases q with
  | false =>
    go_wp2_with fail
    obtain ⟨G, DG⟩ := put4 HH4.out HD4.out hB 0 rfl (.int .i64 2) (.int .i64 (d : Int)) (.int .i64 (m : Int)) (.int .i64 (q2 : Int)) rfl
    obtain ⟨k0, k1, k2, k3⟩ := row4 G 0 rfl
    refine bodyPost_ret (v := .agg #[.int .i64 2, .int .i64 (d : Int), .int .i64 (m : Int), .int .i64 (q2 : Int)]) (by simp [results, Tryz.results14, go_sem, k0, k1, k2, k3]) rfl ?_
    exact ⟨d, m, q2, rfl, ⟨hd1, hd2, hm1, hm2, by have := hq2.out; omega⟩, by have := hq2.out; omega, DG, G.none0⟩
  | true =>
    obtain ⟨z, hz⟩ : ∃ z : Nat, Hid (z = q2 + 1) := ⟨_, rfl⟩
    have ez : (q2 : Int) + 1 = (z : Int) := by have := hz.out; omega
    have HN := Lib.hid (next_ow HH4.out HD4.out z (by have := hz.out; omega) (by have := hz.out; omega))
    go_wp2_with fail
    refine HN.out.mono ?_
    rintro e w5 ⟨f, rfl, hf5, hd5, h5, -⟩
    clear HN c0 c1 c2 c3 hf g0 g1 g2 g3 b0 b1 b2 b3 HH4 HD4 ez
    have HF : Hid (f ≤ q2) := by have := hz.out; unfold Hid; omega
    obtain ⟨c0, -, -, c3⟩ := h5.cdc 2 rfl
    have hf := h5.frzO 2 rfl 3
    have h6 : Ow w0 (w5.setCell ⟨w3.heap.size, 3, none⟩ (.int .i64 (f : Int))) (some g) [] L _ := h5.put 2 rfl 3 (.int .i64 (f : Int))
    have HD6 : Hid (Dice (w5.setCell ⟨w3.heap.size, 3, none⟩ (.int .i64 (f : Int))) g B) := hd5.turned hB h5 (i := 2) rfl (grown_set w5 ⟨w3.heap.size, 3, none⟩ (.int .i64 (f : Int)))
    have HH6 := Lib.hid h6
    obtain ⟨e0, e1, e2, e3⟩ := h6.cdc (d := d) (m := m) (f := f) 2 rfl
    obtain ⟨b0, b1, b2, b3⟩ := row4 h6 0 rfl
    have g0 := h6.frzO 0 rfl 0
    have g1 := h6.frzO 0 rfl 1
    have g2 := h6.frzO 0 rfl 2
    have g3 := h6.frzO 0 rfl 3
    clear h5 hd5 hf5 h6
    go_wp2_with fail
    obtain ⟨G, DG⟩ := put4 HH6.out HD6.out hB 0 rfl (.int .i64 2) (.int .i64 (d : Int)) (.int .i64 (m : Int)) (.int .i64 (f : Int)) rfl
    obtain ⟨k0, k1, k2, k3⟩ := row4 G 0 rfl
    refine bodyPost_ret (v := .agg #[.int .i64 2, .int .i64 (d : Int), .int .i64 (m : Int), .int .i64 (f : Int)]) (by simp [results, Tryz.results14, go_sem, k0, k1, k2, k3]) rfl ?_
    exact ⟨d, m, f, rfl, ⟨hd1, hd2, hm1, hm2, by have := hq2.out; have := HF.out; omega⟩, by have := hq2.out; have := HF.out; omega, DG, G.none0⟩
end Go.Proofs.YtnplaejlmbncfaaGreatDoor

namespace Go.Proofs.YtnplaejlmbncfaaGreatDoor
open Go.RowKit
set_option linter.unusedVariables false
set_option maxRecDepth 100000
def SameLoop (w : World) (p q : List UInt8) (n : Nat) (v : Value) (wr : World) : Prop := ∃ k j : Nat, k ≤ n ∧ v = .int .i64 (k : Int) ∧ wr = w.drewN j ∧ Hid (p.take k = q.take k)
theorem take_more (p q : List UInt8) (k : Nat) (b : UInt8) (h : p.take k = q.take k) (hp : p[k]? = some b) (hq : q[k]? = some b) : p.take (k + 1) = q.take (k + 1) := by
  rw [List.take_add_one, List.take_add_one, h, hp, hq]
theorem same_any (A A2 : Option Addr) (n c m c2 B : Nat) (p q : List UInt8) (w : World) (hn : p.length = n) (hm : q.length = m) (hp : Sl w B A (bys p)) (hq : Sl w B A2 (bys q))
    (hl : n ≤ 140737488355328) (hl2 : m ≤ 140737488355328) :
    Calls Tryz.prog 32 #[.slice A n c, .slice A2 m c2] w fun e w' => e = .returned (.bool (decide (p = q))) ∧ Below w.heap.size w w' := by
  by_cases hnm : n = m
  · subst hnm
    have hne : ((n : Int) != (n : Int)) = false := by simp
    have HN := Lib.hid hn
    have HM := Lib.hid hm
    clear hn hm
    go_enter Tryz.func32, Tryz.ntmps32
    go_wp2_with fail
    go_loopw [5] (fun v wr => SameLoop w p q n v wr) (fun v _ => n - (intOf v).toNat)
    case atStart => exact ⟨0, 0, Nat.zero_le _, rfl, rfl, rfl⟩
    case round =>
      obtain ⟨k, j, hk, rfl, rfl, HT⟩ := hrel
      rcases Nat.lt_or_ge k n with hkn | hkn
      · obtain ⟨b, hb⟩ := byte_at p k (by rw [HN.out]; exact hkn)
        obtain ⟨d, hd⟩ := byte_at q k (by rw [HM.out]; exact hkn)
        obtain ⟨ad, rfl, hbk, hc⟩ := hp.byte hb
        obtain ⟨ad2, rfl, hbk2, hc2⟩ := hq.byte hd
        have hi : (k : Int) < (n : Int) := by omega
        by_cases hbd : b = d
        · subst hbd
          have HT2 : Hid (p.take (k + 1) = q.take (k + 1)) := take_more p q k b HT.out hb hd
          clear hb hd hp hq
          go_wp2_with fail
          go_quiet (fail)
          go_wp2_with fail
          go_roundw
          case rel => exact ⟨k + 1, _, by omega, by go_num, rfl, HT2⟩
          case measure => simp [intOf]; omega
        · have hx := u8_ne' hbd
          have HE : Hid (decide (p = q) = false) := decide_eq_false (fun e => hbd (by rw [e, hd] at hb; exact (Option.some.inj hb).symm))
          clear hb hd hp hq hbd
          go_wp2_with fail
          go_quiet (fail)
          go_wp2_with fail
          go_ret
          exact ⟨ret_bool HE.out.symm, below_drewN (below_drewN (Below.refl _ _) _) _⟩
      · have HE : Hid (decide (p = q) = true) := decide_eq_true (by
          have h := HT.out
          rwa [List.take_of_length_le (by rw [HN.out]; omega), List.take_of_length_le (by rw [HM.out]; omega)] at h)
        clear hp hq
        go_wp2_with fail
        go_ret
        exact ⟨ret_bool HE.out.symm, below_drewN (Below.refl _ _) _⟩
  · have hne : ((n : Int) != (m : Int)) = true := by rw [bne_iff_ne]; omega
    have HE : Hid (decide (p = q) = false) := decide_eq_false (fun e => hnm (by rw [← hn, ← hm, e]))
    clear hp hq hn hm hnm
    go_enter Tryz.func32, Tryz.ntmps32
    go_wp2_with fail
    go_ret
    exact ⟨ret_bool HE.out.symm, Below.refl _ _⟩
end Go.Proofs.YtnplaejlmbncfaaGreatDoor

namespace Go.Proofs.YtnplaejlmbncfaaGreatDoor
open Go.RowKit
set_option linter.unusedVariables false
set_option maxRecDepth 100000
section
variable {w0 w w' : World} {g B : Nat} {M : List (Nat × Value)} {L : List Ob} {O : List Rw}
theorem Dice.alloc1 (hd : Dice w g B) (o : Obj) : Dice (w.alloc o) g B := hd.grown (row := none) (World.grownBy_alloc _ _ _) (fun _ e => by cases e)
/-- bytes that the dice give -/
theorem bytes_ow (h : Ow w0 w (some g) M L O) (hd : Dice w g B) (n : Nat) (hn : n ≤ 140737488355328) :
    Calls Tryz.prog 15 #[.pointer (some ⟨g, 0, none⟩), .int .i64 (n : Int)] w fun e w' => ∃ (A : Option Addr) (c : Nat) (l : List UInt8), e = .returned (.slice A n c) ∧ l.length = n ∧ Ow w0 w' (some g) M L (O ++ [⟨A, n, c, 5, bys l⟩]) ∧ Dice w' g B :=
  (bytes_any g B n w hn hd).mono fun e w' ⟨A, c, l, he, hl, ho, hd', hg⟩ => ⟨A, c, l, he, hl, h.addG ho hg, hd'⟩
end
end Go.Proofs.YtnplaejlmbncfaaGreatDoor

namespace Go.Proofs.YtnplaejlmbncfaaGreatDoor
open Go.RowKit
set_option linter.unusedVariables false
set_option maxRecDepth 100000
set_option maxHeartbeats 2000000 in
theorem synExp_any {d m f : Nat} (h : Cd d m f) (hf : f ≤ m / 2) (A : Option Addr) (c : Nat) (word : List UInt8) (w : World) (hn : word.length = d + m) (hs : Sl w w.heap.size A (bys word)) (hnc : d + m ≤ c) :
    Calls Tryz.prog 53 #[.agg #[.int .i64 2, .int .i64 (d : Int), .int .i64 (m : Int), .int .i64 (f : Int)], .slice A (d + m) c] w (ResB w (Sy.synL word m) 0) := by
  have hc := h
  obtain ⟨h1, h2, h3, h4, h5⟩ := h
  have H0 := ((Ow.of (St.refl w)).old hs (by rw [bys_length]; exact hn) hnc (by omega)).code d m f
  simp only [List.nil_append] at H0
  obtain ⟨hc0, hc1, hc2, hc3⟩ := H0.cdc 0 rfl
  have HO := Lib.hid H0
  have HV := Lib.hid (fun W => good_any hc W)
  have HN := Lib.hid hn
  have hne : (((d + m : Nat) : Int) != (d : Int) + (m : Int)) = false := by simp
  rw [decide_eq_true hf] at HV
  clear H0 hs hn hc
  go_enter Tryz.func53, Tryz.ntmps53
  go_wp2_with fail
  refine (HV.out _).mono ?_
  rintro e w1 ⟨rfl, hb⟩
  have HO1 := Lib.hid (HO.out.go hb)
  obtain ⟨hd0, hd1, hd2, hd3⟩ := HO1.out.cdc 0 rfl
  clear hb hc0 hc1 hc2 hc3
  go_wp2_with fail
  refine (syndromes_any A (d + m) c m word w1 HN.out (HO1.out.sl (i := 0) rfl).2.2.2 hnc (by omega) (by omega)).mono ?_
  rintro e w2 ⟨A2, n2, c2, rfl, hn2, ho2, hb2⟩
  have HO2 := Lib.hid (HO1.out.add ho2 hb2)
  go_wp2_with fail
  go_ret2
  exact ⟨A2, n2, c2, rfl, hn2, HO2.out.row 1 rfl, HO2.out.below⟩
end Go.Proofs.YtnplaejlmbncfaaGreatDoor

namespace Go.Proofs.YtnplaejlmbncfaaGreatDoor
open Go.RowKit
set_option linter.unusedVariables false
set_option maxRecDepth 100000
section
variable {w0 w w' : World} {g : Option Nat} {M : List (Nat × Value)} {L L2 : List Ob} {O : List Rw}
theorem Ow.join (h : Ow w0 w g M L O) (h2 : Ow w0 w g M L2 O) : Ow w0 w g M (L ++ L2) O :=
  ⟨⟨h.st.below, h.st.lt, h.st.box, h.st.one, fun o ho => (List.mem_append.1 ho).elim (h.st.held o) (h2.st.held o)⟩, h.own, fun i r hi b hb => ⟨(h.ap i r hi b hb).1, (h.ap i r hi b hb).2.1, fun o ho => (List.mem_append.1 ho).elim ((h.ap i r hi b hb).2.2 o) ((h2.ap i r hi b hb).2.2 o)⟩, h.two⟩
end
end Go.Proofs.YtnplaejlmbncfaaGreatDoor

namespace Go.Proofs.YtnplaejlmbncfaaGreatDoor
open Go.RowKit
set_option linter.unusedVariables false
set_option maxRecDepth 100000
def RSome (w0 : World) (g B : Nat) (L : List Ob) (M : List (Nat × Value)) (O : List Rw) (n most : Nat) (l v : Value) (wr : World) : Prop :=
  ∃ (i : Nat) (A : Option Addr) (c k : Nat) (E : List Nat), i ≤ n ∧ v = .int .i64 (i : Int) ∧ l = .slice A k c ∧ k ≤ most ∧ Hid (E.length = k ∧ Sy.Asc E ∧ ∀ p ∈ E, p < i) ∧ Hid (Ow w0 wr (some g) M L (O ++ [⟨A, k, c, 3, nats E⟩])) ∧ Hid (Dice wr g B)
theorem asc_snoc {E : List Nat} {i : Nat} (h : Sy.Asc E) (hlt : ∀ p ∈ E, p < i) : Sy.Asc (E ++ [i]) := by
  unfold Sy.Asc at *
  rw [List.pairwise_append]
  exact ⟨h, List.pairwise_singleton _ _, fun a ha b hb => by rw [List.mem_singleton] at hb; subst hb; exact hlt a ha⟩
set_option maxHeartbeats 2000000 in
theorem some_ow {w0 w : World} {g B : Nat} {M : List (Nat × Value)} {L : List Ob} {O : List Rw} (h : Ow w0 w (some g) M L O) (hd : Dice w g B) (hB : B ≤ w0.heap.size) (n most : Nat) (hn : n ≤ 1000) (hm : most ≤ 1000) :
    Calls Tryz.prog 18 #[.pointer (some ⟨g, 0, none⟩), .int .i64 (n : Int), .int .i64 (most : Int)] w fun e w' => ∃ (A : Option Addr) (k c : Nat) (E : List Nat), e = .returned (.slice A k c) ∧ E.length = k ∧ Sy.Ers E n most ∧ Ow w0 w' (some g) M L (O ++ [⟨A, k, c, 3, nats E⟩]) ∧ Dice w' g B := by
  have HH := Lib.hid h
  have HD := Lib.hid hd
  clear h hd
  go_enter Tryz.func18, Tryz.ntmps18
  go_wp2_with fail
  go_loopw [7, 8] (fun l v wr => RSome w0 g B L M O n most l v wr) (fun _ v _ => n - (intOf v).toNat)
  case atStart => exact ⟨0, none, 0, 0, [], Nat.zero_le _, rfl, rfl, Nat.zero_le _, ⟨rfl, List.Pairwise.nil, fun p hp => absurd hp (by simp)⟩, HH.out.nil _, HD.out⟩
  case round =>
    obtain ⟨i, A, c, k, E, hi, rfl, rfl, hk, HE, HO, HDi⟩ := hrel
    clear HH HD
    rcases Nat.lt_or_ge i n with hin | hin
    · have t1 : decide ((i : Int) < (n : Int)) = true := decide_eq_true (by omega)
      rcases Nat.lt_or_ge k most with hkm | hkm
      · have t2 : decide ((k : Int) < (most : Int)) = true := decide_eq_true (by omega)
        have HN := Lib.hid (one_ow HO.out HDi.out 4 (by omega) (by omega))
        go_wp2_with fail
        refine HN.out.mono ?_
        rintro e w1 ⟨q, rfl, hd1, h1⟩
        clear HN
        have HO1 := Lib.hid h1
        have HD1 := Lib.hid hd1
        clear h1 hd1
        cases q with
        | false =>
          go_wp2_with fail
          go_roundw
          case rel => exact ⟨i + 1, A, c, k, E, by omega, by go_num, rfl, hk, ⟨HE.out.1, HE.out.2.1, fun p hp => by have := HE.out.2.2 p hp; omega⟩, HO1.out, HD1.out⟩
          case measure => simp [intOf]; omega
        | true =>
          have HX := Lib.hid (HO1.out.go (own_box1 w1 (.cells #[.int .i64 (i : Int)] 3)))
          have HDX := Lib.hid (HD1.out.alloc1 (.cells #[.int .i64 (i : Int)] 3))
          have HS := Lib.hid (sl_new1 w1 3 (.int .i64 (i : Int)))
          go_wp2_with (at_builtin; refine ow_append' elemI HX.out HDX.out hB O.length (.tmp 22) (.tmp 24) (at_end O _) (m := 1) (news := [.int .i64 (i : Int)]) rfl HS.out (fun u hu => by rw [List.mem_singleton] at hu; subst hu; rfl) (by unfold maxLen; omega) (by omega) rfl rfl rfl rfl ?_; intro A' c' w2 how hdw; rw [set_end, nats_snoc] at how; have HO2 := Lib.hid how; have HD2 := Lib.hid hdw; clear how hdw)
          go_roundw
          case rel => exact ⟨i + 1, A', c', k + 1, E ++ [i], by omega, by go_num, rfl, by omega, ⟨by rw [List.length_append, HE.out.1]; rfl, asc_snoc HE.out.2.1 HE.out.2.2, fun p hp => by
            rcases List.mem_append.1 hp with hp | hp
            · have := HE.out.2.2 p hp; omega
            · rw [List.mem_singleton] at hp; omega⟩, HO2.out, HD2.out⟩
          case measure => simp [intOf]; omega
      · have t2 : decide ((k : Int) < (most : Int)) = false := decide_eq_false (by omega)
        go_wp2_with fail
        go_ret
        exact ⟨A, k, c, E, rfl, HE.out.1, ⟨HE.out.2.1, fun p hp => by have := HE.out.2.2 p hp; omega, by rw [HE.out.1]; exact hk⟩, HO.out, HDi.out⟩
    · have t1 : decide ((i : Int) < (n : Int)) = false := decide_eq_false (by omega)
      go_wp2_with fail
      go_ret
      exact ⟨A, k, c, E, rfl, HE.out.1, ⟨HE.out.2.1, fun p hp => by have := HE.out.2.2 p hp; omega, by rw [HE.out.1]; exact hk⟩, HO.out, HDi.out⟩
end Go.Proofs.YtnplaejlmbncfaaGreatDoor

namespace Go.Proofs.YtnplaejlmbncfaaGreatDoor
open Go.RowKit
set_option linter.unusedVariables false
set_option maxRecDepth 100000
namespace Sy
theorem wd_set_ne {l : List UInt8} {p i : Nat} {b : UInt8} (h : p ≠ i) : wd (l.set p b) i = wd l i := by
  unfold wd
  rw [List.getElem?_set_ne h]
/-- a word that differs at erased places alone -/
def Off (E : List Nat) (V W : List UInt8) : Prop := ∀ p, p ∉ E → wd W p = wd V p
theorem Off.set {E : List Nat} {V W : List UInt8} (h : Off E V W) {p : Nat} (hp : p ∈ E) (b : UInt8) : Off E V (W.set p b) := fun i hi => by
  rw [wd_set_ne (show p ≠ i from fun e => hi (e ▸ hp))]
  exact h i hi
end Sy
section
variable {w0 w w' : World} {g : Option Nat} {M : List (Nat × Value)} {L : List Ob} {O : List Rw} {n c gb k : Nat} {e : TypeId} {vs : List Value} {v : Value}
end
end Go.Proofs.YtnplaejlmbncfaaGreatDoor

namespace Go.Proofs.YtnplaejlmbncfaaGreatDoor
open Go.RowKit
set_option linter.unusedVariables false
set_option maxRecDepth 100000
theorem byte_of {r : Nat} (h : r < 256) : ∃ b : UInt8, (r : Int) = (b.toNat : Int) := ⟨UInt8.ofNat r, by rw [UInt8.toNat_ofNat_of_lt' h]⟩
end Go.Proofs.YtnplaejlmbncfaaGreatDoor

namespace Go.Proofs.YtnplaejlmbncfaaGreatDoor
open Go.RowKit
set_option linter.unusedVariables false
set_option maxRecDepth 100000

theorem rvalid_any (A : Option Addr) (n c B : Nat) (l : List UInt8) (w : World) (hn : l.length = n) (hs : Sl w B A (bys l)) (hl : n ≤ 9223372036854775807) :
    Calls Tryz.prog 97 #[.slice A n c] w fun e w' => e = .returned (.bool (Po.vld l)) ∧ w = w' := by
  rcases Nat.lt_or_ge 255 n with h | h
  · have H := Lib.hid (Po.vld_big l (by omega))
    clear hn
    go_enter Tryz.func97, Tryz.ntmps97
    go_wp2_with fail
    go_ret
    exact ⟨ret_bool H.out.symm, rfl⟩
  · rcases Nat.eq_zero_or_pos n with h0 | h0
    · have H := Lib.hid (Po.vld_nil l (by omega))
      subst h0
      clear hn
      go_enter Tryz.func97, Tryz.ntmps97
      go_wp2_with fail
      go_ret
      exact ⟨ret_bool H.out.symm, rfl⟩
    · obtain ⟨b, hb⟩ := byte_at l (n - 1) (by omega)
      have H := Lib.hid ((Po.vld_last l b (by omega) (by rw [hn]; exact hb)).trans (u8_bne0 b).symm)
      obtain ⟨ad, rfl, hbk, hc⟩ := hs.byte hb
      have hz := nat_ne0 h0
      clear hb hn
      go_enter Tryz.func97, Tryz.ntmps97
      go_wp2_with fail
      go_ret
      exact ⟨ret_bool H.out.symm, rfl⟩

theorem rtrim_any (A : Option Addr) (n c B : Nat) (l : List UInt8) (w : World) (hn : l.length = n) (hs : Sl w B A (bys l)) (hB : B ≤ w.heap.size) (hnc : n ≤ c) (hl : n ≤ 140737488355328) :
    Calls Tryz.prog 52 #[.slice A n c] w (FreshB w (Po.trim l)) := by
  obtain ⟨i0, hi, hz0, hz1, hz2⟩ := info_parts infoB
  have HN := Lib.hid hn
  have HS := Lib.hid hs
  have HTr : Hid (Po.trim l = l.take (Po.tl l n)) := by unfold Hid Po.trim; rw [hn]
  clear hn
  go_enter Tryz.func52, Tryz.ntmps52
  go_wp2_with fail
  go_loop [3] (fun v => ∃ k : Nat, k ≤ n ∧ v = .int .i64 (k : Int) ∧ Hid (Po.tl l k = Po.tl l n)) (fun v => (intOf v).toNat)
  case atStart => exact ⟨n, Nat.le_refl _, rfl, rfl⟩
  case round =>
    obtain ⟨k, hk, rfl, HT⟩ := hrel
    rcases Nat.eq_zero_or_pos k with hk0 | hk0
    · subst hk0
      have HL : Hid ((bys (l.take 0)).length = 0) := by unfold Hid; rw [bys_length]; simp
      have HSk : Hid (Sl w B A (bys (l.take 0))) := by
        have := HS.out.take 0
        rw [bys_take] at this
        exact this
      have HT0 : Hid (Po.trim l = l.take 0) := by unfold Hid; rw [HTr.out, ← HT.out]; rfl
      clear hs
      go_wp2_with (at_builtin; refine wpList_append_sl _ rfl (.const (.slice none 0 0)) (.tmp 20) 30 rfl w.heap.size 5 i0 (.int .u8 0) 1 Tryz.underlying30 hi hz0 hz1 hz2 rfl _ _ _ _ rfl (World.ownsRow_nil _ _ _ _) B _ _ _ _ rfl HL.out HSk.out (bys_one _) (by unfold maxLen; omega) (by omega) (Nat.le_refl _) ?_; intro A' c' w1 hown hgrow hblk)
      go_ret
      rw [HT0.out]
      exact ⟨A', _, c', rfl, by simp, hown, (Below.refl _ _).grown hgrow (Nat.le_refl _) (fun g hg => by cases hg)⟩
    · have hd : decide (0 < (k : Int)) = true := decide_eq_true (by omega)
      obtain ⟨b, hb⟩ := byte_at l (k - 1) (by rw [HN.out]; omega)
      obtain ⟨ad, rfl, hbk, hc⟩ := hs.byte hb
      by_cases hb0 : b = 0
      · have ht : Hid (Po.tl l (k - 1) = Po.tl l n) := by
          unfold Hid
          rw [← HT.out, ← Po.tl_zero l (k - 1) (by rw [hb, hb0]), show k - 1 + 1 = k from by omega]
        subst hb0
        clear hb
        go_wp2_with fail
        go_round
        case rel => exact ⟨k - 1, by omega, int_eqv (by omega), ht⟩
        case measure => simp [intOf]; omega
      · have HT0 : Hid (Po.trim l = l.take k) := by
          unfold Hid
          rw [HTr.out, ← HT.out]
          congr 1
          conv => lhs; rw [show k = k - 1 + 1 from by omega]
          rw [Po.tl_stop l (k - 1) (by rw [hb]; intro e; exact hb0 (Option.some.inj e))]
          omega
        have hne : ((b.toNat : Int) == 0) = false := by
          rw [beq_eq_false_iff_ne]
          intro e
          exact hb0 (UInt8.toNat_inj.1 (by simpa using e))
        have HL : Hid ((bys (l.take k)).length = k) := by unfold Hid; rw [bys_length, List.length_take, HN.out]; omega
        have HSk : Hid (Sl w B (some ad) (bys (l.take k))) := by
          have := HS.out.take k
          rw [bys_take] at this
          exact this
        clear hb hb0
        go_wp2_with (at_builtin; refine wpList_append_sl _ rfl (.const (.slice none 0 0)) (.tmp 20) 30 rfl w.heap.size 5 i0 (.int .u8 0) 1 Tryz.underlying30 hi hz0 hz1 hz2 rfl _ _ _ _ rfl (World.ownsRow_nil _ _ _ _) B _ _ _ _ rfl HL.out HSk.out (bys_one _) (by unfold maxLen; omega) (by omega) (Nat.le_refl _) ?_; intro A' c' w1 hown hgrow hblk)
        go_ret
        rw [HT0.out]
        rw [Nat.zero_add] at hown
        exact ⟨A', k, c', rfl, by rw [List.length_take, HN.out]; omega, hown, (Below.refl _ _).grown hgrow (Nat.le_refl _) (fun g hg => by cases hg)⟩

namespace Po
end Po
end Go.Proofs.YtnplaejlmbncfaaGreatDoor

namespace Go.Proofs.YtnplaejlmbncfaaGreatDoor
open Go.RowKit
set_option linter.unusedVariables false
set_option maxRecDepth 100000

def RMulLoop (w : World) (p q : List UInt8) (g n m : Nat) (v : Value) (wr : World) : Prop :=
  ∃ k : Nat, k ≤ n ∧ v = .int .i64 (k : Int) ∧ wr.ownsRow w.heap.size 5 1 (.slice (some ⟨g, 0, none⟩) (n + m - 1) (n + m - 1)) (n + m - 1) (bys (Po.mulTo p q k)) ∧ Below w.heap.size w wr
def RMulIn (w : World) (p q : List UInt8) (b : UInt8) (i g n m : Nat) (v : Value) (wr : World) : Prop :=
  ∃ k : Nat, k ≤ m ∧ v = .int .i64 (k : Int) ∧ wr.ownsRow w.heap.size 5 1 (.slice (some ⟨g, 0, none⟩) (n + m - 1) (n + m - 1)) (n + m - 1) (bys (Po.addTo (Po.mulTo p q i) q b i k)) ∧ Below w.heap.size w wr
set_option maxHeartbeats 1000000 in
theorem rmul_any (A A2 : Option Addr) (n c m c2 : Nat) (p q : List UInt8) (w : World) (hn : p.length = n) (hm : q.length = m) (hp : Sl w w.heap.size A (bys p)) (hq : Sl w w.heap.size A2 (bys q))
    (hl : n ≤ 140737488355328) (hl2 : m ≤ 140737488355328) :
    Calls Tryz.prog 49 #[.slice A n c, .slice A2 m c2] w (ResB w (Po.mulR p q) (Po.mulE p q)) := by
  obtain ⟨i0, hi, hz0, hz1, hz2⟩ := info_parts infoB
  have HV1 := Lib.hid (rvalid_any A n c _ p w hn hp (by omega))
  have HV2 := Lib.hid (rvalid_any A2 m c2 _ q w hm hq (by omega))
  cases hv : (Po.vld p && Po.vld q)
  · obtain ⟨hr, he⟩ := Po.mul_no hv
    have HR := Lib.hid hr
    have HE := Lib.hid he
    clear hr he
    cases hv1 : Po.vld p
    · rw [hv1] at HV1
      clear hp hq hn hm hv hv1
      go_enter Tryz.func49, Tryz.ntmps49
      go_wp2_with fail
      refine HV1.out.mono ?_
      rintro e w1 ⟨rfl, rfl⟩
      go_wp2_with fail
      go_ret2
      rw [HR.out, HE.out]
      exact resB_nil _ _ _ (Below.refl _ _)
    · have hv2 : Po.vld q = false := by rw [hv1] at hv; simpa using hv
      rw [hv1] at HV1
      rw [hv2] at HV2
      clear hp hq hn hm hv hv1 hv2
      go_enter Tryz.func49, Tryz.ntmps49
      go_wp2_with fail
      refine HV1.out.mono ?_
      rintro e w1 ⟨rfl, rfl⟩
      go_wp2_with fail
      refine HV2.out.mono ?_
      rintro e w1 ⟨rfl, rfl⟩
      go_wp2_with fail
      go_ret2
      rw [HR.out, HE.out]
      exact resB_nil _ _ _ (Below.refl _ _)
  · have hvv : Po.vld p = true ∧ Po.vld q = true := by simpa using hv
    rw [hvv.1] at HV1
    rw [hvv.2] at HV2
    have h255 : n ≤ 255 ∧ m ≤ 255 := ⟨by rw [← hn]; exact Po.vld_len hvv.1, by rw [← hm]; exact Po.vld_len hvv.2⟩
    obtain ⟨h1, h2⟩ := h255
    clear hvv
    rcases Nat.eq_zero_or_pos n with hn0 | hn0
    · obtain ⟨hr, he⟩ := Po.mul_empty hv (.inl (hn.trans hn0))
      have HR := Lib.hid hr
      have HE := Lib.hid he
      clear hr he hp hq hn hm hv
      subst hn0
      go_enter Tryz.func49, Tryz.ntmps49
      go_wp2_with fail
      refine HV1.out.mono ?_
      rintro e w1 ⟨rfl, rfl⟩
      go_wp2_with fail
      refine HV2.out.mono ?_
      rintro e w1 ⟨rfl, rfl⟩
      go_wp2_with fail
      go_ret2
      rw [HR.out, HE.out]
      exact resB_nil _ _ _ (Below.refl _ _)
    rcases Nat.eq_zero_or_pos m with hm0 | hm0
    · obtain ⟨hr, he⟩ := Po.mul_empty hv (.inr (hm.trans hm0))
      have HR := Lib.hid hr
      have HE := Lib.hid he
      have hz := nat_ne0 hn0
      clear hr he hp hq hn hm hv
      subst hm0
      go_enter Tryz.func49, Tryz.ntmps49
      go_wp2_with fail
      refine HV1.out.mono ?_
      rintro e w1 ⟨rfl, rfl⟩
      go_wp2_with fail
      refine HV2.out.mono ?_
      rintro e w1 ⟨rfl, rfl⟩
      go_wp2_with fail
      go_ret2
      rw [HR.out, HE.out]
      exact resB_nil _ _ _ (Below.refl _ _)
    have hz := nat_ne0 hn0
    have hz2' := nat_ne0 hm0
    rcases Nat.lt_or_ge 255 (n + m - 1) with hnm | hnm
    · obtain ⟨hr, he⟩ := Po.mul_long hv (by omega) (by omega) (by omega)
      have HR := Lib.hid hr
      have HE := Lib.hid he
      have hlo : 255 < (n : Int) + m - 1 := by omega
      clear hr he hp hq hn hm hv
      go_enter Tryz.func49, Tryz.ntmps49
      go_wp2_with fail
      refine HV1.out.mono ?_
      rintro e w1 ⟨rfl, rfl⟩
      go_wp2_with fail
      refine HV2.out.mono ?_
      rintro e w1 ⟨rfl, rfl⟩
      go_wp2_with fail
      go_ret2
      rw [HR.out, HE.out]
      exact resB_nil _ _ _ (Below.refl _ _)
    · obtain ⟨hr, he⟩ := Po.mul_some hv (by omega) (by omega) (by omega)
      have HR := Lib.hid hr
      have HE := Lib.hid he
      have hlo : (n : Int) + m - 1 ≤ 255 := by omega
      have HN := Lib.hid hn
      have HM := Lib.hid hm
      have HQ := Lib.hid hq
      have HL : Hid (∀ k, (Po.mulTo p q k).length = n + m - 1) := fun k => by rw [Po.mulTo_length, hn, hm]
      have H0 : Hid (List.replicate (n + m - 1) 0 = Po.mulTo p q 0) := by unfold Hid; rw [Po.mulTo, hn, hm]
      clear hr he hq hn hm hv
      go_enter Tryz.func49, Tryz.ntmps49
      go_wp2_with fail
      refine HV1.out.mono ?_
      rintro e w1 ⟨rfl, rfl⟩
      go_wp2_with fail
      refine HV2.out.mono ?_
      rintro e w1 ⟨rfl, rfl⟩
      go_wp2_with (at_make; refine wpList_make_full _ rfl (.tmp 37) (.tmp 37) 30 rfl w.heap.size 5 i0 (.int .u8 0) 1 Tryz.underlying30 hi hz0 hz1 _ _ _ _ (n + m - 1) rfl rfl (by omega) (by omega) (by rw [hz2]; omega) (by unfold maxLen; omega) (Nat.le_refl _) ?_; intro w2 hown2 hg2)
      rw [made_bys, H0.out] at hown2
      have hrow := own_block hown2
      have hb2 := below_of_grown hg2
      go_loopw [7] (fun v wr => RMulLoop w p q w.heap.size n m v wr) (fun v _ => n - (intOf v).toNat)
      case atStart => exact ⟨0, Nat.zero_le _, rfl, hown2, hb2⟩
      case round =>
        clear hown2 hg2 hb2
        obtain ⟨i, hi', rfl, ho, hg⟩ := hrel
        have HG := Lib.hid hg
        have HO := Lib.hid ho
        clear hg ho
        rcases Nat.lt_or_ge i n with hkn | hkn
        · obtain ⟨b, hb⟩ := byte_at p i (by rw [HN.out]; exact hkn)
          have HS := Lib.hid (Po.mulTo_succ p q i b hb)
          have HP := Lib.hid hp
          have HBI := Lib.hid hb
          clear hb hp
          go_wp2_with fail
          go_loopw [8] (fun v wr => RMulIn w p q b i w.heap.size n m v wr) (fun v _ => m - (intOf v).toNat)
          case atStart => exact ⟨0, Nat.zero_le _, rfl, HO.out, HG.out⟩
          case round =>
            clear HO HG
            obtain ⟨k, hk, rfl, ho, hg⟩ := hrel
            rcases Nat.lt_or_ge k m with hkm | hkm
            · obtain ⟨b2, hb2⟩ := byte_at q k (by rw [HM.out]; exact hkm)
              obtain ⟨d, hd⟩ := byte_at (Po.addTo (Po.mulTo p q i) q b i k) (i + k) (by rw [Po.addTo_length, HL.out]; omega)
              obtain ⟨x, hx, HX⟩ := xor_ex d (Gf.gmul b b2)
              have HSi := Lib.hid (Po.addTo_succ (Po.mulTo p q i) q b d b2 x i k hd hb2 HX.out)
              obtain ⟨ad, rfl, hbk, hc⟩ := (HP.out.below hg).byte HBI.out
              obtain ⟨ad2, rfl, hbk2, hc2⟩ := (HQ.out.below hg).byte hb2
              have hc3 := own_byte ho hd
              have hfz := ho.frozenAt (i + k)
              clear hb2 hd
              have HO := Lib.hid ho
              have HG := Lib.hid hg
              clear ho hg
              have hb8 := u8_lt b
              have hb82 := u8_lt b2
              have hd8 := u8_lt d
              go_wp2_with fail
              have s1 : IntKind.i64.wrap ((i : Int) + (k : Int)) = (i : Int) + (k : Int) := IntWalk.i64_in _ (by omega)
              have s2 : 0 ≤ (i : Int) + (k : Int) := by omega
              have s3 : (i : Int) + (k : Int) < ((n + m - 1 : Nat) : Int) := by omega
              have s4 : ((i : Int) + (k : Int)).toNat = i + k := by omega
              have s5 : (i : Int) < (n : Int) := by omega
              have s6 : (k : Int) < (m : Int) := by omega
              refine wp_region_still_tail 17 (by kernel_rfl) (by kernel_rfl) ?_
              simp only [List.take_succ_cons, List.take_zero, List.drop_succ_cons, List.drop_zero]
              repeat (first | still_step | still_call (flip_sameB (refmul_any _ _ _)))
              refine wpStill_nil ?_
              change wpList _ _ _ _ _ wr.drew
              clear s1 s2 s3 s4 s5 s6
              go_wp2_with fail
              go_roundw
              case rel =>
                have h1 := HO.out.drew.stored (i + k) (.int .u8 (x.toNat : Int))
                refine ⟨k + 1, by omega, by go_num, ?_, HG.out.drew.grown h1.2 HG.out.size (fun y e => by cases e; exact Nat.le_refl _)⟩
                rw [HSi.out]
                have h2 := h1.1
                unfold bys at h2 ⊢
                rw [List.map_set]
                exact h2
              case measure => simp [intOf]; omega
            · obtain rfl : k = m := by omega
              have HO : Hid (wr.ownsRow w.heap.size 5 1 (.slice (some ⟨w.heap.size, 0, none⟩) (n + k - 1) (n + k - 1)) (n + k - 1) (bys (Po.mulTo p q (i + 1)))) := by
                unfold Hid
                rw [HS.out]
                unfold Po.addAt
                rw [HM.out]
                exact ho
              have HG := Lib.hid hg
              clear ho hg
              go_wp2_with fail
              go_roundw
              case rel => exact ⟨i + 1, by omega, by go_num, HO.out, HG.out⟩
              case measure => simp [intOf]; omega
        · have hkn' : i = n := by omega
          have HO' : Hid (wr.ownsRow w.heap.size 5 1 (.slice (some ⟨w.heap.size, 0, none⟩) (n + m - 1) (n + m - 1)) (n + m - 1) (bys (Po.mulA p q))) := by
            unfold Hid Po.mulA
            rw [HN.out]
            have h' := HO.out
            rw [hkn'] at h'
            exact h'
          have hlen : Hid ((Po.mulA p q).length = n + m - 1) := HL.out _
          clear hp
          go_wp2_with fail
          go_ret2
          rw [HR.out, HE.out]
          exact ⟨_, _, _, rfl, hlen.out, HO'.out, HG.out⟩
end Go.Proofs.YtnplaejlmbncfaaGreatDoor

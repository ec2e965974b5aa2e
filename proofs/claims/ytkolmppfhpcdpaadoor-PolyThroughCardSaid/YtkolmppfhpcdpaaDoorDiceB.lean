/- The contracts of the dice's bytes and polynomials. -/
import Derived.Test.YtkolmppfhpcdpaaDoorDice
import Derived.Test.YtkolmppfhpcdpaaDoorPoly
namespace Go.Proofs.YtkolmppfhpcdpaaDoor
open Go.RowKit
set_option linter.unusedVariables false
set_option maxRecDepth 100000
theorem infoB' : (Tryd.prog.info? 5).map (fun i => (i.zero, i.size, i.bytes)) = some (some (.int .u8 0), 1, 1) := by kernel_rfl
def GaveB (w : World) (g B : Nat) (e : Ending) (w' : World) : Prop := ∃ r : Bool, e = .returned (.bool r) ∧ Dice w' g B ∧ w.grownBy w' (some g)
theorem one_any (g B : Nat) (m : Int) (w : World) (hm : 1 ≤ m) (hm2 : m ≤ 9223372036854775807) (hd : Dice w g B) : Calls Tryd.prog 26 #[.pointer (some ⟨g, 0, none⟩), .int .i64 m] w (GaveB w g B) := by
  have HN := Lib.hid (next_any g B m w hm hm2 hd)
  clear hd
  go_enter Tryd.func26, Tryd.ntmps26
  go_wp2_with fail
  refine HN.out.mono ?_
  rintro e w1 ⟨r, rfl, h0, h1, hd, hg⟩
  go_wp2_with fail
  go_ret
  exact ⟨_, rfl, hd, hg⟩
theorem next256 (g B : Nat) (w : World) (hd : Dice w g B) : Calls Tryd.prog 12 #[.pointer (some ⟨g, 0, none⟩), .int .i64 256] w fun e w' => ∃ b : UInt8, e = .returned (.int .i64 (b.toNat : Int)) ∧ Hid (Dice w' g B) ∧ Hid (w.grownBy w' (some g)) := by
  refine (next_any g B 256 w (by omega) (by omega) hd).mono ?_
  rintro e w' ⟨r, rfl, h0, h1, hd', hg⟩
  refine ⟨UInt8.ofNat r.toNat, ?_, hd', hg⟩
  rw [UInt8.toNat_ofNat', show ((r.toNat % 2 ^ 8 : Nat) : Int) = r from by omega]
def GaveBs (w : World) (g B : Nat) (n : Nat) (e : Ending) (w' : World) : Prop :=
  ∃ (A : Option Addr) (c : Nat) (l : List UInt8), e = .returned (.slice A n c) ∧ l.length = n ∧ w'.ownsRow w.heap.size 5 1 (.slice A n c) n (bys l) ∧ Dice w' g B ∧ w.grownBy w' (some g)
def BytesRel (w : World) (g B n : Nat) (v b : Value) (wr : World) : Prop :=
  ∃ (k : Nat) (A : Option Addr) (c : Nat) (l : List UInt8), k ≤ n ∧ v = .int .i64 (((n - k : Nat)) : Int) ∧ b = .slice A k c ∧ l.length = k ∧ wr.ownsRow w.heap.size 5 1 (.slice A k c) k (bys l) ∧ Dice wr g B ∧ w.grownBy wr (some g)
theorem bytes_any (g B : Nat) (n : Nat) (w : World) (hn : n ≤ 140737488355328) (hd : Dice w g B) : Calls Tryd.prog 22 #[.pointer (some ⟨g, 0, none⟩), .int .i64 (n : Int)] w (GaveBs w g B n) := by
  obtain ⟨i0, hi, hz0, hz1, hz2⟩ := info_parts infoB'
  have hgw := hd.lt
  go_enter Tryd.func22, Tryd.ntmps22
  go_wp2_with fail
  go_loopw [1, 5] (fun v b wr => BytesRel w g B n v b wr) (fun v _ _ => (intOf v).toNat)
  case atStart => exact ⟨0, none, 0, [], Nat.zero_le _, rfl, rfl, rfl, World.ownsRow_nil _ _ _ _, hd, World.grownBy.refl _ _⟩
  case round =>
    obtain ⟨k, A, c, l, hk, rfl, rfl, hl, ho, hd2, hg⟩ := hrel
    have HL := Lib.hid hl
    have HO := Lib.hid ho
    have HG := Lib.hid hg
    clear hl ho hg hd
    rcases Nat.lt_or_ge k n with hkn | hkn
    · have HN := Lib.hid (next256 g B wr hd2)
      clear hd2
      have hpos : 0 < ((n - k : Nat) : Int) := by omega
      go_wp2_with fail
      refine HN.out.mono ?_
      rintro e w1 ⟨b, rfl, HD1, HG1⟩
      have hb8 := u8_lt' b
      have HO1 : Hid ((w1.alloc (.cells #[.int .u8 (b.toNat : Int)] 5)).ownsRow w.heap.size 5 1 (.slice A k c) k (bys l)) := own_alloc (own_grown HO.out HG1.out hgw) _
      have HS := Lib.hid (sl_new1 w1 5 (.int .u8 (b.toNat : Int)))
      have HBW : Hid (w.heap.size ≤ w1.heap.size) := Nat.le_trans HG.out.size HG1.out.size
      go_wp2_with (at_builtin; refine wpList_append_sl _ rfl (.tmp 10) (.tmp 14) 27 rfl w.heap.size 5 i0 (.int .u8 0) 1 Tryd.underlying27 hi hz0 hz1 hz2 rfl _ _ _ _ rfl HO1.out _ _ 1 _ _ rfl rfl HS.out (fun u hu => by simp at hu; subst hu; rfl) (by unfold maxLen; omega) (by omega) (by have := HBW.out; simp; omega) ?_; intro A' c' w2 hown hgrow hblk)
      have hrow : ∀ x, (Value.slice A k c).ownBlock = some x → w.heap.size ≤ x := own_block HO.out
      go_roundw
      case rel =>
        rw [bys_snoc] at hown
        exact ⟨k + 1, A', c', l ++ [b], by omega, int_eqv (by omega), rfl, by rw [List.length_append, HL.out]; rfl, hown, (HD1.out.grown (row := none) (World.grownBy_alloc _ _ _) (fun _ e => by cases e)).grown hgrow (fun x hx => by have := hrow x hx; omega), grown_far (grown_alloc (grown_trans HG.out HG1.out) _) hgrow hrow⟩
      case measure => simp [intOf]; omega
    · have hkn' : k = n := by omega
      subst hkn'
      have hpos : ((k - k : Nat) : Int) = 0 := by omega
      rw [hpos]
      clear hpos
      have HD := Lib.hid hd2
      clear hd2
      go_wp2_with fail
      go_ret
      exact ⟨A, c, l, rfl, HL.out, HO.out, HD.out, HG.out⟩
def GavePoly (w : World) (g B : Nat) (most : Nat) (e : Ending) (w' : World) : Prop :=
  ∃ (A : Option Addr) (n c : Nat) (l : List UInt8), e = .returned (.slice A n c) ∧ l.length = n ∧ n ≤ most ∧ Po.vld l = true ∧ w'.ownsRow w.heap.size 5 1 (.slice A n c) n (bys l) ∧ Dice w' g B ∧ w.grownBy w' (some g)
theorem poly_any (g B : Nat) (most : Nat) (w : World) (hn : most ≤ 255) (hd : Dice w g B) : Calls Tryd.prog 17 #[.pointer (some ⟨g, 0, none⟩), .int .i64 (most : Int)] w (GavePoly w g B most) := by
  have hgw := hd.lt
  have HN := Lib.hid (next_any g B ((most : Int) + 1) w (by omega) (by omega) hd)
  clear hd
  go_enter Tryd.func17, Tryd.ntmps17
  go_wp2_with fail
  refine HN.out.mono ?_
  rintro e w1 ⟨r, rfl, h0, h1, hd1, hg1⟩
  obtain ⟨n, rfl⟩ := Int.eq_ofNat_of_zero_le h0
  have HG1 := Lib.hid hg1
  have HB := Lib.hid (bytes_any g B n w1 (by omega) hd1)
  have hnm : n ≤ most := by omega
  clear hg1 hd1 h0 h1
  go_wp2_with fail
  refine HB.out.mono ?_
  rintro e w2 ⟨A, c, l, rfl, hl, ho, hd2, hg2⟩
  have HL := Lib.hid hl
  have HO := Lib.hid (own_more ho HG1.out.size)
  have HD := Lib.hid hd2
  have HG := Lib.hid (grown_trans HG1.out hg2)
  have hs := Sl.of_own ho
  have hc := (own_cap ho).1
  clear hl ho hd2 hg2 HB HN
  go_wp2_with fail
  go_loop [5, 6] (fun b v => ∃ k : Nat, k ≤ n ∧ b = .slice A k c ∧ v = .int .i64 (k : Int)) (fun _ v => (intOf v).toNat)
  case atStart => exact ⟨n, Nat.le_refl _, rfl, rfl⟩
  case round =>
    obtain ⟨k, hk, rfl, rfl⟩ := hrel
    rcases Nat.eq_zero_or_pos k with rfl | hk0
    · go_wp2_with fail
      go_ret
      have h1 := own_take HO.out (k := 0) (by omega)
      rw [bys_take] at h1
      exact ⟨A, 0, c, l.take 0, rfl, by simp, by omega, by rw [List.take_zero]; rfl, h1, HD.out, HG.out⟩
    · have hd : decide (0 < (k : Int)) = true := decide_eq_true (by omega)
      obtain ⟨b, hb⟩ := byte_at l (k - 1) (by rw [HL.out]; omega)
      obtain ⟨ad, rfl, hbk, hcc⟩ := hs.byte hb
      by_cases hb0 : b = 0
      · subst hb0
        clear hb
        go_wp2_with fail
        go_round
        case rel => exact ⟨k - 1, by omega, rfl, int_eqv (by omega)⟩
        case measure => simp [intOf]; omega
      · have hv : Hid (Po.vld (l.take k) = true) := Po.take_vld l k (by rw [HL.out]; omega) (.inr (by rw [hb]; intro e; exact hb0 (Option.some.inj e))) (by omega)
        have hne : ((b.toNat : Int) == 0) = false := by
          rw [beq_eq_false_iff_ne]
          intro e
          exact hb0 (UInt8.toNat_inj.1 (by simpa using e))
        clear hb hb0
        go_wp2_with fail
        go_ret
        have h1 := own_take HO.out hk
        rw [bys_take] at h1
        exact ⟨some ad, k, c, l.take k, rfl, by rw [List.length_take, HL.out]; omega, by omega, hv.out, h1, HD.out, HG.out⟩
end Go.Proofs.YtkolmppfhpcdpaaDoor

/- The contracts of Trim, Derive and Roots. -/
import Derived.Test.YtkolmppfhpcdpaaDoorPolyE
namespace Go.Proofs.YtkolmppfhpcdpaaDoor
open Go.RowKit
set_option linter.unusedVariables false
set_option maxRecDepth 100000

theorem ptrim_any (A : Option Addr) (n c : Nat) (l : List UInt8) (w : World) (hn : l.length = n) (hs : Sl w w.heap.size A (bys l)) (hnc : n ≤ c) (hl : n ≤ 140737488355328) :
    Calls Tryd.prog 46 #[.slice A n c] w (FreshB w (Po.trim l)) := by
  have HT := Lib.hid (trim_any A n c _ l w hn hs hnc (by omega))
  have hk := Po.tl_le l n
  have h2 := hs.take (Po.tl l n)
  rw [bys_take] at h2
  have hle : (Po.trim l).length = Po.tl l n := by rw [Po.trim_length, hn]
  have hte : Po.trim l = l.take (Po.tl l n) := by unfold Po.trim; rw [hn]
  rw [← hte] at h2
  have HC := Lib.hid (cloneB_fresh A (Po.tl l n) c _ (Po.trim l) w hle h2 (Nat.le_refl _) (by omega))
  clear hn hs h2 hle hte
  go_enter Tryd.func46, Tryd.ntmps46
  go_wp2_with fail
  refine HT.out.mono ?_
  rintro e w1 ⟨rfl, rfl⟩
  go_wp2_with fail
  refine HC.out.mono ?_
  rintro e w1 ⟨A', n', c', rfl, h1, h2, h3⟩
  have H : Hid ((Po.trim l).length = n' ∧ w1.ownsRow w.heap.size 5 1 (.slice A' n' c') n' (bys (Po.trim l)) ∧ Below w.heap.size w w1) := ⟨h1, h2, h3⟩
  clear h1 h2 h3
  go_wp2_with fail
  go_ret
  exact ⟨A', n', c', rfl, H.out.1, H.out.2.1, H.out.2.2⟩

def RootsLoop (w : World) (l : List UInt8) (v o : Value) (wr : World) : Prop :=
  ∃ (k : Nat) (A : Option Addr) (n c : Nat), k ≤ 256 ∧ v = .int .i64 (k : Int) ∧ o = .slice A n c ∧ (Po.rootsTo l k).length = n ∧ wr.ownsRow w.heap.size 5 1 (.slice A n c) n (bys (Po.rootsTo l k)) ∧ Below w.heap.size w wr
set_option maxHeartbeats 1000000 in
theorem roots_any (A : Option Addr) (n c : Nat) (l : List UInt8) (w : World) (hn : l.length = n) (hs : Sl w w.heap.size A (bys l)) (hl : n ≤ 140737488351232) :
    Calls Tryd.prog 14 #[.slice A n c] w (FreshB w (Po.rootsR l)) := by
  obtain ⟨i0, hi, hz0, hz1, hz2⟩ := info_parts infoB
  have HV := Lib.hid (valid_any A n c _ l w hn hs (by omega))
  cases hv : Po.vld l
  · have HR : Hid (Po.rootsR l = []) := by unfold Hid Po.rootsR; rw [hv]; rfl
    rw [hv] at HV
    clear hs hn hv
    go_enter Tryd.func14, Tryd.ntmps14
    go_wp2_with fail
    refine HV.out.mono ?_
    rintro e w1 ⟨rfl, rfl⟩
    go_wp2_with fail
    go_ret
    rw [HR.out]
    exact freshB_nil _ _ (Below.refl _ _)
  · rw [hv] at HV
    rcases Nat.eq_zero_or_pos n with hn0 | hn0
    · have HR : Hid (Po.rootsR l = []) := by unfold Hid Po.rootsR; rw [hv, decide_eq_false (by omega)]; rfl
      clear hs hn hv
      subst hn0
      go_enter Tryd.func14, Tryd.ntmps14
      go_wp2_with fail
      refine HV.out.mono ?_
      rintro e w1 ⟨rfl, rfl⟩
      go_wp2_with fail
      go_ret
      rw [HR.out]
      exact freshB_nil _ _ (Below.refl _ _)
    · have HR : Hid (Po.rootsR l = Po.rootsTo l 256) := by unfold Hid Po.rootsR; rw [hv, decide_eq_true (by omega)]; rfl
      have hz := nat_ne0 hn0
      have HN := Lib.hid hn
      have HS := Lib.hid hs
      clear hv hn hs
      go_enter Tryd.func14, Tryd.ntmps14
      go_wp2_with fail
      refine HV.out.mono ?_
      rintro e w1 ⟨rfl, rfl⟩
      go_wp2_with fail
      go_loopw [13, 3] (fun v o wr => RootsLoop w l v o wr) (fun v _ _ => 256 - (intOf v).toNat)
      case atStart => exact ⟨0, none, 0, 0, Nat.zero_le _, rfl, rfl, rfl, World.ownsRow_nil _ _ _ _, Below.refl _ _⟩
      case round =>
        obtain ⟨k, A1, n1, c1, hk, rfl, rfl, hl1, ho, hb⟩ := hrel
        have hle := Po.rootsTo_le l k
        rw [hl1] at hle
        have HO := Lib.hid ho
        have HB := Lib.hid hb
        have HL1 := Lib.hid hl1
        clear ho hb hl1
        rcases Nat.lt_or_ge k 256 with hk2 | hk2
        · have hkx : (k : Int) = ((UInt8.ofNat k).toNat : Int) := by rw [UInt8.toNat_ofNat']; omega
          have HKX := Lib.hid hkx
          have HE := Lib.hid (eval_at A n c w.heap.size l (UInt8.ofNat k) (k : Int) hkx HN.out hl wr (HS.out.below HB.out) HB.out.size)
          clear hkx
          go_wp2_with fail
          refine HE.out.mono ?_
          rintro e w2 ⟨rfl, hb2⟩
          have HB2 := Lib.hid (HB.out.trans (hb2.mono HB.out.size))
          have HO2 := Lib.hid (own_below HO.out hb2)
          have hsz : wr.heap.size ≤ w2.heap.size := hb2.size
          clear hb2
          by_cases hx : Po.eval l (UInt8.ofNat k) = 0
          · have hb0 : (((Po.eval l (UInt8.ofNat k)).toNat : Int) == 0) = true := by rw [hx]; rfl
            have HR1 : Hid (Po.rootsTo l (k + 1) = Po.rootsTo l k ++ [UInt8.ofNat k]) := by unfold Hid; rw [Po.rootsTo, if_pos hx]
            have HO3 : Hid ((w2.alloc (.cells #[.int .u8 (k : Int)] 5)).ownsRow w.heap.size 5 1 (.slice A1 n1 c1) n1 (bys (Po.rootsTo l k))) := own_alloc HO2.out _
            have HSl := Lib.hid (sl_new1 w2 5 (.int .u8 (k : Int)))
            have HBW : Hid (w.heap.size ≤ w2.heap.size) := HB2.out.size
            clear hx
            go_wp2_with (at_builtin; refine wpList_append_sl _ rfl (.tmp 21) (.tmp 24) 27 rfl w.heap.size 5 i0 (.int .u8 0) 1 Tryd.underlying27 hi hz0 hz1 hz2 rfl _ _ _ _ rfl HO3.out _ _ 1 _ _ rfl rfl HSl.out (fun u hu => by simp at hu; subst hu; rfl) (by unfold maxLen; omega) (by omega) (by have := HBW.out; simp; omega) ?_; intro A' c' w3 hown hgrow hblk)
            have hrow : ∀ x, (Value.slice A1 n1 c1).ownBlock = some x → w.heap.size ≤ x := own_block HO.out
            go_roundw
            case rel =>
              refine ⟨k + 1, A', n1 + 1, c', by omega, by go_num, rfl, by rw [HR1.out, List.length_append, HL1.out]; rfl, ?_, (HB2.out.alloc HBW.out _).grown hgrow (by have := HBW.out; simp; omega) hrow⟩
              rw [HR1.out]
              rw [HKX.out] at hown
              rw [bys_snoc] at hown
              exact hown
            case measure => simp [intOf]; omega
          · have hb0 : (((Po.eval l (UInt8.ofNat k)).toNat : Int) == 0) = false := by
              rw [beq_eq_false_iff_ne]
              intro e
              exact hx (UInt8.toNat_inj.1 (by simpa using e))
            have HR1 : Hid (Po.rootsTo l (k + 1) = Po.rootsTo l k) := by unfold Hid; rw [Po.rootsTo, if_neg hx]
            clear hx
            go_wp2_with fail
            go_roundw
            case rel => exact ⟨k + 1, A1, n1, c1, by omega, by go_num, rfl, by rw [HR1.out]; exact HL1.out, by rw [HR1.out]; exact HO2.out, HB2.out⟩
            case measure => simp [intOf]; omega
        · have hk3 : k = 256 := by omega
          subst hk3
          go_wp2_with fail
          go_ret
          rw [HR.out]
          exact ⟨A1, n1, c1, rfl, HL1.out, HO.out, HB.out⟩
end Go.Proofs.YtkolmppfhpcdpaaDoor

/- The contract of divide. -/
import Derived.Test.YtkolmppfhpcdpaaDoorPolyG
import Derived.Test.YtkolmppfhpcdpaaDoorPolyH
import Derived.Test.YtkolmppfhpcdpaaDoorFieldC
namespace Go.Proofs.YtkolmppfhpcdpaaDoor
open Go.RowKit
set_option linter.unusedVariables false
set_option maxRecDepth 100000

/-- what a call leaves that hands back two lists of bytes of its own -/
def ResD (w : World) (q r : List UInt8) (en : Ending) (w' : World) : Prop :=
  ∃ (A1 : Option Addr) (n1 c1 : Nat) (A2 : Option Addr) (n2 c2 : Nat), en = .returned (.tuple #[.slice A1 n1 c1, .slice A2 n2 c2]) ∧ q.length = n1 ∧ r.length = n2 ∧
    w'.ownsRow w.heap.size 5 1 (.slice A1 n1 c1) n1 (bys q) ∧ w'.ownsRow w.heap.size 5 1 (.slice A2 n2 c2) n2 (bys r) ∧ Below w.heap.size w w'
def DivLoop (w : World) (p q : List UInt8) (lead : UInt8) (g1 c1 g2 n m : Nat) (at_ rest : Value) (wr : World) : Prop :=
  ∃ a j : Nat, a + j = n - m + 1 ∧ at_ = .int .i64 ((a : Int) - 1) ∧ rest = .slice (some ⟨g1, 0, none⟩) (a + m - 1) c1 ∧
    wr.ownsRow w.heap.size 5 1 (.slice (some ⟨g1, 0, none⟩) (a + m - 1) c1) (a + m - 1) (bys ((Po.dv p q lead j).1.take (a + m - 1))) ∧
    wr.ownsRow w.heap.size 5 1 (.slice (some ⟨g2, 0, none⟩) (n - m + 1) (n - m + 1)) (n - m + 1) (bys (Po.dv p q lead j).2) ∧ Below w.heap.size w wr
set_option maxHeartbeats 2000000 in
theorem divide_lists (A A2 : Option Addr) (n c m c2 : Nat) (p q : List UInt8) (w : World) (hn : p.length = n) (hm : q.length = m) (hp : Sl w w.heap.size A (bys p)) (hq : Sl w w.heap.size A2 (bys q))
    (hl : n ≤ 255) (hl2 : m ≤ 255) (hm0 : 0 < m) :
    Calls Tryd.prog 40 #[.slice A n c, .slice A2 m c2] w (ResD w (Po.quo p q) (Po.rem p q)) := by
  obtain ⟨i0, hi, hz0, hz1, hz2⟩ := info_parts infoB
  have HC := Lib.hid (cloneB_fresh A n c w.heap.size p w hn hp (Nat.le_refl _) (by omega))
  rcases Nat.lt_or_ge n m with hnm | hnm
  · have HQ : Hid (Po.quo p q = []) := by unfold Hid Po.quo; rw [if_pos (by omega)]
    have HR : Hid (Po.rem p q = p) := by unfold Hid Po.rem; rw [if_pos (by omega)]
    clear hp hq hm hn
    go_enter Tryd.func40, Tryd.ntmps40
    go_wp2_with fail
    refine HC.out.mono ?_
    rintro e w1 ⟨A', n', c', rfl, h1, h2, h3⟩
    have H : Hid (p.length = n' ∧ w1.ownsRow w.heap.size 5 1 (.slice A' n' c') n' (bys p) ∧ Below w.heap.size w w1) := ⟨h1, h2, h3⟩
    clear h1 h2 h3
    go_wp2_with fail
    go_ret2
    rw [HQ.out, HR.out]
    exact ⟨none, 0, 0, A', n', c', rfl, rfl, H.out.1, World.ownsRow_nil _ _ _ _, H.out.2.1, H.out.2.2⟩
  · obtain ⟨lead0, hlast⟩ := byte_at q (m - 1) (by omega)
    obtain ⟨lead, hlead⟩ : ∃ lead, lead = Gf.ginv lead0 := ⟨_, rfl⟩
    have hlo : Po.lastOf q = lead0 := by unfold Po.lastOf; rw [hm, hlast]; rfl
    have HQ : Hid (Po.quo p q = (Po.dv p q lead (n - m + 1)).2) := by unfold Hid Po.quo Po.dvAll; rw [if_neg (by omega), hlo, hn, hm, hlead]
    have HR : Hid (Po.rem p q = Po.trim ((Po.dv p q lead (n - m + 1)).1.take (m - 1))) := by unfold Hid Po.rem Po.dvAll; rw [if_neg (by omega), hlo, hn, hm, hlead]
    have HN := Lib.hid hn
    have HM := Lib.hid hm
    have HLE := Lib.hid hlead
    have HSQ := Lib.hid hq
    have hnm0 : 0 < n := by omega
    clear hp hlead hlo hn hm
    go_enter Tryd.func40, Tryd.ntmps40
    go_wp2_with fail
    refine HC.out.mono ?_
    rintro e w1 ⟨A', n', c', rfl, h1, h2, h3⟩
    obtain rfl : n = n' := by rw [← h1]; exact HN.out.symm
    obtain ⟨g1, rfl, hg1b, hg1w⟩ := own_form h2 (by omega)
    obtain ⟨ad, rfl, hbk, hc0⟩ := (hq.below h3).byte hlast
    have HO1 := Lib.hid h2
    have HB1 := Lib.hid h3
    have hcap := (own_cap h2).1
    clear h1 h2 h3 hlast
    go_wp2_with (first | (go_at_call 41; ((with_reducible refine (inverse_any _ _).mono ?_); rintro e w' ⟨rfl, rfl⟩)) | (at_make; refine wpList_make_full _ rfl (.tmp 34) (.tmp 34) 27 rfl w1.heap.size 5 i0 (.int .u8 0) 1 Tryd.underlying27 hi hz0 hz1 _ _ _ _ (n - m + 1) rfl rfl (by omega) (by omega) (by rw [hz2]; omega) (by unfold maxLen; omega) (Nat.le_refl _) ?_; intro w2 hown2 hg2))
    rw [made_bys] at hown2
    rw [← HLE.out]
    have hsz : w.heap.size ≤ w1.heap.size := HB1.out.size
    have HO2 := Lib.hid (own_more hown2 hsz)
    have HO1' : Hid (w2.ownsRow w.heap.size 5 1 (.slice (some ⟨g1, 0, none⟩) n c') n (bys p)) := own_keep HO1.out hg2 (.inr (by simp [Value.ownBlock]))
    have HB2 := Lib.hid (HB1.out.grown hg2 hsz (fun _ e => by cases e))
    have hne : g1 ≠ w1.heap.size := by omega
    generalize w1.heap.size = g2 at *
    clear hown2 hg2 HO1 HB1 hc0 HC
    go_loopw [10, 6] (fun a r wr => DivLoop w p q lead g1 c' g2 n m a r wr) (fun a _ _ => (intOf a + 1).toNat)
    case atStart =>
      refine ⟨n - m + 1, 0, rfl, int_eqv (by omega), by rw [show n - m + 1 + m - 1 = n from by omega], ?_, ?_, HB2.out⟩
      · rw [show n - m + 1 + m - 1 = n from by omega]
        show w2.ownsRow _ _ _ _ _ (bys (p.take n))
        rw [List.take_of_length_le (by rw [HN.out]; exact Nat.le_refl _)]
        exact HO1'.out
      · show w2.ownsRow _ _ _ _ _ (bys (List.replicate (p.length - q.length + 1) 0))
        rw [HN.out, HM.out]
        exact HO2.out
    case round =>
      obtain ⟨a, j, haj, rfl, rfl, ho1, ho2, hb⟩ := hrel
      have HO3 := Lib.hid ho1
      have HO4 := Lib.hid ho2
      have HB3 := Lib.hid hb
      have HLEN := Lib.hid (Po.dv_len p q lead j)
      clear HO1' HO2 HB2
      rcases Nat.eq_zero_or_pos a with ha | ha
      · have hj : j = n - m + 1 := by omega
        subst ha hj
        have e1 : ((0 : Nat) : Int) - 1 = -1 := by omega
        have e2 : 0 + m - 1 = m - 1 := by omega
        rw [e1, e2]
        rw [e2] at HO3 ho1
        clear e1 e2
        have HLT : Hid (((Po.dv p q lead (n - m + 1)).1.take (m - 1)).length = m - 1) := by unfold Hid; rw [List.length_take, HLEN.out.1, HN.out]; omega
        have hcc := (own_cap ho1).1
        have HT := Lib.hid (trim_any (some ⟨g1, 0, none⟩) (m - 1) c' _ _ wr HLT.out (Sl.of_own ho1) hcc (by omega))
        clear ho1 ho2 hb
        go_wp2_with fail
        refine HT.out.mono ?_
        rintro e w5 ⟨rfl, rfl⟩
        go_wp2_with fail
        go_ret2
        rw [HQ.out, HR.out]
        have h5 := own_take HO3.out (Po.tl_le ((Po.dv p q lead (n - m + 1)).1.take (m - 1)) (m - 1))
        rw [bys_take] at h5
        refine ⟨_, _, _, _, _, _, rfl, by rw [HLEN.out.2, HN.out, HM.out], ?_, HO4.out, ?_, HB3.out⟩
        · rw [Po.trim_length, HLT.out]
        · unfold Po.trim
          rw [HLT.out]
          exact h5
      · obtain ⟨t, rfl⟩ : ∃ t, a = t + 1 := ⟨a - 1, by omega⟩
        have e1 : ((t + 1 : Nat) : Int) - 1 = (t : Int) := by omega
        have e2 : t + 1 + m - 1 = t + m := by omega
        rw [e1, e2]
        rw [e2] at HO3 ho1
        clear e1 e2
        obtain ⟨b, hb1⟩ := byte_at (Po.dv p q lead j).1 (t + m - 1) (by rw [HLEN.out.1, HN.out]; omega)
        have hb1' : ((Po.dv p q lead j).1.take (t + m))[t + m - 1]? = some b := by rw [List.getElem?_take, if_pos (by omega)]; exact hb1
        have HDV := Lib.hid (Po.dv_succ p q lead j n m t b HN.out HM.out (by omega) hb1)
        have hcb := own_byte ho1 hb1'
        obtain ⟨x, hx⟩ : ∃ x, x = Gf.gmul b lead := ⟨_, rfl⟩
        have HX := Lib.hid hx
        obtain ⟨y, hy⟩ := byte_at (Po.dv p q lead j).2 t (by rw [HLEN.out.2, HN.out, HM.out]; omega)
        have hcy := own_byte ho2 hy
        have hfy := ho2.frozenAt t
        have hst := ho2.stored t (.int .u8 ((Gf.gmul b lead).toNat : Int))
        have HW2 : Hid ((wr.setCell ⟨g2, t, none⟩ (.int .u8 ((Gf.gmul b lead).toNat : Int))).ownsRow w.heap.size 5 1 (.slice (some ⟨g2, 0, none⟩) (n - m + 1) (n - m + 1)) (n - m + 1) (bys (Po.dv p q lead (j + 1)).2)) := by
          have h5 := hst.1
          unfold Hid
          rw [HDV.out.2]
          unfold bys at h5 ⊢
          rw [List.map_set]
          exact h5
        have HW1 : Hid ((wr.setCell ⟨g2, t, none⟩ (.int .u8 ((Gf.gmul b lead).toNat : Int))).ownsRow w.heap.size 5 1 (.slice (some ⟨g1, 0, none⟩) (t + m) c') (t + m) (bys ((Po.dv p q lead j).1.take (t + m)))) :=
          own_keep ho1 hst.2 (.inr (fun e => hne (by simpa [Value.ownBlock] using e)))
        have HWB : Hid (Below w.heap.size w (wr.setCell ⟨g2, t, none⟩ (.int .u8 ((Gf.gmul b lead).toNat : Int)))) := HB3.out.grown hst.2 HB3.out.size (fun _ e => by cases e; exact hsz)
        have HLT : Hid (((Po.dv p q lead j).1.take (t + m)).length = t + m) := by unfold Hid; rw [List.length_take, HLEN.out.1, HN.out]; omega
        have HTK : Hid (Po.addAt ((Po.dv p q lead j).1.take (t + m)) q (Gf.gmul b lead) t = (Po.dv p q lead (j + 1)).1.take (t + m)) := by
          unfold Hid
          rw [Po.addAt_take _ _ _ _ _ (by rw [HM.out]; exact Nat.le_refl _), HDV.out.1]
        clear hb1 hb1' hy ho1 ho2 hb hx hst
        go_wp2_with (go_at_call 32; ((with_reducible refine (mul_any _ _ _).mono ?_); rintro e w' ⟨rfl, rfl⟩))
        refine (add_any (some ⟨g1, 0, none⟩) (some ad) (t + m) c' m c2 w.heap.size w.heap.size _ q (Gf.gmul b lead) t _ HLT.out HM.out HW1.out (HSQ.out.below HWB.out) (Nat.le_refl _) HWB.out.size (Nat.le_refl _) (by omega)).mono ?_
        rintro e w4 ⟨rfl, ho5, hg5⟩
        rw [HTK.out] at ho5
        have HO5 := Lib.hid ho5
        have HO6 : Hid (w4.ownsRow w.heap.size 5 1 (.slice (some ⟨g2, 0, none⟩) (n - m + 1) (n - m + 1)) (n - m + 1) (bys (Po.dv p q lead (j + 1)).2)) :=
          own_keep HW2.out hg5 (.inr (fun e => hne (by simpa [Value.ownBlock] using e.symm)))
        have HB6 : Hid (Below w.heap.size w w4) := HWB.out.grown hg5 HWB.out.size (fun _ e => by cases e; exact hg1b)
        have hcc := (own_cap ho5).1
        clear ho5 hg5
        go_wp2_with fail
        go_roundw
        case rel =>
          have e3 : t + m - 1 ≤ t + m := Nat.sub_le _ _
          have h7 := own_take HO5.out e3
          rw [bys_take, List.take_take, Nat.min_eq_left e3] at h7
          exact ⟨t, j + 1, by omega, rfl, rfl, h7, HO6.out, HB6.out⟩
        case measure => simp [intOf]
end Go.Proofs.YtkolmppfhpcdpaaDoor

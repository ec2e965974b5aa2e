/- The contract of Add. -/
import Derived.Test.YtkolmppfhpcdpaaDoorPolyB
namespace Go.Proofs.YtkolmppfhpcdpaaDoor
open Go.RowKit
set_option linter.unusedVariables false
set_option maxRecDepth 100000

theorem padd_any (A A2 : Option Addr) (n c m c2 : Nat) (p q : List UInt8) (w : World) (hn : p.length = n) (hm : q.length = m) (hp : Sl w w.heap.size A (bys p)) (hq : Sl w w.heap.size A2 (bys q))
    (hl : n ≤ 140737488355328) (hl2 : m ≤ 140737488355328) :
    Calls Tryd.prog 18 #[.slice A n c, .slice A2 m c2] w (ResB w (Po.addR p q) (Po.errR p q)) := by
  obtain ⟨i0, hi, hz0, hz1, hz2⟩ := info_parts infoB
  have HV1 := Lib.hid (valid_any A n c _ p w hn hp (by omega))
  have HV2 := Lib.hid (valid_any A2 m c2 _ q w hm hq (by omega))
  cases hv : (Po.vld p && Po.vld q)
  · have HR : Hid (Po.addR p q = []) := by unfold Hid Po.addR; rw [hv]; rfl
    have HE := Lib.hid (Po.errs_no hv)
    cases hv1 : Po.vld p
    · rw [hv1] at HV1
      clear hp hq hn hm hv hv1
      go_enter Tryd.func18, Tryd.ntmps18
      go_wp2_with fail
      refine HV1.out.mono ?_
      rintro e w1 ⟨rfl, rfl⟩
      go_wp2_with fail
      go_ret2
      rw [HR.out, HE.out]
      exact resB_nil _ _ _ (Below.refl _ _)
    · have hv2 : Po.vld q = false := by rw [hv1] at hv; simpa using hv
      rw [hv1] at HV1
      rw [hv2] at HV2
      clear hp hq hn hm hv hv1 hv2
      go_enter Tryd.func18, Tryd.ntmps18
      go_wp2_with fail
      refine HV1.out.mono ?_
      rintro e w1 ⟨rfl, rfl⟩
      go_wp2_with fail
      refine HV2.out.mono ?_
      rintro e w1 ⟨rfl, rfl⟩
      go_wp2_with fail
      go_ret2
      rw [HR.out, HE.out]
      exact resB_nil _ _ _ (Below.refl _ _)
  · have hvv : Po.vld p = true ∧ Po.vld q = true := by simpa using hv
    rw [hvv.1] at HV1
    rw [hvv.2] at HV2
    have HR : Hid (Po.addR p q = Po.trim (Po.padd p q)) := by unfold Hid Po.addR; rw [hv]; rfl
    have HE := Lib.hid (Po.errs_ok hvv.1 hvv.2)
    have h255 : n ≤ 255 ∧ m ≤ 255 := ⟨by rw [← hn]; exact Po.vld_len hvv.1, by rw [← hm]; exact Po.vld_len hvv.2⟩
    have HN := Lib.hid hn
    have HM := Lib.hid hm
    have HP := Lib.hid hp
    have HQ := Lib.hid hq
    obtain ⟨h1, h2⟩ := h255
    have HL : Hid ((Po.padd p q).length = max n m) := by unfold Hid; rw [Po.padd_length, hn, hm]
    have HX : Hid (Po.padd p q = Po.addAt (Po.addAt (List.replicate (max n m) 0) p 1 0) q 1 0) := by unfold Hid Po.padd; rw [hn, hm]
    clear hp hq hn hm hv hvv
    rcases Nat.lt_or_ge n m with hnm | hnm
    · rw [show max n m = m from by omega] at HL HX
      go_enter Tryd.func18, Tryd.ntmps18
      go_wp2_with fail
      refine HV1.out.mono ?_
      rintro e w1 ⟨rfl, rfl⟩
      go_wp2_with fail
      refine HV2.out.mono ?_
      rintro e w1 ⟨rfl, rfl⟩
      go_wp2_with (at_make; refine wpList_make_full _ rfl (.tmp 19) (.tmp 19) 27 rfl w.heap.size 5 i0 (.int .u8 0) 1 Tryd.underlying27 hi hz0 hz1 _ _ _ _ m rfl rfl rfl rfl (by rw [hz2]; omega) (by unfold maxLen; omega) (Nat.le_refl _) ?_; intro w2 hown2 hg2)
      rw [made_bys] at hown2
      have hrow := own_block hown2
      refine (add_at _ A m m n c w.heap.size w.heap.size _ p 1 0 1 0 rfl rfl w2 List.length_replicate HN.out hown2 (HP.out.grown hg2 (Nat.le_refl _) (fun _ e => by cases e)) (Nat.le_refl _) hg2.size (by omega) (by omega)).mono ?_
      rintro e w3 ⟨rfl, hown3, hg3⟩
      have HG3 := Lib.hid (grown_far hg2 hg3 hrow)
      clear hg3 hg2 hown2
      go_wp2_with fail
      refine (add_at _ A2 m m m c2 w.heap.size w.heap.size _ q 1 0 1 0 rfl rfl w3 (by rw [Po.addAt_length, List.length_replicate]) HM.out hown3 (HQ.out.grown HG3.out (Nat.le_refl _) (fun _ e => by cases e)) (Nat.le_refl _) HG3.out.size (by omega) (by omega)).mono ?_
      rintro e w4 ⟨rfl, hown4, hg4⟩
      rw [← HX.out] at hown4
      have HG4 := Lib.hid (grown_far HG3.out hg4 hrow)
      have HO4 := Lib.hid hown4
      clear hg4 hown4 hown3
      go_wp2_with fail
      refine (trim_any _ m m _ (Po.padd p q) w4 HL.out (Sl.of_own HO4.out) (Nat.le_refl _) (by omega)).mono ?_
      rintro e w5 ⟨rfl, rfl⟩
      go_wp2_with fail
      go_ret2
      rw [HR.out, HE.out]
      have h5 := own_take HO4.out (Po.tl_le (Po.padd p q) m)
      rw [bys_take] at h5
      refine ⟨_, _, _, rfl, ?_, ?_, below_of_grown HG4.out⟩
      · rw [Po.trim_length, HL.out]
      · unfold Po.trim
        rw [HL.out]
        exact h5
    · rw [show max n m = n from by omega] at HL HX
      go_enter Tryd.func18, Tryd.ntmps18
      go_wp2_with fail
      refine HV1.out.mono ?_
      rintro e w1 ⟨rfl, rfl⟩
      go_wp2_with fail
      refine HV2.out.mono ?_
      rintro e w1 ⟨rfl, rfl⟩
      go_wp2_with (at_make; refine wpList_make_full _ rfl (.tmp 19) (.tmp 19) 27 rfl w.heap.size 5 i0 (.int .u8 0) 1 Tryd.underlying27 hi hz0 hz1 _ _ _ _ n rfl rfl rfl rfl (by rw [hz2]; omega) (by unfold maxLen; omega) (Nat.le_refl _) ?_; intro w2 hown2 hg2)
      rw [made_bys] at hown2
      have hrow := own_block hown2
      refine (add_at _ A n n n c w.heap.size w.heap.size _ p 1 0 1 0 rfl rfl w2 List.length_replicate HN.out hown2 (HP.out.grown hg2 (Nat.le_refl _) (fun _ e => by cases e)) (Nat.le_refl _) hg2.size (by omega) (by omega)).mono ?_
      rintro e w3 ⟨rfl, hown3, hg3⟩
      have HG3 := Lib.hid (grown_far hg2 hg3 hrow)
      clear hg3 hg2 hown2
      go_wp2_with fail
      refine (add_at _ A2 n n m c2 w.heap.size w.heap.size _ q 1 0 1 0 rfl rfl w3 (by rw [Po.addAt_length, List.length_replicate]) HM.out hown3 (HQ.out.grown HG3.out (Nat.le_refl _) (fun _ e => by cases e)) (Nat.le_refl _) HG3.out.size (by omega) (by omega)).mono ?_
      rintro e w4 ⟨rfl, hown4, hg4⟩
      rw [← HX.out] at hown4
      have HG4 := Lib.hid (grown_far HG3.out hg4 hrow)
      have HO4 := Lib.hid hown4
      clear hg4 hown4 hown3
      go_wp2_with fail
      refine (trim_any _ n n _ (Po.padd p q) w4 HL.out (Sl.of_own HO4.out) (Nat.le_refl _) (by omega)).mono ?_
      rintro e w5 ⟨rfl, rfl⟩
      go_wp2_with fail
      go_ret2
      rw [HR.out, HE.out]
      have h5 := own_take HO4.out (Po.tl_le (Po.padd p q) n)
      rw [bys_take] at h5
      refine ⟨_, _, _, rfl, ?_, ?_, below_of_grown HG4.out⟩
      · rw [Po.trim_length, HL.out]
      · unfold Po.trim
        rw [HL.out]
        exact h5
end Go.Proofs.YtkolmppfhpcdpaaDoor

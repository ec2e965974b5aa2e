/- The contract of Mul. -/
import Derived.Test.YtkolmppfhpcdpaaDoorPolyC
namespace Go.Proofs.YtkolmppfhpcdpaaDoor
open Go.RowKit
set_option linter.unusedVariables false
set_option maxRecDepth 100000

def MulLoop (w : World) (p q : List UInt8) (g n m : Nat) (v : Value) (wr : World) : Prop :=
  ∃ k : Nat, k ≤ n ∧ v = .int .i64 (k : Int) ∧ wr.ownsRow w.heap.size 5 1 (.slice (some ⟨g, 0, none⟩) (n + m - 1) (n + m - 1)) (n + m - 1) (bys (Po.mulTo p q k)) ∧ w.grownBy wr none
set_option maxHeartbeats 1000000 in
theorem pmul_any (A A2 : Option Addr) (n c m c2 : Nat) (p q : List UInt8) (w : World) (hn : p.length = n) (hm : q.length = m) (hp : Sl w w.heap.size A (bys p)) (hq : Sl w w.heap.size A2 (bys q))
    (hl : n ≤ 140737488355328) (hl2 : m ≤ 140737488355328) :
    Calls Tryd.prog 13 #[.slice A n c, .slice A2 m c2] w (ResB w (Po.mulR p q) (Po.mulE p q)) := by
  obtain ⟨i0, hi, hz0, hz1, hz2⟩ := info_parts infoB
  have HV1 := Lib.hid (valid_any A n c _ p w hn hp (by omega))
  have HV2 := Lib.hid (valid_any A2 m c2 _ q w hm hq (by omega))
  cases hv : (Po.vld p && Po.vld q)
  · obtain ⟨hr, he⟩ := Po.mul_no hv
    have HR := Lib.hid hr
    have HE := Lib.hid he
    clear hr he
    cases hv1 : Po.vld p
    · rw [hv1] at HV1
      clear hp hq hn hm hv hv1
      go_enter Tryd.func13, Tryd.ntmps13
      go_wp2_with fail
      refine HV1.out.mono ?_
      rintro e w1 ⟨rfl, rfl⟩
      go_wp2_with fail
      go_ret2
      rw [HR.out, HE.out]
      exact resB_nil _ _ _ (Below.refl _ _)
    · have hv2 : Po.vld q = false := by rw [hv1] at hv; simpa using hv
      rw [hv1] at HV1
      rw [hv2] at HV2
      clear hp hq hn hm hv hv1 hv2
      go_enter Tryd.func13, Tryd.ntmps13
      go_wp2_with fail
      refine HV1.out.mono ?_
      rintro e w1 ⟨rfl, rfl⟩
      go_wp2_with fail
      refine HV2.out.mono ?_
      rintro e w1 ⟨rfl, rfl⟩
      go_wp2_with fail
      go_ret2
      rw [HR.out, HE.out]
      exact resB_nil _ _ _ (Below.refl _ _)
  · have hvv : Po.vld p = true ∧ Po.vld q = true := by simpa using hv
    rw [hvv.1] at HV1
    rw [hvv.2] at HV2
    have h255 : n ≤ 255 ∧ m ≤ 255 := ⟨by rw [← hn]; exact Po.vld_len hvv.1, by rw [← hm]; exact Po.vld_len hvv.2⟩
    obtain ⟨h1, h2⟩ := h255
    clear hvv
    rcases Nat.eq_zero_or_pos n with hn0 | hn0
    · obtain ⟨hr, he⟩ := Po.mul_empty hv (.inl (hn.trans hn0))
      have HR := Lib.hid hr
      have HE := Lib.hid he
      clear hr he hp hq hn hm hv
      subst hn0
      go_enter Tryd.func13, Tryd.ntmps13
      go_wp2_with fail
      refine HV1.out.mono ?_
      rintro e w1 ⟨rfl, rfl⟩
      go_wp2_with fail
      refine HV2.out.mono ?_
      rintro e w1 ⟨rfl, rfl⟩
      go_wp2_with fail
      go_ret2
      rw [HR.out, HE.out]
      exact resB_nil _ _ _ (Below.refl _ _)
    rcases Nat.eq_zero_or_pos m with hm0 | hm0
    · obtain ⟨hr, he⟩ := Po.mul_empty hv (.inr (hm.trans hm0))
      have HR := Lib.hid hr
      have HE := Lib.hid he
      have hz := nat_ne0 hn0
      clear hr he hp hq hn hm hv
      subst hm0
      go_enter Tryd.func13, Tryd.ntmps13
      go_wp2_with fail
      refine HV1.out.mono ?_
      rintro e w1 ⟨rfl, rfl⟩
      go_wp2_with fail
      refine HV2.out.mono ?_
      rintro e w1 ⟨rfl, rfl⟩
      go_wp2_with fail
      go_ret2
      rw [HR.out, HE.out]
      exact resB_nil _ _ _ (Below.refl _ _)
    have hz := nat_ne0 hn0
    have hz2' := nat_ne0 hm0
    rcases Nat.lt_or_ge 255 (n + m - 1) with hnm | hnm
    · obtain ⟨hr, he⟩ := Po.mul_long hv (by omega) (by omega) (by omega)
      have HR := Lib.hid hr
      have HE := Lib.hid he
      have hlo : 255 < (n : Int) + m - 1 := by omega
      clear hr he hp hq hn hm hv
      go_enter Tryd.func13, Tryd.ntmps13
      go_wp2_with fail
      refine HV1.out.mono ?_
      rintro e w1 ⟨rfl, rfl⟩
      go_wp2_with fail
      refine HV2.out.mono ?_
      rintro e w1 ⟨rfl, rfl⟩
      go_wp2_with fail
      go_ret2
      rw [HR.out, HE.out]
      exact resB_nil _ _ _ (Below.refl _ _)
    · obtain ⟨hr, he⟩ := Po.mul_some hv (by omega) (by omega) (by omega)
      have HR := Lib.hid hr
      have HE := Lib.hid he
      have hlo : (n : Int) + m - 1 ≤ 255 := by omega
      have HN := Lib.hid hn
      have HM := Lib.hid hm
      have HQ := Lib.hid hq
      have HL : Hid (∀ k, (Po.mulTo p q k).length = n + m - 1) := fun k => by rw [Po.mulTo_length, hn, hm]
      have H0 : Hid (List.replicate (n + m - 1) 0 = Po.mulTo p q 0) := by unfold Hid; rw [Po.mulTo, hn, hm]
      clear hr he hq hn hm hv
      go_enter Tryd.func13, Tryd.ntmps13
      go_wp2_with fail
      refine HV1.out.mono ?_
      rintro e w1 ⟨rfl, rfl⟩
      go_wp2_with fail
      refine HV2.out.mono ?_
      rintro e w1 ⟨rfl, rfl⟩
      go_wp2_with (at_make; refine wpList_make_full _ rfl (.tmp 40) (.tmp 40) 27 rfl w.heap.size 5 i0 (.int .u8 0) 1 Tryd.underlying27 hi hz0 hz1 _ _ _ _ (n + m - 1) rfl rfl (by omega) (by omega) (by rw [hz2]; omega) (by unfold maxLen; omega) (Nat.le_refl _) ?_; intro w2 hown2 hg2)
      rw [made_bys, H0.out] at hown2
      have hrow := own_block hown2
      go_loopw [44] (fun v wr => MulLoop w p q w.heap.size n m v wr) (fun v _ => n - (intOf v).toNat)
      case atStart => exact ⟨0, Nat.zero_le _, rfl, hown2, hg2⟩
      case round =>
        clear hown2 hg2
        obtain ⟨k, hk, rfl, ho, hg⟩ := hrel
        have HG := Lib.hid hg
        have HO := Lib.hid ho
        clear hg ho
        rcases Nat.lt_or_ge k n with hkn | hkn
        · obtain ⟨b, hb⟩ := byte_at p k (by rw [HN.out]; exact hkn)
          have HS := Lib.hid (Po.mulTo_succ p q k b hb)
          obtain ⟨ad, rfl, hbk, hc⟩ := (hp.grown HG.out (Nat.le_refl _) (fun _ e => by cases e)).byte hb
          clear hb hp
          go_wp2_with fail
          refine (add_any _ A2 (n + m - 1) (n + m - 1) m c2 w.heap.size w.heap.size _ q b k wr (HL.out k) HM.out HO.out (HQ.out.grown HG.out (Nat.le_refl _) (fun _ e => by cases e)) (Nat.le_refl _) HG.out.size (by omega) (by omega)).mono ?_
          rintro e w3 ⟨rfl, ho3, hg3⟩
          rw [← HS.out] at ho3
          have HO3 := Lib.hid ho3
          have HG3 := Lib.hid (grown_far HG.out hg3 hrow)
          clear ho3 hg3
          go_wp2_with fail
          go_roundw
          case rel => exact ⟨k + 1, by omega, by go_num, HO3.out, HG3.out⟩
          case measure => simp [intOf]; omega
        · have hkn' : k = n := by omega
          have HO' : Hid (wr.ownsRow w.heap.size 5 1 (.slice (some ⟨w.heap.size, 0, none⟩) (n + m - 1) (n + m - 1)) (n + m - 1) (bys (Po.mulA p q))) := by
            unfold Hid Po.mulA
            rw [HN.out]
            have h' := HO.out
            rw [hkn'] at h'
            exact h'
          have hlen : Hid ((Po.mulA p q).length = n + m - 1) := HL.out _
          clear hp
          go_wp2_with fail
          go_ret2
          rw [HR.out, HE.out]
          exact ⟨_, _, _, rfl, hlen.out, HO'.out, below_of_grown HG.out⟩
end Go.Proofs.YtkolmppfhpcdpaaDoor

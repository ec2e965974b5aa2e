/- The document's Divide and Gcd, for any lists. -/
import Derived.Test.YtkolmppfhpcdpaaDoorRefD
namespace Go.Proofs.YtkolmppfhpcdpaaDoor
open Go.RowKit
set_option linter.unusedVariables false
set_option maxRecDepth 100000
theorem rdivide_any (A A2 : Option Addr) (n c m c2 : Nat) (p q : List UInt8) (w : World) (hn : p.length = n) (hm : q.length = m) (hp : Sl w w.heap.size A (bys p)) (hq : Sl w w.heap.size A2 (bys q))
    (hl : n ≤ 140737488355328) (hl2 : m ≤ 140737488355328) :
    Calls Tryd.prog 43 #[.slice A n c, .slice A2 m c2] w (ResE w (Po.divQ p q) (Po.divR p q) (Po.divE p q)) := by
  obtain ⟨i0, hi, hz0, hz1, hz2⟩ := info_parts infoB
  have HV1 := Lib.hid (rvalid_any A n c _ p w hn hp (by omega))
  have HV2 := Lib.hid (rvalid_any A2 m c2 _ q w hm hq (by omega))
  cases hv : (Po.vld p && Po.vld q)
  · obtain ⟨hr, hr2, he⟩ := Po.div_no hv
    have HR := Lib.hid hr
    have HR2 := Lib.hid hr2
    have HE := Lib.hid he
    clear hr he hr2
    cases hv1 : Po.vld p
    · rw [hv1] at HV1
      clear hp hq hn hm hv hv1
      go_enter Tryd.func43, Tryd.ntmps43
      go_wp2_with fail
      refine HV1.out.mono ?_
      rintro e w1 ⟨rfl, rfl⟩
      go_wp2_with fail
      go_ret3
      rw [HR.out, HE.out, HR2.out]
      exact resE_nil _ _ _ (Below.refl _ _)
    · have hv2 : Po.vld q = false := by rw [hv1] at hv; simpa using hv
      rw [hv1] at HV1
      rw [hv2] at HV2
      clear hp hq hn hm hv hv1 hv2
      go_enter Tryd.func43, Tryd.ntmps43
      go_wp2_with fail
      refine HV1.out.mono ?_
      rintro e w1 ⟨rfl, rfl⟩
      go_wp2_with fail
      refine HV2.out.mono ?_
      rintro e w1 ⟨rfl, rfl⟩
      go_wp2_with fail
      go_ret3
      rw [HR.out, HE.out, HR2.out]
      exact resE_nil _ _ _ (Below.refl _ _)
  · have hvv : Po.vld p = true ∧ Po.vld q = true := by simpa using hv
    rcases Nat.eq_zero_or_pos m with hm0 | hm0
    · rw [hvv.1] at HV1
      rw [hvv.2] at HV2
      obtain ⟨hr, hr2, he⟩ := Po.div_zero hv (hm.trans hm0)
      have HR := Lib.hid hr
      have HR2 := Lib.hid hr2
      have HE := Lib.hid he
      clear hr he hr2 hp hq hn hm hv hvv
      subst hm0
      go_enter Tryd.func43, Tryd.ntmps43
      go_wp2_with fail
      refine HV1.out.mono ?_
      rintro e w1 ⟨rfl, rfl⟩
      go_wp2_with fail
      refine HV2.out.mono ?_
      rintro e w1 ⟨rfl, rfl⟩
      go_wp2_with fail
      go_ret3
      rw [HR.out, HE.out, HR2.out]
      exact resE_nil _ _ _ (Below.refl _ _)
    · obtain ⟨hr, hr2, he⟩ := Po.div_some hv (by omega)
      rcases Nat.lt_or_ge n m with hnm | hnm
      · have h255 : n ≤ 255 := by rw [← hn]; exact Po.vld_len hvv.1
        have hm255 : m ≤ 255 := by rw [← hm]; exact Po.vld_len hvv.2
        obtain ⟨s1, s2⟩ := Po.rem_short p q (by omega)
        have HT0 := Lib.hid (Po.trim_self p hvv.1)
        rw [hvv.1] at HV1
        rw [hvv.2] at HV2
        rw [s2] at hr
        rw [s1] at hr2
        have HR := Lib.hid hr
        have HR2 := Lib.hid hr2
        have HE := Lib.hid he
        have HN := Lib.hid hn
        have HM := Lib.hid hm
        have HP := Lib.hid hp
        have HQ := Lib.hid hq
        have HLn : Hid ((bys p).length = n) := by unfold Hid; rw [bys_length]; exact hn
        have hz := nat_ne0 hm0
        obtain ⟨b, hb⟩ := byte_at q (m - 1) (by omega)
        have HBy := Lib.hid hb
        obtain ⟨ad, rfl, hbk, hc00⟩ := hq.byte hb
        clear hc00
        have hge : decide (m ≤ n) = false := decide_eq_false (by omega)
        clear hr he hr2 hp hq hn hm hv hvv s1 s2 hb
        go_enter Tryd.func43, Tryd.ntmps43
        go_wp2_with fail
        refine HV1.out.mono ?_
        rintro e w1 ⟨rfl, rfl⟩
        go_wp2_with fail
        refine HV2.out.mono ?_
        rintro e w1 ⟨rfl, rfl⟩
        go_wp2_with (at_builtin; refine wpList_append_sl _ rfl (.const (.slice none 0 0)) (.tmp 25) 27 rfl w.heap.size 5 i0 (.int .u8 0) 1 Tryd.underlying27 hi hz0 hz1 hz2 rfl _ _ _ _ rfl (World.ownsRow_nil _ _ _ _) w.heap.size _ _ _ _ rfl HLn.out HP.out (bys_one _) (by unfold maxLen; omega) (by omega) (Nat.le_refl _) ?_; intro A' c' w1 hown hgrow hblk; rw [Nat.zero_add] at hown; have hb1 : Below w.heap.size w w1 := (Below.refl _ _).grown hgrow (Nat.le_refl _) (fun g hg => by cases hg); have hcl : w1.cell? (ad.add (m - 1)) = some (.int .u8 (b.toNat : Int)) := (by obtain ⟨ad', had, _, h⟩ := (HQ.out.below hb1).byte HBy.out; cases had; exact h); have HO1 := Lib.hid hown; have HB1 := Lib.hid hb1; have hcap := (own_cap hown).1; clear hown hgrow hblk hb1)
        refine (refinverse_any b _).mono ?_
        rintro e w' ⟨rfl, rfl⟩
        have hneg : decide (0 ≤ (n : Int) - (m : Int)) = false := decide_eq_false (by omega)
        have HT1 := Lib.hid (rtrim_any none 0 0 w1.heap.size [] w1 rfl (Sl.nil _ _ _) (Nat.le_refl _) (Nat.le_refl _) (by omega))
        clear hcl
        go_wp2_with fail
        refine wp_loop_rounds 1 ?_
        rw [rounds_succ]
        go_wp2_with fail
        refine HT1.out.mono ?_
        rintro e w5 ⟨A3, n3, c3, rfl, hn3, ho3, hb3⟩
        have HT2 := Lib.hid (rtrim_any A' n c' w5.heap.size p w5 HN.out (Sl.of_own (own_below HO1.out hb3)) (Nat.le_refl _) hcap (by omega))
        rw [HT0.out] at HT2
        have HB5 : Hid (Below w.heap.size w w5) := HB1.out.trans (hb3.mono HB1.out.size)
        have HO3 := Lib.hid (own_more ho3 HB1.out.size)
        have HN3 := Lib.hid hn3
        clear ho3 hb3 hn3
        go_wp2_with fail
        refine HT2.out.mono ?_
        rintro e w6 ⟨A4, n4, c4, rfl, hn4, ho4, hb4⟩
        have HF : Hid (ResE w (Po.divQ p q) (Po.divR p q) (Po.divE p q) (.returned (.tuple #[.slice A3 n3 c3, .slice A4 n4 c4, .int .i64 0])) w6) := by
          unfold Hid
          rw [HR.out, HR2.out, HE.out]
          exact ⟨A3, n3, c3, A4, n4, c4, rfl, HN3.out, hn4, own_below HO3.out hb4, own_more ho4 HB5.out.size, HB5.out.trans (hb4.mono HB5.out.size)⟩
        clear ho4 hb4 hn4
        go_wp2_with fail
        go_ret3
        exact HF.out
      · rw [hr, hr2, he]
        exact rdivide_long A A2 n c m c2 p q w hn hm hp hq hvv.1 hvv.2 hm0 hnm
end Go.Proofs.YtkolmppfhpcdpaaDoor

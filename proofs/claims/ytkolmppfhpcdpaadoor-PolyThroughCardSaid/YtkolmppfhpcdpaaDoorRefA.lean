/- The document's Valid, Trim and Add. -/
import Derived.Test.YtkolmppfhpcdpaaDoorPolyB
import Derived.Test.YtkolmppfhpcdpaaDoorPolyN
namespace Go.Proofs.YtkolmppfhpcdpaaDoor
open Go.RowKit
set_option linter.unusedVariables false
set_option maxRecDepth 100000

theorem rvalid_any (A : Option Addr) (n c B : Nat) (l : List UInt8) (w : World) (hn : l.length = n) (hs : Sl w B A (bys l)) (hl : n ≤ 9223372036854775807) :
    Calls Tryd.prog 45 #[.slice A n c] w fun e w' => e = .returned (.bool (Po.vld l)) ∧ w = w' := by
  rcases Nat.lt_or_ge 255 n with h | h
  · have H := Lib.hid (Po.vld_big l (by omega))
    clear hn
    go_enter Tryd.func45, Tryd.ntmps45
    go_wp2_with fail
    go_ret
    exact ⟨ret_bool H.out.symm, rfl⟩
  · rcases Nat.eq_zero_or_pos n with h0 | h0
    · have H := Lib.hid (Po.vld_nil l (by omega))
      subst h0
      clear hn
      go_enter Tryd.func45, Tryd.ntmps45
      go_wp2_with fail
      go_ret
      exact ⟨ret_bool H.out.symm, rfl⟩
    · obtain ⟨b, hb⟩ := byte_at l (n - 1) (by omega)
      have H := Lib.hid ((Po.vld_last l b (by omega) (by rw [hn]; exact hb)).trans (u8_bne0 b).symm)
      obtain ⟨ad, rfl, hbk, hc⟩ := hs.byte hb
      have hz := nat_ne0 h0
      clear hb hn
      go_enter Tryd.func45, Tryd.ntmps45
      go_wp2_with fail
      go_ret
      exact ⟨ret_bool H.out.symm, rfl⟩

theorem rtrim_any (A : Option Addr) (n c B : Nat) (l : List UInt8) (w : World) (hn : l.length = n) (hs : Sl w B A (bys l)) (hB : B ≤ w.heap.size) (hnc : n ≤ c) (hl : n ≤ 140737488355328) :
    Calls Tryd.prog 39 #[.slice A n c] w (FreshB w (Po.trim l)) := by
  obtain ⟨i0, hi, hz0, hz1, hz2⟩ := info_parts infoB
  have HN := Lib.hid hn
  have HS := Lib.hid hs
  have HTr : Hid (Po.trim l = l.take (Po.tl l n)) := by unfold Hid Po.trim; rw [hn]
  clear hn
  go_enter Tryd.func39, Tryd.ntmps39
  go_wp2_with fail
  go_loop [3] (fun v => ∃ k : Nat, k ≤ n ∧ v = .int .i64 (k : Int) ∧ Hid (Po.tl l k = Po.tl l n)) (fun v => (intOf v).toNat)
  case atStart => exact ⟨n, Nat.le_refl _, rfl, rfl⟩
  case round =>
    obtain ⟨k, hk, rfl, HT⟩ := hrel
    rcases Nat.eq_zero_or_pos k with hk0 | hk0
    · subst hk0
      have HL : Hid ((bys (l.take 0)).length = 0) := by unfold Hid; rw [bys_length]; simp
      have HSk : Hid (Sl w B A (bys (l.take 0))) := by
        have := HS.out.take 0
        rw [bys_take] at this
        exact this
      have HT0 : Hid (Po.trim l = l.take 0) := by unfold Hid; rw [HTr.out, ← HT.out]; rfl
      clear hs
      go_wp2_with (at_builtin; refine wpList_append_sl _ rfl (.const (.slice none 0 0)) (.tmp 20) 27 rfl w.heap.size 5 i0 (.int .u8 0) 1 Tryd.underlying27 hi hz0 hz1 hz2 rfl _ _ _ _ rfl (World.ownsRow_nil _ _ _ _) B _ _ _ _ rfl HL.out HSk.out (bys_one _) (by unfold maxLen; omega) (by omega) (Nat.le_refl _) ?_; intro A' c' w1 hown hgrow hblk)
      go_ret
      rw [HT0.out]
      exact ⟨A', _, c', rfl, by simp, hown, (Below.refl _ _).grown hgrow (Nat.le_refl _) (fun g hg => by cases hg)⟩
    · have hd : decide (0 < (k : Int)) = true := decide_eq_true (by omega)
      obtain ⟨b, hb⟩ := byte_at l (k - 1) (by rw [HN.out]; omega)
      obtain ⟨ad, rfl, hbk, hc⟩ := hs.byte hb
      by_cases hb0 : b = 0
      · have ht : Hid (Po.tl l (k - 1) = Po.tl l n) := by
          unfold Hid
          rw [← HT.out, ← Po.tl_zero l (k - 1) (by rw [hb, hb0]), show k - 1 + 1 = k from by omega]
        subst hb0
        clear hb
        go_wp2_with fail
        go_round
        case rel => exact ⟨k - 1, by omega, int_eqv (by omega), ht⟩
        case measure => simp [intOf]; omega
      · have HT0 : Hid (Po.trim l = l.take k) := by
          unfold Hid
          rw [HTr.out, ← HT.out]
          congr 1
          conv => lhs; rw [show k = k - 1 + 1 from by omega]
          rw [Po.tl_stop l (k - 1) (by rw [hb]; intro e; exact hb0 (Option.some.inj e))]
          omega
        have hne : ((b.toNat : Int) == 0) = false := by
          rw [beq_eq_false_iff_ne]
          intro e
          exact hb0 (UInt8.toNat_inj.1 (by simpa using e))
        have HL : Hid ((bys (l.take k)).length = k) := by unfold Hid; rw [bys_length, List.length_take, HN.out]; omega
        have HSk : Hid (Sl w B (some ad) (bys (l.take k))) := by
          have := HS.out.take k
          rw [bys_take] at this
          exact this
        clear hb hb0
        go_wp2_with (at_builtin; refine wpList_append_sl _ rfl (.const (.slice none 0 0)) (.tmp 20) 27 rfl w.heap.size 5 i0 (.int .u8 0) 1 Tryd.underlying27 hi hz0 hz1 hz2 rfl _ _ _ _ rfl (World.ownsRow_nil _ _ _ _) B _ _ _ _ rfl HL.out HSk.out (bys_one _) (by unfold maxLen; omega) (by omega) (Nat.le_refl _) ?_; intro A' c' w1 hown hgrow hblk)
        go_ret
        rw [HT0.out]
        rw [Nat.zero_add] at hown
        exact ⟨A', k, c', rfl, by rw [List.length_take, HN.out]; omega, hown, (Below.refl _ _).grown hgrow (Nat.le_refl _) (fun g hg => by cases hg)⟩

namespace Po
theorem addAt_one (l r : List UInt8) (h : r.length ≤ l.length) (j : Nat) : co (addAt l r 1 0) j = co l j ^^^ co r j := by
  rw [co_addAt _ _ _ _ (by omega), if_pos (Nat.zero_le _), Gf.one_gmul, Nat.sub_zero]
theorem addV_big (p q : List UInt8) (h : q.length ≤ p.length) : addV p q = trim (addAt p q 1 0) := by
  unfold addV
  congr 1
  refine co_ext _ _ (by rw [padd_length, addAt_length]; omega) (fun i => ?_)
  rw [co_padd, addAt_one p q h]
theorem addV_less (p q : List UInt8) (h : p.length < q.length) : addV p q = trim (addAt q p 1 0) := by
  unfold addV
  congr 1
  refine co_ext _ _ (by rw [padd_length, addAt_length]; omega) (fun i => ?_)
  rw [co_padd, addAt_one q p (by omega), UInt8.xor_comm]
end Po
def RAddRel (w : World) (A : Option Addr) (n c : Nat) (l r : List UInt8) (m : Nat) (v : Value) (wr : World) : Prop :=
  ∃ k : Nat, k ≤ m ∧ v = .int .i64 (k : Int) ∧ wr.ownsRow w.heap.size 5 1 (.slice A n c) n (bys (Po.addTo l r 1 0 k)) ∧ Below w.heap.size w wr
theorem radd_any (A A2 : Option Addr) (n c m c2 : Nat) (p q : List UInt8) (w : World) (hn : p.length = n) (hm : q.length = m) (hp : Sl w w.heap.size A (bys p)) (hq : Sl w w.heap.size A2 (bys q))
    (hl : n ≤ 140737488355328) (hl2 : m ≤ 140737488355328) :
    Calls Tryd.prog 42 #[.slice A n c, .slice A2 m c2] w (ResB w (Po.addR p q) (Po.errR p q)) := by
  obtain ⟨i0, hi, hz0, hz1, hz2⟩ := info_parts infoB
  have HV1 := Lib.hid (rvalid_any A n c _ p w hn hp (by omega))
  have HV2 := Lib.hid (rvalid_any A2 m c2 _ q w hm hq (by omega))
  cases hv : (Po.vld p && Po.vld q)
  · have HR : Hid (Po.addR p q = []) := by unfold Hid Po.addR; rw [hv]; rfl
    have HE := Lib.hid (Po.errs_no hv)
    cases hv1 : Po.vld p
    · rw [hv1] at HV1
      clear hp hq hn hm hv hv1
      go_enter Tryd.func42, Tryd.ntmps42
      go_wp2_with fail
      refine HV1.out.mono ?_
      rintro e w1 ⟨rfl, rfl⟩
      go_wp2_with fail
      go_ret2
      rw [HR.out, HE.out]
      exact resB_nil _ _ _ (Below.refl _ _)
    · have hv2 : Po.vld q = false := by rw [hv1] at hv; simpa using hv
      rw [hv1] at HV1
      rw [hv2] at HV2
      clear hp hq hn hm hv hv1 hv2
      go_enter Tryd.func42, Tryd.ntmps42
      go_wp2_with fail
      refine HV1.out.mono ?_
      rintro e w1 ⟨rfl, rfl⟩
      go_wp2_with fail
      refine HV2.out.mono ?_
      rintro e w1 ⟨rfl, rfl⟩
      go_wp2_with fail
      go_ret2
      rw [HR.out, HE.out]
      exact resB_nil _ _ _ (Below.refl _ _)
  · have hvv : Po.vld p = true ∧ Po.vld q = true := by simpa using hv
    rw [hvv.1] at HV1
    rw [hvv.2] at HV2
    have HE := Lib.hid (Po.errs_ok hvv.1 hvv.2)
    have h1 : n ≤ 255 := by rw [← hn]; exact Po.vld_len hvv.1
    have h2 : m ≤ 255 := by rw [← hm]; exact Po.vld_len hvv.2
    rcases Nat.lt_or_ge n m with hnm | hnm
    · have hlt : decide ((n : Int) < (m : Int)) = true := decide_eq_true (by omega)
      have HN := Lib.hid hm
      have HM := Lib.hid hn
      have HLn : Hid ((bys q).length = m) := by unfold Hid; rw [bys_length]; exact HN.out
      have HQ := Lib.hid hp
      have HP := Lib.hid hq
      have HTr : Hid (Po.addR p q = Po.trim (Po.addAt q p 1 0)) := by unfold Hid; rw [Po.addR_ok hvv.1 hvv.2]; exact Po.addV_less p q (by omega)
      clear hn hm hp hq hvv hv
      go_enter Tryd.func42, Tryd.ntmps42
      go_wp2_with fail
      refine HV1.out.mono ?_
      rintro e w1 ⟨rfl, rfl⟩
      go_wp2_with fail
      refine HV2.out.mono ?_
      rintro e w1 ⟨rfl, rfl⟩
      go_wp2_with (at_builtin; refine wpList_append_sl _ rfl (.const (.slice none 0 0)) (.tmp 23) 27 rfl w.heap.size 5 i0 (.int .u8 0) 1 Tryd.underlying27 hi hz0 hz1 hz2 rfl _ _ _ _ rfl (World.ownsRow_nil _ _ _ _) w.heap.size _ _ _ _ rfl HLn.out HP.out (bys_one _) (by unfold maxLen; omega) (by omega) (Nat.le_refl _) ?_; intro A' c' w1 hown hgrow hblk)
      rw [Nat.zero_add] at hown
      have hb1 : Below w.heap.size w w1 := (Below.refl _ _).grown hgrow (Nat.le_refl _) (fun g hg => by cases hg)
      go_loopw [7] (fun v wr => RAddRel w A' m c' q p n v wr) (fun v _ => n - (intOf v).toNat)
      case atStart => exact ⟨0, Nat.zero_le _, rfl, hown, hb1⟩
      case round =>
        clear hown hgrow hblk hb1
        obtain ⟨k, hk, rfl, ho, hg⟩ := hrel
        rcases Nat.lt_or_ge k n with hkm | hkm
        · obtain ⟨g, rfl, hgb, hgw⟩ := own_form ho (by omega)
          obtain ⟨b, hb⟩ := byte_at p k (by rw [HM.out]; exact hkm)
          obtain ⟨d, hd⟩ := byte_at (Po.addTo q p 1 0 k) (0 + k) (by rw [Po.addTo_length, HN.out]; omega)
          obtain ⟨x, hx, HX⟩ := xor_ex d b
          have HS := Lib.hid (Po.addTo_succ q p 1 d b x 0 k hd hb (by rw [Gf.one_gmul]; exact HX.out))
          obtain ⟨ad, rfl, hbk, hc⟩ := (HQ.out.below hg).byte hb
          rw [Nat.zero_add] at hd
          have hc2 := own_byte ho hd
          have hfz := ho.frozenAt k
          clear hb hd
          have HO := Lib.hid ho
          have HG := Lib.hid hg
          clear ho hg
          have hb8 := u8_lt b
          have hd8 := u8_lt d
          go_wp2_with fail
          have s1 : (k : Int) < (m : Int) := by omega
          have s2 : (k : Int) < (n : Int) := by omega
          refine wp_region_still_tail 10 (by kernel_rfl) (by kernel_rfl) ?_
          simp only [List.take_succ_cons, List.take_zero, List.drop_succ_cons, List.drop_zero]
          repeat still_step
          refine wpStill_nil ?_
          change wpList _ _ _ _ _ wr.drew
          clear s1 s2
          go_wp2_with fail
          go_roundw
          case rel =>
            have h1 := HO.out.drew.stored k (.int .u8 (x.toNat : Int))
            refine ⟨k + 1, by omega, by go_num, ?_, HG.out.drew.grown h1.2 (HG.out.size) (fun y e => by cases e; exact hgb)⟩
            rw [HS.out]
            have h2 := h1.1
            unfold bys at h2 ⊢
            rw [List.map_set, Nat.zero_add]
            exact h2
          case measure => simp [intOf]; omega
        · obtain rfl : k = n := by omega
          have HO := Lib.hid ho
          have HG := Lib.hid hg
          have HTm := Lib.hid (rtrim_any A' m c' wr.heap.size (Po.addTo q p 1 0 k) wr (by rw [Po.addTo_length]; exact HN.out) (Sl.of_own ho) (Nat.le_refl _) (own_cap ho).1 (by omega))
          clear ho hg
          go_wp2_with fail
          refine HTm.out.mono ?_
          rintro e w2 ⟨A3, n3, c3, rfl, hn3, ho3, hb3⟩
          have HR : Hid (ResB w (Po.addR p q) 0 (.returned (.tuple #[.slice A3 n3 c3, .int .i64 0])) w2) := by
            rw [HTr.out]
            unfold Po.addAt
            rw [HM.out]
            exact ⟨A3, n3, c3, rfl, hn3, own_more ho3 HG.out.size, HG.out.trans (hb3.mono HG.out.size)⟩
          clear hn3 ho3 hb3
          go_wp2_with fail
          go_ret2
          rw [HE.out]
          exact HR.out
    · have hlt : decide ((n : Int) < (m : Int)) = false := decide_eq_false (by omega)
      have HN := Lib.hid hn
      have HM := Lib.hid hm
      have HLn : Hid ((bys p).length = n) := by unfold Hid; rw [bys_length]; exact HN.out
      have HQ := Lib.hid hq
      have HP := Lib.hid hp
      have HTr : Hid (Po.addR p q = Po.trim (Po.addAt p q 1 0)) := by unfold Hid; rw [Po.addR_ok hvv.1 hvv.2]; exact Po.addV_big p q (by omega)
      clear hn hm hp hq hvv hv
      go_enter Tryd.func42, Tryd.ntmps42
      go_wp2_with fail
      refine HV1.out.mono ?_
      rintro e w1 ⟨rfl, rfl⟩
      go_wp2_with fail
      refine HV2.out.mono ?_
      rintro e w1 ⟨rfl, rfl⟩
      go_wp2_with (at_builtin; refine wpList_append_sl _ rfl (.const (.slice none 0 0)) (.tmp 23) 27 rfl w.heap.size 5 i0 (.int .u8 0) 1 Tryd.underlying27 hi hz0 hz1 hz2 rfl _ _ _ _ rfl (World.ownsRow_nil _ _ _ _) w.heap.size _ _ _ _ rfl HLn.out HP.out (bys_one _) (by unfold maxLen; omega) (by omega) (Nat.le_refl _) ?_; intro A' c' w1 hown hgrow hblk)
      rw [Nat.zero_add] at hown
      have hb1 : Below w.heap.size w w1 := (Below.refl _ _).grown hgrow (Nat.le_refl _) (fun g hg => by cases hg)
      go_loopw [7] (fun v wr => RAddRel w A' n c' p q m v wr) (fun v _ => m - (intOf v).toNat)
      case atStart => exact ⟨0, Nat.zero_le _, rfl, hown, hb1⟩
      case round =>
        clear hown hgrow hblk hb1
        obtain ⟨k, hk, rfl, ho, hg⟩ := hrel
        rcases Nat.lt_or_ge k m with hkm | hkm
        · obtain ⟨g, rfl, hgb, hgw⟩ := own_form ho (by omega)
          obtain ⟨b, hb⟩ := byte_at q k (by rw [HM.out]; exact hkm)
          obtain ⟨d, hd⟩ := byte_at (Po.addTo p q 1 0 k) (0 + k) (by rw [Po.addTo_length, HN.out]; omega)
          obtain ⟨x, hx, HX⟩ := xor_ex d b
          have HS := Lib.hid (Po.addTo_succ p q 1 d b x 0 k hd hb (by rw [Gf.one_gmul]; exact HX.out))
          obtain ⟨ad, rfl, hbk, hc⟩ := (HQ.out.below hg).byte hb
          rw [Nat.zero_add] at hd
          have hc2 := own_byte ho hd
          have hfz := ho.frozenAt k
          clear hb hd
          have HO := Lib.hid ho
          have HG := Lib.hid hg
          clear ho hg
          have hb8 := u8_lt b
          have hd8 := u8_lt d
          go_wp2_with fail
          have s1 : (k : Int) < (n : Int) := by omega
          have s2 : (k : Int) < (m : Int) := by omega
          refine wp_region_still_tail 10 (by kernel_rfl) (by kernel_rfl) ?_
          simp only [List.take_succ_cons, List.take_zero, List.drop_succ_cons, List.drop_zero]
          repeat still_step
          refine wpStill_nil ?_
          change wpList _ _ _ _ _ wr.drew
          clear s1 s2
          go_wp2_with fail
          go_roundw
          case rel =>
            have h1 := HO.out.drew.stored k (.int .u8 (x.toNat : Int))
            refine ⟨k + 1, by omega, by go_num, ?_, HG.out.drew.grown h1.2 (HG.out.size) (fun y e => by cases e; exact hgb)⟩
            rw [HS.out]
            have h2 := h1.1
            unfold bys at h2 ⊢
            rw [List.map_set, Nat.zero_add]
            exact h2
          case measure => simp [intOf]; omega
        · obtain rfl : k = m := by omega
          have HO := Lib.hid ho
          have HG := Lib.hid hg
          have HTm := Lib.hid (rtrim_any A' n c' wr.heap.size (Po.addTo p q 1 0 k) wr (by rw [Po.addTo_length]; exact HN.out) (Sl.of_own ho) (Nat.le_refl _) (own_cap ho).1 (by omega))
          clear ho hg
          go_wp2_with fail
          refine HTm.out.mono ?_
          rintro e w2 ⟨A3, n3, c3, rfl, hn3, ho3, hb3⟩
          have HR : Hid (ResB w (Po.addR p q) 0 (.returned (.tuple #[.slice A3 n3 c3, .int .i64 0])) w2) := by
            rw [HTr.out]
            unfold Po.addAt
            rw [HM.out]
            exact ⟨A3, n3, c3, rfl, hn3, own_more ho3 HG.out.size, HG.out.trans (hb3.mono HG.out.size)⟩
          clear hn3 ho3 hb3
          go_wp2_with fail
          go_ret2
          rw [HE.out]
          exact HR.out
end Go.Proofs.YtkolmppfhpcdpaaDoor

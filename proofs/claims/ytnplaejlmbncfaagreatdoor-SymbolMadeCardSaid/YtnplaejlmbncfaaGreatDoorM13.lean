/- RefD RefE FieldD Yh Yj -/
import Derived.Test.YtnplaejlmbncfaaGreatDoorM01
import Derived.Test.YtnplaejlmbncfaaGreatDoorM02
import Derived.Test.YtnplaejlmbncfaaGreatDoorM05
import Derived.Test.YtnplaejlmbncfaaGreatDoorM08
import Derived.Test.YtnplaejlmbncfaaGreatDoorM10
import Derived.Test.YtnplaejlmbncfaaGreatDoorM12
namespace Go.Proofs.YtnplaejlmbncfaaGreatDoor
open Go.RowKit
set_option linter.unusedVariables false
set_option maxRecDepth 100000
namespace Po
theorem trim_self (l : List UInt8) (h : vld l = true) : trim l = l :=
  vld_ext _ _ (trim_vld l (vld_len h)) h (fun i => co_trim l i)
theorem trim_rest (p q : List UInt8) (hq : 0 < q.length) (hpq : q.length ≤ p.length) (hp : vld p = true) (hv : vld q = true) : trim (dvAll p q).1 = rem p q := by
  have h1 := vld_len hp
  have h2 := vld_len hv
  have hl := (dv_len p q (Gf.ginv (lastOf q)) (p.length - q.length + 1)).1
  refine vld_ext _ _ (trim_vld _ (by unfold dvAll; rw [hl]; exact h1)) (rem_vld p q hp h2) (fun i => ?_)
  have h3 := dv_rest_zero p q (Gf.ginv (lastOf q)) hq hpq rfl (vld_top q hv hq) (p.length - q.length + 1) (Nat.le_refl _) i
  unfold rem
  rw [if_neg (by omega), co_trim, co_trim, co_take]
  split
  · rfl
  · exact h3 (by omega)
theorem trim_quo (p q : List UInt8) (hq : 0 < q.length) (hpq : q.length ≤ p.length) (hp : vld p = true) (hv : vld q = true) : trim (dvAll p q).2 = quo p q := by
  have h := quo_vld p q hp hq (vld_top q hv hq)
  have e : quo p q = (dvAll p q).2 := by unfold quo; rw [if_neg (by omega)]
  rw [e] at h ⊢
  exact trim_self _ h
theorem rem_short (p q : List UInt8) (h : p.length < q.length) : rem p q = p ∧ quo p q = [] := by
  unfold rem quo
  rw [if_pos h, if_pos h]
  exact ⟨rfl, rfl⟩
end Po
def RDivLoop (w : World) (p q : List UInt8) (lead : UInt8) (g1 c' g2 n m : Nat) (v : Value) (wr : World) : Prop :=
  ∃ a j : Nat, a + j = n - m + 1 ∧ v = .int .i64 ((a : Int) - 1) ∧ wr.ownsRow w.heap.size 5 1 (.slice (some ⟨g1, 0, none⟩) n c') n (bys (Po.dv p q lead j).1) ∧
    wr.ownsRow w.heap.size 5 1 (.slice (some ⟨g2, 0, none⟩) (n - m + 1) (n - m + 1)) (n - m + 1) (bys (Po.dv p q lead j).2) ∧ Below w.heap.size w wr
def RDivIn (w : World) (r q qu : List UInt8) (f : UInt8) (t g1 c' g2 n m : Nat) (v : Value) (wr : World) : Prop :=
  ∃ k : Nat, k ≤ m ∧ v = .int .i64 (k : Int) ∧ wr.ownsRow w.heap.size 5 1 (.slice (some ⟨g1, 0, none⟩) n c') n (bys (Po.addTo r q f t k)) ∧
    wr.ownsRow w.heap.size 5 1 (.slice (some ⟨g2, 0, none⟩) (n - m + 1) (n - m + 1)) (n - m + 1) (bys qu) ∧ Below w.heap.size w wr
set_option maxHeartbeats 4000000 in
theorem rdivide_long (A A2 : Option Addr) (n c m c2 : Nat) (p q : List UInt8) (w : World) (hn : p.length = n) (hm : q.length = m) (hp : Sl w w.heap.size A (bys p)) (hq : Sl w w.heap.size A2 (bys q))
    (hvp : Po.vld p = true) (hvq : Po.vld q = true) (hm0 : 0 < m) (hmn : m ≤ n) :
    Calls Tryz.prog 51 #[.slice A n c, .slice A2 m c2] w (ResE w (Po.quo p q) (Po.rem p q) 0) := by
  obtain ⟨i0, hi, hz0, hz1, hz2⟩ := info_parts infoB
  have h1 : n ≤ 255 := by rw [← hn]; exact Po.vld_len hvp
  have hmk := run_make_one (P := Tryz.prog) 30 5 i0 (.int .u8 0) Tryz.underlying30 hi hz0 hz1 .i64 .i64 ((n : Int) - (m : Int) + 1) ((n : Int) - (m : Int) + 1) (n - m + 1) (n - m + 1) (by omega) (by omega) (Nat.le_refl _) (by rw [hz2]; omega) (by omega)
  have HV1 := Lib.hid (rvalid_any A n c _ p w hn hp (by omega))
  have HV2 := Lib.hid (rvalid_any A2 m c2 _ q w hm hq (by omega))
  rw [hvp] at HV1
  rw [hvq] at HV2
  obtain ⟨lead0, hlast⟩ := byte_at q (m - 1) (by omega)
  obtain ⟨lead, hlead⟩ : ∃ lead, lead = Gf.ginv lead0 := ⟨_, rfl⟩
  have hlo : Po.lastOf q = lead0 := by unfold Po.lastOf; rw [hm, hlast]; rfl
  have HDA : Hid (Po.dvAll p q = Po.dv p q lead (n - m + 1)) := by unfold Hid Po.dvAll; rw [hlo, hn, hm, hlead]
  have HQ := Lib.hid (Po.trim_quo p q (by omega) (by omega) hvp hvq)
  have HR := Lib.hid (Po.trim_rest p q (by omega) (by omega) hvp hvq)
  rw [HDA.out] at HQ HR
  have HN := Lib.hid hn
  have HM := Lib.hid hm
  have HLE := Lib.hid hlead
  have HSQ := Lib.hid hq
  have HP := Lib.hid hp
  have HLn : Hid ((bys p).length = n) := by unfold Hid; rw [bys_length]; exact hn
  have hz := nat_ne0 hm0
  have hge : decide ((m : Int) ≤ (n : Int)) = true := decide_eq_true (by omega)
  clear hp hlead hlo hn hm hvp hvq
  go_enter Tryz.func51, Tryz.ntmps51
  go_wp2_with fail
  refine HV1.out.mono ?_
  rintro e w1 ⟨rfl, rfl⟩
  go_wp2_with fail
  refine HV2.out.mono ?_
  rintro e w1 ⟨rfl, rfl⟩
  go_wp2_with (at_builtin; refine wpList_append_sl _ rfl (.const (.slice none 0 0)) (.tmp 25) 30 rfl w.heap.size 5 i0 (.int .u8 0) 1 Tryz.underlying30 hi hz0 hz1 hz2 rfl _ _ _ _ rfl (World.ownsRow_nil _ _ _ _) w.heap.size _ _ _ _ rfl HLn.out HP.out (bys_one _) (by unfold maxLen; omega) (by omega) (Nat.le_refl _) ?_; intro A' c' w1 hown hgrow hblk)
  rw [Nat.zero_add] at hown
  have hb1 : Below w.heap.size w w1 := (Below.refl _ _).grown hgrow (Nat.le_refl _) (fun g hg => by cases hg)
  obtain ⟨g1, rfl, hg1b, hg1w⟩ := own_form hown (by omega)
  obtain ⟨ad, rfl, hbk, hc0⟩ := (hq.below hb1).byte hlast
  have HO1 := Lib.hid hown
  have HB1 := Lib.hid hb1
  clear hown hgrow hblk hb1 hlast hq
  have HOq : Hid ((w1.alloc (.cells (madeCells #[Value.int .u8 0] (n - m + 1)) 5)).ownsRow w.heap.size 5 1 (.slice (some ⟨w1.heap.size, 0, none⟩) (n - m + 1) (n - m + 1)) (n - m + 1) (bys (List.replicate (n - m + 1) 0))) := by
    have := own_made w1 5 (.int .u8 0) (n - m + 1) (n - m + 1) rfl (Nat.le_refl _) (by unfold maxLen; omega)
    have e : List.replicate (n - m + 1) (Value.int .u8 0) = bys (List.replicate (n - m + 1) 0) := by simp [bys, encB]
    rw [e] at this
    exact own_more this HB1.out.size
  have HO1' : Hid ((w1.alloc (.cells (madeCells #[Value.int .u8 0] (n - m + 1)) 5)).ownsRow w.heap.size 5 1 (.slice (some ⟨g1, 0, none⟩) n c') n (bys p)) := own_alloc HO1.out _
  have HB2 : Hid (Below w.heap.size w (w1.alloc (.cells (madeCells #[Value.int .u8 0] (n - m + 1)) 5))) := HB1.out.alloc HB1.out.size _
  have hne : g1 ≠ w1.heap.size := by omega
  have HNE := Lib.hid hne
  have hsz : w.heap.size ≤ w1.heap.size := HB1.out.size
  have hc1 : (w1.alloc (.cells (madeCells #[Value.int .u8 0] (n - m + 1)) 5)).cell? (ad.add (m - 1)) = some (.int .u8 (lead0.toNat : Int)) := by
    rw [World.cell?_of_block (Below.heap_alloc w1 _ _ (by rw [add_block]; omega))]
    exact hc0
  have hidx : ∀ W : World, (Instr.indexAt 30 (.slice (some ad) m c2) (.int .i64 ((m : Int) - 1))).run Tryz.prog W = .ok (.pointer (some (ad.add (m - 1)))) W := fun W => by
    go_simp
    intro h
    omega
  clear hne hc0 HV1 HV2 HO1 HB1
  go_wp2_with fail
  rw [hidx]
  clear hidx
  go_wp2_with (go_at_call 100; ((with_reducible refine (refinverse_any _ _).mono ?_); rintro e w' ⟨rfl, rfl⟩))
  rw [← HLE.out]
  generalize hgw : w1.heap.size = g2 at *
  generalize hw2 : w1.alloc (.cells (madeCells #[Value.int .u8 0] (n - m + 1)) 5) = w2 at *
  clear hw2 hgw hc1 hmk hg1w
  have hb11 : n - m + 1 ≤ 300 := by omega
  have hi11 : ((n : Int) - (m : Int)) = (((n - m + 1 : Nat) : Int) - 1) := by omega
  go_loopw [11] (fun v wr => RDivLoop w p q lead g1 c' g2 n m v wr) (fun v _ => (intOf v + 1).toNat)
  case atStart =>
    refine ⟨n - m + 1, 0, rfl, int_eqv hi11, HO1'.out, ?_, HB2.out⟩
    show w2.ownsRow _ _ _ _ _ (bys (List.replicate (p.length - q.length + 1) 0))
    rw [HN.out, HM.out]
    exact HOq.out
  case round =>
    clear hi11 HO1' HOq HB2
    obtain ⟨a, j, haj, rfl, ho1, ho2, hb⟩ := hrel
    have HLEN := Lib.hid (Po.dv_len p q lead j)
    have HB3 := Lib.hid hb
    rcases Nat.eq_zero_or_pos a with ha | ha
    · obtain rfl : j = n - m + 1 := by omega
      subst ha
      have HT1 := Lib.hid (rtrim_any (some ⟨g2, 0, none⟩) (n - m + 1) (n - m + 1) wr.heap.size (Po.dv p q lead (n - m + 1)).2 wr (by rw [HLEN.out.2, HN.out, HM.out]) (Sl.of_own ho2) (Nat.le_refl _) (Nat.le_refl _) (by omega))
      rw [HQ.out] at HT1
      have HO1 := Lib.hid ho1
      have hcap := (own_cap ho1).1
      clear ho1 ho2 hb
      go_wp2_with fail
      refine HT1.out.mono ?_
      rintro e w5 ⟨A3, n3, c3, rfl, hn3, ho3, hb3⟩
      have HT2 := Lib.hid (rtrim_any (some ⟨g1, 0, none⟩) n c' w5.heap.size (Po.dv p q lead (n - m + 1)).1 w5 (by rw [HLEN.out.1, HN.out]) (Sl.of_own (own_below HO1.out hb3)) (Nat.le_refl _) hcap (by omega))
      rw [HR.out] at HT2
      have HB5 : Hid (Below w.heap.size w w5) := HB3.out.trans (hb3.mono HB3.out.size)
      have HO3 := Lib.hid (own_more ho3 HB3.out.size)
      have HN3 := Lib.hid hn3
      clear ho3 hb3 hn3
      go_wp2_with fail
      refine HT2.out.mono ?_
      rintro e w6 ⟨A4, n4, c4, rfl, hn4, ho4, hb4⟩
      have HF : Hid (ResE w (Po.quo p q) (Po.rem p q) 0 (.returned (.tuple #[.slice A3 n3 c3, .slice A4 n4 c4, .int .i64 0])) w6) :=
        ⟨A3, n3, c3, A4, n4, c4, rfl, HN3.out, hn4, own_below HO3.out hb4, own_more ho4 HB5.out.size, HB5.out.trans (hb4.mono HB5.out.size)⟩
      clear ho4 hb4 hn4
      go_wp2_with fail
      go_ret3
      exact HF.out
    · obtain ⟨t, rfl⟩ : ∃ t, a = t + 1 := ⟨a - 1, by omega⟩
      have e1 : ((t + 1 : Nat) : Int) - 1 = (t : Int) := by omega
      rw [e1]
      have HE1 := Lib.hid e1
      clear e1
      obtain ⟨b, hb1⟩ := byte_at (Po.dv p q lead j).1 (t + m - 1) (by rw [HLEN.out.1, HN.out]; omega)
      have HDV := Lib.hid (Po.dv_succ p q lead j n m t b HN.out HM.out (by omega) hb1)
      have hcb := own_byte ho1 hb1
      obtain ⟨f, hf⟩ : ∃ f, f = Gf.gmul b lead := ⟨_, rfl⟩
      obtain ⟨y, hy⟩ := byte_at (Po.dv p q lead j).2 t (by rw [HLEN.out.2, HN.out, HM.out]; omega)
      have hcy := own_byte ho2 hy
      have hfy := ho2.frozenAt t
      have hst := ho2.stored t (.int .u8 (f.toNat : Int))
      rw [← hf] at HDV
      have HW2 : Hid ((wr.setCell ⟨g2, t, none⟩ (.int .u8 (f.toNat : Int))).ownsRow w.heap.size 5 1 (.slice (some ⟨g2, 0, none⟩) (n - m + 1) (n - m + 1)) (n - m + 1) (bys (Po.dv p q lead (j + 1)).2)) := by
        have h5 := hst.1
        unfold Hid
        rw [HDV.out.2]
        unfold bys at h5 ⊢
        rw [List.map_set]
        exact h5
      have HW1 : Hid ((wr.setCell ⟨g2, t, none⟩ (.int .u8 (f.toNat : Int))).ownsRow w.heap.size 5 1 (.slice (some ⟨g1, 0, none⟩) n c') n (bys (Po.dv p q lead j).1)) :=
        own_keep ho1 hst.2 (.inr (fun e => HNE.out (by simpa [Value.ownBlock] using e)))
      have HWB : Hid (Below w.heap.size w (wr.setCell ⟨g2, t, none⟩ (.int .u8 (f.toNat : Int)))) := HB3.out.grown hst.2 HB3.out.size (fun _ e => by cases e; exact hsz)
      have HF := Lib.hid hf
      have hx1 : (t : Int) + (m : Int) - 1 = ((t + m - 1 : Nat) : Int) := by omega
      have hidx : ∀ W : World, (Instr.indexAt 30 (.slice (some ⟨g1, 0, none⟩) n c') (.int .i64 ((t : Int) + (m : Int) - 1))).run Tryz.prog W = .ok (.pointer (some ⟨g1, t + m - 1, none⟩)) W := fun W => by
        rw [hx1]
        go_simp
        omega
      clear hb1 hy ho1 ho2 hb hst hf hx1
      go_wp2_with fail
      refine (refmul_any b lead _).mono ?_
      rintro e w' ⟨rfl, rfl⟩
      rw [← HF.out]
      clear hidx
      go_wp2_with fail
      go_loopw [13] (fun v wr => RDivIn w (Po.dv p q lead j).1 q (Po.dv p q lead (j + 1)).2 f t g1 c' g2 n m v wr) (fun v _ => m - (intOf v).toNat)
      case atStart => exact ⟨0, Nat.zero_le _, rfl, HW1.out, HW2.out, HWB.out⟩
      case round =>
        clear HW1 HW2 HWB HB3 hcb hcy hfy
        obtain ⟨k, hk, rfl, ho1, ho2, hb⟩ := hrel
        have HO2 := Lib.hid ho2
        have HG := Lib.hid hb
        rcases Nat.lt_or_ge k m with hkm | hkm
        · obtain ⟨b2, hb2⟩ := byte_at q k (by rw [HM.out]; exact hkm)
          obtain ⟨d, hd⟩ := byte_at (Po.addTo (Po.dv p q lead j).1 q f t k) (t + k) (by rw [Po.addTo_length, HLEN.out.1, HN.out]; omega)
          obtain ⟨x, hx, HX⟩ := xor_ex d (Gf.gmul f b2)
          have HSi := Lib.hid (Po.addTo_succ (Po.dv p q lead j).1 q f d b2 x t k hd hb2 HX.out)
          obtain ⟨ad2, had, hbk2, hc2⟩ := (HSQ.out.below hb).byte hb2
          obtain rfl := Option.some.inj had
          have hc3 := own_byte ho1 hd
          have hfz := ho1.frozenAt (t + k)
          clear hb2 hd had
          have HO := Lib.hid ho1
          clear ho1 hb ho2
          have hb8 := u8_lt f
          have hb82 := u8_lt b2
          have hd8 := u8_lt d
          go_wp2_with fail
          have s1 : IntKind.i64.wrap ((t : Int) + (k : Int)) = (t : Int) + (k : Int) := IntWalk.i64_in _ (by omega)
          have s2 : 0 ≤ (t : Int) + (k : Int) := by omega
          have s3 : (t : Int) + (k : Int) < (n : Int) := by omega
          have s4 : ((t : Int) + (k : Int)).toNat = t + k := by omega
          have s6 : (k : Int) < (m : Int) := by omega
          refine wp_region_still_tail 14 (by kernel_rfl) (by kernel_rfl) ?_
          simp only [List.take_succ_cons, List.take_zero, List.drop_succ_cons, List.drop_zero]
          repeat (first | still_step | still_call (flip_sameB (refmul_any _ _ _)))
          refine wpStill_nil ?_
          change wpList _ _ _ _ _ wr.drew
          clear s1 s2 s3 s4 s6
          go_wp2_with fail
          go_roundw
          case rel =>
            have h1 := HO.out.drew.stored (t + k) (.int .u8 (x.toNat : Int))
            refine ⟨k + 1, by omega, by go_num, ?_, own_keep (HO2.out.drew) h1.2 (.inr (fun e => HNE.out (by simpa [Value.ownBlock] using e.symm))), HG.out.drew.grown h1.2 HG.out.size (fun y e => by cases e; exact hg1b)⟩
            rw [HSi.out]
            have h2 := h1.1
            unfold bys at h2 ⊢
            rw [List.map_set]
            exact h2
          case measure => simp [intOf]; omega
        · obtain rfl : k = m := by omega
          have HO : Hid (wr.ownsRow w.heap.size 5 1 (.slice (some ⟨g1, 0, none⟩) n c') n (bys (Po.dv p q lead (j + 1)).1)) := by
            unfold Hid
            rw [HDV.out.1]
            unfold Po.addAt
            rw [HM.out]
            exact ho1
          clear ho1 ho2 hb
          go_wp2_with fail
          go_roundw
          case rel => exact ⟨t, j + 1, by omega, int_eqv rfl, HO.out, HO2.out, HG.out⟩
          case measure => simp [intOf]
end Go.Proofs.YtnplaejlmbncfaaGreatDoor

namespace Go.Proofs.YtnplaejlmbncfaaGreatDoor
open Go.RowKit
set_option linter.unusedVariables false
set_option maxRecDepth 100000
theorem rdivide_any (A A2 : Option Addr) (n c m c2 : Nat) (p q : List UInt8) (w : World) (hn : p.length = n) (hm : q.length = m) (hp : Sl w w.heap.size A (bys p)) (hq : Sl w w.heap.size A2 (bys q))
    (hl : n ≤ 140737488355328) (hl2 : m ≤ 140737488355328) :
    Calls Tryz.prog 51 #[.slice A n c, .slice A2 m c2] w (ResE w (Po.divQ p q) (Po.divR p q) (Po.divE p q)) := by
  obtain ⟨i0, hi, hz0, hz1, hz2⟩ := info_parts infoB
  have HV1 := Lib.hid (rvalid_any A n c _ p w hn hp (by omega))
  have HV2 := Lib.hid (rvalid_any A2 m c2 _ q w hm hq (by omega))
  cases hv : (Po.vld p && Po.vld q)
  · obtain ⟨hr, hr2, he⟩ := Po.div_no hv
    have HR := Lib.hid hr
    have HR2 := Lib.hid hr2
    have HE := Lib.hid he
    clear hr he hr2
    cases hv1 : Po.vld p
    · rw [hv1] at HV1
      clear hp hq hn hm hv hv1
      go_enter Tryz.func51, Tryz.ntmps51
      go_wp2_with fail
      refine HV1.out.mono ?_
      rintro e w1 ⟨rfl, rfl⟩
      go_wp2_with fail
      go_ret3
      rw [HR.out, HE.out, HR2.out]
      exact resE_nil _ _ _ (Below.refl _ _)
    · have hv2 : Po.vld q = false := by rw [hv1] at hv; simpa using hv
      rw [hv1] at HV1
      rw [hv2] at HV2
      clear hp hq hn hm hv hv1 hv2
      go_enter Tryz.func51, Tryz.ntmps51
      go_wp2_with fail
      refine HV1.out.mono ?_
      rintro e w1 ⟨rfl, rfl⟩
      go_wp2_with fail
      refine HV2.out.mono ?_
      rintro e w1 ⟨rfl, rfl⟩
      go_wp2_with fail
      go_ret3
      rw [HR.out, HE.out, HR2.out]
      exact resE_nil _ _ _ (Below.refl _ _)
  · have hvv : Po.vld p = true ∧ Po.vld q = true := by simpa using hv
    rcases Nat.eq_zero_or_pos m with hm0 | hm0
    · rw [hvv.1] at HV1
      rw [hvv.2] at HV2
      obtain ⟨hr, hr2, he⟩ := Po.div_zero hv (hm.trans hm0)
      have HR := Lib.hid hr
      have HR2 := Lib.hid hr2
      have HE := Lib.hid he
      clear hr he hr2 hp hq hn hm hv hvv
      subst hm0
      go_enter Tryz.func51, Tryz.ntmps51
      go_wp2_with fail
      refine HV1.out.mono ?_
      rintro e w1 ⟨rfl, rfl⟩
      go_wp2_with fail
      refine HV2.out.mono ?_
      rintro e w1 ⟨rfl, rfl⟩
      go_wp2_with fail
      go_ret3
      rw [HR.out, HE.out, HR2.out]
      exact resE_nil _ _ _ (Below.refl _ _)
    · obtain ⟨hr, hr2, he⟩ := Po.div_some hv (by omega)
      rcases Nat.lt_or_ge n m with hnm | hnm
      · have h255 : n ≤ 255 := by rw [← hn]; exact Po.vld_len hvv.1
        have hm255 : m ≤ 255 := by rw [← hm]; exact Po.vld_len hvv.2
        obtain ⟨s1, s2⟩ := Po.rem_short p q (by omega)
        have HT0 := Lib.hid (Po.trim_self p hvv.1)
        rw [hvv.1] at HV1
        rw [hvv.2] at HV2
        rw [s2] at hr
        rw [s1] at hr2
        have HR := Lib.hid hr
        have HR2 := Lib.hid hr2
        have HE := Lib.hid he
        have HN := Lib.hid hn
        have HM := Lib.hid hm
        have HP := Lib.hid hp
        have HQ := Lib.hid hq
        have HLn : Hid ((bys p).length = n) := by unfold Hid; rw [bys_length]; exact hn
        have hz := nat_ne0 hm0
        obtain ⟨b, hb⟩ := byte_at q (m - 1) (by omega)
        have HBy := Lib.hid hb
        obtain ⟨ad, rfl, hbk, hc00⟩ := hq.byte hb
        clear hc00
        have hge : decide (m ≤ n) = false := decide_eq_false (by omega)
        clear hr he hr2 hp hq hn hm hv hvv s1 s2 hb
        go_enter Tryz.func51, Tryz.ntmps51
        go_wp2_with fail
        refine HV1.out.mono ?_
        rintro e w1 ⟨rfl, rfl⟩
        go_wp2_with fail
        refine HV2.out.mono ?_
        rintro e w1 ⟨rfl, rfl⟩
        go_wp2_with (at_builtin; refine wpList_append_sl _ rfl (.const (.slice none 0 0)) (.tmp 25) 30 rfl w.heap.size 5 i0 (.int .u8 0) 1 Tryz.underlying30 hi hz0 hz1 hz2 rfl _ _ _ _ rfl (World.ownsRow_nil _ _ _ _) w.heap.size _ _ _ _ rfl HLn.out HP.out (bys_one _) (by unfold maxLen; omega) (by omega) (Nat.le_refl _) ?_; intro A' c' w1 hown hgrow hblk; rw [Nat.zero_add] at hown; have hb1 : Below w.heap.size w w1 := (Below.refl _ _).grown hgrow (Nat.le_refl _) (fun g hg => by cases hg); have hcl : w1.cell? (ad.add (m - 1)) = some (.int .u8 (b.toNat : Int)) := (by obtain ⟨ad', had, _, h⟩ := (HQ.out.below hb1).byte HBy.out; cases had; exact h); have HO1 := Lib.hid hown; have HB1 := Lib.hid hb1; have hcap := (own_cap hown).1; clear hown hgrow hblk hb1)
        refine (refinverse_any b _).mono ?_
        rintro e w' ⟨rfl, rfl⟩
        have hneg : decide (0 ≤ (n : Int) - (m : Int)) = false := decide_eq_false (by omega)
        have HT1 := Lib.hid (rtrim_any none 0 0 w1.heap.size [] w1 rfl (Sl.nil _ _ _) (Nat.le_refl _) (Nat.le_refl _) (by omega))
        clear hcl
        go_wp2_with fail
        refine wp_loop_rounds 1 ?_
        rw [rounds_succ]
        go_wp2_with fail
        refine HT1.out.mono ?_
        rintro e w5 ⟨A3, n3, c3, rfl, hn3, ho3, hb3⟩
        have HT2 := Lib.hid (rtrim_any A' n c' w5.heap.size p w5 HN.out (Sl.of_own (own_below HO1.out hb3)) (Nat.le_refl _) hcap (by omega))
        rw [HT0.out] at HT2
        have HB5 : Hid (Below w.heap.size w w5) := HB1.out.trans (hb3.mono HB1.out.size)
        have HO3 := Lib.hid (own_more ho3 HB1.out.size)
        have HN3 := Lib.hid hn3
        clear ho3 hb3 hn3
        go_wp2_with fail
        refine HT2.out.mono ?_
        rintro e w6 ⟨A4, n4, c4, rfl, hn4, ho4, hb4⟩
        have HF : Hid (ResE w (Po.divQ p q) (Po.divR p q) (Po.divE p q) (.returned (.tuple #[.slice A3 n3 c3, .slice A4 n4 c4, .int .i64 0])) w6) := by
          unfold Hid
          rw [HR.out, HR2.out, HE.out]
          exact ⟨A3, n3, c3, A4, n4, c4, rfl, HN3.out, hn4, own_below HO3.out hb4, own_more ho4 HB5.out.size, HB5.out.trans (hb4.mono HB5.out.size)⟩
        clear ho4 hb4 hn4
        go_wp2_with fail
        go_ret3
        exact HF.out
      · rw [hr, hr2, he]
        exact rdivide_long A A2 n c m c2 p q w hn hm hp hq hvv.1 hvv.2 hm0 hnm
end Go.Proofs.YtnplaejlmbncfaaGreatDoor

namespace Go.Proofs.YtnplaejlmbncfaaGreatDoor
open Go.RowKit
set_option linter.unusedVariables false
set_option maxRecDepth 100000

theorem refpow_ne (a : UInt8) (n : Int) (h : a ≠ 0) (w : World) : Calls Tryz.prog 99 #[.int .u8 (a.toNat : Int), .int .i64 n] w fun e w' => e = .returned (.tuple #[.int .u8 ((Gf.zpow a n).toNat : Int), .int .i64 0]) ∧ w = w' := by
  have hne : ((a.toNat : Int) == 0) = false := by have := u8_pos h; rw [beq_eq_false_iff_ne]; omega
  clear h
  have hb := tmod_lt n 255 (by omega)
  obtain ⟨hb1, hb2⟩ := hb
  have hm : ∃ r : Nat, r < 255 ∧ r = Gf.emod n ∧ ((n.tmod 255 < 0 ∧ n.tmod 255 + 255 = (r : Int)) ∨ (0 ≤ n.tmod 255 ∧ n.tmod 255 = (r : Int))) := by
    refine ⟨Gf.emod n, Gf.emod_lt n, rfl, ?_⟩
    rw [Gf.emod_cast]
    rcases Int.lt_or_le (n.tmod 255) 0 with hn | hn
    · exact .inl ⟨hn, mod_num n 255 (by omega) hn⟩
    · exact .inr ⟨hn, mod_num' n 255 (by omega) hn⟩
  obtain ⟨r, hr, hre, hm⟩ := hm
  have HR : Hid (Gf.zpow a n = Gf.gpow a r) := by unfold Hid Gf.zpow; rw [hre]
  clear hre
  rcases hm with ⟨hn, he⟩ | ⟨hn, he⟩
  all_goals
    go_enter Tryz.func99, Tryz.ntmps99
    go_wp2_with fail
    clear he hn
    go_loop [1, 6] (fun n v => ∃ (k : Nat) (y : UInt8), k ≤ r ∧ n = .int .i64 (k : Int) ∧ v = .int .u8 (y.toNat : Int) ∧ Hid (y = Gf.gpow a (r - k))) (fun n _ => (intOf n).toNat)
    case atStart => exact ⟨r, 1, by omega, rfl, rfl, by unfold Hid; rw [Nat.sub_self]; rfl⟩
    case round =>
      obtain ⟨k, y, hk, rfl, rfl, HF⟩ := hrel
      have hy := u8_lt y
      rcases Nat.eq_zero_or_pos k with rfl | hk0
      · go_wp2_with fail
        go_ret2
        exact ⟨ret2_eq (by rw [HF.out, HR.out]; rfl) rfl, rfl⟩
      · go_wp2_with (go_at_call 98; refine (refmul_any _ _ _).mono ?_; rintro e w' ⟨rfl, rfl⟩)
        go_round
        case rel => exact ⟨k - 1, Gf.gmul y a, by omega, int_eq (by omega), rfl, by unfold Hid; rw [HF.out, show r - (k - 1) = (r - k) + 1 from by omega]; rfl⟩
        case measure => simp [intOf]; omega

theorem refexp_any (n : Int) (w : World) : Calls Tryz.prog 50 #[.int .i64 n] w fun e w' => e = .returned (.int .u8 ((Gf.zpow 2 n).toNat : Int)) ∧ w = w' := by
  go_enter Tryz.func50, Tryz.ntmps50
  go_wp2_with fail
  refine (refpow_ne 2 n (by decide) _).mono ?_
  rintro e w' ⟨rfl, rfl⟩
  go_wp2_with fail
  go_ret
  exact ⟨rfl, rfl⟩

end Go.Proofs.YtnplaejlmbncfaaGreatDoor

namespace Go.Proofs.YtnplaejlmbncfaaGreatDoor
open Go.RowKit
set_option linter.unusedVariables false
set_option maxRecDepth 100000
set_option maxHeartbeats 2000000 in
theorem rvalidcode_any {d m f : Nat} (h : Cd d m f) (w : World) : Calls Tryz.prog 57 #[.agg #[.int .i64 2, .int .i64 (d : Int), .int .i64 (m : Int), .int .i64 (f : Int)]] w fun e w' => e = .returned (.bool (decide (f ≤ m / 2))) ∧ Below w.heap.size w w' := by
  obtain ⟨h1, h2, h3, h4, h5⟩ := h
  have H1 := (Ow.of (St.refl w)).code d m f
  obtain ⟨hc0, hc1, hc2, hc3⟩ := H1.cdc 0 rfl
  have HB : Hid (Below w.heap.size w (w.alloc (.cells #[.int .i64 2, .int .i64 (d : Int), .int .i64 (m : Int), .int .i64 (f : Int)] 28))) := H1.below
  have t1 : decide ((1 : Int) ≤ (d : Int)) = true := decide_eq_true (by omega)
  have t2 : decide ((d : Int) ≤ 32) = true := decide_eq_true (by omega)
  have t3 : decide ((1 : Int) ≤ (m : Int)) = true := decide_eq_true (by omega)
  have t4 : decide ((m : Int) ≤ 8) = true := decide_eq_true (by omega)
  have t5 : decide ((0 : Int) ≤ (f : Int)) = true := decide_eq_true (by omega)
  have HD : Hid (decide ((f : Int) ≤ (m : Int) / 2) = decide (f ≤ m / 2)) := by
    unfold Hid
    rw [decide_eq_decide]
    omega
  clear H1
  go_enter Tryz.func57, Tryz.ntmps57
  go_wp2_with fail
  go_ret
  exact ⟨ret_bool HD.out, HB.out⟩
set_option maxHeartbeats 2000000 in
theorem rsymbols_any {d m f : Nat} (h : Cd d m f) (w : World) : Calls Tryz.prog 48 #[.agg #[.int .i64 2, .int .i64 (d : Int), .int .i64 (m : Int), .int .i64 (f : Int)]] w fun e w' => e = .returned (.bool (decide (f ≤ m / 2))) ∧ Below w.heap.size w w' := by
  have H1 := (Ow.of (St.refl w)).code d m f
  obtain ⟨hc0, hc1, hc2, hc3⟩ := H1.cdc 0 rfl
  have HO := Lib.hid H1
  obtain ⟨vb, hvb⟩ : ∃ vb : Bool, Hid (vb = decide (f ≤ m / 2)) := ⟨_, rfl⟩
  have HV := Lib.hid (fun W => rvalidcode_any h W)
  rw [← hvb.out] at HV ⊢
  clear H1 h
  go_enter Tryz.func48, Tryz.ntmps48
  go_wp2_with (go_at_call 57; refine (HV.out _).mono ?_; rintro e w' ⟨rfl, hb⟩; have HB := Lib.hid (HO.out.go hb); clear hb)
  go_ret
  exact ⟨rfl, HB.out.below⟩
namespace Sy
def hiTo (m : Nat) (data : List UInt8) (k : Nat) : List UInt8 := (data.take k ++ List.replicate (data.length - k + m) 0).reverse
theorem hiTo_length (m : Nat) (data : List UInt8) {k : Nat} (h : k ≤ data.length) : (hiTo m data k).length = data.length + m := by unfold hiTo; simp; omega
theorem hiTo_zero (m : Nat) (data : List UInt8) : hiTo m data 0 = List.replicate (data.length + m) 0 := by unfold hiTo; simp
theorem hiTo_all (m : Nat) (data : List UInt8) : hiTo m data data.length = high m data := by unfold hiTo high; simp
theorem hiTo_succ (m : Nat) (data : List UInt8) {k : Nat} {b : UInt8} (h : data[k]? = some b) : (hiTo m data k).set (data.length + m - 1 - k) b = hiTo m data (k + 1) := by
  have hk := get_lt h
  have hkb : data[k]'hk = b := by rw [List.getElem?_eq_getElem hk] at h; exact Option.some.inj h
  refine List.ext_getElem? fun i => ?_
  unfold hiTo
  rw [List.getElem?_set]
  simp only [List.length_reverse, List.length_append, List.length_take, List.length_replicate]
  by_cases e : data.length + m - 1 - k = i
  · rw [if_pos e, if_pos (by omega), List.getElem?_reverse (by simp; omega)]
    simp only [List.length_append, List.length_take, List.length_replicate]
    rw [List.getElem?_append_left (by simp; omega), List.getElem?_take, if_pos (by omega), show min (k + 1) data.length + (data.length - (k + 1) + m) - 1 - i = k by omega, h]
  · rw [if_neg e]
    rcases Nat.lt_or_ge i (data.length + m) with h1 | h1
    · rw [List.getElem?_reverse (by simp; omega), List.getElem?_reverse (by simp; omega)]
      simp only [List.length_append, List.length_take, List.length_replicate]
      rw [show min k data.length + (data.length - k + m) - 1 - i = data.length + m - 1 - i by omega, show min (k + 1) data.length + (data.length - (k + 1) + m) - 1 - i = data.length + m - 1 - i by omega]
      obtain ⟨j, hj⟩ : ∃ j, j = data.length + m - 1 - i := ⟨_, rfl⟩
      rw [← hj]
      rcases Nat.lt_or_ge j k with h2 | h2
      · rw [List.getElem?_append_left (by simp; omega), List.getElem?_append_left (by simp; omega), List.getElem?_take, List.getElem?_take, if_pos h2, if_pos (by omega)]
      · rw [List.getElem?_append_right (by simp; omega), List.getElem?_append_right (by simp; omega), List.getElem?_replicate, List.getElem?_replicate, if_pos (by simp; omega), if_pos (by simp; omega)]
    · rw [List.getElem?_eq_none (by simp; omega), List.getElem?_eq_none (by simp; omega)]
def outTo (m : Nat) (data : List UInt8) (j : Nat) : List UInt8 := data ++ (List.range j).map fun i => Po.co (rest m data) (m - 1 - i)
theorem outTo_zero (m : Nat) (data : List UInt8) : outTo m data 0 = data := by unfold outTo; simp
theorem outTo_all (m : Nat) (data : List UInt8) : outTo m data m = enc m data := rfl
theorem outTo_succ (m : Nat) (data : List UInt8) (j : Nat) : outTo m data j ++ [Po.co (rest m data) (m - 1 - j)] = outTo m data (j + 1) := by
  unfold outTo
  rw [List.range_succ, List.map_append, List.append_assoc]
  rfl
end Sy
def RREn1 (w : World) (L : List Ob) (b d m f : Nat) (s v : Value) (wr : World) : Prop := ∃ (k : Nat) (A : Option Addr) (c : Nat), k ≤ m ∧ v = .int .i64 (k : Int) ∧ s = .slice A (k + 1) c ∧ Hid (Ow w wr none [] L [codeR b d m f, ⟨A, k + 1, c, 5, bys (Sy.gen k)⟩])
def RREn2 (w : World) (L : List Ob) (b d m f nn : Nat) (r : Rw) (gp : Nat) (data : List UInt8) (v : Value) (wr : World) : Prop := ∃ k : Nat, k ≤ d ∧ v = .int .i64 (k : Int) ∧ Hid (Ow w wr none [] L [codeR b d m f, r, ⟨some ⟨gp, 0, none⟩, nn, nn, 5, bys (Sy.hiTo m data k)⟩])
def RREn3 (w : World) (L : List Ob) (O : List Rw) (d m : Nat) (data : List UInt8) (s v : Value) (wr : World) : Prop := ∃ (j i : Nat) (A : Option Addr) (c : Nat), j ≤ m ∧ Hid (i = d + j) ∧ v = .int .i64 (i : Int) ∧ s = .slice A i c ∧ Hid (Ow w wr none [] L (O ++ [⟨A, i, c, 5, bys (Sy.outTo m data j)⟩]))
set_option maxHeartbeats 8000000 in
theorem rencode_ok {d m f : Nat} (h : Cd d m f) (hf : f ≤ m / 2) (A : Option Addr) (c : Nat) (data : List UInt8) (w : World) (hn : data.length = d) (hs : Sl w w.heap.size A (bys data)) (hnc : d ≤ c) :
    Calls Tryz.prog 16 #[.agg #[.int .i64 2, .int .i64 (d : Int), .int .i64 (m : Int), .int .i64 (f : Int)], .slice A d c] w (ResB w (Sy.enc m data) 0) := by
  have hc := h
  obtain ⟨h1, h2, h3, h4, h5⟩ := h
  have H0 := ((Ow.of (St.refl w)).old hs (by rw [bys_length]; exact hn) hnc (by omega)).code d m f
  simp only [List.nil_append] at H0
  obtain ⟨hc0, hc1, hc2, hc3⟩ := H0.cdc 0 rfl
  have HO := Lib.hid H0
  have HV := Lib.hid (fun W => rsymbols_any hc W)
  have HN := Lib.hid hn
  have hne : ((d : Int) != (d : Int)) = false := by simp
  rw [decide_eq_true hf] at HV
  clear H0 hs hn hc
  go_enter Tryz.func16, Tryz.ntmps16
  go_upto_region 5 with (go_at_call 48; refine (HV.out _).mono ?_; rintro e w1 ⟨rfl, hb⟩; have HO1 := Lib.hid (HO.out.go hb); obtain ⟨hd0, hd1, hd2, hd3⟩ := HO1.out.cdc 0 rfl; clear hb)
  have HO2 := Lib.hid (HO1.out.arr #[.int .u8 1] 1 rfl (by omega) 5)
  clear hd0 hd1 hd2 hd3 hc0 hc1 hc2 hc3 HO HO1 HV
  go_wp2_with fail
  go_loopw [6, 7] (fun s v wr => RREn1 w [⟨A, d, c, bys data⟩] w.heap.size d m f s v wr) (fun _ v _ => m - (intOf v).toNat)
  case atStart => exact ⟨0, _, 1, Nat.zero_le _, rfl, rfl, HO2.out⟩
  case round =>
    obtain ⟨k, Ag, cg, hk, rfl, rfl, HO3⟩ := hrel
    clear HO2
    obtain ⟨hc0, hc1, hc2, hc3⟩ := HO3.out.cdc 0 rfl
    rcases Nat.lt_or_ge k m with hkm | hkm
    · have hd : decide ((k : Int) < (m : Int)) = true := decide_eq_true (by omega)
      have HZ := Lib.hid (Sy.zpow_nat (show k < 255 by omega))
      have hg := Sy.gen_ok k (by omega)
      have H2 := HO3.out.arr #[.int .u8 ((Gf.gpow 2 k).toNat : Int), .int .u8 1] 2 rfl (by omega) 5
      have HM : Hid (Po.mulR (Sy.gen k) [Gf.gpow 2 k, 1] = Sy.gen (k + 1) ∧ Po.mulE (Sy.gen k) [Gf.gpow 2 k, 1] = 0) := Po.mulR_ok hg.1 (Po.vld_lin _) (by rw [hg.2]; simp; omega)
      have HP := Lib.hid (rmul_any Ag (some ⟨wr.heap.size, 0, none⟩) (k + 1) cg 2 2 (Sy.gen k) [Gf.gpow 2 k, 1] _ hg.2 rfl (Sl.of_own (H2.row 1 rfl)) (Sl.of_own (H2.row 2 rfl)) (by omega) (by omega))
      have HO4 := Lib.hid H2
      clear H2 hg
      go_wp2_with (first | (go_at_call 50; ((with_reducible refine (refexp_any _ _).mono ?_); rw [HZ.out]; rintro e w' ⟨rfl, rfl⟩)) | (go_at_call 49; refine HP.out.mono ?_; rw [HM.out.1, HM.out.2]; rintro e w' ⟨A', n', c', rfl, hn', ho, hb⟩; have hn2 := (Sy.gen_ok (k + 1) (by omega)).2; obtain rfl : k + 1 + 1 = n' := hn2.symm.trans hn'; have HO5 := Lib.hid ((HO4.out.add ho hb).re (fun i => if i = 0 then 0 else 3) (fun i j hi hj h => by simp only [List.length_cons, List.length_nil] at hi hj; split at h <;> split at h <;> omega) (O' := [codeR w.heap.size d m f, ⟨A', k + 1 + 1, c', 5, bys (Sy.gen (k + 1))⟩]) (fun i r hi => by rcases i with _ | _ | i <;> simp at hi ⊢ <;> exact hi)); clear ho hb hn' hn2))
      go_roundw
      case rel => exact ⟨k + 1, _, _, by omega, by go_num, rfl, HO5.out⟩
      case measure => simp [intOf]; omega
    · have hd : decide ((k : Int) < (m : Int)) = false := decide_eq_false (by omega)
      have hkm' : k = m := by omega
      subst hkm'
      obtain ⟨nn, hnn⟩ : ∃ nn : Nat, Hid (nn = d + k) := ⟨_, rfl⟩
      have hnnI : (d : Int) + (k : Int) = (nn : Int) := by have := hnn.out; omega
      have hn40 : 2 ≤ nn ∧ nn ≤ 40 := by have := hnn.out; omega
      obtain ⟨hn2, hn40⟩ := hn40
      have hmk := elemB.make .i64 .i64 (nn : Int) (nn : Int) nn nn rfl rfl (Nat.le_refl _) (by omega) (by omega) wr
      have h6 := HO3.out.made 5 (.int .u8 0) nn nn rfl (Nat.le_refl _) (by unfold maxLen; omega)
      have ez : List.replicate nn (0 : UInt8) = Sy.hiTo k data 0 := by rw [Sy.hiTo_zero, HN.out, hnn.out]
      rw [bys_zeros, ez] at h6
      have HO6 := Lib.hid h6
      obtain ⟨hd0, hd1, hd2, hd3⟩ := h6.cdc 0 rfl
      clear h6 HO3 ez
      obtain ⟨gp, hgp⟩ : ∃ gp, gp = wr.heap.size := ⟨_, rfl⟩
      go_wp2_with fail
      rw [← hgp] at HO6 ⊢
      clear hgp hmk hd0 hd1 hd2 hd3 hc0 hc1 hc2 hc3
      go_loopw [10] (fun v wr' => RREn2 w [⟨A, d, c, bys data⟩] w.heap.size d k f nn ⟨Ag, k + 1, cg, 5, bys (Sy.gen k)⟩ gp data v wr') (fun v _ => d - (intOf v).toNat)
      case atStart => exact ⟨0, Nat.zero_le _, rfl, HO6.out⟩
      case round =>
        obtain ⟨j, hj, rfl, HO7⟩ := hrel
        clear HO6
        obtain ⟨hc0, hc1, hc2, hc3⟩ := HO7.out.cdc 0 rfl
        rcases Nat.lt_or_ge j d with hjd | hjd
        · have hd : decide ((j : Int) < (d : Int)) = true := decide_eq_true (by omega)
          obtain ⟨b, hb⟩ := byte_at data j (by rw [HN.out]; exact hjd)
          obtain ⟨ad, rfl, hx⟩ := HO7.out.byteL 0 rfl hb
          obtain ⟨pz, hpz⟩ : ∃ pz : Nat, Hid (pz = nn - 1 - j) := ⟨_, rfl⟩
          have hpzI : (nn : Int) - 1 - (j : Int) = (pz : Int) := by have := hpz.out; have := hnn.out; omega
          have hpn : pz < nn := by have := hpz.out; omega
          obtain ⟨x0, hx0⟩ : ∃ x0, (Sy.hiTo k data j)[pz]? = some x0 := ⟨_, List.getElem?_eq_getElem (by rw [Sy.hiTo_length k data (by rw [HN.out]; exact hj), HN.out, ← hnn.out]; exact hpn)⟩
          have hcl := HO7.out.byteO 2 rfl hx0
          have hfr := HO7.out.frzO 2 (vs := _) rfl pz
          have G := HO7.out.putB 2 rfl pz b
          have e : (Sy.hiTo k data j).set pz b = Sy.hiTo k data (j + 1) := by rw [hpz.out, hnn.out, ← HN.out]; exact Sy.hiTo_succ k data hb
          rw [e] at G
          have HG := Lib.hid G
          clear G e hb hx0
          go_wp2_with fail
          go_roundw
          case rel => exact ⟨j + 1, by omega, by go_num, HG.out⟩
          case measure => simp [intOf]; omega
        · have hd : decide ((j : Int) < (d : Int)) = false := decide_eq_false (by omega)
          have hjd' : j = d := by omega
          have HHL : Hid ((Sy.high k data).length = nn) := by unfold Hid; rw [Sy.high_length, HN.out, hnn.out]
          have h7 := HO7.out
          rw [hjd', ← HN.out, Sy.hiTo_all, HN.out] at h7
          have HO8 := Lib.hid h7
          have HG := Lib.hid (Sy.gen_ok k (by omega))
          have HT := Lib.hid (rtrim_any (some ⟨gp, 0, none⟩) nn nn _ (Sy.high k data) wr HHL.out (Sl.of_own (h7.row 2 rfl)) (Nat.le_refl _) (Nat.le_refl _) (by omega))
          have HD : Hid (Po.divR (Po.trim (Sy.high k data)) (Sy.gen k) = Sy.rest k data ∧ Po.divE (Po.trim (Sy.high k data)) (Sy.gen k) = 0) := (Po.div_some (by rw [Po.trim_vld _ (by rw [HHL.out]; omega), HG.out.1]; rfl) (by rw [HG.out.2]; omega)).2
          have HRl : Hid ((Sy.rest k data).length ≤ k) := Sy.rest_length k (by omega) data
          clear HO7 h7
          go_wp2_with fail
          clear hc0 hc1 hc2 hc3
          refine HT.out.mono ?_
          rintro e w5 ⟨At, nt, ct, rfl, hnt, hot, hbt⟩
          have h9 := HO8.out.add hot hbt
          have hntn : nt ≤ nn := by rw [← hnt, Po.trim_length]; have := Po.tl_le (Sy.high k data) (Sy.high k data).length; have := HHL.out; omega
          have HV2 := Lib.hid (rdivide_any At Ag nt ct (k + 1) cg (Po.trim (Sy.high k data)) (Sy.gen k) w5 hnt HG.out.2 (Sl.of_own (h9.row 3 rfl)) (Sl.of_own (h9.row 1 rfl)) (by omega) (by omega))
          have HO9 := Lib.hid h9
          clear hnt hot hbt h9 HO8 HT
          go_wp2_with fail
          refine HV2.out.mono ?_
          rw [HD.out.1, HD.out.2]
          rintro e w6 ⟨Aq, nq, cq, Ar, rl, cr, rfl, hnq, hrl, hoq, hor, hbq⟩
          have hrlk : rl ≤ k := by rw [← hrl]; exact HRl.out
          have HRL := Lib.hid hrl
          have HOa : Hid (Ow w w6 none [] [⟨A, d, c, bys data⟩] [codeR w.heap.size d k f, ⟨Ar, rl, cr, 5, bys (Sy.rest k data)⟩]) := (HO9.out.add hor hbq).re (fun i => if i = 0 then 0 else 4) (fun i j hi hj h => by simp only [List.length_cons, List.length_nil] at hi hj; split at h <;> split at h <;> omega) (fun i r hi => by rcases i with _ | _ | i <;> simp at hi ⊢ <;> exact hi)
          have HX := Lib.hid (HOa.out.nil 5)
          have HVs := Lib.hid (HOa.out.sl (i := 0) rfl)
          obtain ⟨hc0, hc1, hc2, hc3⟩ := HOa.out.cdc 0 rfl
          clear hnq hrl hoq hor hbq HO9 HV2
          go_wp2_with (at_builtin; refine ow_append elemB HX.out 2 (.const (.slice none 0 0)) (.tmp 72) rfl (m := d) (news := bys data) (by rw [bys_length, HN.out]) HVs.out.2.2.2 (bys_one data) (by unfold maxLen; omega) (by omega) rfl rfl rfl rfl ?_; intro Ax cx w7 how; simp only [List.cons_append, List.nil_append, List.set_cons_zero, List.set_cons_succ, Nat.zero_add] at how ⊢; have HOb := Lib.hid how; clear how; obtain ⟨he0, he1, he2, he3⟩ := HOb.out.cdc 0 rfl)
          go_loopw [14, 15, 16, 17] (fun s v y z wr => RREn3 w [⟨A, d, c, bys data⟩] [codeR w.heap.size d k f, ⟨Ar, rl, cr, 5, bys (Sy.rest k data)⟩] d k data s v wr) (fun _ v _ _ _ => nn - (intOf v).toNat)
          case atStart => exact ⟨0, d, Ax, cx, Nat.zero_le _, rfl, rfl, rfl, by rw [Sy.outTo_zero]; exact HOb.out⟩
          case round =>
            obtain ⟨q, i, Ao, co, hq, hi, rfl, rfl, HOr⟩ := hrel
            clear HOa HOb HX HVs he0 he1 he2 he3 hc0 hc1 hc2 hc3
            rcases Nat.lt_or_ge q k with hqk | hqk
            · have hd2 : decide ((i : Int) < (nn : Int)) = true := decide_eq_true (by have := hi.out; have := hnn.out; omega)
              have hi40 : i ≤ 40 := by have := hi.out; omega
              obtain ⟨z, hz⟩ : ∃ z : Nat, Hid (z = k - 1 - q) := ⟨_, rfl⟩
              have hzI : (nn : Int) - 1 - (i : Int) = (z : Int) := by have := hz.out; have := hi.out; have := hnn.out; omega
              have hz40 : z ≤ 40 := by have := hz.out; omega
              obtain ⟨b, hb⟩ : ∃ b : UInt8, Hid (b = Po.co (Sy.rest k data) z) := ⟨_, rfl⟩
              have HS : Hid (Sy.outTo k data q ++ [b] = Sy.outTo k data (q + 1)) := by unfold Hid; rw [hb.out, hz.out]; exact Sy.outTo_succ k data q
              rcases Nat.lt_or_ge z rl with hzr | hzr
              · have hd3 : decide ((z : Int) < (rl : Int)) = true := decide_eq_true (by omega)
                have hbz : (Sy.rest k data)[z]? = some b := by
                  rw [hb.out]
                  unfold Po.co
                  rw [List.getElem?_eq_getElem (by rw [HRL.out]; exact hzr)]
                  rfl
                obtain ⟨gr, rfl, -, -⟩ := own_form (HOr.out.row 1 rfl) (by omega)
                have hcx := HOr.out.byteO 1 rfl hbz
                clear hbz
                have HX2 := Lib.hid (HOr.out.go (own_box1 wr (.cells #[.int .u8 (b.toNat : Int)] 5)))
                have HSn := Lib.hid (sl_new1 wr 5 (.int .u8 (b.toNat : Int)))
                go_wp2_with (at_builtin; refine ow_append elemB HX2.out 2 (.tmp 93) (.tmp 95) rfl (m := 1) (news := [.int .u8 (b.toNat : Int)]) rfl HSn.out (bys_one [b]) (by unfold maxLen; omega) (by omega) rfl rfl rfl rfl ?_; intro A' c' w8 how; rw [show bys (Sy.outTo k data q) ++ [.int .u8 (b.toNat : Int)] = bys (Sy.outTo k data q ++ [b]) from bys_snoc _ _, HS.out] at how; simp only [List.cons_append, List.nil_append, List.set_cons_zero, List.set_cons_succ] at how; have HOc := Lib.hid how; clear how)
                go_roundw
                case rel => exact ⟨q + 1, i + 1, A', c', by omega, by have := hi.out; unfold Hid; omega, by go_num, rfl, HOc.out⟩
                case measure => simp [intOf]; omega
              · have hd3 : decide ((z : Int) < (rl : Int)) = false := decide_eq_false (by omega)
                have hb0 : b = 0 := by rw [hb.out]; exact Po.co_big _ _ (by rw [HRL.out]; exact hzr)
                subst hb0
                have HX2 := Lib.hid (HOr.out.go (own_box1 wr (.cells #[.int .u8 ((0 : UInt8).toNat : Int)] 5)))
                have HSn := Lib.hid (sl_new1 wr 5 (.int .u8 ((0 : UInt8).toNat : Int)))
                go_wp2_with (at_builtin; refine ow_append elemB HX2.out 2 (.tmp 93) (.tmp 95) rfl (m := 1) (news := [.int .u8 ((0 : UInt8).toNat : Int)]) rfl HSn.out (bys_one [(0 : UInt8)]) (by unfold maxLen; omega) (by omega) rfl rfl rfl rfl ?_; intro A' c' w8 how; rw [show bys (Sy.outTo k data q) ++ [.int .u8 ((0 : UInt8).toNat : Int)] = bys (Sy.outTo k data q ++ [(0 : UInt8)]) from bys_snoc _ _, HS.out] at how; simp only [List.cons_append, List.nil_append, List.set_cons_zero, List.set_cons_succ] at how; have HOc := Lib.hid how; clear how)
                go_roundw
                case rel => exact ⟨q + 1, i + 1, A', c', by omega, by have := hi.out; unfold Hid; omega, by go_num, rfl, HOc.out⟩
                case measure => simp [intOf]; omega
            · have hd2 : decide ((i : Int) < (nn : Int)) = false := decide_eq_false (by have := hi.out; have := hnn.out; omega)
              have hqk' : q = k := by omega
              have hle : nn ≤ i := by have := hi.out; have := hnn.out; omega
              go_wp2_with fail
              go_ret2
              have h5 := HOr.out
              rw [hqk', Sy.outTo_all] at h5
              exact ⟨Ao, _, co, rfl, by rw [Sy.enc_length, HN.out, hi.out, hqk'], h5.row 2 rfl, h5.below⟩
end Go.Proofs.YtnplaejlmbncfaaGreatDoor

namespace Go.Proofs.YtnplaejlmbncfaaGreatDoor
open Go.RowKit
set_option linter.unusedVariables false
set_option maxRecDepth 100000
abbrev outQ (g m cap : Nat) (H : List (Option Addr × Nat)) (R : List (List UInt8)) : Rw := ⟨some ⟨g, 0, none⟩, m, cap, 30, hdrs H R⟩
structure My (w0 w : World) (M : List (Nat × Value)) (L : List Ob) (g m cap : Nat) (H : List (Option Addr × Nat)) (R : List (List UInt8)) (X : List Rw) : Prop where
  ow : Ow w0 w none M L (outQ g m cap H R :: (mkRs H R ++ X))
  hl : H.length = m
  rl : R.length = m
section
variable {w0 w w' : World} {M : List (Nat × Value)} {L : List Ob} {g m cap : Nat} {H : List (Option Addr × Nat)} {R : List (List UInt8)} {X : List Rw}
theorem My.get (h : My w0 w M L g m cap H R X) {k : Nat} (hk : k < m) : (mkRs H R)[k]? = some (mkR (hAt H k) (Sy.rw_ R k)) ∧ (hdrs H R)[k]? = some (hdr (hAt H k) (Sy.rw_ R k)) := by
  have e1 := hAt_lt (H := H) (k := k) (by rw [h.hl]; exact hk)
  have e2 := Sy.rw_lt (rows := R) (k := k) (by rw [h.rl]; exact hk)
  unfold mkRs hdrs
  rw [List.getElem?_zipWith, List.getElem?_zipWith, e1, e2]
  exact ⟨rfl, rfl⟩
theorem My.len (h : My w0 w M L g m cap H R X) : (mkRs H R).length = m := by unfold mkRs; rw [List.length_zipWith, h.hl, h.rl]; omega
theorem My.at_ (h : My w0 w M L g m cap H R X) {k : Nat} (hk : k < m) : (outQ g m cap H R :: (mkRs H R ++ X))[k + 1]? = some (mkR (hAt H k) (Sy.rw_ R k)) := by
  rw [List.getElem?_cons_succ, List.getElem?_append_left (by rw [h.len]; exact hk)]
  exact (h.get hk).1
theorem My.go (h : My w0 w M L g m cap H R X) (hb : Below w.heap.size w w') : My w0 w' M L g m cap H R X := ⟨h.ow.go hb, h.hl, h.rl⟩
theorem My.hd (h : My w0 w M L g m cap H R X) {k : Nat} (hk : k < m) : w.cell? ⟨g, k, none⟩ = some (.slice (hAt H k).1 (Sy.rw_ R k).length (hAt H k).2) := by
  have ho := h.ow.row 0 rfl
  rw [ho.cellAt k (by omega)]
  exact (h.get hk).2
theorem My.hf (h : My w0 w M L g m cap H R X) (k : Nat) : w.frozen? ⟨g, k, none⟩ = false := (h.ow.row 0 rfl).frozenAt k
theorem My.row (h : My w0 w M L g m cap H R X) {k : Nat} (hk : k < m) : w.ownsRow w0.heap.size 5 1 (.slice (hAt H k).1 (Sy.rw_ R k).length (hAt H k).2) (Sy.rw_ R k).length (bys (Sy.rw_ R k)) := h.ow.own (k + 1) _ (h.at_ hk)
theorem My.form (h : My w0 w M L g m cap H R X) {k : Nat} (hk : k < m) (h0 : 0 < (Sy.rw_ R k).length) : ∃ gk ck, hAt H k = (some ⟨gk, 0, none⟩, ck) := by
  obtain ⟨gk, e, _, _⟩ := own_form (h.row hk) h0
  exact ⟨gk, (hAt H k).2, by rw [← e]⟩
theorem My.byte (h : My w0 w M L g m cap H R X) {k : Nat} (hk : k < m) {gk ck : Nat} (hg : hAt H k = (some ⟨gk, 0, none⟩, ck)) {q : Nat} {b : UInt8} (hq : (Sy.rw_ R k)[q]? = some b) : w.cell? ⟨gk, q, none⟩ = some (.int .u8 (b.toNat : Int)) := by
  have ho := h.row hk
  rw [hg] at ho
  exact own_byte ho hq
theorem My.frz (h : My w0 w M L g m cap H R X) {k : Nat} (hk : k < m) {gk ck : Nat} (hg : hAt H k = (some ⟨gk, 0, none⟩, ck)) (q : Nat) : w.frozen? ⟨gk, q, none⟩ = false := by
  have ho := h.row hk
  rw [hg] at ho
  exact ho.frozenAt q
theorem My.turn (h : My w0 w M L g m cap H R X) {k : Nat} (hk : k < m) {r : List UInt8} (hr : r.length = (Sy.rw_ R k).length) (ho : Ow w0 w' none M L ((outQ g m cap H R :: (mkRs H R ++ X)).set (k + 1) (mkR (hAt H k) r))) : My w0 w' M L g m cap H (R.set k r) X := by
  refine ⟨?_, h.hl, by rw [List.length_set]; exact h.rl⟩
  have e : (outQ g m cap H R :: (mkRs H R ++ X)).set (k + 1) (mkR (hAt H k) r) = outQ g m cap H (R.set k r) :: (mkRs H (R.set k r) ++ X) := by
    rw [List.set_cons_succ, List.set_append_left _ _ (by rw [h.len]; exact hk), mkRs_set1 (by rw [h.hl]; exact hk)]
    show (outQ g m cap H R :: _) = _
    unfold outQ
    rw [hdrs_same (by rw [h.rl]; exact hk) hr]
  rw [e] at ho
  exact ho
theorem My.setB (h : My w0 w M L g m cap H R X) {k : Nat} (hk : k < m) {gk ck : Nat} (hg : hAt H k = (some ⟨gk, 0, none⟩, ck)) (q : Nat) (z : UInt8) : My w0 (w.setCell ⟨gk, q, none⟩ (.int .u8 (z.toNat : Int))) M L g m cap H (R.set k ((Sy.rw_ R k).set q z)) X := by
  have hi := h.at_ hk
  unfold mkR at hi
  rw [hg] at hi
  have h5 := h.ow.putB (k + 1) hi q z
  refine h.turn hk (by rw [List.length_set]) ?_
  unfold mkR
  rw [hg, List.length_set]
  exact h5
theorem My.grow (h : My w0 w M L g m cap H R X) {k : Nat} (hk : k < m) {A' : Option Addr} {n' c' : Nat} {r : List UInt8} (hr : r.length = n') (ho : Ow w0 w' none M L ((outQ g m cap H R :: (mkRs H R ++ X)).set (k + 1) ⟨A', n', c', 5, bys r⟩)) : My w0 (w'.setCell ⟨g, k, none⟩ (.slice A' n' c')) M L g m cap (H.set k (A', c')) (R.set k r) X := by
  subst hr
  refine ⟨?_, by rw [List.length_set]; exact h.hl, by rw [List.length_set]; exact h.rl⟩
  have e : (outQ g m cap H R :: (mkRs H R ++ X)).set (k + 1) ⟨A', r.length, c', 5, bys r⟩ = outQ g m cap H R :: (mkRs (H.set k (A', c')) (R.set k r) ++ X) := by
    rw [List.set_cons_succ, List.set_append_left _ _ (by rw [h.len]; exact hk)]
    unfold mkRs
    rw [zip_set]
    rfl
  rw [e] at ho
  have h5 := ho.put 0 rfl k (.slice A' r.length c')
  have e2 : (hdrs H R).set k (.slice A' r.length c') = hdrs (H.set k (A', c')) (R.set k r) := by
    unfold hdrs
    rw [zip_set]
    rfl
  rw [e2] at h5
  exact h5
theorem My.swap (h : My w0 w M L g m cap H R X) {c p : Nat} (hc : c < m) (hp : p < m) (w' : World) (hw : w' = (w.setCell ⟨g, c, none⟩ (hdr (hAt H p) (Sy.rw_ R p))).setCell ⟨g, p, none⟩ (hdr (hAt H c) (Sy.rw_ R c))) : My w0 w' M L g m cap (swpA H (none, 0) c p) (Sy.swapR R c p) X := by
  subst hw
  have hHc : c < H.length := by rw [h.hl]; exact hc
  have hHp : p < H.length := by rw [h.hl]; exact hp
  have hlen : H.length = R.length := by rw [h.hl, h.rl]
  have hl' : (swpA H (none, 0) c p).length = m := by unfold swpA; simp [h.hl]
  have hr' : (Sy.swapR R c p).length = m := by rw [Sy.swap_length]; exact h.rl
  refine ⟨?_, hl', hr'⟩
  have h5 := (h.ow.put 0 rfl c (hdr (hAt H p) (Sy.rw_ R p))).put 0 rfl p (hdr (hAt H c) (Sy.rw_ R c))
  have e1 : ((hdrs H R).set c (hdr (hAt H p) (Sy.rw_ R p))).set p (hdr (hAt H c) (Sy.rw_ R c)) = hdrs (swpA H (none, 0) c p) (Sy.swapR R c p) := by
    refine List.ext_getElem? fun k => ?_
    unfold hdrs
    rw [swapR_eq, zip_swp hlen hHc hHp, List.getElem?_set, List.getElem?_set, List.length_set]
    have hz : (List.zipWith hdr H R).length = m := by rw [List.length_zipWith, h.hl, h.rl]; omega
    have g1 := (h.get hc).2
    have g2 := (h.get hp).2
    unfold hdrs at g1 g2
    by_cases e1 : p = k
    · subst e1
      rw [if_pos rfl, if_pos (by omega), if_pos rfl, g1]
    · rw [if_neg e1, if_neg (show ¬ k = p from fun e => e1 e.symm)]
      by_cases e2 : c = k
      · subst e2
        rw [if_pos rfl, if_pos (by omega), if_pos rfl, g2]
      · rw [if_neg e2, if_neg (show ¬ k = c from fun e => e2 e.symm)]
  have h6 : Ow w0 ((w.setCell ⟨g, c, none⟩ (hdr (hAt H p) (Sy.rw_ R p))).setCell ⟨g, p, none⟩ (hdr (hAt H c) (Sy.rw_ R c))) none M L (outQ g m cap (swpA H (none, 0) c p) (Sy.swapR R c p) :: (mkRs H R ++ X)) := by
    unfold outQ
    rw [← e1]
    exact h5
  have hml : (mkRs (swpA H (none, 0) c p) (Sy.swapR R c p)).length = m := by unfold mkRs; rw [List.length_zipWith, hl', hr']; omega
  refine h6.re (fun i => if i = c + 1 then p + 1 else if i = p + 1 then c + 1 else i) (fun i j _ _ e => ?_) (fun i r hi => ?_)
  · split at e <;> split at e <;> (try split at e) <;> (try split at e) <;> omega
  · cases i with
    | zero => rw [if_neg (by omega), if_neg (by omega)]; exact hi
    | succ k =>
      rw [List.getElem?_cons_succ] at hi
      rcases Nat.lt_or_ge k m with hk | hk
      · rw [List.getElem?_append_left (by rw [hml]; exact hk)] at hi
        unfold mkRs at hi
        rw [swapR_eq, zip_swp hlen hHc hHp] at hi
        have key : ∀ j, j < m → (outQ g m cap (swpA H (none, 0) c p) (Sy.swapR R c p) :: (mkRs H R ++ X))[j + 1]? = (List.zipWith mkR H R)[j]? := fun j hj => by
          rw [List.getElem?_cons_succ, List.getElem?_append_left (by rw [h.len]; exact hj)]
          rfl
        by_cases e1 : k = c
        · subst e1
          rw [if_pos rfl, key p hp]
          by_cases e2 : k = p
          · subst e2; rw [if_pos rfl] at hi; exact hi
          · rw [if_neg e2, if_pos rfl] at hi; exact hi
        · rw [if_neg (by omega)]
          by_cases e2 : k = p
          · subst e2
            rw [if_pos rfl, key c hc]
            rw [if_pos rfl] at hi; exact hi
          · rw [if_neg (by omega), key k hk]
            rw [if_neg e2, if_neg e1] at hi; exact hi
      · rw [if_neg (by omega), if_neg (by omega), List.getElem?_cons_succ]
        rw [List.getElem?_append_right (by rw [hml]; exact hk), hml] at hi
        rw [List.getElem?_append_right (by rw [h.len]; exact hk), h.len]
        exact hi
theorem My.drewN (h : My w0 w M L g m cap H R X) (k : Nat) : My w0 (w.drewN k) M L g m cap H R X := ⟨h.ow.drewN k, h.hl, h.rl⟩
theorem My.more (h : My w0 w M L g m cap H R []) (e : TypeId) : My w0 w M L g m cap H R [⟨none, 0, 0, e, []⟩] := by
  have h5 := h.ow.nil e
  rw [List.append_nil] at h5
  exact ⟨h5, h.hl, h.rl⟩
end
end Go.Proofs.YtnplaejlmbncfaaGreatDoor

/- The document's Divide. -/
import Derived.Test.YtkolmppfhpcdpaaDoorRefB
import Derived.Test.YtkolmppfhpcdpaaDoorPolyJ
import Derived.Test.YtkolmppfhpcdpaaDoorPolyQ
import Derived.Test.YtkolmppfhpcdpaaDoorFieldC
namespace Go.Proofs.YtkolmppfhpcdpaaDoor
open Go.RowKit
set_option linter.unusedVariables false
set_option maxRecDepth 100000
namespace Po
theorem trim_self (l : List UInt8) (h : vld l = true) : trim l = l :=
  vld_ext _ _ (trim_vld l (vld_len h)) h (fun i => co_trim l i)
theorem trim_nil : trim [] = [] := rfl
theorem trim_rest (p q : List UInt8) (hq : 0 < q.length) (hpq : q.length ≤ p.length) (hp : vld p = true) (hv : vld q = true) : trim (dvAll p q).1 = rem p q := by
  have h1 := vld_len hp
  have h2 := vld_len hv
  have hl := (dv_len p q (Gf.ginv (lastOf q)) (p.length - q.length + 1)).1
  refine vld_ext _ _ (trim_vld _ (by unfold dvAll; rw [hl]; exact h1)) (rem_vld p q hp h2) (fun i => ?_)
  have h3 := dv_rest_zero p q (Gf.ginv (lastOf q)) hq hpq rfl (vld_top q hv hq) (p.length - q.length + 1) (Nat.le_refl _) i
  unfold rem
  rw [if_neg (by omega), co_trim, co_trim, co_take]
  split
  · rfl
  · exact h3 (by omega)
theorem trim_quo (p q : List UInt8) (hq : 0 < q.length) (hpq : q.length ≤ p.length) (hp : vld p = true) (hv : vld q = true) : trim (dvAll p q).2 = quo p q := by
  have h := quo_vld p q hp hq (vld_top q hv hq)
  have e : quo p q = (dvAll p q).2 := by unfold quo; rw [if_neg (by omega)]
  rw [e] at h ⊢
  exact trim_self _ h
theorem rem_short (p q : List UInt8) (h : p.length < q.length) : rem p q = p ∧ quo p q = [] := by
  unfold rem quo
  rw [if_pos h, if_pos h]
  exact ⟨rfl, rfl⟩
end Po
def RDivLoop (w : World) (p q : List UInt8) (lead : UInt8) (g1 c' g2 n m : Nat) (v : Value) (wr : World) : Prop :=
  ∃ a j : Nat, a + j = n - m + 1 ∧ v = .int .i64 ((a : Int) - 1) ∧ wr.ownsRow w.heap.size 5 1 (.slice (some ⟨g1, 0, none⟩) n c') n (bys (Po.dv p q lead j).1) ∧
    wr.ownsRow w.heap.size 5 1 (.slice (some ⟨g2, 0, none⟩) (n - m + 1) (n - m + 1)) (n - m + 1) (bys (Po.dv p q lead j).2) ∧ Below w.heap.size w wr
def RDivIn (w : World) (r q qu : List UInt8) (f : UInt8) (t g1 c' g2 n m : Nat) (v : Value) (wr : World) : Prop :=
  ∃ k : Nat, k ≤ m ∧ v = .int .i64 (k : Int) ∧ wr.ownsRow w.heap.size 5 1 (.slice (some ⟨g1, 0, none⟩) n c') n (bys (Po.addTo r q f t k)) ∧
    wr.ownsRow w.heap.size 5 1 (.slice (some ⟨g2, 0, none⟩) (n - m + 1) (n - m + 1)) (n - m + 1) (bys qu) ∧ Below w.heap.size w wr
set_option maxHeartbeats 4000000 in
theorem rdivide_long (A A2 : Option Addr) (n c m c2 : Nat) (p q : List UInt8) (w : World) (hn : p.length = n) (hm : q.length = m) (hp : Sl w w.heap.size A (bys p)) (hq : Sl w w.heap.size A2 (bys q))
    (hvp : Po.vld p = true) (hvq : Po.vld q = true) (hm0 : 0 < m) (hmn : m ≤ n) :
    Calls Tryd.prog 43 #[.slice A n c, .slice A2 m c2] w (ResE w (Po.quo p q) (Po.rem p q) 0) := by
  obtain ⟨i0, hi, hz0, hz1, hz2⟩ := info_parts infoB
  have h1 : n ≤ 255 := by rw [← hn]; exact Po.vld_len hvp
  have hmk := run_make_one (P := Tryd.prog) 27 5 i0 (.int .u8 0) Tryd.underlying27 hi hz0 hz1 .i64 .i64 ((n : Int) - (m : Int) + 1) ((n : Int) - (m : Int) + 1) (n - m + 1) (n - m + 1) (by omega) (by omega) (Nat.le_refl _) (by rw [hz2]; omega) (by omega)
  have HV1 := Lib.hid (rvalid_any A n c _ p w hn hp (by omega))
  have HV2 := Lib.hid (rvalid_any A2 m c2 _ q w hm hq (by omega))
  rw [hvp] at HV1
  rw [hvq] at HV2
  obtain ⟨lead0, hlast⟩ := byte_at q (m - 1) (by omega)
  obtain ⟨lead, hlead⟩ : ∃ lead, lead = Gf.ginv lead0 := ⟨_, rfl⟩
  have hlo : Po.lastOf q = lead0 := by unfold Po.lastOf; rw [hm, hlast]; rfl
  have HDA : Hid (Po.dvAll p q = Po.dv p q lead (n - m + 1)) := by unfold Hid Po.dvAll; rw [hlo, hn, hm, hlead]
  have HQ := Lib.hid (Po.trim_quo p q (by omega) (by omega) hvp hvq)
  have HR := Lib.hid (Po.trim_rest p q (by omega) (by omega) hvp hvq)
  rw [HDA.out] at HQ HR
  have HN := Lib.hid hn
  have HM := Lib.hid hm
  have HLE := Lib.hid hlead
  have HSQ := Lib.hid hq
  have HP := Lib.hid hp
  have HLn : Hid ((bys p).length = n) := by unfold Hid; rw [bys_length]; exact hn
  have hz := nat_ne0 hm0
  have hge : decide ((m : Int) ≤ (n : Int)) = true := decide_eq_true (by omega)
  clear hp hlead hlo hn hm hvp hvq
  go_enter Tryd.func43, Tryd.ntmps43
  go_wp2_with fail
  refine HV1.out.mono ?_
  rintro e w1 ⟨rfl, rfl⟩
  go_wp2_with fail
  refine HV2.out.mono ?_
  rintro e w1 ⟨rfl, rfl⟩
  go_wp2_with (at_builtin; refine wpList_append_sl _ rfl (.const (.slice none 0 0)) (.tmp 25) 27 rfl w.heap.size 5 i0 (.int .u8 0) 1 Tryd.underlying27 hi hz0 hz1 hz2 rfl _ _ _ _ rfl (World.ownsRow_nil _ _ _ _) w.heap.size _ _ _ _ rfl HLn.out HP.out (bys_one _) (by unfold maxLen; omega) (by omega) (Nat.le_refl _) ?_; intro A' c' w1 hown hgrow hblk)
  rw [Nat.zero_add] at hown
  have hb1 : Below w.heap.size w w1 := (Below.refl _ _).grown hgrow (Nat.le_refl _) (fun g hg => by cases hg)
  obtain ⟨g1, rfl, hg1b, hg1w⟩ := own_form hown (by omega)
  obtain ⟨ad, rfl, hbk, hc0⟩ := (hq.below hb1).byte hlast
  have HO1 := Lib.hid hown
  have HB1 := Lib.hid hb1
  clear hown hgrow hblk hb1 hlast hq
  have HOq : Hid ((w1.alloc (.cells (madeCells #[Value.int .u8 0] (n - m + 1)) 5)).ownsRow w.heap.size 5 1 (.slice (some ⟨w1.heap.size, 0, none⟩) (n - m + 1) (n - m + 1)) (n - m + 1) (bys (List.replicate (n - m + 1) 0))) := by
    have := own_made w1 5 (.int .u8 0) (n - m + 1) (n - m + 1) rfl (Nat.le_refl _) (by unfold maxLen; omega)
    have e : List.replicate (n - m + 1) (Value.int .u8 0) = bys (List.replicate (n - m + 1) 0) := by simp [bys, encB]
    rw [e] at this
    exact own_more this HB1.out.size
  have HO1' : Hid ((w1.alloc (.cells (madeCells #[Value.int .u8 0] (n - m + 1)) 5)).ownsRow w.heap.size 5 1 (.slice (some ⟨g1, 0, none⟩) n c') n (bys p)) := own_alloc HO1.out _
  have HB2 : Hid (Below w.heap.size w (w1.alloc (.cells (madeCells #[Value.int .u8 0] (n - m + 1)) 5))) := HB1.out.alloc HB1.out.size _
  have hne : g1 ≠ w1.heap.size := by omega
  have HNE := Lib.hid hne
  have hsz : w.heap.size ≤ w1.heap.size := HB1.out.size
  have hc1 : (w1.alloc (.cells (madeCells #[Value.int .u8 0] (n - m + 1)) 5)).cell? (ad.add (m - 1)) = some (.int .u8 (lead0.toNat : Int)) := by
    rw [World.cell?_of_block (Below.heap_alloc w1 _ _ (by rw [add_block]; omega))]
    exact hc0
  have hidx : ∀ W : World, (Instr.indexAt 27 (.slice (some ad) m c2) (.int .i64 ((m : Int) - 1))).run Tryd.prog W = .ok (.pointer (some (ad.add (m - 1)))) W := fun W => by
    go_simp
    intro h
    omega
  clear hne hc0 HV1 HV2 HO1 HB1
  go_wp2_with fail
  rw [hidx]
  clear hidx
  go_wp2_with (go_at_call 52; ((with_reducible refine (refinverse_any _ _).mono ?_); rintro e w' ⟨rfl, rfl⟩))
  rw [← HLE.out]
  generalize hgw : w1.heap.size = g2 at *
  generalize hw2 : w1.alloc (.cells (madeCells #[Value.int .u8 0] (n - m + 1)) 5) = w2 at *
  clear hw2 hgw hc1 hmk hg1w
  have hb11 : n - m + 1 ≤ 300 := by omega
  have hi11 : ((n : Int) - (m : Int)) = (((n - m + 1 : Nat) : Int) - 1) := by omega
  go_loopw [11] (fun v wr => RDivLoop w p q lead g1 c' g2 n m v wr) (fun v _ => (intOf v + 1).toNat)
  case atStart =>
    refine ⟨n - m + 1, 0, rfl, int_eqv hi11, HO1'.out, ?_, HB2.out⟩
    show w2.ownsRow _ _ _ _ _ (bys (List.replicate (p.length - q.length + 1) 0))
    rw [HN.out, HM.out]
    exact HOq.out
  case round =>
    clear hi11 HO1' HOq HB2
    obtain ⟨a, j, haj, rfl, ho1, ho2, hb⟩ := hrel
    have HLEN := Lib.hid (Po.dv_len p q lead j)
    have HB3 := Lib.hid hb
    rcases Nat.eq_zero_or_pos a with ha | ha
    · obtain rfl : j = n - m + 1 := by omega
      subst ha
      have HT1 := Lib.hid (rtrim_any (some ⟨g2, 0, none⟩) (n - m + 1) (n - m + 1) wr.heap.size (Po.dv p q lead (n - m + 1)).2 wr (by rw [HLEN.out.2, HN.out, HM.out]) (Sl.of_own ho2) (Nat.le_refl _) (Nat.le_refl _) (by omega))
      rw [HQ.out] at HT1
      have HO1 := Lib.hid ho1
      have hcap := (own_cap ho1).1
      clear ho1 ho2 hb
      go_wp2_with fail
      refine HT1.out.mono ?_
      rintro e w5 ⟨A3, n3, c3, rfl, hn3, ho3, hb3⟩
      have HT2 := Lib.hid (rtrim_any (some ⟨g1, 0, none⟩) n c' w5.heap.size (Po.dv p q lead (n - m + 1)).1 w5 (by rw [HLEN.out.1, HN.out]) (Sl.of_own (own_below HO1.out hb3)) (Nat.le_refl _) hcap (by omega))
      rw [HR.out] at HT2
      have HB5 : Hid (Below w.heap.size w w5) := HB3.out.trans (hb3.mono HB3.out.size)
      have HO3 := Lib.hid (own_more ho3 HB3.out.size)
      have HN3 := Lib.hid hn3
      clear ho3 hb3 hn3
      go_wp2_with fail
      refine HT2.out.mono ?_
      rintro e w6 ⟨A4, n4, c4, rfl, hn4, ho4, hb4⟩
      have HF : Hid (ResE w (Po.quo p q) (Po.rem p q) 0 (.returned (.tuple #[.slice A3 n3 c3, .slice A4 n4 c4, .int .i64 0])) w6) :=
        ⟨A3, n3, c3, A4, n4, c4, rfl, HN3.out, hn4, own_below HO3.out hb4, own_more ho4 HB5.out.size, HB5.out.trans (hb4.mono HB5.out.size)⟩
      clear ho4 hb4 hn4
      go_wp2_with fail
      go_ret3
      exact HF.out
    · obtain ⟨t, rfl⟩ : ∃ t, a = t + 1 := ⟨a - 1, by omega⟩
      have e1 : ((t + 1 : Nat) : Int) - 1 = (t : Int) := by omega
      rw [e1]
      have HE1 := Lib.hid e1
      clear e1
      obtain ⟨b, hb1⟩ := byte_at (Po.dv p q lead j).1 (t + m - 1) (by rw [HLEN.out.1, HN.out]; omega)
      have HDV := Lib.hid (Po.dv_succ p q lead j n m t b HN.out HM.out (by omega) hb1)
      have hcb := own_byte ho1 hb1
      obtain ⟨f, hf⟩ : ∃ f, f = Gf.gmul b lead := ⟨_, rfl⟩
      obtain ⟨y, hy⟩ := byte_at (Po.dv p q lead j).2 t (by rw [HLEN.out.2, HN.out, HM.out]; omega)
      have hcy := own_byte ho2 hy
      have hfy := ho2.frozenAt t
      have hst := ho2.stored t (.int .u8 (f.toNat : Int))
      rw [← hf] at HDV
      have HW2 : Hid ((wr.setCell ⟨g2, t, none⟩ (.int .u8 (f.toNat : Int))).ownsRow w.heap.size 5 1 (.slice (some ⟨g2, 0, none⟩) (n - m + 1) (n - m + 1)) (n - m + 1) (bys (Po.dv p q lead (j + 1)).2)) := by
        have h5 := hst.1
        unfold Hid
        rw [HDV.out.2]
        unfold bys at h5 ⊢
        rw [List.map_set]
        exact h5
      have HW1 : Hid ((wr.setCell ⟨g2, t, none⟩ (.int .u8 (f.toNat : Int))).ownsRow w.heap.size 5 1 (.slice (some ⟨g1, 0, none⟩) n c') n (bys (Po.dv p q lead j).1)) :=
        own_keep ho1 hst.2 (.inr (fun e => HNE.out (by simpa [Value.ownBlock] using e)))
      have HWB : Hid (Below w.heap.size w (wr.setCell ⟨g2, t, none⟩ (.int .u8 (f.toNat : Int)))) := HB3.out.grown hst.2 HB3.out.size (fun _ e => by cases e; exact hsz)
      have HF := Lib.hid hf
      have hx1 : (t : Int) + (m : Int) - 1 = ((t + m - 1 : Nat) : Int) := by omega
      have hidx : ∀ W : World, (Instr.indexAt 27 (.slice (some ⟨g1, 0, none⟩) n c') (.int .i64 ((t : Int) + (m : Int) - 1))).run Tryd.prog W = .ok (.pointer (some ⟨g1, t + m - 1, none⟩)) W := fun W => by
        rw [hx1]
        go_simp
        omega
      clear hb1 hy ho1 ho2 hb hst hf hx1
      go_wp2_with fail
      refine (refmul_any b lead _).mono ?_
      rintro e w' ⟨rfl, rfl⟩
      rw [← HF.out]
      clear hidx
      go_wp2_with fail
      go_loopw [13] (fun v wr => RDivIn w (Po.dv p q lead j).1 q (Po.dv p q lead (j + 1)).2 f t g1 c' g2 n m v wr) (fun v _ => m - (intOf v).toNat)
      case atStart => exact ⟨0, Nat.zero_le _, rfl, HW1.out, HW2.out, HWB.out⟩
      case round =>
        clear HW1 HW2 HWB HB3 hcb hcy hfy
        obtain ⟨k, hk, rfl, ho1, ho2, hb⟩ := hrel
        have HO2 := Lib.hid ho2
        have HG := Lib.hid hb
        rcases Nat.lt_or_ge k m with hkm | hkm
        · obtain ⟨b2, hb2⟩ := byte_at q k (by rw [HM.out]; exact hkm)
          obtain ⟨d, hd⟩ := byte_at (Po.addTo (Po.dv p q lead j).1 q f t k) (t + k) (by rw [Po.addTo_length, HLEN.out.1, HN.out]; omega)
          obtain ⟨x, hx, HX⟩ := xor_ex d (Gf.gmul f b2)
          have HSi := Lib.hid (Po.addTo_succ (Po.dv p q lead j).1 q f d b2 x t k hd hb2 HX.out)
          obtain ⟨ad2, had, hbk2, hc2⟩ := (HSQ.out.below hb).byte hb2
          obtain rfl := Option.some.inj had
          have hc3 := own_byte ho1 hd
          have hfz := ho1.frozenAt (t + k)
          clear hb2 hd had
          have HO := Lib.hid ho1
          clear ho1 hb ho2
          have hb8 := u8_lt f
          have hb82 := u8_lt b2
          have hd8 := u8_lt d
          go_wp2_with fail
          have s1 : IntKind.i64.wrap ((t : Int) + (k : Int)) = (t : Int) + (k : Int) := IntWalk.i64_in _ (by omega)
          have s2 : 0 ≤ (t : Int) + (k : Int) := by omega
          have s3 : (t : Int) + (k : Int) < (n : Int) := by omega
          have s4 : ((t : Int) + (k : Int)).toNat = t + k := by omega
          have s6 : (k : Int) < (m : Int) := by omega
          refine wp_region_still_tail 14 (by kernel_rfl) (by kernel_rfl) ?_
          simp only [List.take_succ_cons, List.take_zero, List.drop_succ_cons, List.drop_zero]
          repeat (first | still_step | still_call (flip_same (refmul_any _ _ _)))
          refine wpStill_nil ?_
          change wpList _ _ _ _ _ wr.drew
          clear s1 s2 s3 s4 s6
          go_wp2_with fail
          go_roundw
          case rel =>
            have h1 := HO.out.drew.stored (t + k) (.int .u8 (x.toNat : Int))
            refine ⟨k + 1, by omega, by go_num, ?_, own_keep (HO2.out.drew) h1.2 (.inr (fun e => HNE.out (by simpa [Value.ownBlock] using e.symm))), HG.out.drew.grown h1.2 HG.out.size (fun y e => by cases e; exact hg1b)⟩
            rw [HSi.out]
            have h2 := h1.1
            unfold bys at h2 ⊢
            rw [List.map_set]
            exact h2
          case measure => simp [intOf]; omega
        · obtain rfl : k = m := by omega
          have HO : Hid (wr.ownsRow w.heap.size 5 1 (.slice (some ⟨g1, 0, none⟩) n c') n (bys (Po.dv p q lead (j + 1)).1)) := by
            unfold Hid
            rw [HDV.out.1]
            unfold Po.addAt
            rw [HM.out]
            exact ho1
          clear ho1 ho2 hb
          go_wp2_with fail
          go_roundw
          case rel => exact ⟨t, j + 1, by omega, int_eqv rfl, HO.out, HO2.out, HG.out⟩
          case measure => simp [intOf]
end Go.Proofs.YtkolmppfhpcdpaaDoor

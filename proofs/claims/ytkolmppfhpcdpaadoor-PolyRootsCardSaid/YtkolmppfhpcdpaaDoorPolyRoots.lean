/- The walk of PolyRoots. -/
import Derived.Test.YtkolmppfhpcdpaaDoorPolyS
namespace Go.Proofs.YtkolmppfhpcdpaaDoor
open Go.RowKit
set_option linter.unusedVariables false
set_option maxRecDepth 100000
def RootsR (w : World) (gT gW : Nat) (v p : Value) (wr : World) : Prop :=
  ∃ (k : Nat) (A : Option Addr) (n c : Nat) (l : List UInt8) (th tw : List Bool), v = .int .i64 (k : Int) ∧ p = .slice A n c ∧ k + n ≤ 10 ∧ 0 < n ∧ Po.vld l = true ∧ RK w gT gW wr A n c l th tw ∧ Hid (Cov l th tw ∧ th.length = 256 ∧ tw.length = 256)
def RootsF (w w1 : World) (gT gW : Nat) (A A2 : Option Addr) (n c n2 c2 : Nat) (l : List UInt8) (th tw : List Bool) (k x : Value) (wr : World) : Prop :=
  ∃ i : Nat, i ≤ 256 ∧ x = .int .i64 (i : Int) ∧ k = .int .i64 ((Po.rootsTo l i).length : Int) ∧ RK w gT gW wr A n c l th tw ∧ Hid (Sl wr wr.heap.size A2 (bys (Po.rootsTo l 256)))
set_option maxHeartbeats 2000000 in
theorem polyRoots_any (A : Option Addr) (n c : Nat) (ts : List Int) (w : World) (hn : ts.length = n) (hl : n ≤ 9223372036854775807) (hs : Sl w w.heap.size A (ints ts)) :
    Calls Tryd.prog 3 #[.slice A n c] w fun e w' => e = .returned (.bool true) ∧ Below w.heap.size w w' := by
  obtain ⟨i0, hi, hz0, hz1, hz2⟩ := info_parts infoL
  have hmk := run_make_one (P := Tryd.prog) 28 4 i0 (.bool false) Tryd.underlying28 hi hz0 hz1 .i64 .i64 256 256 256 256 rfl rfl (Nat.le_refl _) (by rw [hz2]; omega) (by omega)
  obtain ⟨C0, hC0⟩ : ∃ C0, Hid (madeCells (Value.bool false).cells 256 = C0) := ⟨_, rfl⟩
  rw [hC0.out] at hmk
  have HMk : Hid (∀ u : World, (u.alloc (.cells C0 4)).ownsRow u.heap.size 4 1 (.slice (some ⟨u.heap.size, 0, none⟩) 256 256) 256 (bls (List.replicate 256 false))) := fun u => by
    have := own_made u 4 (.bool false) 256 256 rfl (Nat.le_refl _) (by unfold maxLen; omega)
    rw [hC0.out] at this
    have e : List.replicate 256 (Value.bool false) = bls (List.replicate 256 false) := by simp [bls]
    rwa [e] at this
  clear hi hz0 hz1 hz2
  rcases Nat.lt_or_ge 400 n with h400 | h400
  · have HL := Lib.hid (light_no A n c w h400 hl)
    clear hs hn h400
    go_enter Tryd.func3, Tryd.ntmps3
    go_wp2_with fail
    refine HL.out.mono ?_
    rintro e w1 ⟨rfl, rfl⟩
    go_wp2_with fail
    refine (awakeP_any _).mono ?_
    rintro e w1 ⟨rfl, hb⟩
    go_wp2_with fail
    go_ret
    exact ⟨rfl, hb⟩
  · have HL := Lib.hid (light_yes A n c w h400)
    have HRo := Lib.hid (roll_any A n c ts w hn (by omega) hs)
    clear hs hn h400 hl
    go_enter Tryd.func3, Tryd.ntmps3
    go_wp2_with fail
    refine HL.out.mono ?_
    rintro e w1 ⟨rfl, rfl⟩
    go_wp2_with fail
    refine HRo.out.mono ?_
    rintro e w1 ⟨rfl, HD, hsz, HB⟩
    have HRK : Hid (RK w (w.heap.size + 1 + 1) (w.heap.size + 1 + 1 + 1) (((w1.alloc (.cells #[.int .u8 1] 5)).alloc (.cells C0 4)).alloc (.cells C0 4)) (some ⟨w.heap.size + 1, 0, none⟩) 1 1 [1] (List.replicate 256 false) (List.replicate 256 false)) := by
      have hs1 : (w1.alloc (.cells #[.int .u8 1] 5)).heap.size = w.heap.size + 2 := by simp; omega
      have hs2 : ((w1.alloc (.cells #[.int .u8 1] 5)).alloc (.cells C0 4)).heap.size = w.heap.size + 3 := by simp; omega
      have hT := HMk.out (w1.alloc (.cells #[.int .u8 1] 5))
      have hW := HMk.out ((w1.alloc (.cells #[.int .u8 1] 5)).alloc (.cells C0 4))
      rw [hs1] at hT
      rw [hs2] at hW
      have hSl : Sl (w1.alloc (.cells #[.int .u8 1] 5)) (w.heap.size + 2) (some ⟨w.heap.size + 1, 0, none⟩) (bys [1]) := (sl_new w1 5 [1] (w.heap.size + 1) hsz.symm).more (B' := w.heap.size + 2) (Nat.le_refl _)
      have hd1 : Dice (w1.alloc (.cells #[.int .u8 1] 5)) w.heap.size w.heap.size := HD.grown (row := none) (World.grownBy_alloc _ _ _) (fun _ e => by cases e)
      have hd2 : Dice ((w1.alloc (.cells #[.int .u8 1] 5)).alloc (.cells C0 4)) w.heap.size w.heap.size := hd1.grown (row := none) (World.grownBy_alloc _ _ _) (fun _ e => by cases e)
      refine ⟨((HB.alloc (by omega) _).alloc (by omega) _).alloc (by omega) _, hd2.grown (row := none) (World.grownBy_alloc _ _ _) (fun _ e => by cases e), ?_, ?_, own_more (own_alloc hT _) (by omega), own_more hW (by omega), ⟨by omega, by omega⟩, rfl, Nat.le_refl _⟩
      · exact (((hSl.alloc (Nat.le_of_eq hs1.symm) _).alloc (by omega) _)).more (by simp; omega)
      · intro ad e
        obtain rfl := Option.some.inj e
        exact ⟨by simp, by simp, by simp⟩
    have HN10 := Lib.hid (next_any w.heap.size w.heap.size 10 _ (by omega) (by omega) HRK.out.dice)
    clear HD HB
    go_wp2_with fail
    refine HN10.out.mono ?_
    rintro e w3 ⟨r, rfl, h0, h1, hd, hg⟩
    obtain ⟨k, rfl⟩ := Int.eq_ofNat_of_zero_le h0
    have HRK3 := Lib.hid (HRK.out.next hg hd)
    have hk : k ≤ 9 := by omega
    clear hd hg h0 h1 HN10 HRK
    go_wp2_with fail
    go_loopw [7, 4] (fun v p wr => RootsR w (w.heap.size + 1 + 1) (w.heap.size + 1 + 1 + 1) v p wr) (fun v _ _ => (intOf v).toNat)
    case atStart => exact ⟨k, _, 1, 1, [1], _, _, rfl, rfl, by omega, by omega, rfl, HRK3.out, cov_one, List.length_replicate, List.length_replicate⟩
    case round =>
      clear HRK3 hk
      obtain ⟨k, A1, n1, c1, l, th, tw, rfl, rfl, hkn, hn0, hv, hrk, HC⟩ := hrel
      rcases Nat.eq_zero_or_pos k with h0 | h0
      · subst h0
        have HK := Lib.hid hrk
        have HRo := Lib.hid (roots_any A1 n1 c1 l wr hrk.len.1 hrk.sl (by omega))
        rw [show Po.rootsR l = Po.rootsTo l 256 by unfold Po.rootsR; rw [hv, decide_eq_true (show 0 < l.length by have := hrk.len.1; omega)]; rfl] at HRo
        clear hrk
        go_wp2_with fail
        refine HRo.out.mono ?_
        rintro e w4 ⟨A2, n2, c2, rfl, hn2, ho, hb⟩
        have HK4 := Lib.hid (HK.out.go hb)
        have HS4 : Hid (Sl w4 w4.heap.size A2 (bys (Po.rootsTo l 256))) := Sl.of_own ho
        have HN2 := Lib.hid hn2
        clear hb ho HK hn2 HRo
        go_wp2_with fail
        have HX : Hid (∀ x : Nat, x < 256 → (th[x]? = some true ↔ Po.eval l (UInt8.ofNat x) = 0) ∧ (tw[x]? = some true → Po.eval (Po.derR l) (UInt8.ofNat x) = 0)) := fun x hx => by
          have h := HC.out.1 (UInt8.ofNat x)
          rw [UInt8.toNat_ofNat', Nat.mod_eq_of_lt hx] at h
          exact ⟨h.1, fun e => (h.2 e).2⟩
        have HTL : Hid (th.length = 256 ∧ tw.length = 256) := HC.out.2
        clear HC
        go_loopw [11, 12] (fun k x wr => RootsF w w4 (w.heap.size + 1 + 1) (w.heap.size + 1 + 1 + 1) A1 A2 n1 c1 n2 c2 l th tw k x wr) (fun _ x _ => 256 - (intOf x).toNat)
        case atStart => exact ⟨0, Nat.zero_le _, rfl, rfl, HK4.out, HS4⟩
        case round =>
          clear HK4 HS4
          obtain ⟨i, hi, rfl, rfl, hk, HS⟩ := hrel
          have HK := Lib.hid hk
          clear hk
          obtain ⟨k, hkl⟩ : ∃ k, (Po.rootsTo l i).length = k := ⟨_, rfl⟩
          rw [hkl]
          have hk256 : k ≤ 256 := by rw [← hkl]; exact Nat.le_trans (Po.rootsTo_le l i) hi
          have HKL := Lib.hid hkl
          clear hkl
          rcases Nat.lt_or_ge i 256 with hi2 | hi2
          · obtain ⟨t, ht⟩ : ∃ t, th[i]? = some t := ⟨_, List.getElem?_eq_getElem (by rw [HTL.out.1]; exact hi2)⟩
            obtain ⟨u, hu⟩ : ∃ u, tw[i]? = some u := ⟨_, List.getElem?_eq_getElem (by rw [HTL.out.2]; exact hi2)⟩
            have hct := own_bool HK.out.hT ht
            have hcu := own_bool HK.out.hW hu
            obtain ⟨x1, x2⟩ := HX.out i hi2
            rw [ht] at x1
            rw [hu] at x2
            clear ht hu
            cases t
            · have HR1 : Hid ((Po.rootsTo l (i + 1)).length = k) := by
                unfold Hid
                rw [Po.rootsTo, if_neg (fun e => by cases x1.2 e)]
                exact HKL.out
              clear x1 x2
              go_wp2_with fail
              go_roundw
              case rel => exact ⟨i + 1, by omega, by go_num, by rw [HR1.out], HK.out, HS⟩
              case measure => simp [intOf]; omega
            · have he := x1.1 rfl
              have HR1 : Hid ((Po.rootsTo l (i + 1)).length = k + 1) := by
                unfold Hid
                rw [Po.rootsTo, if_pos he, List.length_append, HKL.out]
                rfl
              have hat := Po.rootsTo_at l i hi2 he
              rw [HKL.out] at hat
              have hlt : k < n2 := by
                rw [← HN2.out]
                rcases Nat.lt_or_ge k (Po.rootsTo l 256).length with h | h
                · exact h
                · rw [List.getElem?_eq_none h] at hat; cases hat
              have hn256 : n2 ≤ 256 := by rw [← HN2.out]; exact Po.rootsTo_le l 256
              obtain ⟨ad, rfl, _, hca⟩ := HS.out.byte hat
              have hix : (i : Int) = ((UInt8.ofNat i).toNat : Int) := by rw [UInt8.toNat_ofNat']; omega
              rw [← hix] at hca
              have HIX := Lib.hid hix
              clear hat he x1 hix
              cases u
              · clear x2
                go_wp2_with fail
                go_roundw
                case rel => exact ⟨i + 1, by omega, by go_num, by rw [HR1.out]; go_num, HK.out, HS⟩
                case measure => simp [intOf]; omega
              · have hz := Lib.hid (x2 rfl)
                have HDe := Lib.hid (derive_any A1 n1 c1 l wr HK.out.len.1 HK.out.sl HK.out.len.2 (by omega))
                clear x2
                go_wp2_with fail
                refine HDe.out.mono ?_
                rintro e w5 ⟨A3, n3, c3, rfl, hn3, ho3, hb3⟩
                have HK5 := Lib.hid (HK.out.go hb3)
                have HS5 : Hid (Sl w5 w5.heap.size (some ad) (bys (Po.rootsTo l 256))) := (HS.out.below hb3).more hb3.size
                have hn3' : n3 ≤ 12 := by rw [← hn3]; have := Po.derR_len l; have := HK.out.len.1; omega
                have HEv := Lib.hid (eval_at A3 n3 c3 w5.heap.size (Po.derR l) (UInt8.ofNat i) (i : Int) HIX.out hn3 (by omega) w5 (Sl.of_own ho3) (Nat.le_refl _))
                rw [hz.out] at HEv
                clear hn3 ho3 hb3 HK HS HDe
                go_wp2_with fail
                refine HEv.out.mono ?_
                rintro e w6 ⟨rfl, hb6⟩
                have HK6 := Lib.hid (HK5.out.go hb6)
                have HS6 : Hid (Sl w6 w6.heap.size (some ad) (bys (Po.rootsTo l 256))) := (HS5.out.below hb6).more hb6.size
                clear hb6 HK5 HS5 HEv
                go_wp2_with fail
                go_roundw
                case rel => exact ⟨i + 1, by omega, by go_num, by rw [HR1.out]; go_num, HK6.out, HS6⟩
                case measure => simp [intOf]; omega
          · obtain rfl : i = 256 := by omega
            obtain rfl : k = n2 := HKL.out.symm.trans HN2.out
            have HPo : Hid (Calls Tryd.prog 17 #[.pointer (some ⟨w.heap.size, 0, none⟩), .int .i64 12] wr (GavePoly wr w.heap.size w.heap.size 12)) := poly_any w.heap.size w.heap.size 12 wr (by omega) HK.out.dice
            go_wp2_with fail
            refine HPo.out.mono ?_
            rintro e w5 ⟨A3, n3, c3, q, rfl, hn3, hn12, hv3, ho3, hd3, hg3⟩
            have HB5 := Lib.hid (HK.out.next hg3 hd3).below
            have HO5 := Lib.hid (Sl.of_own ho3)
            have HN3 := Lib.hid hn3
            clear HPo ho3 hd3 hg3 HK HS hn3
            go_wp2_with fail
            refine (awakeP_any _).mono ?_
            rintro e w6 ⟨rfl, hb6⟩
            have HB6 := Lib.hid (below_trans HB5.out hb6 (Nat.le_refl _))
            have HO6 : Hid (Sl w6 w6.heap.size A3 (bys q)) := (HO5.out.below hb6).more hb6.size
            clear hb6 HB5 HO5
            rcases Nat.eq_zero_or_pos n3 with h0 | h0
            · subst h0
              go_wp2_with fail
              go_ret
              exact ⟨rfl, HB6.out⟩
            · have hz3 := nat_ne0 h0
              have HRq := Lib.hid (roots_any A3 n3 c3 q w6 HN3.out HO6.out (by omega))
              have hfew : (Po.rootsR q).length < n3 := by have := Po.few_roots q hv3 (by rw [HN3.out]; exact h0); rw [HN3.out] at this; exact this
              go_wp2_with fail
              refine HRq.out.mono ?_
              rintro e w7 ⟨A4, n4, c4, rfl, hn4, ho4, hb7⟩
              have HB7 := Lib.hid (below_trans HB6.out hb7 (Nat.le_refl _))
              rw [hn4] at hfew
              have hlt : decide ((n4 : Int) < (n3 : Int)) = true := decide_eq_true (by omega)
              clear ho4 hb7 hn4 HB6
              go_wp2_with fail
              go_ret
              exact ⟨rfl, HB7.out⟩
      · have hpos : decide (0 < (k : Int)) = true := decide_eq_true (by omega)
        have HNx := Lib.hid (next256 w.heap.size w.heap.size wr hrk.dice)
        have HK := Lib.hid hrk
        clear hrk
        go_wp2_with fail
        refine HNx.out.mono ?_
        rintro e w4 ⟨b, rfl, HD1, HG1⟩
        have HK4 := Lib.hid (HK.out.next HG1.out HD1.out)
        have hb8 := u8_lt' b
        have hbn := UInt8.toNat_lt b
        obtain ⟨t, ht⟩ : ∃ t, th[b.toNat]? = some t := ⟨_, List.getElem?_eq_getElem (by rw [HC.out.2.1]; omega)⟩
        have hc1 := own_bool HK4.out.hT ht
        have hfW := HK4.out.hW.frozenAt b.toNat
        obtain ⟨u, hu⟩ : ∃ u, tw[b.toNat]? = some u := ⟨_, List.getElem?_eq_getElem (by rw [HC.out.2.2]; omega)⟩
        have hcW := own_bool HK4.out.hW hu
        have HK5 := Lib.hid (HK4.out.storeW b.toNat t)
        have hcT := own_bool HK5.out.hT ht
        have hfT := HK5.out.hT.frozenAt b.toNat
        have HK6 := Lib.hid (HK5.out.storeT b.toNat true)
        have HT := Lib.hid ht
        clear HNx HD1 HG1 HK ht hu
        go_wp2_with fail
        have HK7 := Lib.hid (HK6.out.go ((Below.refl _ _).alloc (Nat.le_refl _) (.cells #[.int .u8 (b.toNat : Int), .int .u8 1] 5)))
        have hS2 := (sl_new ((w4.setCell ⟨w.heap.size + 1 + 1 + 1, b.toNat, none⟩ (.bool t)).setCell ⟨w.heap.size + 1 + 1, b.toNat, none⟩ (.bool true)) 5 [b, 1] w4.heap.size (by simp [World.setCell])).more (B' := (((w4.setCell ⟨w.heap.size + 1 + 1 + 1, b.toNat, none⟩ (.bool t)).setCell ⟨w.heap.size + 1 + 1, b.toNat, none⟩ (.bool true)).alloc (.cells #[.int .u8 (b.toNat : Int), .int .u8 1] 5)).heap.size) (by simp [World.setCell])
        have hln := HK7.out.len
        have hmul := Po.mulR_ok hv (Po.vld_lin b) (by have : ([b, 1] : List UInt8).length = 2 := rfl; omega)
        have hlen : (Po.mulV l [b, 1]).length = n1 + 1 := by
          rw [Po.mulV_pos l [b, 1] (by omega) (by simp)]
          unfold Po.mulA
          rw [Po.mulTo_length, hln.1]
          rfl
        have hv' : Po.vld (Po.mulV l [b, 1]) = true := Po.mulV_vld l [b, 1] hv (Po.vld_lin b) (by have : ([b, 1] : List UInt8).length = 2 := rfl; omega)
        have HC' : Hid (Cov (Po.mulV l [b, 1]) (th.set b.toNat true) (tw.set b.toNat t) ∧ (th.set b.toNat true).length = 256 ∧ (tw.set b.toNat t).length = 256) :=
          ⟨cov_times HC.out.1 b t HT.out HC.out.2.1 HC.out.2.2 (by omega), by rw [List.length_set]; exact HC.out.2.1, by rw [List.length_set]; exact HC.out.2.2⟩
        have HM := Lib.hid (pmul_any A1 _ n1 c1 2 2 l [b, 1] _ hln.1 rfl HK7.out.sl hS2 (by omega) (by omega))
        rw [hmul.1, hmul.2] at HM
        clear hcW hcT hfW hfT HK4 HK5 HK6 hS2 hmul hln hv HC HT hc1
        refine HM.out.mono ?_
        rintro e w8 ⟨A2, n2, c2, rfl, hn2, ho, hb⟩
        obtain rfl : n2 = n1 + 1 := hn2.symm.trans hlen
        have HK8 := Lib.hid (HK7.out.put ho hn2 hb)
        clear HM HK7 ho hn2 hb hlen
        go_wp2_with fail
        go_roundw
        case rel => exact ⟨k - 1, A2, n1 + 1, c2, _, _, _, int_eqv (by omega), rfl, by omega, by omega, hv', HK8.out, HC'⟩
        case measure => simp [intOf]; omega
end Go.Proofs.YtkolmppfhpcdpaaDoor

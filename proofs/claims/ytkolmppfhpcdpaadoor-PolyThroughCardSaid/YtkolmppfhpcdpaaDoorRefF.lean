/- The document's Gcd. -/
import Derived.Test.YtkolmppfhpcdpaaDoorRefE
namespace Go.Proofs.YtkolmppfhpcdpaaDoor
open Go.RowKit
set_option linter.unusedVariables false
set_option maxRecDepth 100000
namespace Po
theorem monic_at (p : List UInt8) (k : Nat) (b t x : UInt8) (hb : p[k]? = some b) (ht : t = Gf.ginv (co p (p.length - 1))) (hx : x = Gf.gmul b t) : (monic p).take (k + 1) = (monic p).take k ++ [x] := by
  have hlt : k < p.length := by
    rcases Nat.lt_or_ge k p.length with h1 | h1
    · exact h1
    · rw [List.getElem?_eq_none h1] at hb; cases hb
  have h1 := co_monic p k
  have h2 : co p k = b := by unfold co; rw [hb]; rfl
  rw [List.take_add_one, hx, ht, Gf.gmul_comm, ← h2, ← h1]
  unfold co
  rw [List.getElem?_eq_getElem (by rw [monic_length]; exact hlt)]
  rfl
theorem monic_nil : monic [] = [] := rfl
end Po
def RGcdLoop (w : World) (p q : List UInt8) (a b : Value) (wr : World) : Prop :=
  ∃ (A1 : Option Addr) (n1 c1 : Nat) (A2 : Option Addr) (n2 c2 : Nat) (la lb : List UInt8), a = .slice A1 n1 c1 ∧ b = .slice A2 n2 c2 ∧ n1 ≤ 255 ∧ n2 ≤ 255 ∧
    Hid ((la.length = n1 ∧ lb.length = n2) ∧ (Po.vld la = true ∧ Po.vld lb = true) ∧ Sl wr wr.heap.size A1 (bys la) ∧ Sl wr wr.heap.size A2 (bys lb) ∧ Below w.heap.size w wr ∧ Po.gcdF lb.length la lb = Po.gcdF q.length p q)
def RMonLoop (w0 : World) (base : Nat) (l : List UInt8) (n : Nat) (v o : Value) (wr : World) : Prop :=
  ∃ (k : Nat) (A : Option Addr) (c : Nat), k ≤ n ∧ v = .int .i64 (k : Int) ∧ o = .slice A k c ∧ wr.ownsRow base 5 1 (.slice A k c) k (bys ((Po.monic l).take k)) ∧ Hid (Below base w0 wr ∧ base ≤ wr.heap.size)
set_option maxHeartbeats 4000000 in
theorem rgcd_any (A A2 : Option Addr) (n c m c2 : Nat) (p q : List UInt8) (w : World) (hn : p.length = n) (hm : q.length = m) (hp : Sl w w.heap.size A (bys p)) (hq : Sl w w.heap.size A2 (bys q))
    (hl : n ≤ 140737488355328) (hl2 : m ≤ 140737488355328) :
    Calls Tryd.prog 44 #[.slice A n c, .slice A2 m c2] w (ResB w (Po.gcdR p q) (Po.errR p q)) := by
  obtain ⟨i0, hi, hz0, hz1, hz2⟩ := info_parts infoB
  have HV1 := Lib.hid (rvalid_any A n c _ p w hn hp (by omega))
  have HV2 := Lib.hid (rvalid_any A2 m c2 _ q w hm hq (by omega))
  cases hv : (Po.vld p && Po.vld q)
  · have HR : Hid (Po.gcdR p q = []) := by unfold Hid Po.gcdR; rw [hv]; rfl
    have HE := Lib.hid (Po.errs_no hv)
    cases hv1 : Po.vld p
    · rw [hv1] at HV1
      clear hp hq hn hm hv hv1
      go_enter Tryd.func44, Tryd.ntmps44
      go_wp2_with fail
      refine HV1.out.mono ?_
      rintro e w1 ⟨rfl, rfl⟩
      go_wp2_with fail
      go_ret2
      rw [HR.out, HE.out]
      exact resB_nil _ _ _ (Below.refl _ _)
    · have hv2 : Po.vld q = false := by rw [hv1] at hv; simpa using hv
      rw [hv1] at HV1
      rw [hv2] at HV2
      clear hp hq hn hm hv hv1 hv2
      go_enter Tryd.func44, Tryd.ntmps44
      go_wp2_with fail
      refine HV1.out.mono ?_
      rintro e w1 ⟨rfl, rfl⟩
      go_wp2_with fail
      refine HV2.out.mono ?_
      rintro e w1 ⟨rfl, rfl⟩
      go_wp2_with fail
      go_ret2
      rw [HR.out, HE.out]
      exact resB_nil _ _ _ (Below.refl _ _)
  · have hvv : Po.vld p = true ∧ Po.vld q = true := by simpa using hv
    rw [hvv.1] at HV1
    rw [hvv.2] at HV2
    have HR : Hid (Po.gcdR p q = Po.monic (Po.gcdF q.length p q)) := by unfold Hid Po.gcdR; rw [hv]; rfl
    have HE := Lib.hid (Po.errs_ok hvv.1 hvv.2)
    have h1 : n ≤ 255 := by rw [← hn]; exact Po.vld_len hvv.1
    have h2 : m ≤ 255 := by rw [← hm]; exact Po.vld_len hvv.2
    have H0 : Hid ((p.length = n ∧ q.length = m) ∧ (Po.vld p = true ∧ Po.vld q = true) ∧ Sl w w.heap.size A (bys p) ∧ Sl w w.heap.size A2 (bys q) ∧ Below w.heap.size w w ∧ Po.gcdF q.length p q = Po.gcdF q.length p q) := ⟨⟨hn, hm⟩, hvv, hp, hq, Below.refl _ _, rfl⟩
    clear hp hq hn hm hv hvv hl hl2
    go_enter Tryd.func44, Tryd.ntmps44
    go_wp2_with fail
    refine HV1.out.mono ?_
    rintro e w1 ⟨rfl, rfl⟩
    go_wp2_with fail
    refine HV2.out.mono ?_
    rintro e w1 ⟨rfl, rfl⟩
    go_wp2_with fail
    go_loopw [0, 1] (fun a b wr => RGcdLoop w p q a b wr) (fun _ b _ => slen b)
    case atStart => exact ⟨A, n, c, A2, m, c2, p, q, rfl, rfl, h1, h2, H0.out.1, H0.out.2.1, H0.out.2.2.1, H0.out.2.2.2.1, H0.out.2.2.2.2.1, rfl⟩
    case round =>
      clear H0 h1 h2 HV1 HV2
      obtain ⟨A1, n1, c1, A3, n3, c3, la, lb, rfl, rfl, h1, h2, HH⟩ := hrel
      rcases Nat.eq_zero_or_pos n3 with h0 | h0
      · subst h0
        have hlb : lb = [] := List.eq_nil_of_length_eq_zero HH.out.1.2
        have HG : Hid (Po.gcdR p q = Po.monic la) := by
          unfold Hid
          rw [HR.out, ← HH.out.2.2.2.2.2, hlb]
          rfl
        clear hlb
        rcases Nat.eq_zero_or_pos n1 with h3 | h3
        · subst h3
          have hla : la = [] := List.eq_nil_of_length_eq_zero HH.out.1.1
          have HG2 : Hid (Po.gcdR p q = []) := by unfold Hid; rw [HG.out, hla]; rfl
          clear hla
          go_wp2_with fail
          go_ret2
          rw [HG2.out, HE.out]
          exact resB_nil _ _ _ HH.out.2.2.2.2.1
        · have hz := nat_ne0 h3
          obtain ⟨b, hb⟩ := byte_at la (n1 - 1) (by rw [HH.out.1.1]; omega)
          have HB := Lib.hid hb
          obtain ⟨ad, rfl, hbk, hcb⟩ := HH.out.2.2.1.byte hb
          obtain ⟨t, ht⟩ : ∃ t, t = Gf.ginv b := ⟨_, rfl⟩
          have HT := Lib.hid ht
          clear hb ht
          go_wp2_with fail
          refine (refinverse_any b _).mono ?_
          rintro e w' ⟨rfl, rfl⟩
          rw [← HT.out]
          clear hcb
          go_wp2_with fail
          obtain ⟨base, hbase⟩ : ∃ base, wr.heap.size = base := ⟨_, rfl⟩
          have HS0 : Hid (Sl wr base (some ad) (bys la)) := by rw [← hbase]; exact HH.out.2.2.1
          have HW0 : Hid (Below w.heap.size w wr ∧ w.heap.size ≤ base) := ⟨HH.out.2.2.2.2.1, by rw [← hbase]; exact HH.out.2.2.2.2.1.size⟩
          have HB0 : Hid (Below base wr wr ∧ base ≤ wr.heap.size) := ⟨Below.refl _ _, Nat.le_of_eq hbase.symm⟩
          clear hbase
          go_loopw [12, 11] (fun v o w2 => RMonLoop wr base la n1 v o w2) (fun v _ _ => n1 - (intOf v).toNat)
          case atStart => exact ⟨0, none, 0, Nat.zero_le _, rfl, rfl, World.ownsRow_nil _ _ _ _, HB0⟩
          case round =>
            obtain ⟨k, A4, c4, hk, rfl, rfl, ho, HBr⟩ := hrel
            have HO := Lib.hid ho
            clear ho HB0
            rcases Nat.lt_or_ge k n1 with hk2 | hk2
            · obtain ⟨d, hd⟩ := byte_at la k (by rw [HH.out.1.1]; exact hk2)
              obtain ⟨x, hx⟩ : ∃ x, x = Gf.gmul d t := ⟨_, rfl⟩
              have HX := Lib.hid hx
              have HTk := Lib.hid (Po.monic_at la k d t x hd (by rw [HT.out]; unfold Po.co; rw [HH.out.1.1, HB.out]; rfl) hx)
              obtain ⟨ad2, had, _, hcd⟩ := (HS0.out.below HBr.out.1).byte hd
              obtain rfl := Option.some.inj had
              have HO3 : Hid ((wr.alloc (.cells #[.int .u8 (x.toNat : Int)] 5)).ownsRow base 5 1 (.slice A4 k c4) k (bys ((Po.monic la).take k))) := own_alloc HO.out _
              have HSl := Lib.hid (sl_new1 wr 5 (.int .u8 (x.toNat : Int)))
              have HBW : Hid (base ≤ wr.heap.size) := HBr.out.2
              have hrow : ∀ y, (Value.slice A4 k c4).ownBlock = some y → base ≤ y := own_block HO.out
              clear hd hx had
              go_wp2_with (first | (go_at_call 38; ((with_reducible refine (refmul_any d t _).mono ?_); rintro e w' ⟨rfl, rfl⟩; rw [← HX.out])) | (at_builtin; refine wpList_append_sl _ rfl (.tmp 52) (.tmp 59) 27 rfl base 5 i0 (.int .u8 0) 1 Tryd.underlying27 hi hz0 hz1 hz2 rfl _ _ _ _ rfl HO3.out _ _ 1 _ _ rfl rfl HSl.out (fun u hu => by simp at hu; subst hu; rfl) (by unfold maxLen; omega) (by omega) (by have := HBW.out; simp; omega) ?_; intro A' c' w3 hown hgrow hblk))
              go_roundw
              case rel =>
                rw [bys_snoc, ← HTk.out] at hown
                have hal := HBr.out.1.alloc HBW.out (.cells #[.int .u8 (x.toNat : Int)] 5)
                have hsz3 := hgrow.size
                exact ⟨k + 1, A', c', by omega, by go_num, rfl, hown, hal.grown hgrow (by have := HBW.out; simp; omega) hrow, by have := HBW.out; simp at hsz3; omega⟩
              case measure => simp [intOf]; omega
            · obtain rfl : k = n1 := by omega
              have hall : (Po.monic la).take k = Po.monic la := List.take_of_length_le (by rw [Po.monic_length, HH.out.1.1]; exact Nat.le_refl _)
              have ho := HO.out
              rw [hall] at ho
              have HF : Hid (ResB w (Po.gcdR p q) (Po.errR p q) (.returned (.tuple #[.slice A4 k c4, .int .i64 0])) wr) := by
                unfold Hid
                rw [HG.out, HE.out]
                exact ⟨A4, k, c4, rfl, by rw [Po.monic_length]; exact HH.out.1.1, own_more ho HW0.out.2, HW0.out.1.trans (HBr.out.1.mono HW0.out.2)⟩
              clear ho hall
              go_wp2_with fail
              go_ret2
              exact HF.out
      · have hz := nat_ne0 h0
        have hpos : decide (0 < n3) = true := decide_eq_true h0
        have HD := Lib.hid (rdivide_any A1 A3 n1 c1 n3 c3 la lb wr HH.out.1.1 HH.out.1.2 HH.out.2.2.1 HH.out.2.2.2.1 (by omega) (by omega))
        obtain ⟨e1, e2, e3⟩ := Po.div_some (p := la) (q := lb) (by rw [HH.out.2.1.1, HH.out.2.1.2]; rfl) (by rw [HH.out.1.2]; exact h0)
        rw [e1, e2, e3] at HD
        clear e1 e2 e3
        go_wp2_with fail
        refine HD.out.mono ?_
        rintro e w4 ⟨A5, n5, c5, A6, n6, c6, rfl, hn5, hn6, o5, o6, hb⟩
        have hlt : n6 < n3 := by rw [← hn6, ← HH.out.1.2]; exact Po.rem_lt la lb (by rw [HH.out.1.2]; exact h0)
        have HH2 : Hid ((lb.length = n3 ∧ (Po.rem la lb).length = n6) ∧ (Po.vld lb = true ∧ Po.vld (Po.rem la lb) = true) ∧ Sl w4 w4.heap.size A3 (bys lb) ∧ Sl w4 w4.heap.size A6 (bys (Po.rem la lb)) ∧ Below w.heap.size w w4 ∧ Po.gcdF (Po.rem la lb).length lb (Po.rem la lb) = Po.gcdF q.length p q) :=
          ⟨⟨HH.out.1.2, hn6⟩, ⟨HH.out.2.1.2, Po.rem_vld la lb HH.out.2.1.1 (by rw [HH.out.1.2]; exact h2)⟩, (HH.out.2.2.2.1.below hb).more hb.size, Sl.of_own o6, HH.out.2.2.2.2.1.trans (hb.mono HH.out.2.2.2.2.1.size), by rw [← Po.gcd_step la lb (by rw [HH.out.1.2]; exact h0)]; exact HH.out.2.2.2.2.2⟩
        clear hn5 hn6 o5 o6 hb HD
        go_wp2_with fail
        go_roundw
        case rel => exact ⟨A3, n3, c3, A6, n6, c6, lb, _, rfl, rfl, h2, by omega, HH2⟩
        case measure => simp [slen]; omega
end Go.Proofs.YtkolmppfhpcdpaaDoor

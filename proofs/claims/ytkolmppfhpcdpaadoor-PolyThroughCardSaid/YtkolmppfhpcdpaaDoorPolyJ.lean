/- The contracts of Divide and Gcd. -/
import Derived.Test.YtkolmppfhpcdpaaDoorPolyI
namespace Go.Proofs.YtkolmppfhpcdpaaDoor
open Go.RowKit
set_option linter.unusedVariables false
set_option maxRecDepth 100000

/-- what a call leaves that hands back two lists of bytes of its own and an error -/
def ResE (w : World) (q r : List UInt8) (err : Int) (en : Ending) (w' : World) : Prop :=
  ∃ (A1 : Option Addr) (n1 c1 : Nat) (A2 : Option Addr) (n2 c2 : Nat), en = .returned (.tuple #[.slice A1 n1 c1, .slice A2 n2 c2, .int .i64 err]) ∧ q.length = n1 ∧ r.length = n2 ∧
    w'.ownsRow w.heap.size 5 1 (.slice A1 n1 c1) n1 (bys q) ∧ w'.ownsRow w.heap.size 5 1 (.slice A2 n2 c2) n2 (bys r) ∧ Below w.heap.size w w'
theorem resE_nil (w w' : World) (err : Int) (h : Below w.heap.size w w') : ResE w [] [] err (.returned (.tuple #[.slice none 0 0, .slice none 0 0, .int .i64 err])) w' :=
  ⟨none, 0, 0, none, 0, 0, rfl, rfl, rfl, World.ownsRow_nil _ _ _ _, World.ownsRow_nil _ _ _ _, h⟩
theorem pdivide_any (A A2 : Option Addr) (n c m c2 : Nat) (p q : List UInt8) (w : World) (hn : p.length = n) (hm : q.length = m) (hp : Sl w w.heap.size A (bys p)) (hq : Sl w w.heap.size A2 (bys q))
    (hl : n ≤ 140737488355328) (hl2 : m ≤ 140737488355328) :
    Calls Tryd.prog 23 #[.slice A n c, .slice A2 m c2] w (ResE w (Po.divQ p q) (Po.divR p q) (Po.divE p q)) := by
  have HV1 := Lib.hid (valid_any A n c _ p w hn hp (by omega))
  have HV2 := Lib.hid (valid_any A2 m c2 _ q w hm hq (by omega))
  cases hv : (Po.vld p && Po.vld q)
  · obtain ⟨hr, hr2, he⟩ := Po.div_no hv
    have HR := Lib.hid hr
    have HR2 := Lib.hid hr2
    have HE := Lib.hid he
    clear hr he hr2
    cases hv1 : Po.vld p
    · rw [hv1] at HV1
      clear hp hq hn hm hv hv1
      go_enter Tryd.func23, Tryd.ntmps23
      go_wp2_with fail
      refine HV1.out.mono ?_
      rintro e w1 ⟨rfl, rfl⟩
      go_wp2_with fail
      go_ret3
      rw [HR.out, HE.out, HR2.out]
      exact resE_nil _ _ _ (Below.refl _ _)
    · have hv2 : Po.vld q = false := by rw [hv1] at hv; simpa using hv
      rw [hv1] at HV1
      rw [hv2] at HV2
      clear hp hq hn hm hv hv1 hv2
      go_enter Tryd.func23, Tryd.ntmps23
      go_wp2_with fail
      refine HV1.out.mono ?_
      rintro e w1 ⟨rfl, rfl⟩
      go_wp2_with fail
      refine HV2.out.mono ?_
      rintro e w1 ⟨rfl, rfl⟩
      go_wp2_with fail
      go_ret3
      rw [HR.out, HE.out, HR2.out]
      exact resE_nil _ _ _ (Below.refl _ _)
  · have hvv : Po.vld p = true ∧ Po.vld q = true := by simpa using hv
    rw [hvv.1] at HV1
    rw [hvv.2] at HV2
    have h255 : n ≤ 255 ∧ m ≤ 255 := ⟨by rw [← hn]; exact Po.vld_len hvv.1, by rw [← hm]; exact Po.vld_len hvv.2⟩
    obtain ⟨h1, h2⟩ := h255
    clear hvv
    rcases Nat.eq_zero_or_pos m with hm0 | hm0
    · obtain ⟨hr, hr2, he⟩ := Po.div_zero hv (hm.trans hm0)
      have HR := Lib.hid hr
      have HR2 := Lib.hid hr2
      have HE := Lib.hid he
      clear hr he hr2 hp hq hn hm hv
      subst hm0
      go_enter Tryd.func23, Tryd.ntmps23
      go_wp2_with fail
      refine HV1.out.mono ?_
      rintro e w1 ⟨rfl, rfl⟩
      go_wp2_with fail
      refine HV2.out.mono ?_
      rintro e w1 ⟨rfl, rfl⟩
      go_wp2_with fail
      go_ret3
      rw [HR.out, HE.out, HR2.out]
      exact resE_nil _ _ _ (Below.refl _ _)
    · obtain ⟨hr, hr2, he⟩ := Po.div_some hv (by omega)
      have HR := Lib.hid hr
      have HR2 := Lib.hid hr2
      have HE := Lib.hid he
      have hz := nat_ne0 hm0
      have HD := Lib.hid (divide_lists A A2 n c m c2 p q w hn hm hp hq h1 h2 hm0)
      clear hr he hr2 hp hq hn hm hv
      go_enter Tryd.func23, Tryd.ntmps23
      go_wp2_with fail
      refine HV1.out.mono ?_
      rintro e w1 ⟨rfl, rfl⟩
      go_wp2_with fail
      refine HV2.out.mono ?_
      rintro e w1 ⟨rfl, rfl⟩
      go_wp2_with fail
      refine HD.out.mono ?_
      rintro e w1 ⟨A1, n1, c1, A2', n2, c2', rfl, hh⟩
      have HH := Lib.hid hh
      clear hh
      go_wp2_with fail
      go_ret3
      rw [HR.out, HE.out, HR2.out]
      exact ⟨A1, n1, c1, A2', n2, c2', rfl, HH.out.1, HH.out.2.1, HH.out.2.2.1, HH.out.2.2.2.1, HH.out.2.2.2.2⟩

def GcdLoop (w : World) (p q : List UInt8) (a b : Value) (wr : World) : Prop :=
  ∃ (A1 : Option Addr) (n1 c1 : Nat) (A2 : Option Addr) (n2 c2 : Nat) (la lb : List UInt8), a = .slice A1 n1 c1 ∧ b = .slice A2 n2 c2 ∧ la.length = n1 ∧ lb.length = n2 ∧ n1 ≤ 255 ∧ n2 ≤ 255 ∧
    wr.ownsRow w.heap.size 5 1 (.slice A1 n1 c1) n1 (bys la) ∧ wr.ownsRow w.heap.size 5 1 (.slice A2 n2 c2) n2 (bys lb) ∧ Below w.heap.size w wr ∧ Hid (Po.gcdF lb.length la lb = Po.gcdF q.length p q)
set_option maxHeartbeats 2000000 in
theorem pgcd_any (A A2 : Option Addr) (n c m c2 : Nat) (p q : List UInt8) (w : World) (hn : p.length = n) (hm : q.length = m) (hp : Sl w w.heap.size A (bys p)) (hq : Sl w w.heap.size A2 (bys q))
    (hl : n ≤ 140737488355328) (hl2 : m ≤ 140737488355328) :
    Calls Tryd.prog 24 #[.slice A n c, .slice A2 m c2] w (ResB w (Po.gcdR p q) (Po.errR p q)) := by
  obtain ⟨i0, hi, hz0, hz1, hz2⟩ := info_parts infoB
  have HV1 := Lib.hid (valid_any A n c _ p w hn hp (by omega))
  have HV2 := Lib.hid (valid_any A2 m c2 _ q w hm hq (by omega))
  cases hv : (Po.vld p && Po.vld q)
  · have HR : Hid (Po.gcdR p q = []) := by unfold Hid Po.gcdR; rw [hv]; rfl
    have HE := Lib.hid (Po.errs_no hv)
    cases hv1 : Po.vld p
    · rw [hv1] at HV1
      clear hp hq hn hm hv hv1
      go_enter Tryd.func24, Tryd.ntmps24
      go_wp2_with fail
      refine HV1.out.mono ?_
      rintro e w1 ⟨rfl, rfl⟩
      go_wp2_with fail
      go_ret2
      rw [HR.out, HE.out]
      exact resB_nil _ _ _ (Below.refl _ _)
    · have hv2 : Po.vld q = false := by rw [hv1] at hv; simpa using hv
      rw [hv1] at HV1
      rw [hv2] at HV2
      clear hp hq hn hm hv hv1 hv2
      go_enter Tryd.func24, Tryd.ntmps24
      go_wp2_with fail
      refine HV1.out.mono ?_
      rintro e w1 ⟨rfl, rfl⟩
      go_wp2_with fail
      refine HV2.out.mono ?_
      rintro e w1 ⟨rfl, rfl⟩
      go_wp2_with fail
      go_ret2
      rw [HR.out, HE.out]
      exact resB_nil _ _ _ (Below.refl _ _)
  · have hvv : Po.vld p = true ∧ Po.vld q = true := by simpa using hv
    rw [hvv.1] at HV1
    rw [hvv.2] at HV2
    have HR : Hid (Po.gcdR p q = Po.monic (Po.gcdF q.length p q)) := by unfold Hid Po.gcdR; rw [hv]; rfl
    have HE := Lib.hid (Po.errs_ok hvv.1 hvv.2)
    have h255 : n ≤ 255 ∧ m ≤ 255 := ⟨by rw [← hn]; exact Po.vld_len hvv.1, by rw [← hm]; exact Po.vld_len hvv.2⟩
    obtain ⟨h1, h2⟩ := h255
    have HC1 := Lib.hid (cloneB_fresh A n c w.heap.size p w hn hp (Nat.le_refl _) (by omega))
    have HN := Lib.hid hn
    have HM := Lib.hid hm
    have HQ := Lib.hid hq
    clear hp hq hn hm hv hvv
    go_enter Tryd.func24, Tryd.ntmps24
    go_wp2_with fail
    refine HV1.out.mono ?_
    rintro e w1 ⟨rfl, rfl⟩
    go_wp2_with fail
    refine HV2.out.mono ?_
    rintro e w1 ⟨rfl, rfl⟩
    go_wp2_with fail
    refine HC1.out.mono ?_
    rintro e w1 ⟨A1, n1, c1, rfl, g1, g2, g3⟩
    have HO1 := Lib.hid g2
    have HB1 := Lib.hid g3
    obtain rfl : n = n1 := by rw [← g1]; exact HN.out.symm
    have HC2 := Lib.hid (cloneB_fresh A2 m c2 w.heap.size q w1 HM.out (HQ.out.below g3) g3.size (by omega))
    clear g1 g2 g3
    go_wp2_with fail
    refine HC2.out.mono ?_
    rintro e w2 ⟨A3, n3, c3, rfl, g1, g2, g3⟩
    have HO2 := Lib.hid (own_more g2 HB1.out.size)
    have HO3 := Lib.hid (own_below HO1.out g3)
    have HB2 := Lib.hid (HB1.out.trans (g3.mono HB1.out.size))
    obtain rfl : m = n3 := by rw [← g1]; exact HM.out.symm
    clear g1 g2 g3
    go_wp2_with fail
    go_loopw [6, 7] (fun a b wr => GcdLoop w p q a b wr) (fun _ b _ => slen b)
    case atStart => exact ⟨A1, n, c1, A3, m, c3, p, q, rfl, rfl, HN.out, HM.out, h1, h2, HO3.out, HO2.out, HB2.out, rfl⟩
    case round =>
      clear HO1 HO2 HO3 HB1 HB2 HC1 HC2 HN HM HQ
      obtain ⟨A4, n4, c4, A5, n5, c5, la, lb, rfl, rfl, hla, hlb, hn4, hn5, ho4, ho5, hb4, HG⟩ := hrel
      have HO4 := Lib.hid ho4
      have HO5 := Lib.hid ho5
      have HB4 := Lib.hid hb4
      have HLA := Lib.hid hla
      have HLB := Lib.hid hlb
      rcases Nat.eq_zero_or_pos n5 with h50 | h50
      · have HG' : Hid (Po.gcdF q.length p q = la) := by unfold Hid; rw [← HG.out]; exact Po.gcd_end la lb (hlb.trans h50)
        subst h50
        rcases Nat.eq_zero_or_pos n4 with h40 | h40
        · have HMo : Hid (Po.monic la = []) := by unfold Hid Po.monic; rw [if_pos (hla.trans h40)]
          subst h40
          clear ho4 ho5 hb4 hla hlb
          go_wp2_with fail
          go_ret2
          rw [HR.out, HE.out, HG'.out, HMo.out]
          exact resB_nil _ _ _ HB4.out
        · have hz4 := nat_ne0 h40
          obtain ⟨b, hb⟩ := byte_at la (n4 - 1) (by omega)
          have HMo : Hid (Po.monic la = Po.addAt (List.replicate n4 0) la (Gf.ginv b) 0 ∧ (Po.monic la).length = n4) := by
            refine ⟨?_, by rw [Po.monic_length, hla]⟩
            unfold Po.monic Po.lastOf
            rw [if_neg (by omega), hla, hb]
            rfl
          have hs4 := Sl.of_own ho4
          obtain ⟨ad, rfl, hbk, hc0⟩ := hs4.byte hb
          have HS4 := Lib.hid hs4
          have hsz : w.heap.size ≤ wr.heap.size := hb4.size
          clear ho4 ho5 hb4 hla hlb hb hs4
          go_wp2_with (first | (go_at_call 41; ((with_reducible refine (inverse_any _ _).mono ?_); rintro e w' ⟨rfl, rfl⟩)) | (at_make; refine wpList_make_full _ rfl (.tmp 50) (.tmp 50) 27 rfl wr.heap.size 5 i0 (.int .u8 0) 1 Tryd.underlying27 hi hz0 hz1 _ _ _ _ n4 rfl rfl rfl rfl (by rw [hz2]; omega) (by unfold maxLen; omega) (Nat.le_refl _) ?_; intro w5 hown5 hg5))
          rw [made_bys] at hown5
          refine (add_at _ (some ad) n4 n4 n4 c4 wr.heap.size wr.heap.size _ la (Gf.ginv b) 0 _ 0 rfl rfl w5 List.length_replicate HLA.out hown5 (HS4.out.grown hg5 (Nat.le_refl _) (fun _ e => by cases e)) (Nat.le_refl _) hg5.size (by omega) (by omega)).mono ?_
          rintro e w6 ⟨rfl, ho6, hg6⟩
          rw [← HMo.out.1] at ho6
          have HO6 := Lib.hid (own_more ho6 hsz)
          have HB6 := Lib.hid ((HB4.out.grown hg5 hsz (fun _ e => by cases e)).grown hg6 (Nat.le_trans hsz hg5.size) (fun x hx => Nat.le_trans hsz (own_block hown5 x hx)))
          clear hown5 hg5 ho6 hg6
          go_wp2_with fail
          go_ret2
          rw [HR.out, HE.out, HG'.out]
          exact ⟨_, _, _, rfl, HMo.out.2, HO6.out, HB6.out⟩
      · have HG' : Hid (Po.gcdF (Po.rem la lb).length lb (Po.rem la lb) = Po.gcdF q.length p q) := by unfold Hid; rw [← HG.out]; exact (Po.gcd_step la lb (by omega)).symm
        have HL : Hid ((Po.rem la lb).length < n5) := by unfold Hid; have := Po.rem_lt la lb (by omega); omega
        have HD := Lib.hid (divide_lists A4 A5 n4 c4 n5 c5 la lb wr hla hlb (Sl.of_own ho4) (Sl.of_own ho5) hn4 hn5 h50)
        clear ho4 ho5 hb4 hla hlb
        go_wp2_with fail
        refine HD.out.mono ?_
        rintro e w1' ⟨A6, n6, c6, A7, n7, c7, rfl, k1, k2, k3, k4, k5⟩
        have HO7 := Lib.hid (own_more k4 HB4.out.size)
        have HO8 := Lib.hid (own_below HO5.out k5)
        have HB8 := Lib.hid (HB4.out.trans (k5.mono HB4.out.size))
        have HL7 := Lib.hid k2
        have hlt : n7 < n5 := by rw [← k2]; exact HL.out
        clear k1 k2 k3 k4 k5
        go_wp2_with fail
        go_roundw
        case rel => exact ⟨A5, n5, c5, A7, n7, c7, lb, Po.rem la lb, rfl, rfl, HLB.out, HL7.out, hn5, by omega, HO8.out, HO7.out, HB8.out, HG'⟩
        case measure => simp [slen]; omega
end Go.Proofs.YtkolmppfhpcdpaaDoor

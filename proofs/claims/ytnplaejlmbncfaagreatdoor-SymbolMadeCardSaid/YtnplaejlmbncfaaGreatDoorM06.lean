/- Sh PolyD Si Sk RegB RegMono -/
import Derived.Test.YtnplaejlmbncfaaGreatDoorM02
import Derived.Test.YtnplaejlmbncfaaGreatDoorM04
import Derived.Test.YtnplaejlmbncfaaGreatDoorM05
namespace Go.Proofs.YtnplaejlmbncfaaGreatDoor
open Go.RowKit
set_option linter.unusedVariables false
set_option maxRecDepth 100000
section
variable {w0 w w' : World} {g : Option Nat} {M : List (Nat × Value)} {L : List Ob} {O : List Rw} {A : Option Addr} {n c gb k : Nat} {e : TypeId} {l : List UInt8} {b : UInt8}
theorem Ow.byteO (h : Ow w0 w g M L O) (i : Nat) (hi : O[i]? = some ⟨some ⟨gb, 0, none⟩, n, c, e, bys l⟩) (hk : l[k]? = some b) : w.cell? ⟨gb, k, none⟩ = some (.int .u8 (b.toNat : Int)) := own_byte (h.row i hi) hk
theorem Ow.frzO (h : Ow w0 w g M L O) (i : Nat) {vs : List Value} (hi : O[i]? = some ⟨some ⟨gb, 0, none⟩, n, c, e, vs⟩) (k : Nat) : w.frozen? ⟨gb, k, none⟩ = false := (h.row i hi).frozenAt k
theorem Ow.byteL (h : Ow w0 w g M L O) (i : Nat) (hi : L[i]? = some ⟨A, n, c, bys l⟩) (hk : l[k]? = some b) : ∃ ad, A = some ad ∧ w.cell? (ad.add k) = some (.int .u8 (b.toNat : Int)) := by
  obtain ⟨ad, e, _, h⟩ := (h.sl hi).2.2.2.byte hk
  exact ⟨ad, e, h⟩
theorem Ow.putB (h : Ow w0 w g M L O) (i : Nat) (hi : O[i]? = some ⟨some ⟨gb, 0, none⟩, n, c, e, bys l⟩) (k : Nat) (b : UInt8) : Ow w0 (w.setCell ⟨gb, k, none⟩ (.int .u8 (b.toNat : Int))) g M L (O.set i ⟨some ⟨gb, 0, none⟩, n, c, e, bys (l.set k b)⟩) := by
  have := h.put i hi k (.int .u8 (b.toNat : Int))
  unfold bys at this ⊢
  rw [List.map_set]
  exact this
theorem freshB_of (h : Ow w w' g M L O) (i : Nat) (hi : O[i]? = some ⟨A, n, c, 5, bys l⟩) : FreshB w l (.returned (.slice A n c)) w' := by
  have ho := h.row i hi
  have := own_len ho
  rw [bys_length] at this
  exact ⟨A, n, c, rfl, this, ho, h.below⟩
end
namespace Sy
theorem zpow_nat {k : Nat} (h : k < 255) : Gf.zpow 2 (k : Int) = Gf.gpow 2 k := by
  unfold Gf.zpow Gf.emod
  congr 1
  omega
/-- so many values are known -/
def synP (l : List UInt8) (m k : Nat) : List UInt8 := (List.range m).map fun j => if j < k then syn l j else 0
theorem synP_length (l : List UInt8) (m k : Nat) : (synP l m k).length = m := by unfold synP; simp
theorem synP_get (l : List UInt8) {m k j : Nat} (h : j < m) : (synP l m k)[j]? = some (if j < k then syn l j else 0) := by
  unfold synP
  rw [List.getElem?_map, List.getElem?_range h]
  rfl
theorem synP_zero (l : List UInt8) (m : Nat) : synP l m 0 = List.replicate m 0 := by
  refine List.ext_getElem? fun j => ?_
  rcases Nat.lt_or_ge j m with h | h
  · rw [synP_get l h, if_neg (by omega), List.getElem?_replicate, if_pos h]
  · rw [List.getElem?_eq_none (by rw [synP_length]; exact h), List.getElem?_eq_none (by simpa using h)]
theorem synP_succ (l : List UInt8) {m k : Nat} (h : k < m) : (synP l m k).set k (syn l k) = synP l m (k + 1) := by
  refine List.ext_getElem? fun j => ?_
  rw [List.getElem?_set]
  rcases Nat.lt_or_ge j m with h1 | h1
  · rw [synP_get l h1, synP_get l h1]
    by_cases e : k = j
    · subst e; rw [if_pos rfl, if_pos (by rw [synP_length]; exact h), if_pos (by omega)]
    · rw [if_neg e]
      by_cases e2 : j < k
      · rw [if_pos e2, if_pos (by omega)]
      · rw [if_neg e2, if_neg (by omega)]
  · rw [List.getElem?_eq_none (by rw [synP_length]; exact h1), List.getElem?_eq_none (by rw [synP_length]; exact h1)]
    split
    · rename_i e
      rw [if_neg (by rw [synP_length]; omega)]
    · rfl
theorem synP_all (l : List UInt8) (m : Nat) : synP l m m = synL l m := by
  refine List.ext_getElem? fun j => ?_
  rcases Nat.lt_or_ge j m with h | h
  · rw [synP_get l h, if_pos h, wd_lt (by rw [synL_length]; exact h), wd_synL l h]
  · rw [List.getElem?_eq_none (by rw [synP_length]; exact h), List.getElem?_eq_none (by rw [synL_length]; exact h)]
theorem hor_step (x : UInt8) (l : List UInt8) {i : Nat} {b : UInt8} (h : l[i]? = some b) : hor x (l.take (i + 1)) = Gf.gmul (hor x (l.take i)) x ^^^ b := by
  rw [List.take_add_one, h]
  exact hor_snoc x _ b
end Sy
def RSyn (w : World) (L : List Ob) (word : List UInt8) (m : Nat) (v : Value) (wr : World) : Prop := ∃ k : Nat, k ≤ m ∧ v = .int .i64 (k : Int) ∧ Hid (Ow w wr none [] L [⟨some ⟨w.heap.size, 0, none⟩, m, m, 5, bys (Sy.synP word m k)⟩])
def RSyn2 (w : World) (L : List Ob) (word : List UInt8) (m k n : Nat) (v : Value) (wr : World) : Prop := ∃ i : Nat, i ≤ n ∧ v = .int .i64 (i : Int) ∧ Hid (Ow w wr none [] L [⟨some ⟨w.heap.size, 0, none⟩, m, m, 5, bys ((Sy.synP word m k).set k (Sy.hor (Gf.gpow 2 k) (word.take i)))⟩])
set_option maxHeartbeats 2000000 in
theorem syndromes_any (A : Option Addr) (n c m : Nat) (word : List UInt8) (w : World) (hn : word.length = n) (hs : Sl w w.heap.size A (bys word)) (hnc : n ≤ c) (hl : n ≤ 1000) (hm : m ≤ 200) :
    Calls Tryz.prog 93 #[.slice A n c, .int .i64 (m : Int)] w (FreshB w (Sy.synL word m)) := by
  have H1 := ((Ow.of (St.refl w)).old hs (by rw [bys_length]; exact hn) hnc hl).made 5 (.int .u8 0) m m rfl (Nat.le_refl _) (by unfold maxLen; omega)
  rw [bys_zeros, ← Sy.synP_zero word m] at H1
  have HH := Lib.hid H1
  have HN := Lib.hid hn
  have hmk := elemB.make .i64 .i64 (m : Int) (m : Int) m m rfl rfl (Nat.le_refl _) (by omega) (by omega) w
  clear H1 hs hn
  go_enter Tryz.func93, Tryz.ntmps93
  go_wp2_with fail
  go_loopw [14] (fun v wr => RSyn w [⟨A, n, c, bys word⟩] word m v wr) (fun v _ => m - (intOf v).toNat)
  case atStart => exact ⟨0, Nat.zero_le _, rfl, HH.out⟩
  case round =>
    obtain ⟨k, hk, rfl, HO⟩ := hrel
    clear hmk
    rcases Nat.lt_or_ge k m with h | h
    · have hd : decide ((k : Int) < (m : Int)) = true := decide_eq_true (by omega)
      have HZ := Lib.hid (Sy.zpow_nat (show k < 255 by omega))
      go_wp2_with (go_at_call 135; ((with_reducible refine (exp_any _ _).mono ?_); rw [HZ.out]; rintro e w' ⟨rfl, rfl⟩))
      go_loopw [21] (fun v wr2 => RSyn2 w [⟨A, n, c, bys word⟩] word m k n v wr2) (fun v _ => n - (intOf v).toNat)
      case atStart =>
        refine ⟨0, Nat.zero_le _, rfl, ?_⟩
        have e : (Sy.synP word m k).set k (Sy.hor (Gf.gpow 2 k) (word.take 0)) = Sy.synP word m k := by
          have h1 := Sy.synP_get word (m := m) (k := k) h
          rw [if_neg (by omega)] at h1
          obtain ⟨h2, h3⟩ := List.getElem?_eq_some_iff.1 h1
          show (Sy.synP word m k).set k 0 = _
          conv => lhs; rw [← h3]
          exact List.set_getElem_self h2
        rw [e]
        exact HO.out
      case round =>
        obtain ⟨i, hi, rfl, HI⟩ := hrel
        rcases Nat.lt_or_ge i n with h2 | h2
        · have hd2 : decide ((i : Int) < (n : Int)) = true := decide_eq_true (by omega)
          obtain ⟨b, hb⟩ := byte_at word i (by rw [HN.out]; exact h2)
          obtain ⟨ad, rfl, hcx⟩ := HI.out.byteL 0 rfl hb
          obtain ⟨v, hv⟩ : ∃ v, v = Sy.hor (Gf.gpow 2 k) (word.take i) := ⟨_, rfl⟩
          rw [← hv] at HI
          have hck := HI.out.byteO 0 rfl (k := k) (b := v) (by rw [List.getElem?_set_self (by rw [Sy.synP_length]; exact h)])
          have hfk := HI.out.frzO 0 rfl k
          obtain ⟨z, hz, HZ2⟩ := xor_ex (Gf.gmul v (Gf.gpow 2 k)) b
          have HS := Lib.hid (Sy.hor_step (Gf.gpow 2 k) word hb)
          have HV := Lib.hid hv
          clear hb hv
          go_wp2_with (go_at_call 136; ((with_reducible refine (mul_any _ _ _).mono ?_); rintro e w' ⟨rfl, rfl⟩))
          go_roundw
          case rel =>
            refine ⟨i + 1, by omega, by go_num, ?_⟩
            have h5 := HI.out.putB 0 rfl k z
            rw [HS.out, ← HV.out, ← HZ2.out]
            rw [List.set_set] at h5
            exact h5
          case measure => simp [intOf]; omega
        · have hd2 : decide ((i : Int) < (n : Int)) = false := decide_eq_false (by omega)
          have hin : i = n := by omega
          go_wp2_with fail
          go_roundw
          case rel =>
            refine ⟨k + 1, by omega, by go_num, ?_⟩
            have h5 := HI.out
            rw [hin, List.take_of_length_le (by rw [HN.out]; exact Nat.le_refl _)] at h5
            rw [← Sy.synP_succ word h]
            exact h5
          case measure => simp [intOf]; omega
    · have hd : decide ((k : Int) < (m : Int)) = false := decide_eq_false (by omega)
      have hkm : k = m := by omega
      go_wp2_with fail
      go_ret
      have h5 := HO.out
      rw [hkm, Sy.synP_all] at h5
      exact freshB_of h5 0 rfl
end Go.Proofs.YtnplaejlmbncfaaGreatDoor

namespace Go.Proofs.YtnplaejlmbncfaaGreatDoor
open Go.RowKit
set_option linter.unusedVariables false
set_option maxRecDepth 100000

def MulLoop (w : World) (p q : List UInt8) (g n m : Nat) (v : Value) (wr : World) : Prop :=
  ∃ k : Nat, k ≤ n ∧ v = .int .i64 (k : Int) ∧ wr.ownsRow w.heap.size 5 1 (.slice (some ⟨g, 0, none⟩) (n + m - 1) (n + m - 1)) (n + m - 1) (bys (Po.mulTo p q k)) ∧ w.grownBy wr none
set_option maxHeartbeats 1000000 in
theorem pmul_any (A A2 : Option Addr) (n c m c2 : Nat) (p q : List UInt8) (w : World) (hn : p.length = n) (hm : q.length = m) (hp : Sl w w.heap.size A (bys p)) (hq : Sl w w.heap.size A2 (bys q))
    (hl : n ≤ 140737488355328) (hl2 : m ≤ 140737488355328) :
    Calls Tryz.prog 134 #[.slice A n c, .slice A2 m c2] w (ResB w (Po.mulR p q) (Po.mulE p q)) := by
  obtain ⟨i0, hi, hz0, hz1, hz2⟩ := info_parts infoB
  have HV1 := Lib.hid (valid_any A n c _ p w hn hp (by omega))
  have HV2 := Lib.hid (valid_any A2 m c2 _ q w hm hq (by omega))
  cases hv : (Po.vld p && Po.vld q)
  · obtain ⟨hr, he⟩ := Po.mul_no hv
    have HR := Lib.hid hr
    have HE := Lib.hid he
    clear hr he
    cases hv1 : Po.vld p
    · rw [hv1] at HV1
      clear hp hq hn hm hv hv1
      go_enter Tryz.func134, Tryz.ntmps134
      go_wp2_with fail
      refine HV1.out.mono ?_
      rintro e w1 ⟨rfl, rfl⟩
      go_wp2_with fail
      go_ret2
      rw [HR.out, HE.out]
      exact resB_nil _ _ _ (Below.refl _ _)
    · have hv2 : Po.vld q = false := by rw [hv1] at hv; simpa using hv
      rw [hv1] at HV1
      rw [hv2] at HV2
      clear hp hq hn hm hv hv1 hv2
      go_enter Tryz.func134, Tryz.ntmps134
      go_wp2_with fail
      refine HV1.out.mono ?_
      rintro e w1 ⟨rfl, rfl⟩
      go_wp2_with fail
      refine HV2.out.mono ?_
      rintro e w1 ⟨rfl, rfl⟩
      go_wp2_with fail
      go_ret2
      rw [HR.out, HE.out]
      exact resB_nil _ _ _ (Below.refl _ _)
  · have hvv : Po.vld p = true ∧ Po.vld q = true := by simpa using hv
    rw [hvv.1] at HV1
    rw [hvv.2] at HV2
    have h255 : n ≤ 255 ∧ m ≤ 255 := ⟨by rw [← hn]; exact Po.vld_len hvv.1, by rw [← hm]; exact Po.vld_len hvv.2⟩
    obtain ⟨h1, h2⟩ := h255
    clear hvv
    rcases Nat.eq_zero_or_pos n with hn0 | hn0
    · obtain ⟨hr, he⟩ := Po.mul_empty hv (.inl (hn.trans hn0))
      have HR := Lib.hid hr
      have HE := Lib.hid he
      clear hr he hp hq hn hm hv
      subst hn0
      go_enter Tryz.func134, Tryz.ntmps134
      go_wp2_with fail
      refine HV1.out.mono ?_
      rintro e w1 ⟨rfl, rfl⟩
      go_wp2_with fail
      refine HV2.out.mono ?_
      rintro e w1 ⟨rfl, rfl⟩
      go_wp2_with fail
      go_ret2
      rw [HR.out, HE.out]
      exact resB_nil _ _ _ (Below.refl _ _)
    rcases Nat.eq_zero_or_pos m with hm0 | hm0
    · obtain ⟨hr, he⟩ := Po.mul_empty hv (.inr (hm.trans hm0))
      have HR := Lib.hid hr
      have HE := Lib.hid he
      have hz := nat_ne0 hn0
      clear hr he hp hq hn hm hv
      subst hm0
      go_enter Tryz.func134, Tryz.ntmps134
      go_wp2_with fail
      refine HV1.out.mono ?_
      rintro e w1 ⟨rfl, rfl⟩
      go_wp2_with fail
      refine HV2.out.mono ?_
      rintro e w1 ⟨rfl, rfl⟩
      go_wp2_with fail
      go_ret2
      rw [HR.out, HE.out]
      exact resB_nil _ _ _ (Below.refl _ _)
    have hz := nat_ne0 hn0
    have hz2' := nat_ne0 hm0
    rcases Nat.lt_or_ge 255 (n + m - 1) with hnm | hnm
    · obtain ⟨hr, he⟩ := Po.mul_long hv (by omega) (by omega) (by omega)
      have HR := Lib.hid hr
      have HE := Lib.hid he
      have hlo : 255 < (n : Int) + m - 1 := by omega
      clear hr he hp hq hn hm hv
      go_enter Tryz.func134, Tryz.ntmps134
      go_wp2_with fail
      refine HV1.out.mono ?_
      rintro e w1 ⟨rfl, rfl⟩
      go_wp2_with fail
      refine HV2.out.mono ?_
      rintro e w1 ⟨rfl, rfl⟩
      go_wp2_with fail
      go_ret2
      rw [HR.out, HE.out]
      exact resB_nil _ _ _ (Below.refl _ _)
    · obtain ⟨hr, he⟩ := Po.mul_some hv (by omega) (by omega) (by omega)
      have HR := Lib.hid hr
      have HE := Lib.hid he
      have hlo : (n : Int) + m - 1 ≤ 255 := by omega
      have HN := Lib.hid hn
      have HM := Lib.hid hm
      have HQ := Lib.hid hq
      have HL : Hid (∀ k, (Po.mulTo p q k).length = n + m - 1) := fun k => by rw [Po.mulTo_length, hn, hm]
      have H0 : Hid (List.replicate (n + m - 1) 0 = Po.mulTo p q 0) := by unfold Hid; rw [Po.mulTo, hn, hm]
      clear hr he hq hn hm hv
      go_enter Tryz.func134, Tryz.ntmps134
      go_wp2_with fail
      refine HV1.out.mono ?_
      rintro e w1 ⟨rfl, rfl⟩
      go_wp2_with fail
      refine HV2.out.mono ?_
      rintro e w1 ⟨rfl, rfl⟩
      go_wp2_with (at_make; refine wpList_make_full _ rfl (.tmp 40) (.tmp 40) 30 rfl w.heap.size 5 i0 (.int .u8 0) 1 Tryz.underlying30 hi hz0 hz1 _ _ _ _ (n + m - 1) rfl rfl (by omega) (by omega) (by rw [hz2]; omega) (by unfold maxLen; omega) (Nat.le_refl _) ?_; intro w2 hown2 hg2)
      rw [made_bys, H0.out] at hown2
      have hrow := own_block hown2
      go_loopw [44] (fun v wr => MulLoop w p q w.heap.size n m v wr) (fun v _ => n - (intOf v).toNat)
      case atStart => exact ⟨0, Nat.zero_le _, rfl, hown2, hg2⟩
      case round =>
        clear hown2 hg2
        obtain ⟨k, hk, rfl, ho, hg⟩ := hrel
        have HG := Lib.hid hg
        have HO := Lib.hid ho
        clear hg ho
        rcases Nat.lt_or_ge k n with hkn | hkn
        · obtain ⟨b, hb⟩ := byte_at p k (by rw [HN.out]; exact hkn)
          have HS := Lib.hid (Po.mulTo_succ p q k b hb)
          obtain ⟨ad, rfl, hbk, hc⟩ := (hp.grown HG.out (Nat.le_refl _) (fun _ e => by cases e)).byte hb
          clear hb hp
          go_wp2_with fail
          refine (add_any _ A2 (n + m - 1) (n + m - 1) m c2 w.heap.size w.heap.size _ q b k wr (HL.out k) HM.out HO.out (HQ.out.grown HG.out (Nat.le_refl _) (fun _ e => by cases e)) (Nat.le_refl _) HG.out.size (by omega) (by omega)).mono ?_
          rintro e w3 ⟨rfl, ho3, hg3⟩
          rw [← HS.out] at ho3
          have HO3 := Lib.hid ho3
          have HG3 := Lib.hid (grown_far HG.out hg3 hrow)
          clear ho3 hg3
          go_wp2_with fail
          go_roundw
          case rel => exact ⟨k + 1, by omega, by go_num, HO3.out, HG3.out⟩
          case measure => simp [intOf]; omega
        · have hkn' : k = n := by omega
          have HO' : Hid (wr.ownsRow w.heap.size 5 1 (.slice (some ⟨w.heap.size, 0, none⟩) (n + m - 1) (n + m - 1)) (n + m - 1) (bys (Po.mulA p q))) := by
            unfold Hid Po.mulA
            rw [HN.out]
            have h' := HO.out
            rw [hkn'] at h'
            exact h'
          have hlen : Hid ((Po.mulA p q).length = n + m - 1) := HL.out _
          clear hp
          go_wp2_with fail
          go_ret2
          rw [HR.out, HE.out]
          exact ⟨_, _, _, rfl, hlen.out, HO'.out, below_of_grown HG.out⟩
end Go.Proofs.YtnplaejlmbncfaaGreatDoor

namespace Go.Proofs.YtnplaejlmbncfaaGreatDoor
open Go.RowKit
set_option linter.unusedVariables false
set_option maxRecDepth 100000
def RGen (w : World) (m : Nat) (s v : Value) (wr : World) : Prop := ∃ (k : Nat) (A : Option Addr) (c : Nat), k ≤ m ∧ v = .int .i64 (k : Int) ∧ s = .slice A (k + 1) c ∧ Hid (Ow w wr none [] [] [⟨A, k + 1, c, 5, bys (Sy.gen k)⟩])
set_option maxHeartbeats 2000000 in
theorem generator_any (m : Nat) (hm : m ≤ 200) (w : World) : Calls Tryz.prog 91 #[.int .i64 (m : Int)] w (FreshB w (Sy.gen m)) := by
  have H1 := (Ow.of (St.refl w)).arr #[.int .u8 1] 1 rfl (by omega) 5
  have HH := Lib.hid H1
  clear H1
  go_enter Tryz.func91, Tryz.ntmps91
  go_wp2_with fail
  go_loopw [3, 7] (fun s v wr => RGen w m s v wr) (fun _ v _ => m - (intOf v).toNat)
  case atStart => exact ⟨0, _, 1, Nat.zero_le _, rfl, rfl, HH.out⟩
  case round =>
    obtain ⟨k, A, c, hk, rfl, rfl, HO⟩ := hrel
    rcases Nat.lt_or_ge k m with h | h
    · have hd : decide ((k : Int) < (m : Int)) = true := decide_eq_true (by omega)
      have HZ := Lib.hid (Sy.zpow_nat (show k < 255 by omega))
      have hg := Sy.gen_ok k (by omega)
      have H2 := HO.out.arr #[.int .u8 ((Gf.gpow 2 k).toNat : Int), .int .u8 1] 2 rfl (by omega) 5
      have HM : Hid (Po.mulR (Sy.gen k) [Gf.gpow 2 k, 1] = Sy.gen (k + 1) ∧ Po.mulE (Sy.gen k) [Gf.gpow 2 k, 1] = 0) := Po.mulR_ok hg.1 (Po.vld_lin _) (by rw [hg.2]; simp; omega)
      have HP := Lib.hid (pmul_any A (some ⟨wr.heap.size, 0, none⟩) (k + 1) c 2 2 (Sy.gen k) [Gf.gpow 2 k, 1] _ hg.2 rfl (Sl.of_own (H2.row 0 rfl)) (Sl.of_own (H2.row 1 rfl)) (by omega) (by omega))
      have HO2 := Lib.hid H2
      clear H2 hg
      go_wp2_with (first | (go_at_call 135; ((with_reducible refine (exp_any _ _).mono ?_); rw [HZ.out]; rintro e w' ⟨rfl, rfl⟩)) | (go_at_call 134; refine HP.out.mono ?_; rw [HM.out.1, HM.out.2]; rintro e w' ⟨A', n', c', rfl, hn', ho, hb⟩; have hn2 := (Sy.gen_ok (k + 1) (by omega)).2; obtain rfl : k + 1 + 1 = n' := hn2.symm.trans hn'; have HO3 := Lib.hid ((HO2.out.add ho hb).tail.tail); clear ho hb hn' hn2))
      go_roundw
      case rel => exact ⟨k + 1, _, _, by omega, by go_num, rfl, HO3.out⟩
      case measure => simp [intOf]; omega
    · have hd : decide ((k : Int) < (m : Int)) = false := decide_eq_false (by omega)
      have hkm : k = m := by omega
      go_wp2_with fail
      go_ret
      have h5 := HO.out
      rw [hkm] at h5 ⊢
      exact freshB_of h5 0 rfl
/-- the cells of a code in a variable -/
structure Cd (d m f : Nat) : Prop where
  d1 : 1 ≤ d
  d2 : d ≤ 32
  m1 : 1 ≤ m
  m2 : m ≤ 8
  f2 : f ≤ 100
def cdv (d m f : Nat) : Array Value := #[.int .i64 2, .int .i64 (d : Int), .int .i64 (m : Int), .int .i64 (f : Int)]
set_option maxHeartbeats 2000000 in
theorem validcode_any {d m f : Nat} (h : Cd d m f) (w : World) : Calls Tryz.prog 56 #[.agg #[.int .i64 2, .int .i64 (d : Int), .int .i64 (m : Int), .int .i64 (f : Int)]] w fun e w' => e = .returned (.bool (decide (f ≤ m / 2))) ∧ Below w.heap.size w w' := by
  obtain ⟨h1, h2, h3, h4, h5⟩ := h
  have H1 := (Ow.of (St.refl w)).arr (cdv d m f) 4 rfl (by omega) 28
  have hc0 : (w.alloc (.cells #[.int .i64 2, .int .i64 (d : Int), .int .i64 (m : Int), .int .i64 (f : Int)] 28)).cell? ⟨w.heap.size, 0, none⟩ = some (.int .i64 2) := (H1.row 0 rfl).cellAt 0 (by decide)
  have hc1 : (w.alloc (.cells #[.int .i64 2, .int .i64 (d : Int), .int .i64 (m : Int), .int .i64 (f : Int)] 28)).cell? ⟨w.heap.size, 1, none⟩ = some (.int .i64 (d : Int)) := (H1.row 0 rfl).cellAt 1 (by decide)
  have hc2 : (w.alloc (.cells #[.int .i64 2, .int .i64 (d : Int), .int .i64 (m : Int), .int .i64 (f : Int)] 28)).cell? ⟨w.heap.size, 2, none⟩ = some (.int .i64 (m : Int)) := (H1.row 0 rfl).cellAt 2 (by decide)
  have hc3 : (w.alloc (.cells #[.int .i64 2, .int .i64 (d : Int), .int .i64 (m : Int), .int .i64 (f : Int)] 28)).cell? ⟨w.heap.size, 3, none⟩ = some (.int .i64 (f : Int)) := (H1.row 0 rfl).cellAt 3 (by decide)
  have HB : Hid (Below w.heap.size w (w.alloc (.cells #[.int .i64 2, .int .i64 (d : Int), .int .i64 (m : Int), .int .i64 (f : Int)] 28))) := H1.below
  have t1 : decide ((1 : Int) ≤ (d : Int)) = true := decide_eq_true (by omega)
  have t2 : decide ((d : Int) ≤ 32) = true := decide_eq_true (by omega)
  have t3 : decide ((1 : Int) ≤ (m : Int)) = true := decide_eq_true (by omega)
  have t4 : decide ((m : Int) ≤ 8) = true := decide_eq_true (by omega)
  have t5 : decide ((0 : Int) ≤ (f : Int)) = true := decide_eq_true (by omega)
  have HD : Hid (decide ((f : Int) ≤ (m : Int) / 2) = decide (f ≤ m / 2)) := by
    unfold Hid
    rw [decide_eq_decide]
    omega
  clear H1
  go_enter Tryz.func56, Tryz.ntmps56
  go_wp2_with fail
  go_ret
  exact ⟨ret_bool HD.out, HB.out⟩
section
variable {w0 w w' : World} {g : Option Nat} {M : List (Nat × Value)} {L : List Ob} {O : List Rw}
theorem Ow.code (h : Ow w0 w g M L O) (d m f : Nat) : Ow w0 (w.alloc (.cells #[.int .i64 2, .int .i64 (d : Int), .int .i64 (m : Int), .int .i64 (f : Int)] 28)) g M L (O ++ [⟨some ⟨w.heap.size, 0, none⟩, 4, 4, 28, (cdv d m f).toList⟩]) := h.arr (cdv d m f) 4 rfl (by omega) _
theorem Ow.cdc (h : Ow w0 w g M L O) (i : Nat) {b d m f : Nat} (hi : O[i]? = some ⟨some ⟨b, 0, none⟩, 4, 4, 28, (cdv d m f).toList⟩) : w.cell? ⟨b, 0, none⟩ = some (.int .i64 2) ∧ w.cell? ⟨b, 1, none⟩ = some (.int .i64 (d : Int)) ∧ w.cell? ⟨b, 2, none⟩ = some (.int .i64 (m : Int)) ∧ w.cell? ⟨b, 3, none⟩ = some (.int .i64 (f : Int)) :=
  ⟨(h.row i hi).cellAt 0 (by decide), (h.row i hi).cellAt 1 (by decide), (h.row i hi).cellAt 2 (by decide), (h.row i hi).cellAt 3 (by decide)⟩
end
set_option maxHeartbeats 2000000 in
theorem good_any {d m f : Nat} (h : Cd d m f) (w : World) : Calls Tryz.prog 86 #[.agg #[.int .i64 2, .int .i64 (d : Int), .int .i64 (m : Int), .int .i64 (f : Int)]] w fun e w' => e = .returned (.bool (decide (f ≤ m / 2))) ∧ Below w.heap.size w w' := by
  have H1 := (Ow.of (St.refl w)).code d m f
  obtain ⟨hc0, hc1, hc2, hc3⟩ := H1.cdc 0 rfl
  have HO := Lib.hid H1
  have HV := Lib.hid (fun W => validcode_any h W)
  clear H1 h
  rcases Nat.lt_or_ge (m / 2) f with hf | hf
  · have hd : decide (f ≤ m / 2) = false := decide_eq_false (by omega)
    rw [hd] at HV ⊢
    go_enter Tryz.func86, Tryz.ntmps86
    go_wp2_with (go_at_call 56; refine (HV.out _).mono ?_; rintro e w' ⟨rfl, hb⟩; have HB := Lib.hid (HO.out.go hb); obtain ⟨hd0, hd1, hd2, hd3⟩ := HB.out.cdc 0 rfl; clear hb)
    go_ret
    exact ⟨rfl, HB.out.below⟩
  · have hd : decide (f ≤ m / 2) = true := decide_eq_true (by omega)
    rw [hd] at HV ⊢
    go_enter Tryz.func86, Tryz.ntmps86
    go_wp2_with (go_at_call 56; refine (HV.out _).mono ?_; rintro e w' ⟨rfl, hb⟩; have HB := Lib.hid (HO.out.go hb); obtain ⟨hd0, hd1, hd2, hd3⟩ := HB.out.cdc 0 rfl; clear hb)
    go_ret
    exact ⟨rfl, HB.out.below⟩
end Go.Proofs.YtnplaejlmbncfaaGreatDoor

namespace Go.Proofs.YtnplaejlmbncfaaGreatDoor
open Go.RowKit
set_option linter.unusedVariables false
set_option maxRecDepth 100000
theorem nonzero_any (b : UInt8) (w : World) : Calls Tryz.prog 138 #[.int .u8 (b.toNat : Int)] w fun e w' => e = .returned (.bool (b != 0)) ∧ w = w' := by
  have H : Hid (((b.toNat : Int) != 0) = (b != 0)) := u8_bne0 b
  have hb := u8_lt b
  go_enter Tryz.func138, Tryz.ntmps138
  go_wp2_with fail
  go_ret
  exact ⟨ret_bool H.out, rfl⟩
set_option maxHeartbeats 2000000 in
theorem indexB_any (A : Option Addr) (n c : Nat) (l : List UInt8) (w : World) (hn : l.length = n) (hs : Sl w w.heap.size A (bys l)) (hl : n ≤ 1000) :
    Calls Tryz.prog 172 #[.slice A n c, .func (.func 138) #[] #[]] w fun e w' => ∃ z : Int, e = .returned (.int .i64 z) ∧ -1 ≤ z ∧ z ≤ 1000 ∧ decide (0 ≤ z) = l.any (fun x => x != 0) ∧ w = w' := by
  have HN := Lib.hid hn
  have HS := Lib.hid hs
  have HF := Lib.hid nonzero_any
  clear hn hs
  go_enter Tryz.func172, Tryz.ntmps172
  go_wp2_with fail
  go_loopw [8] (fun v wr => ∃ k : Nat, k ≤ n ∧ v = .int .i64 (k : Int) ∧ wr = w ∧ Hid ((l.take k).any (fun x => x != 0) = false)) (fun v _ => n - (intOf v).toNat)
  case atStart => exact ⟨0, Nat.zero_le _, rfl, rfl, rfl⟩
  case round =>
    obtain ⟨k, hk, rfl, rfl, HK⟩ := hrel
    rcases Nat.lt_or_ge k n with h | h
    · have hd : decide ((k : Int) < (n : Int)) = true := decide_eq_true (by omega)
      obtain ⟨b, hb⟩ := byte_at l k (by rw [HN.out]; exact h)
      obtain ⟨ad, rfl, -, hc⟩ := HS.out.byte hb
      have HT : Hid (l.take (k + 1) = l.take k ++ [b]) := by unfold Hid; rw [List.take_add_one, hb]; rfl
      have HB := Lib.hid hb
      clear hb
      cases hz : (b != 0) with
      | true =>
        have HZ := Lib.hid hz
        clear hz
        go_wp2_with (refine (HF.out b _).mono ?_; rw [HZ.out]; rintro e w' ⟨rfl, rfl⟩)
        go_ret
        refine ⟨(k : Int), rfl, by omega, by omega, ?_, rfl⟩
        rw [decide_eq_true (by omega)]
        symm
        rw [List.any_eq_true]
        exact ⟨b, List.mem_of_getElem? HB.out, HZ.out⟩
      | false =>
        have HZ := Lib.hid hz
        clear hz
        go_wp2_with (refine (HF.out b _).mono ?_; rw [HZ.out]; rintro e w' ⟨rfl, rfl⟩)
        go_roundw
        case rel =>
          refine ⟨k + 1, by omega, by go_num, by first | exact trivial | rfl, ?_⟩
          unfold Hid
          rw [HT.out, List.any_append, HK.out]
          simp only [List.any_cons, List.any_nil, HZ.out]
          rfl
        case measure => simp [intOf]; omega
    · have hd : decide ((k : Int) < (n : Int)) = false := decide_eq_false (by omega)
      go_wp2_with fail
      go_ret
      refine ⟨-1, rfl, by omega, by omega, ?_, rfl⟩
      have h5 := HK.out
      rw [List.take_of_length_le (by rw [HN.out]; exact h)] at h5
      rw [h5]
      rfl
theorem clean_any (A : Option Addr) (n c : Nat) (l : List UInt8) (w : World) (hn : l.length = n) (hs : Sl w w.heap.size A (bys l)) (hl : n ≤ 1000) :
    Calls Tryz.prog 94 #[.slice A n c] w fun e w' => e = .returned (.bool (Sy.isClean l)) ∧ w = w' := by
  have HI := Lib.hid (indexB_any A n c l w hn hs hl)
  have HC : Hid (Calls Tryz.prog 137 #[.slice A n c, .func (.func 138) #[] #[]] w fun e w' => e = .returned (.bool (l.any fun x => x != 0)) ∧ w = w') := by
    unfold Hid
    clear hn hs
    go_enter Tryz.func137, Tryz.ntmps137
    go_wp2_with fail
    refine HI.out.mono ?_
    rintro e w' ⟨z, rfl, h1, h2, h3, rfl⟩
    have H3 := Lib.hid h3
    clear h3
    go_wp2_with fail
    go_ret
    exact ⟨ret_bool H3.out, rfl⟩
  clear hn hs HI
  go_enter Tryz.func94, Tryz.ntmps94
  go_wp2_with fail
  refine HC.out.mono ?_
  rintro e w' ⟨rfl, rfl⟩
  go_wp2_with fail
  go_ret
  exact ⟨rfl, rfl⟩
theorem locator_any (n p : Nat) (hn : n ≤ 255) (hp : p < n) (w : World) : Calls Tryz.prog 139 #[.int .i64 (n : Int), .int .i64 (p : Int)] w fun e w' => e = .returned (.int .u8 ((Sy.loc n p).toNat : Int)) ∧ w = w' := by
  have HE : Hid (Gf.zpow 2 ((n : Int) - 1 - (p : Int)) = Sy.loc n p) := by
    unfold Hid
    rw [show (n : Int) - 1 - (p : Int) = ((n - 1 - p : Nat) : Int) by omega, Sy.zpow_nat (by omega)]
    rfl
  go_enter Tryz.func139, Tryz.ntmps139
  go_wp2_with (go_at_call 135; ((with_reducible refine (exp_any _ _).mono ?_); rw [HE.out]; rintro e w' ⟨rfl, rfl⟩))
  go_ret
  exact ⟨rfl, rfl⟩
end Go.Proofs.YtnplaejlmbncfaaGreatDoor

namespace Go.Proofs.YtnplaejlmbncfaaGreatDoor
set_option linter.unusedVariables false
set_option maxRecDepth 100000
section
variable {P : Program} {md : Region.Mode} {ops : Array Oper} {Q : Exit → Act → World → Prop}
/-- every edge that binds leads back -/
def backE (md : Region.Mode) (ops : Array Oper) : Bool := (List.range ops.size).all fun i => ((ops[i]?).map fun o => o.after.all fun e => !Region.binds md e || decide (e.on < i)).getD true
theorem ready_none4 {l : Array Bool} (hb : backE md ops = true) (h : Region.ready md ops l = []) : ∀ j, j < ops.size → l.getD j true = true := by
  intro j
  induction j using Nat.strongRecOn with
  | _ j ih =>
    intro hj
    cases hl : l.getD j true with
    | true => rfl
    | false =>
      exfalso
      have : j ∈ Region.ready md ops l := by
        unfold Region.ready
        rw [List.mem_filter]
        refine ⟨List.mem_range.2 hj, ?_⟩
        rw [hl]
        have ho : ops[j]? = some ops[j] := Array.getElem?_eq_getElem hj
        have hbj := List.all_eq_true.1 hb j (List.mem_range.2 hj)
        rw [ho] at hbj
        have hbj' : (ops[j].after.all fun e => !Region.binds md e || decide (e.on < j)) = true := hbj
        rw [ho]
        show (!false && (ops[j].after.all fun e => !Region.binds md e || l.getD e.on false)) = true
        rw [Bool.not_false, Bool.true_and, Array.all_eq_true_iff_forall_mem]
        intro e he
        have h50 := Array.all_eq_true_iff_forall_mem.1 hbj' e he
        cases hbi : Region.binds md e with
        | false => rfl
        | true =>
        rw [hbi] at h50
        have h5 : e.on < j := of_decide_eq_true h50
        have h6 := ih e.on h5 (by omega)
        have h7 : l.getD e.on false = true := by
          rw [Array.getD_eq_getD_getElem?] at h6 ⊢
          rcases Nat.lt_or_ge e.on l.size with h8 | h8
          · rw [Array.getElem?_eq_getElem h8] at h6 ⊢; exact h6
          · exfalso
            have h9 : l.size ≤ j := by omega
            rw [Array.getD_eq_getD_getElem?, Array.getElem?_eq_none h9] at hl
            cases hl
        rw [h7, Bool.or_true]
      rw [h] at this
      cases this
theorem reg_inv_go4 (Inv : (Nat → Bool) → Act → World → Prop) (hb : backE md ops = true)
    (hstep : ∀ j L a w, j < ops.size → L j = false → (∀ o, ops[j]? = some o → ∀ e ∈ o.after, Region.binds md e = true → L e.on = true) → Inv L a w → wpOp P ops Q j (Inv (dset L j)) a w)
    (hend : ∀ L a w, (∀ i, i < ops.size → L i = true) → Inv L a w → Q .normal a w) : ∀ (n : Nat) (l : Array Bool) (a : Act) (w : World), l.size = ops.size → (l.toList.countP (· == false)) ≤ n →
      Inv (fun i => l.getD i false) a w → wpAny P md ops Q n l a w := by
  intro n
  have fin : ∀ (l : Array Bool) (a : Act) (w : World), l.size = ops.size → Inv (fun i => l.getD i false) a w → Region.ready md ops l = [] → Q .normal a w := fun l a w hs hi hr => by
    refine hend _ a w (fun i hi => ?_) hi
    have h1 := ready_none4 hb hr i hi
    rw [Array.getD_eq_getD_getElem?] at h1 ⊢
    rw [Array.getElem?_eq_getElem (by omega)] at h1 ⊢
    exact h1
  induction n with
  | zero =>
    intro l a w hs hc hi
    have hr : Region.ready md ops l = [] := by
      cases e : Region.ready md ops l with
      | nil => rfl
      | cons j r =>
        exfalso
        obtain ⟨h1, h2, _⟩ := mem_ready (md := md) (ops := ops) (l := l) (j := j) (by rw [e]; exact List.mem_cons_self)
        have h3 : l.toList.countP (· == false) = 0 := by omega
        rw [List.countP_eq_zero] at h3
        rw [Array.getD_eq_getD_getElem?, Array.getElem?_eq_getElem (by omega)] at h2
        have h4 : j < l.size := by omega
        exact h3 _ (Array.mem_toList_iff.2 (Array.getElem_mem h4)) (by simpa using h2)
    exact ⟨hr, fin l a w hs hi hr⟩
  | succ n ih =>
    intro l a w hs hc hi
    refine ⟨fin l a w hs hi, fun j hj => ?_⟩
    obtain ⟨h1, h2, h3⟩ := mem_ready hj
    have hjl : j < l.size := by omega
    have h2' : l[j] = false := by rw [Array.getD_eq_getD_getElem?, Array.getElem?_eq_getElem hjl] at h2; exact h2
    have e1 : (fun i => (l.setIfInBounds j true).getD i false) = dset (fun i => l.getD i false) j := by
      funext i
      unfold dset
      by_cases e : i = j
      · subst e
        rw [if_pos rfl, Array.getD_eq_getD_getElem?, Array.getElem?_setIfInBounds_self_of_lt hjl]; rfl
      · rw [if_neg e, Array.getD_eq_getD_getElem?, Array.getElem?_setIfInBounds_ne (fun e' => e e'.symm)]
        exact (Array.getD_eq_getD_getElem? ..).symm
    refine wpOp_mono (fun a' w' h => ih _ a' w' (by rw [Array.size_setIfInBounds]; exact hs) ?_ (by rw [e1]; exact h)) (hstep j _ a w h1 (by show l.getD j false = false; rw [Array.getD_eq_getD_getElem?, Array.getElem?_eq_getElem hjl]; exact h2') h3 hi)
    have h5 : (l.setIfInBounds j true).toList = l.toList.set j true := by simp
    rw [h5]
    have key : ∀ (xs : List Bool) (j : Nat), xs[j]? = some false → (xs.set j true).countP (· == false) + 1 = xs.countP (· == false) := by
      intro xs
      induction xs with
      | nil => intro j h; simp at h
      | cons x xs ih2 =>
        intro j h
        cases j with
        | zero =>
          simp at h
          subst h
          simp
        | succ j =>
          simp at h
          have := ih2 j h
          simp only [List.set_cons_succ, List.countP_cons]
          omega
    have := key l.toList j (by rw [Array.getElem?_toList, Array.getElem?_eq_getElem hjl, h2'])
    omega
/-- the rule: an invariant of the region, over the set of operations that are done -/
theorem reg_inv4 {id : Nat} {a : Act} {w : World} (Inv : (Nat → Bool) → Act → World → Prop) (hm : P.follows .mixedOrders = true) (hb : backE .any ops = true)
    (h0 : Inv (fun _ => false) a w.drew)
    (hstep : ∀ j L a w, j < ops.size → L j = false → (∀ o, ops[j]? = some o → ∀ e ∈ o.after, Region.binds .any e = true → L e.on = true) → Inv L a w → wpOp P ops Q j (Inv (dset L j)) a w)
    (hend : ∀ L a w, (∀ i, i < ops.size → L i = true) → Inv L a w → Q .normal a w) : (Code.region id ops true).wp P Q a w := by
  refine wp_region_any hm (reg_inv_go4 Inv hb hstep hend _ _ _ _ (by simp) ?_ ?_)
  · refine Nat.le_trans List.countP_le_length ?_
    simp
  · have : (fun i => (Array.replicate ops.size false).getD i false) = fun _ => false := by
      funext i
      rw [Array.getD_eq_getD_getElem?]
      rcases Nat.lt_or_ge i ops.size with h | h
      · rw [Array.getElem?_eq_getElem (by simpa using h)]; simp
      · rw [Array.getElem?_eq_none (by simpa using h)]; rfl
    rw [this]
    exact h0
/-- the rule, the region's first frame named -/
theorem reg_inv24 {id : Nat} {a : Act} {w : World} (I : Act → (Nat → Bool) → Act → World → Prop) (hm : P.follows .mixedOrders = true) (hb : backE .any ops = true)
    (h0 : I a (fun _ => false) a w.drew)
    (hstep : ∀ j L b v, j < ops.size → L j = false → (∀ i, (preds .any ops j).elem i = true → L i = true) → I a L b v → wpOp P ops Q j (I a (dset L j)) b v)
    (hend : ∀ L b v, (∀ i, i < ops.size → L i = true) → I a L b v → Q .normal b v) : (Code.region id ops true).wp P Q a w :=
  reg_inv4 (I a) hm hb h0 (fun j L b v hj hf hd hi => hstep j L b v hj hf (mem_preds (Array.getElem?_eq_getElem hj) (fun e he hb => hd _ (Array.getElem?_eq_getElem hj) e he hb)) hi) hend
/-- the rule, with closedness at hand -/
theorem reg_inv34 {id : Nat} {a : Act} {w : World} (I : Act → (Nat → Bool) → Act → World → Prop) (hm : P.follows .mixedOrders = true) (hb : backE .any ops = true)
    (h0 : I a (fun _ => false) a w.drew)
    (hstep : ∀ j L b v, j < ops.size → L j = false → Closed ops L → (∀ i, (preds .any ops j).elem i = true → L i = true) → I a L b v → wpOp P ops Q j (I a (dset L j)) b v)
    (hend : ∀ L b v, (∀ i, i < ops.size → L i = true) → I a L b v → Q .normal b v) : (Code.region id ops true).wp P Q a w := by
  refine reg_inv24 (fun a L b v => Closed ops L ∧ I a L b v) hm hb ⟨(fun j i h => nomatch h), h0⟩ (fun j L b v hj hf hp hi => ?_) (fun L b v hl hi => hend L b v hl hi.2)
  refine wpOp_mono (fun a' w' h => ⟨fun j' i' h1 h2 => ?_, h⟩) (hstep j L b v hj hf hi.1 hp hi.2)
  unfold dset at h1 ⊢
  by_cases e : i' = j
  · rw [if_pos e]
  · rw [if_neg e]
    by_cases e2 : j' = j
    · subst e2
      exact hp i' h2
    · rw [if_neg e2] at h1
      exact hi.1 j' i' h1 h2
end
end Go.Proofs.YtnplaejlmbncfaaGreatDoor

namespace Go.Proofs.YtnplaejlmbncfaaGreatDoor
set_option linter.unusedVariables false
set_option maxRecDepth 100000
/-- slots that hold so many values -/
def putL : Act → List (Option Nat) → List Value → Act
  | a, d :: ds, u :: us => putL (a.put d u) ds us
  | a, _, _ => a
def ndO : List (Option Nat) → Bool
  | [] => true
  | d :: ds => (d.isNone || !ds.contains d) && ndO ds
theorem put_put (a : Act) (d : Option Nat) (u x : Value) : (a.put d u).put d x = a.put d x := by
  cases d with
  | none => rfl
  | some d => simp [Act.put]
theorem put_comm (a : Act) (d e : Option Nat) (u x : Value) (h : d = none ∨ d ≠ e) : (a.put d u).put e x = (a.put e x).put d u := by
  cases d with
  | none => rfl
  | some d =>
    cases e with
    | none => rfl
    | some e =>
      have hne : d ≠ e := by
        rcases h with h | h
        · cases h
        · exact fun e' => h (by rw [e'])
      simp only [Act.put]
      congr 1
      exact Array.setIfInBounds_comm u x hne
theorem putL_comm : ∀ (ds : List (Option Nat)) (us : List Value) (a : Act) (e : Option Nat) (x : Value), (e = none ∨ ds.contains e = false) → putL (a.put e x) ds us = (putL a ds us).put e x
  | [], us, a, e, x, _ => by cases us <;> rfl
  | d :: ds, [], a, e, x, _ => rfl
  | d :: ds, u :: us, a, e, x, h => by
    show putL ((a.put e x).put d u) ds us = (putL (a.put d u) ds us).put e x
    have h' : e = none ∨ ds.contains e = false := by
      rcases h with h | h
      · exact .inl h
      · rw [List.contains_cons, Bool.or_eq_false_iff] at h
        exact .inr h.2
    rw [← putL_comm ds us (a.put d u) e x h']
    congr 1
    refine put_comm a e d x u ?_
    rcases h with h | h
    · exact .inl h
    · rw [List.contains_cons, Bool.or_eq_false_iff] at h
      exact .inr fun e' => by rw [e'] at h; simp at h
theorem putL_put : ∀ (ds : List (Option Nat)) (us : List Value) (a : Act) (j : Nat) (x : Value), ndO ds = true → us.length = ds.length → j < ds.length → (putL a ds us).put (ds.getD j none) x = putL a ds (us.set j x)
  | [], us, a, j, x, _, _, hj => by simp at hj
  | d :: ds, [], a, j, x, _, hl, _ => by simp at hl
  | d :: ds, u :: us, a, 0, x, hn, hl, _ => by
    show (putL (a.put d u) ds us).put d x = putL (a.put d x) ds us
    have hn' : (d.isNone || !ds.contains d) = true := (Bool.and_eq_true_iff.1 hn).1
    rw [← putL_comm ds us (a.put d u) d x (by
      rcases Bool.or_eq_true_iff.1 hn' with h | h
      · exact .inl (Option.isNone_iff_eq_none.1 h)
      · exact .inr (by simpa using h)), put_put]
  | d :: ds, u :: us, a, j + 1, x, hn, hl, hj => by
    show (putL (a.put d u) ds us).put (ds.getD j none) x = putL (a.put d u) ds (us.set j x)
    exact putL_put ds us (a.put d u) j x (Bool.and_eq_true_iff.1 hn).2 (by simpa using hl) (by simpa using hj)
theorem putL_self (a : Act) : ∀ ds : List (Option Nat), ∃ us : List Value, us.length = ds.length ∧ putL a ds us = a
  | [] => ⟨[], rfl, rfl⟩
  | d :: ds => by
    obtain ⟨us, hl, hp⟩ := putL_self a ds
    refine ⟨(match d with | some d => a.tmps.getD d undef | none => undef) :: us, by simp [hl], ?_⟩
    have e : a.put d (match d with | some d => a.tmps.getD d undef | none => undef) = a := by
      cases d with
      | none => rfl
      | some d =>
        show ({ a with tmps := a.tmps.setIfInBounds d (a.tmps.getD d undef) } : Act) = a
        have : a.tmps.setIfInBounds d (a.tmps.getD d undef) = a.tmps := by
          apply Array.ext
          · simp
          · intro i h1 h2
            rw [Array.getElem_setIfInBounds]
            split
            · rename_i e
              subst e
              rw [Array.getD_eq_getD_getElem?, Array.getElem?_eq_getElem h2]
              rfl
            · rfl
        rw [this]
    show putL (a.put d _) ds us = a
    rw [e]
    exact hp
theorem us_cons {us : List Value} {n : Nat} (h : us.length = n + 1) : ∃ u us', us = u :: us' ∧ us'.length = n := by
  cases us with
  | nil => simp at h
  | cons u us' => exact ⟨u, us', rfl, by simpa using h⟩
theorem us_nil {us : List Value} (h : us.length = 0) : us = [] := List.eq_nil_of_length_eq_zero h
section
variable {P : Program} {ops : Array Oper} {Q : Exit → Act → World → Prop}
/-- must be done before, through others too -/
def anc (ops : Array Oper) : Nat → Nat → Nat → Bool
  | 0, _, _ => false
  | f + 1, k, j => (preds .any ops k).elem j || (preds .any ops k).any fun i => anc ops f i j
theorem anc_done {L : Nat → Bool} (hc : Closed ops L) : ∀ f k j, anc ops f k j = true → L k = true → L j = true
  | 0, _, _, h, _ => by cases h
  | f + 1, k, j, h, hk => by
    unfold anc at h
    rcases Bool.or_eq_true_iff.1 h with h | h
    · exact hc k j hk h
    · obtain ⟨i, hi, h2⟩ := List.any_eq_true.1 h
      exact anc_done hc f i j h2 (hc k i hk (List.elem_eq_true_of_mem hi))
/-- the rule, with something that always holds -/
theorem reg_monoT {id : Nat} {a : Act} {w : World} (ds : List (Option Nat)) (T S : World → Prop) (kS : Nat) (kill : Nat → Nat) (Pr : Nat → Value → World → Prop)
    (hm : P.follows .mixedOrders = true) (hb : backE .any ops = true) (hds : (decide (ds.length = ops.size) && ndO ds) = true) (h0T : T w.drew) (h0 : S w.drew)
    (hstep : ∀ (j : Nat) (us : List Value) (v : World), j < ops.size → us.length = ops.size → T v → (anc ops ops.size kS j = true ∨ j = kS ∨ ops.size ≤ kS → S v) →
      (∀ i, (preds .any ops j).elem i = true → (kill i = j ∨ ops.size ≤ kill i) → Pr i (us.getD i undef) v) →
      wpOp P ops Q j (fun b' v' => ∃ x, b' = (putL a ds us).put (ds.getD j none) x ∧ T v' ∧ (j ≠ kS → anc ops ops.size j kS = false → S v → S v') ∧ Pr j x v' ∧ ∀ i y, i ≠ j → kill i ≠ j → anc ops ops.size i j = false → anc ops ops.size j (kill i) = false → Pr i y v → Pr i y v') (putL a ds us) v)
    (hend : ∀ (us : List Value) (v : World), us.length = ops.size → T v → (ops.size ≤ kS → S v) → (∀ i, i < ops.size → ops.size ≤ kill i → Pr i (us.getD i undef) v) → Q .normal (putL a ds us) v) :
    (Code.region id ops true).wp P Q a w := by
  rw [Bool.and_eq_true, decide_eq_true_eq] at hds
  obtain ⟨hdl, hdn⟩ := hds
  refine reg_inv34 (fun a L b v => ∃ us : List Value, us.length = ops.size ∧ b = putL a ds us ∧ T v ∧ (L kS = false → S v) ∧ (∀ k, ops.size ≤ k → L k = false) ∧ (∀ i, i < ops.size → L i = true → L (kill i) = false → Pr i (us.getD i undef) v)) hm hb ?_ ?_ ?_
  · obtain ⟨us, h1, h2⟩ := putL_self a ds
    exact ⟨us, by omega, h2.symm, h0T, fun _ => h0, fun _ _ => rfl, fun i _ h => by cases h⟩
  · rintro j L b v hj hf hcl hp ⟨us, hl, rfl, hT, hS, hbig, hPr⟩
    have hsv : anc ops ops.size kS j = true ∨ j = kS ∨ ops.size ≤ kS → L kS = false := fun h => by
      rcases h with h | rfl | h
      · cases e : L kS with
        | false => rfl
        | true => rw [anc_done hcl _ _ _ h e] at hf; cases hf
      · exact hf
      · exact hbig kS h
    have hno : ∀ q, L q = false → anc ops ops.size j q = false := fun q h => by
      cases ea : anc ops ops.size j q with
      | false => rfl
      | true =>
        have : L q = true := by
          generalize ops.size = f at ea
          cases f with
          | zero => cases ea
          | succ f =>
            unfold anc at ea
            rcases Bool.or_eq_true_iff.1 ea with h5 | h5
            · exact hp q h5
            · obtain ⟨i, hi, h6⟩ := List.any_eq_true.1 h5
              exact anc_done hcl f i q h6 (hp i (List.elem_eq_true_of_mem hi))
        rw [this] at h
        cases h
    refine wpOp_mono ?_ (hstep j us v hj hl hT (fun h => hS (hsv h)) (fun i hi hk => hPr i ?_ (hp i hi) ?_))
    · rintro b' v' ⟨x, rfl, hT', h1, h2, h3⟩
      refine ⟨us.set j x, by rw [List.length_set]; exact hl, putL_put ds us a j x hdn (by omega) (by omega), hT', fun h => ?_, fun k hk => ?_, fun i hi hLi hk => ?_⟩
      · unfold dset at h
        by_cases e : kS = j
        · rw [if_pos e] at h; cases h
        · rw [if_neg e] at h
          exact h1 (fun e' => e e'.symm) (hno kS h) (hS h)
      · unfold dset
        rw [if_neg (by omega)]
        exact hbig k hk
      · unfold dset at hLi hk
        by_cases e : i = j
        · subst e
          rw [List.getD_eq_getElem?_getD, List.getElem?_set_self (by omega)]
          exact h2
        · rw [if_neg e] at hLi
          rw [List.getD_eq_getElem?_getD, List.getElem?_set_ne (fun e' => e e'.symm), ← List.getD_eq_getElem?_getD]
          by_cases e2 : kill i = j
          · rw [if_pos e2] at hk; cases hk
          · rw [if_neg e2] at hk
            refine h3 i _ e e2 ?_ (hno _ hk) (hPr i hi hLi hk)
            cases ea : anc ops ops.size i j with
            | false => rfl
            | true => rw [anc_done hcl _ _ _ ea hLi] at hf; cases hf
    · have h5 := hp i hi
      rcases Nat.lt_or_ge i ops.size with h6 | h6
      · exact h6
      · rw [hbig i h6] at h5; cases h5
    · rcases hk with hk | hk
      · rw [hk]; exact hf
      · exact hbig _ hk
  · rintro L b v hL ⟨us, hl, rfl, hT, hS, hbig, hPr⟩
    exact hend us v hl hT (fun h => hS (hbig _ h)) fun i hi hk => hPr i hi (hL i hi) (hbig _ hk)
/-- the rule -/
theorem reg_mono {id : Nat} {a : Act} {w : World} (ds : List (Option Nat)) (S : World → Prop) (kS : Nat) (kill : Nat → Nat) (Pr : Nat → Value → World → Prop)
    (hm : P.follows .mixedOrders = true) (hb : backE .any ops = true) (hds : (decide (ds.length = ops.size) && ndO ds) = true) (h0 : S w.drew)
    (hstep : ∀ (j : Nat) (us : List Value) (v : World), j < ops.size → us.length = ops.size → (anc ops ops.size kS j = true ∨ j = kS ∨ ops.size ≤ kS → S v) →
      (∀ i, (preds .any ops j).elem i = true → (kill i = j ∨ ops.size ≤ kill i) → Pr i (us.getD i undef) v) →
      wpOp P ops Q j (fun b' v' => ∃ x, b' = (putL a ds us).put (ds.getD j none) x ∧ (j ≠ kS → anc ops ops.size j kS = false → S v → S v') ∧ Pr j x v' ∧ ∀ i y, i ≠ j → kill i ≠ j → anc ops ops.size i j = false → anc ops ops.size j (kill i) = false → Pr i y v → Pr i y v') (putL a ds us) v)
    (hend : ∀ (us : List Value) (v : World), us.length = ops.size → (ops.size ≤ kS → S v) → (∀ i, i < ops.size → ops.size ≤ kill i → Pr i (us.getD i undef) v) → Q .normal (putL a ds us) v) :
    (Code.region id ops true).wp P Q a w := reg_monoT ds (fun _ => True) S kS kill Pr hm hb hds trivial h0
    (fun j us v hj hl _ hS hp => wpOp_mono (fun b' v' ⟨x, h1, h2, h3, h4⟩ => ⟨x, h1, trivial, h2, h3, h4⟩) (hstep j us v hj hl hS hp)) (fun us v hl _ hS hP => hend us v hl hS hP)
end
end Go.Proofs.YtnplaejlmbncfaaGreatDoor

/- what more is needed -/
import Derived.Test.YtjhaogbopmhkoaaDoorYs12
import Derived.WalkKit
import Derived.WalkLawsBesides
import Derived.WalkSpells
import Derived.Lib.Hide
import Derived.Laws.BitsAllLaws
import Derived.Deep.QuietTactic
import Derived.BigQuiet
import Derived.Below
import Derived.OwnWalk
import Derived.Laws.OwnMore
import Derived.Laws.Rows
import Derived.Deep.AppendLies
import Derived.Maps.AppendAt
import Derived.Test.YtjhaogbopmhkoaaDoorChecked
import Derived.StillTailTactics
import Derived.RangeFuncNested
import Derived.RangeFuncBound
import Derived.RangeFuncCalls
import Derived.RangeFuncLeaves
import Derived.RangeFuncBox
import Derived.RangeFuncWrites
import Derived.Shelf.Abstract
import Derived.Shelf.RegionOpen
import Derived.OwnWalkIn
import Derived.TacticsInMore
import Derived.LoopNIn
import Derived.LoopIn
import Derived.Outline
import Derived.Deep.Cut
import Derived.RegionIn
import Derived.Lib.IndexBytes
import Derived.Lib.BufferRead
import Derived.RegionTactic
import Derived.ChangeAlike
import Derived.Deep.RegionWith
import Derived.StillTail
import Derived.Lib.QuietBelow
import Derived.Lib.AppendZeros
import Derived.BigRegion
import Derived.ProofKit
import Derived.OpenShut
import Derived.Carry
namespace Go.Proofs.YtjhaogbopmhkoaaDoor
namespace Gf
/-- the first k bits' part of a product -/
def gpart : Nat → UInt8 → UInt8 → UInt8
  | 0, _, _ => 0
  | k + 1, a, c => gpart k a c ^^^ sel (bit c k) (dblN k a)
theorem gpart_all (a c : UInt8) : gpart 8 a c = gmul a c := by
  unfold gmul
  simp only [gpart, UInt8.zero_xor]

end Gf
end Go.Proofs.YtjhaogbopmhkoaaDoor

namespace Go.Proofs.YtjhaogbopmhkoaaDoor
namespace Sy
open Gf
set_option linter.unusedVariables false
theorem dsyn_congr {D E : Nat → UInt8} {n k : Nat} (h : ∀ i, i < n → D i = E i) : dsyn D n k = dsyn E n k := ls_congr fun i hi => by rw [h i (List.mem_range.1 hi)]
theorem dsyn_mul (c : UInt8) (D : Nat → UInt8) (n k : Nat) : dsyn (fun i => gmul c (D i)) n k = gmul c (dsyn D n k) := by
  unfold dsyn
  rw [← ls_mul]
  exact ls_congr fun i _ => gmul_assoc _ _ _
end Sy
end Go.Proofs.YtjhaogbopmhkoaaDoor

namespace Go.Proofs.YtjhaogbopmhkoaaDoor
namespace Sy
open Gf
set_option linter.unusedVariables false
/-- a sum with a multiple -/
def comb (f : UInt8) (a b : List UInt8) : List UInt8 := (List.range a.length).map fun i => wd a i ^^^ gmul f (wd b i)
theorem comb_length (f : UInt8) (a b : List UInt8) : (comb f a b).length = a.length := by unfold comb; simp
theorem wd_comb (f : UInt8) (a b : List UInt8) {i : Nat} (h : i < a.length) : wd (comb f a b) i = wd a i ^^^ gmul f (wd b i) := by
  unfold comb
  conv => lhs; unfold wd
  rw [List.getElem?_map, List.getElem?_range h]
  rfl
theorem comb_cw {m : Nat} (f : UInt8) {a b : List UInt8} (hl : a.length = b.length) (h1 : Cw m a) (h2 : Cw m b) : Cw m (comb f a b) := fun k hk => by
  have e1 := h1 k hk
  have e2 := h2 k hk
  rw [syn_eq] at e1 e2 ⊢
  rw [comb_length, dsyn_congr (E := fun i => wd a i ^^^ gmul f (wd b i)) (fun i hi => wd_comb f a b hi), dsyn_add, dsyn_mul, e1, hl, e2, gmul_zero]; rfl
theorem enc_comb {m : Nat} (hm : m ≤ 200) (f : UInt8) {a b : List UInt8} (hl : a.length = b.length) (hn : a.length + m ≤ 255) : enc m (comb f a b) = comb f (enc m a) (enc m b) := by
  symm
  refine enc_unique hm (by rw [comb_length]; exact hn) (by rw [comb_length, enc_length, comb_length]) (comb_cw f (by rw [enc_length, enc_length, hl]) (enc_cw m hm a) (enc_cw m hm b)) fun i hi => ?_
  rw [comb_length] at hi
  rw [wd_comb _ _ _ (by rw [enc_length]; omega), wd_enc_lo m a hi, wd_enc_lo m b (by omega), wd_comb _ _ _ hi]
/-- two code words differ in more places than there are checks -/
theorem enc_far {m : Nat} (hm : m ≤ 200) {a b : List UInt8} (hl : a.length = b.length) (hn : a.length + m ≤ 255) (hne : a ≠ b) : m < wt (fun i => wd (enc m a) i ^^^ wd (enc m b) i) (a.length + m) := by
  rcases Nat.lt_or_ge m (wt (fun i => wd (enc m a) i ^^^ wd (enc m b) i) (a.length + m)) with h | h
  · exact h
  · exfalso
    apply hne
    have hD := dist hn h (fun k hk => by
      rw [dsyn_add]
      have e1 := syn_eq (enc m a) k
      have e2 := syn_eq (enc m b) k
      rw [enc_length] at e1 e2
      rw [← hl] at e2
      rw [← e1, ← e2, enc_cw m hm a k hk, enc_cw m hm b k hk]; rfl)
    refine wd_ext hl fun i hi => ?_
    have := UInt8.xor_eq_zero_iff.1 (hD i (by omega))
    rwa [wd_enc_lo m a hi, wd_enc_lo m b (by omega)] at this
end Sy
end Go.Proofs.YtjhaogbopmhkoaaDoor

namespace Go.Proofs.YtjhaogbopmhkoaaDoor
open Go.RowKit
set_option linter.unusedVariables false
set_option maxRecDepth 100000

theorem i64_xor_nat (a b : Nat) (ha : a < 9223372036854775808) (hb : b < 9223372036854775808) : bits .xor .i64 (a : Int) (b : Int) = ((a ^^^ b : Nat) : Int) := by
  have hx : a ^^^ b < 2 ^ 63 := Nat.xor_lt_two_pow (by omega) (by omega)
  show IntKind.i64.wrap ((BitVec.ofInt 64 (a : Int) ^^^ BitVec.ofInt 64 (b : Int)).toNat : Int) = _
  rw [BitVec.toNat_xor, ofInt_i64 a ha, ofInt_i64 b hb, IntKind.wrap_i64]
  omega
theorem i64_xor8 (a c : UInt8) : bits .xor .i64 (a.toNat : Int) (c.toNat : Int) = ((a ^^^ c).toNat : Int) := by
  have h1 := UInt8.toNat_lt a
  have h2 := UInt8.toNat_lt c
  rw [i64_xor_nat _ _ (by omega) (by omega), UInt8.toNat_xor]
theorem u8_bitk (y : UInt8) (k : Nat) : bits .and .u8 ((y.toNat : Int) / 2 ^ k) 1 = if Gf.bit y k then 1 else 0 := by
  have hy := UInt8.toNat_lt y
  have e : ((y.toNat : Int) / 2 ^ k) = ((y.toNat / 2 ^ k : Nat) : Int) := by simp
  have hlt : y.toNat / 2 ^ k < 256 := Nat.lt_of_le_of_lt (Nat.div_le_self _ _) hy
  have := u8_and_nat (y.toNat / 2 ^ k) 1 hlt (by decide)
  rw [show ((1 : Nat) : Int) = 1 from rfl] at this
  rw [e, this]
  unfold Gf.bit
  rw [Nat.and_one_is_mod, Nat.testBit_eq_decide_div_mod_eq]
  by_cases h : y.toNat / 2 ^ k % 2 = 1
  · simp [h]
  · have h0 : y.toNat / 2 ^ k % 2 = 0 := by omega
    simp [h0]
theorem dbl_hi1 : ∀ n : Nat, n < 256 → ¬ n < 128 → bits .xor .i64 ((n : Int) * 2) 285 = ((Gf.dbl (UInt8.ofNat n)).toNat : Int) := by decide +kernel
theorem dbl_hi64 (a : UInt8) (h : ¬ (a.toNat : Int) < 128) : bits .xor .i64 ((a.toNat : Int) * 2) 285 = ((Gf.dbl a).toNat : Int) := by
  have := dbl_hi1 a.toNat (UInt8.toNat_lt a) (by omega)
  rwa [UInt8.ofNat_toNat] at this

def RefMulRel (a0 c0 : UInt8) (v x k : Value) : Prop := ∃ (j : Nat) (y z : UInt8), j ≤ 8 ∧ k = .int .i64 (j : Int) ∧ x = .int .i64 (y.toNat : Int) ∧ v = .int .i64 (z.toNat : Int) ∧ y = Gf.dblN j a0 ∧ z = Gf.gpart j a0 c0
theorem refmul_step {a0 c0 : UInt8} {k : Nat} {bit : Bool} {y z y' z' : UInt8} (hy : Hid (y = Gf.dblN k a0)) (hz : Hid (z = Gf.gpart k a0 c0)) (hb : Hid (Gf.bit c0 k = bit)) (hy' : Hid (y' = Gf.dbl y)) (hz' : Hid (z' = if bit then z ^^^ y else z)) :
    y' = Gf.dblN (k + 1) a0 ∧ z' = Gf.gpart (k + 1) a0 c0 := by
  unfold Hid at *
  subst hy hz hy' hz'
  refine ⟨rfl, ?_⟩
  show _ = Gf.gpart k a0 c0 ^^^ Gf.sel (Gf.bit c0 k) (Gf.dblN k a0)
  rw [hb]
  cases bit <;> simp [Gf.sel]
theorem dbl_ex_lo (y : UInt8) (h : (y.toNat : Int) < 128) : ∃ y' : UInt8, Hid ((y.toNat : Int) * 2 = (y'.toNat : Int)) ∧ Hid (y' = Gf.dbl y) := ⟨_, dbl_lo y h, rfl⟩
theorem dbl_ex_hi (y : UInt8) (h : ¬ (y.toNat : Int) < 128) : ∃ y' : UInt8, bits .xor .i64 ((y.toNat : Int) * 2) 285 = (y'.toNat : Int) ∧ Hid (y' = Gf.dbl y) := ⟨_, dbl_hi64 y h, rfl⟩
set_option maxHeartbeats 1000000 in
theorem refmul_any (a0 c0 : UInt8) (w : World) : Calls Tryd.prog 37 #[.int .u8 (a0.toNat : Int), .int .u8 (c0.toNat : Int)] w fun e w' => e = .returned (.int .u8 ((Gf.gmul a0 c0).toNat : Int)) ∧ w = w' := by
  have ha := u8_lt a0
  have hc := u8_lt c0
  go_enter Tryd.func37, Tryd.ntmps37
  go_wp2_with fail
  go_loop [5, 6, 7] (fun v x k => RefMulRel a0 c0 v x k) (fun _ _ k => 8 - (intOf k).toNat)
  case atStart => exact ⟨0, a0, 0, by omega, rfl, rfl, rfl, rfl, rfl⟩
  case round =>
    obtain ⟨k, y, z, hk, rfl, rfl, rfl, hy, hz⟩ := hrel
    have HY := Lib.hid hy
    have HZ := Lib.hid hz
    clear hy hz
    have hx := u8_lt y
    have hz := u8_lt z
    rcases Nat.lt_or_ge k 8 with hk8 | hk8
    · obtain ⟨z', hxor, hz'⟩ : ∃ z' : UInt8, bits .xor .i64 (z.toNat : Int) (y.toNat : Int) = (z'.toNat : Int) ∧ Hid (z' = if true then z ^^^ y else z) := ⟨_, i64_xor8 z y, rfl⟩
      have hsh := u8_bitk c0 k
      cases hbit : Gf.bit c0 k <;> rw [hbit] at hsh
      · have HB := Lib.hid hbit
        replace hsh : bits .and .u8 ((c0.toNat : Int) / 2 ^ k) 1 = 0 := hsh
        clear hbit hxor
        have hzz : Hid (z = if false then z ^^^ y else z) := rfl
        rcases Int.lt_or_le (y.toNat : Int) 128 with hlo | hlo
        · obtain ⟨y', HD, hy'⟩ := dbl_ex_lo y hlo
          go_wp2_with fail
          go_round
          case rel => exact ⟨k + 1, y', z, by omega, by go_num, int_eq HD.out, rfl, refmul_step HY HZ HB hy' hzz⟩
          case measure => simp [intOf]; omega
        · obtain ⟨y', HD, hy'⟩ := dbl_ex_hi y (by omega)
          go_wp2_with fail
          go_round
          case rel => exact ⟨k + 1, y', z, by omega, by go_num, rfl, rfl, refmul_step HY HZ HB hy' hzz⟩
          case measure => simp [intOf]; omega
      · have HB := Lib.hid hbit
        replace hsh : bits .and .u8 ((c0.toNat : Int) / 2 ^ k) 1 = 1 := hsh
        clear hbit
        rcases Int.lt_or_le (y.toNat : Int) 128 with hlo | hlo
        · obtain ⟨y', HD, hy'⟩ := dbl_ex_lo y hlo
          go_wp2_with fail
          go_round
          case rel => exact ⟨k + 1, y', z', by omega, by go_num, int_eq HD.out, rfl, refmul_step HY HZ HB hy' hz'⟩
          case measure => simp [intOf]; omega
        · obtain ⟨y', HD, hy'⟩ := dbl_ex_hi y (by omega)
          go_wp2_with fail
          go_round
          case rel => exact ⟨k + 1, y', z', by omega, by go_num, rfl, rfl, refmul_step HY HZ HB hy' hz'⟩
          case measure => simp [intOf]; omega
    · have e8 : z = Gf.gmul a0 c0 := by
        rw [HZ.out, ← Gf.gpart_all]
        congr 1
        omega
      have HE := Lib.hid e8
      clear e8
      go_wp2_with fail
      go_ret
      exact ⟨ret_u8 HE.out, rfl⟩
end Go.Proofs.YtjhaogbopmhkoaaDoor

namespace Go.Proofs.YtjhaogbopmhkoaaDoor
open Go.RowKit Go.Sort
set_option linter.unusedVariables false
set_option maxRecDepth 100000
section
variable {w0 w w' : World} {g B : Nat} {M : List (Nat × Value)} {L : List Ob} {O : List Rw} {A : Option Addr} {n c : Nat}
theorem set_end (O : List Rw) (r s : Rw) : (O ++ [r]).set O.length s = O ++ [s] := by simp
theorem Ow.init {r : Rw} (h : Ow w0 w (some g) M L (O ++ [r])) : Ow w0 w (some g) M L O := by
  have key : ∀ (i : Nat) (s : Rw), O[i]? = some s → (O ++ [r])[i]? = some s := fun i s hi => by rw [List.getElem?_append_left (get_lt hi)]; exact hi
  exact ⟨h.st, fun i s hi => h.own i s (key i s hi), fun i s hi => h.ap i s (key i s hi), fun i j s t hi hj => h.two i j s t (key i s hi) (key j t hj)⟩
end
end Go.Proofs.YtjhaogbopmhkoaaDoor

namespace Go.Proofs.YtjhaogbopmhkoaaDoor
open Go.RowKit
set_option linter.unusedVariables false
set_option maxRecDepth 100000
set_option maxHeartbeats 2000000 in
theorem synExp_any {d m f : Nat} (h : Cd d m f) (hf : f ≤ m / 2) (A : Option Addr) (c : Nat) (word : List UInt8) (w : World) (hn : word.length = d + m) (hs : Sl w w.heap.size A (bys word)) (hnc : d + m ≤ c) :
    Calls Tryd.prog 38 #[.agg #[.int .i64 2, .int .i64 (d : Int), .int .i64 (m : Int), .int .i64 (f : Int)], .slice A (d + m) c] w (ResB w (Sy.synL word m) 0) := by
  have hc := h
  obtain ⟨h1, h2, h3, h4, h5⟩ := h
  have H0 := ((Ow.of (St.refl w)).old hs (by rw [bys_length]; exact hn) hnc (by omega)).code d m f
  simp only [List.nil_append] at H0
  obtain ⟨hc0, hc1, hc2, hc3⟩ := H0.cdc 0 rfl
  have HO := Lib.hid H0
  have HV := Lib.hid (fun W => good_any hc W)
  have HN := Lib.hid hn
  have hne : (((d + m : Nat) : Int) != (d : Int) + (m : Int)) = false := by simp
  rw [decide_eq_true hf] at HV
  clear H0 hs hn hc
  go_enter Tryd.func38, Tryd.ntmps38
  go_wp2_with fail
  refine (HV.out _).mono ?_
  rintro e w1 ⟨rfl, hb⟩
  have HO1 := Lib.hid (HO.out.go hb)
  obtain ⟨hd0, hd1, hd2, hd3⟩ := HO1.out.cdc 0 rfl
  clear hb hc0 hc1 hc2 hc3
  go_wp2_with fail
  refine (syndromes_any A (d + m) c m word w1 HN.out (HO1.out.sl (i := 0) rfl).2.2.2 hnc (by omega) (by omega)).mono ?_
  rintro e w2 ⟨A2, n2, c2, rfl, hn2, ho2, hb2⟩
  have HO2 := Lib.hid (HO1.out.add ho2 hb2)
  go_wp2_with fail
  go_ret2
  exact ⟨A2, n2, c2, rfl, hn2, HO2.out.row 1 rfl, HO2.out.below⟩
end Go.Proofs.YtjhaogbopmhkoaaDoor

namespace Go.Proofs.YtjhaogbopmhkoaaDoor
set_option linter.unusedVariables false
set_option maxRecDepth 100000
section
variable {P : Program} {ops : Array Oper} {Q : Exit → Act → World → Prop}
/-- the rule, with something that always holds -/
theorem reg_monoU {id : Nat} {a : Act} {w : World} (ds : List (Option Nat)) (T : World → Prop) (S : List Value → World → Prop) (kS : Nat) (kill : Nat → Nat) (Pr : Nat → Value → World → Prop)
    (hm : P.follows .mixedOrders = true) (hb : backE .any ops = true) (hds : (decide (ds.length = ops.size) && ndO ds) = true) (h0T : T w.drew) (h0 : ∀ us : List Value, us.length = ops.size → putL a ds us = a → S us w.drew)
    (hstep : ∀ (j : Nat) (us : List Value) (v : World), j < ops.size → us.length = ops.size → T v → (anc ops ops.size kS j = true ∨ j = kS ∨ ops.size ≤ kS → S us v) →
      (∀ i, (preds .any ops j).elem i = true → (kill i = j ∨ ops.size ≤ kill i) → Pr i (us.getD i undef) v) →
      wpOp P ops Q j (fun b' v' => ∃ x, b' = (putL a ds us).put (ds.getD j none) x ∧ T v' ∧ (j ≠ kS → anc ops ops.size j kS = false → S us v → S (us.set j x) v') ∧ Pr j x v' ∧ ∀ i y, i ≠ j → kill i ≠ j → anc ops ops.size i j = false → anc ops ops.size j (kill i) = false → Pr i y v → Pr i y v') (putL a ds us) v)
    (hend : ∀ (us : List Value) (v : World), us.length = ops.size → T v → (ops.size ≤ kS → S us v) → (∀ i, i < ops.size → ops.size ≤ kill i → Pr i (us.getD i undef) v) → Q .normal (putL a ds us) v) :
    (Code.region id ops true).wp P Q a w := by
  rw [Bool.and_eq_true, decide_eq_true_eq] at hds
  obtain ⟨hdl, hdn⟩ := hds
  refine reg_inv34 (fun a L b v => ∃ us : List Value, us.length = ops.size ∧ b = putL a ds us ∧ T v ∧ (L kS = false → S us v) ∧ (∀ k, ops.size ≤ k → L k = false) ∧ (∀ i, i < ops.size → L i = true → L (kill i) = false → Pr i (us.getD i undef) v)) hm hb ?_ ?_ ?_
  · obtain ⟨us, h1, h2⟩ := putL_self a ds
    exact ⟨us, by omega, h2.symm, h0T, fun _ => h0 us (by omega) h2, fun _ _ => rfl, fun i _ h => by cases h⟩
  · rintro j L b v hj hf hcl hp ⟨us, hl, rfl, hT, hS, hbig, hPr⟩
    have hsv : anc ops ops.size kS j = true ∨ j = kS ∨ ops.size ≤ kS → L kS = false := fun h => by
      rcases h with h | rfl | h
      · cases e : L kS with
        | false => rfl
        | true => rw [anc_done hcl _ _ _ h e] at hf; cases hf
      · exact hf
      · exact hbig kS h
    have hno : ∀ q, L q = false → anc ops ops.size j q = false := fun q h => by
      cases ea : anc ops ops.size j q with
      | false => rfl
      | true =>
        have : L q = true := by
          generalize ops.size = f at ea
          cases f with
          | zero => cases ea
          | succ f =>
            unfold anc at ea
            rcases Bool.or_eq_true_iff.1 ea with h5 | h5
            · exact hp q h5
            · obtain ⟨i, hi, h6⟩ := List.any_eq_true.1 h5
              exact anc_done hcl f i q h6 (hp i (List.elem_eq_true_of_mem hi))
        rw [this] at h
        cases h
    refine wpOp_mono ?_ (hstep j us v hj hl hT (fun h => hS (hsv h)) (fun i hi hk => hPr i ?_ (hp i hi) ?_))
    · rintro b' v' ⟨x, rfl, hT', h1, h2, h3⟩
      refine ⟨us.set j x, by rw [List.length_set]; exact hl, putL_put ds us a j x hdn (by omega) (by omega), hT', fun h => ?_, fun k hk => ?_, fun i hi hLi hk => ?_⟩
      · unfold dset at h
        by_cases e : kS = j
        · rw [if_pos e] at h; cases h
        · rw [if_neg e] at h
          exact h1 (fun e' => e e'.symm) (hno kS h) (hS h)
      · unfold dset
        rw [if_neg (by omega)]
        exact hbig k hk
      · unfold dset at hLi hk
        by_cases e : i = j
        · subst e
          rw [List.getD_eq_getElem?_getD, List.getElem?_set_self (by omega)]
          exact h2
        · rw [if_neg e] at hLi
          rw [List.getD_eq_getElem?_getD, List.getElem?_set_ne (fun e' => e e'.symm), ← List.getD_eq_getElem?_getD]
          by_cases e2 : kill i = j
          · rw [if_pos e2] at hk; cases hk
          · rw [if_neg e2] at hk
            refine h3 i _ e e2 ?_ (hno _ hk) (hPr i hi hLi hk)
            cases ea : anc ops ops.size i j with
            | false => rfl
            | true => rw [anc_done hcl _ _ _ ea hLi] at hf; cases hf
    · have h5 := hp i hi
      rcases Nat.lt_or_ge i ops.size with h6 | h6
      · exact h6
      · rw [hbig i h6] at h5; cases h5
    · rcases hk with hk | hk
      · rw [hk]; exact hf
      · exact hbig _ hk
  · rintro L b v hL ⟨us, hl, rfl, hT, hS, hbig, hPr⟩
    exact hend us v hl hT (fun h => hS (hbig _ h)) fun i hi hk => hPr i hi (hL i hi) (hbig _ hk)
end
end Go.Proofs.YtjhaogbopmhkoaaDoor

namespace Go.Proofs.YtjhaogbopmhkoaaDoor
open Go.RowKit
set_option linter.unusedVariables false
set_option maxRecDepth 100000
section
variable {w0 w w' : World} {g : Option Nat} {M : List (Nat × Value)} {L L2 : List Ob} {O : List Rw}
theorem Ow.join (h : Ow w0 w g M L O) (h2 : Ow w0 w g M L2 O) : Ow w0 w g M (L ++ L2) O :=
  ⟨⟨h.st.below, h.st.lt, h.st.box, h.st.one, fun o ho => (List.mem_append.1 ho).elim (h.st.held o) (h2.st.held o)⟩, h.own, fun i r hi b hb => ⟨(h.ap i r hi b hb).1, (h.ap i r hi b hb).2.1, fun o ho => (List.mem_append.1 ho).elim ((h.ap i r hi b hb).2.2 o) ((h2.ap i r hi b hb).2.2 o)⟩, h.two⟩
theorem Ow.pushG {g : Nat} (h : Ow w0 w (some g) M L O) {A : Option Addr} {n c : Nat} {vs : List Value} {e : TypeId} (ho : w'.ownsRow w.heap.size e 1 (.slice A n c) n vs) (hg : w.grownBy w' (some g)) (hl : n ≤ 1000) : Ow w0 w' (some g) M (L ++ [⟨A, n, c, vs⟩]) O := by
  have h1 := (h.addG ho hg).keep O.length (A := A) (n := n) (c := c) (e := e) (vs := vs) (by rw [List.getElem?_append_right (Nat.le_refl _), Nat.sub_self]; rfl) hl
  rw [set_end] at h1
  exact h1.init
end
theorem Sy.comb_take {f : UInt8} {a b : List UInt8} {k : Nat} (h : k < a.length) : (Sy.comb f a b).take (k + 1) = (Sy.comb f a b).take k ++ [Sy.wd a k ^^^ Gf.gmul f (Sy.wd b k)] := by
  rw [List.take_add_one, Sy.wd_lt (by rw [Sy.comb_length]; exact h), Sy.wd_comb f a b h]
  rfl
theorem Sy.wt_succ (D : Nat → UInt8) (k : Nat) : Sy.wt D (k + 1) = Sy.wt D k + (if D k != 0 then 1 else 0) := by
  unfold Sy.wt
  rw [List.range_succ, List.countP_append]
  congr 1
  rw [List.countP_cons, List.countP_nil, Nat.zero_add]
def lin5 (w : World) (g cb d m f : Nat) (i : Nat) (x : Value) (v : World) : Prop :=
  match i with
  | 0 => x = .pointer (some ⟨g, 0, none⟩)
  | 1 => x = .pointer (some ⟨cb, 1, none⟩)
  | 2 => x = .int .i64 (d : Int)
  | 4 => x = .pointer (some ⟨g, 0, none⟩)
  | 5 => x = .pointer (some ⟨cb, 1, none⟩)
  | 6 => x = .int .i64 (d : Int)
  | _ => ∃ (A : Option Addr) (c : Nat) (l : List UInt8), x = .slice A d c ∧ l.length = d ∧ Ow w v (some g) [] [⟨A, d, c, bys l⟩] [codeR cb d m f]
theorem lin5_go {w : World} {g cb d m f : Nat} {v v' : World} (hg : v.grownBy v' (some g)) : ∀ (i : Nat) (x : Value), lin5 w g cb d m f i x v → lin5 w g cb d m f i x v'
  | 0, _, h => h
  | 1, _, h => h
  | 2, _, h => h
  | 3, _, ⟨A, c, l, h1, h2, h3⟩ => ⟨A, c, l, h1, h2, h3.roll hg⟩
  | 4, _, h => h
  | 5, _, h => h
  | 6, _, h => h
  | _ + 7, _, ⟨A, c, l, h1, h2, h3⟩ => ⟨A, c, l, h1, h2, h3.roll hg⟩
def lin10 (w : World) (g k : Nat) (L : List Ob) (r : Rw) (As : Option Addr) (cs : Nat) (A1 : Addr) (d c1 : Nat) (A2 : Addr) (c2 : Nat) (f a b z : UInt8) (l : List UInt8) (i : Nat) (x : Value) (v : World) : Prop :=
  match i with
  | 0 => x = .slice As k cs
  | 1 => x = .slice (some A1) d c1
  | 2 => x = .int .i64 (k : Int)
  | 3 => x = .pointer (some (A1.add k))
  | 4 => x = .int .u8 (a.toNat : Int)
  | 5 => x = .int .u8 (f.toNat : Int)
  | 6 => x = .slice (some A2) d c2
  | 7 => x = .int .i64 (k : Int)
  | 8 => x = .pointer (some (A2.add k))
  | 9 => x = .int .u8 (b.toNat : Int)
  | 10 => x = .int .u8 ((Gf.gmul f b).toNat : Int)
  | 11 => x = .int .u8 (z.toNat : Int)
  | 12 => ∃ q : Nat, x = .slice (some ⟨q, 0, none⟩) 1 1 ∧ Sl v v.heap.size (some ⟨q, 0, none⟩) [.int .u8 (z.toNat : Int)]
  | 13 => ∃ (A : Option Addr) (c : Nat), x = .slice A (k + 1) c ∧ Ow w v (some g) [] L [r, ⟨A, k + 1, c, 5, bys (l ++ [z])⟩]
  | 14 => ∃ (A : Option Addr) (c : Nat), x = .slice A (k + 1) c ∧ Ow w v (some g) [] L [r, ⟨A, k + 1, c, 5, bys (l ++ [z])⟩]
  | _ => True
theorem lin10_go {w : World} {g k : Nat} {L : List Ob} {r : Rw} {As : Option Addr} {cs : Nat} {A1 : Addr} {d c1 : Nat} {A2 : Addr} {c2 : Nat} {f a b z : UInt8} {l : List UInt8} {v v' : World} (hb : Below v.heap.size v v') : ∀ (i : Nat) (x : Value), lin10 w g k L r As cs A1 d c1 A2 c2 f a b z l i x v → lin10 w g k L r As cs A1 d c1 A2 c2 f a b z l i x v'
  | 0, _, h => h
  | 1, _, h => h
  | 2, _, h => h
  | 3, _, h => h
  | 4, _, h => h
  | 5, _, h => h
  | 6, _, h => h
  | 7, _, h => h
  | 8, _, h => h
  | 9, _, h => h
  | 10, _, h => h
  | 11, _, h => h
  | 12, _, ⟨q, h1, h2⟩ => ⟨q, h1, (h2.below hb).more hb.size⟩
  | 13, _, ⟨A, c, h1, h2⟩ => ⟨A, c, h1, h2.go hb⟩
  | 14, _, ⟨A, c, h1, h2⟩ => ⟨A, c, h1, h2.go hb⟩
  | _ + 15, _, _ => trivial
def RLin1 (w : World) (g : Nat) (L : List Ob) (r : Rw) (d : Nat) (fb : UInt8) (a b : List UInt8) (s v : Value) (wr : World) : Prop := ∃ (k : Nat) (A : Option Addr) (c : Nat), k ≤ d ∧ v = .int .i64 (k : Int) ∧ s = .slice A k c ∧ Hid (Ow w wr (some g) [] L [r, ⟨A, k, c, 5, bys ((Sy.comb fb a b).take k)⟩])

def RLin2 (w : World) (g : Nat) (L : List Ob) (O : List Rw) (nn : Nat) (x y : List UInt8) (u v : Value) (wr : World) : Prop := ∃ i df : Nat, i ≤ nn ∧ df ≤ i ∧ u = .int .i64 (df : Int) ∧ v = .int .i64 (i : Int) ∧ Hid (df = Sy.wt (fun j => Sy.wd x j ^^^ Sy.wd y j) i) ∧ Hid (Ow w wr (some g) [] L O)
theorem Sy.xor_ne {a b : UInt8} (h : a ≠ b) : a ^^^ b ≠ 0 := fun e => h (by
  have : a ^^^ b ^^^ b = 0 ^^^ b := by rw [e]
  rwa [UInt8.xor_assoc, UInt8.xor_self, UInt8.xor_zero, UInt8.zero_xor] at this)

theorem Sy.synL_zero {m : Nat} {l : List UInt8} (h : Sy.Cw m l) : Sy.synL l m = List.replicate m 0 := by
  refine List.eq_replicate_iff.2 ⟨Sy.synL_length l m, fun b hb => ?_⟩
  unfold Sy.synL at hb
  obtain ⟨k, hk, rfl⟩ := List.mem_map.1 hb
  exact h k (List.mem_range.1 hk)
def RLin3 (w : World) (g : Nat) (L : List Ob) (O : List Rw) (m : Nat) (v : Value) (wr : World) : Prop := ∃ j : Nat, j ≤ m ∧ v = .int .i64 (j : Int) ∧ Hid (Ow w wr (some g) [] L O)

set_option maxHeartbeats 8000000 in
theorem symbolLinear_any (A : Option Addr) (n c : Nat) (ts : List Int) (fb : UInt8) (w : World) (hn : ts.length = n) (hl : n ≤ 9223372036854775807) (hs : Sl w w.heap.size A (ints ts)) :
    Calls Tryd.prog 9 #[.slice A n c, .int .u8 (fb.toNat : Int)] w fun e w' => e = .returned (.bool true) ∧ Below w.heap.size w w' := by
  rcases Nat.lt_or_ge 400 n with hbig | hsm
  · have HLi := Lib.hid (light_no A n c w hbig hl)
    have HAw := Lib.hid (awake07_any w)
    clear hs
    go_enter Tryd.func9, Tryd.ntmps9
    go_wp2_with (first | (go_at_call 26; refine HLi.out.mono ?_; rintro e w1 ⟨rfl, rfl⟩) | (go_at_call 27; refine HAw.out.mono ?_; rintro e w2 ⟨rfl, hb⟩))
    go_ret
    exact ⟨rfl, hb⟩
  have HLi := Lib.hid (light_yes A n c w hsm)
  have HR := Lib.hid (roll_at (St.refl w) A n c w.heap.size ts hn (by omega) (Nat.le_refl _) hs)
  clear hs hn hl hsm
  go_enter Tryd.func9, Tryd.ntmps9
  go_wp2_with fail
  refine HLi.out.mono ?_
  rintro e w1 ⟨rfl, rfl⟩
  go_wp2_with fail
  refine HR.out.mono ?_
  rintro e w1 ⟨g, rfl, hd1, hst1⟩
  have HN := Lib.hid (symbols_ow (Ow.of hst1) hd1 (Nat.le_refl _))
  clear HR HLi hd1 hst1
  go_wp2_with fail
  refine HN.out.mono ?_
  rintro e w2 ⟨d, m, f, rfl, hcd, hfm, hd2, h2⟩
  have h3 := h2.code d m f
  have HD := Lib.hid (hd2.alloc1 (.cells #[.int .i64 2, .int .i64 (d : Int), .int .i64 (m : Int), .int .i64 (f : Int)] 50))
  have HO : Hid (Ow w (w2.alloc (.cells #[.int .i64 2, .int .i64 (d : Int), .int .i64 (m : Int), .int .i64 (f : Int)] 50)) (some g) [] [] [codeR w2.heap.size d m f]) := h3
  have hcd0 := Lib.hid hcd
  obtain ⟨hd1', hd2', hm1', hm2', -⟩ := hcd
  clear h2 hd2 h3 HN
  go_upto_region 5 with (fail)
  refine reg_monoT [some 31, some 32, some 33, some 34, some 35, some 36, some 37, some 38, some 7, some 8] (fun v => Ow w v (some g) [] [] [codeR w2.heap.size d m f] ∧ Dice v g w.heap.size) (fun _ => True) 10 (fun _ => 10) (lin5 w g w2.heap.size d m f) (by kernel_rfl) (by kernel_rfl) (by kernel_rfl) ?_ trivial ?_ ?_
  · exact ⟨HO.out.drew, HD.out.drew⟩
  · rintro j us v hj hl HS hS hp
    replace hl : us.length = 10 := hl
    obtain ⟨u0, us0, rfl, hl0⟩ := us_cons (n := 9) hl
    obtain ⟨u1, us1, rfl, hl1⟩ := us_cons (n := 8) hl0
    obtain ⟨u2, us2, rfl, hl2⟩ := us_cons (n := 7) hl1
    obtain ⟨u3, us3, rfl, hl3⟩ := us_cons (n := 6) hl2
    obtain ⟨u4, us4, rfl, hl4⟩ := us_cons (n := 5) hl3
    obtain ⟨u5, us5, rfl, hl5⟩ := us_cons (n := 4) hl4
    obtain ⟨u6, us6, rfl, hl6⟩ := us_cons (n := 3) hl5
    obtain ⟨u7, us7, rfl, hl7⟩ := us_cons (n := 2) hl6
    obtain ⟨u8, us8, rfl, hl8⟩ := us_cons (n := 1) hl7
    obtain ⟨u9, us9, rfl, hl9⟩ := us_cons (n := 0) hl8
    obtain rfl := us_nil hl9
    clear hl hl0 hl1 hl2 hl3 hl4 hl5 hl6 hl7 hl8
    clear hS
    have hj' : j < 10 := hj
    have hcase : j = 0 ∨ j = 1 ∨ j = 2 ∨ j = 3 ∨ j = 4 ∨ j = 5 ∨ j = 6 ∨ j = 7 ∨ j = 8 ∨ j = 9 := by omega
    clear hj hj'
    replace HS : Ow w v (some g) [] [] [codeR w2.heap.size d m f] ∧ Dice v g w.heap.size := HS
    rcases hcase with rfl | rfl | rfl | rfl | rfl | rfl | rfl | rfl | rfl | rfl
    · have HS2 := Lib.hid HS
      clear HS hp
      refine wpOp_step rfl (fun K hK => ?_)
      simp only [putL, Act.put, List.setIfInBounds_toArray, List.set_cons_zero, List.set_cons_succ]
      go_simp
      refine hK _ _ ⟨.pointer (some ⟨g, 0, none⟩), ?_, HS2.out, fun _ _ _ => trivial, rfl, fun _ _ _ _ _ _ h => h⟩
      simp only [putL, Act.put, List.getD_cons_zero, List.setIfInBounds_toArray, List.set_cons_zero, List.set_cons_succ]
    · have HS2 := Lib.hid HS
      clear HS hp
      refine wpOp_step rfl (fun K hK => ?_)
      simp only [putL, Act.put, List.setIfInBounds_toArray, List.set_cons_zero, List.set_cons_succ]
      go_simp
      refine hK _ _ ⟨.pointer (some ⟨w2.heap.size, 1, none⟩), ?_, HS2.out, fun _ _ _ => trivial, rfl, fun _ _ _ _ _ _ h => h⟩
      simp only [putL, Act.put, List.getD_cons_zero, List.getD_cons_succ, List.setIfInBounds_toArray, List.set_cons_zero, List.set_cons_succ]
    · obtain rfl : u1 = .pointer (some ⟨w2.heap.size, 1, none⟩) := hp 1 (by kernel_rfl) (.inr (by decide))
      obtain ⟨-, hx, -, -⟩ := HS.1.cdc 0 rfl
      have HS2 := Lib.hid HS
      clear HS hp
      refine wpOp_step rfl (fun K hK => ?_)
      simp only [putL, Act.put, List.setIfInBounds_toArray, List.set_cons_zero, List.set_cons_succ]
      go_simp
      refine hK _ _ ⟨.int .i64 (d : Int), ?_, HS2.out, fun _ _ _ => trivial, rfl, fun _ _ _ _ _ _ h => h⟩
      simp only [putL, Act.put, List.getD_cons_zero, List.getD_cons_succ, List.setIfInBounds_toArray, List.set_cons_zero, List.set_cons_succ]
    · obtain rfl : u0 = .pointer (some ⟨g, 0, none⟩) := hp 0 (by kernel_rfl) (.inr (by decide))
      obtain rfl : u2 = .int .i64 (d : Int) := hp 2 (by kernel_rfl) (.inr (by decide))
      have HS2 := Lib.hid HS
      clear HS hp
      refine wpOp_step rfl (fun K hK => ?_)
      simp only [putL, Act.put, List.setIfInBounds_toArray, List.set_cons_zero, List.set_cons_succ]
      go_simp
      refine (bytes_any g w.heap.size d v (by omega) HS2.out.2).mono ?_
      rintro en v' ⟨A', c', l, rfl, hl', ho, hd', hg⟩
      refine hK _ _ ⟨.slice A' d c', ?_, ⟨HS2.out.1.roll hg, hd'⟩, fun _ _ _ => trivial, ⟨A', c', l, rfl, hl', HS2.out.1.pushG ho hg (by omega)⟩, fun i y _ _ _ _ h => lin5_go hg i y h⟩
      simp only [putL, Act.put, List.getD_cons_zero, List.getD_cons_succ, List.setIfInBounds_toArray, List.set_cons_zero, List.set_cons_succ]
    · have HS2 := Lib.hid HS
      clear HS hp
      refine wpOp_step rfl (fun K hK => ?_)
      simp only [putL, Act.put, List.setIfInBounds_toArray, List.set_cons_zero, List.set_cons_succ]
      go_simp
      refine hK _ _ ⟨.pointer (some ⟨g, 0, none⟩), ?_, HS2.out, fun _ _ _ => trivial, rfl, fun _ _ _ _ _ _ h => h⟩
      simp only [putL, Act.put, List.getD_cons_zero, List.getD_cons_succ, List.setIfInBounds_toArray, List.set_cons_zero, List.set_cons_succ]
    · have HS2 := Lib.hid HS
      clear HS hp
      refine wpOp_step rfl (fun K hK => ?_)
      simp only [putL, Act.put, List.setIfInBounds_toArray, List.set_cons_zero, List.set_cons_succ]
      go_simp
      refine hK _ _ ⟨.pointer (some ⟨w2.heap.size, 1, none⟩), ?_, HS2.out, fun _ _ _ => trivial, rfl, fun _ _ _ _ _ _ h => h⟩
      simp only [putL, Act.put, List.getD_cons_zero, List.getD_cons_succ, List.setIfInBounds_toArray, List.set_cons_zero, List.set_cons_succ]
    · obtain rfl : u5 = .pointer (some ⟨w2.heap.size, 1, none⟩) := hp 5 (by kernel_rfl) (.inr (by decide))
      obtain ⟨-, hx, -, -⟩ := HS.1.cdc 0 rfl
      have HS2 := Lib.hid HS
      clear HS hp
      refine wpOp_step rfl (fun K hK => ?_)
      simp only [putL, Act.put, List.setIfInBounds_toArray, List.set_cons_zero, List.set_cons_succ]
      go_simp
      refine hK _ _ ⟨.int .i64 (d : Int), ?_, HS2.out, fun _ _ _ => trivial, rfl, fun _ _ _ _ _ _ h => h⟩
      simp only [putL, Act.put, List.getD_cons_zero, List.getD_cons_succ, List.setIfInBounds_toArray, List.set_cons_zero, List.set_cons_succ]
    · obtain rfl : u4 = .pointer (some ⟨g, 0, none⟩) := hp 4 (by kernel_rfl) (.inr (by decide))
      obtain rfl : u6 = .int .i64 (d : Int) := hp 6 (by kernel_rfl) (.inr (by decide))
      have HS2 := Lib.hid HS
      clear HS hp
      refine wpOp_step rfl (fun K hK => ?_)
      simp only [putL, Act.put, List.setIfInBounds_toArray, List.set_cons_zero, List.set_cons_succ]
      go_simp
      refine (bytes_any g w.heap.size d v (by omega) HS2.out.2).mono ?_
      rintro en v' ⟨A', c', l, rfl, hl', ho, hd', hg⟩
      refine hK _ _ ⟨.slice A' d c', ?_, ⟨HS2.out.1.roll hg, hd'⟩, fun _ _ _ => trivial, ⟨A', c', l, rfl, hl', HS2.out.1.pushG ho hg (by omega)⟩, fun i y _ _ _ _ h => lin5_go hg i y h⟩
      simp only [putL, Act.put, List.getD_cons_zero, List.getD_cons_succ, List.setIfInBounds_toArray, List.set_cons_zero, List.set_cons_succ]
    · obtain ⟨A', c', l, rfl, hl', ho⟩ : lin5 w g w2.heap.size d m f 3 u3 v := hp 3 (by kernel_rfl) (.inr (by decide))
      have HS2 := Lib.hid HS
      clear HS hp
      refine wpOp_step rfl (fun K hK => ?_)
      simp only [putL, Act.put, List.setIfInBounds_toArray, List.set_cons_zero, List.set_cons_succ]
      go_simp
      refine hK _ _ ⟨.slice A' d c', ?_, HS2.out, fun _ _ _ => trivial, ⟨A', c', l, rfl, hl', ho⟩, fun _ _ _ _ _ _ h => h⟩
      simp only [putL, Act.put, List.getD_cons_zero, List.getD_cons_succ, List.setIfInBounds_toArray, List.set_cons_zero, List.set_cons_succ]
    · obtain ⟨A', c', l, rfl, hl', ho⟩ : lin5 w g w2.heap.size d m f 7 u7 v := hp 7 (by kernel_rfl) (.inr (by decide))
      have HS2 := Lib.hid HS
      clear HS hp
      refine wpOp_step rfl (fun K hK => ?_)
      simp only [putL, Act.put, List.setIfInBounds_toArray, List.set_cons_zero, List.set_cons_succ]
      go_simp
      refine hK _ _ ⟨.slice A' d c', ?_, HS2.out, fun _ _ _ => trivial, ⟨A', c', l, rfl, hl', ho⟩, fun _ _ _ _ _ _ h => h⟩
      simp only [putL, Act.put, List.getD_cons_zero, List.getD_cons_succ, List.setIfInBounds_toArray, List.set_cons_zero, List.set_cons_succ]
  · rintro us v hl HS hS hP
    replace hl : us.length = 10 := hl
    obtain ⟨u0, us0, rfl, hl0⟩ := us_cons (n := 9) hl
    obtain ⟨u1, us1, rfl, hl1⟩ := us_cons (n := 8) hl0
    obtain ⟨u2, us2, rfl, hl2⟩ := us_cons (n := 7) hl1
    obtain ⟨u3, us3, rfl, hl3⟩ := us_cons (n := 6) hl2
    obtain ⟨u4, us4, rfl, hl4⟩ := us_cons (n := 5) hl3
    obtain ⟨u5, us5, rfl, hl5⟩ := us_cons (n := 4) hl4
    obtain ⟨u6, us6, rfl, hl6⟩ := us_cons (n := 3) hl5
    obtain ⟨u7, us7, rfl, hl7⟩ := us_cons (n := 2) hl6
    obtain ⟨u8, us8, rfl, hl8⟩ := us_cons (n := 1) hl7
    obtain ⟨u9, us9, rfl, hl9⟩ := us_cons (n := 0) hl8
    obtain rfl := us_nil hl9
    clear hl hl0 hl1 hl2 hl3 hl4 hl5 hl6 hl7 hl8
    clear hS
    replace HS : Ow w v (some g) [] [] [codeR w2.heap.size d m f] ∧ Dice v g w.heap.size := HS
    obtain ⟨A1, c1, a, rfl, hla, ha⟩ : lin5 w g w2.heap.size d m f 8 u8 v := hP 8 (by show 8 < 10; decide) (by decide)
    obtain ⟨A2, c2, b, rfl, hlb, hb⟩ : lin5 w g w2.heap.size d m f 9 u9 v := hP 9 (by show 9 < 10; decide) (by decide)
    clear HS hP
    simp only [putL, Act.put, List.setIfInBounds_toArray, List.set_cons_zero, List.set_cons_succ]
    have HJ : Hid (Ow w v (some g) [] [⟨A1, d, c1, bys a⟩, ⟨A2, d, c2, bys b⟩] [codeR w2.heap.size d m f]) := ha.join hb
    have HLA := Lib.hid hla
    have HLB := Lib.hid hlb
    clear ha hb hla hlb HO HD
    go_wp2_with fail
    go_loopw [9, 10] (fun s x wr => RLin1 w g [⟨A1, d, c1, bys a⟩, ⟨A2, d, c2, bys b⟩] (codeR w2.heap.size d m f) d fb a b s x wr) (fun _ x _ => d - (intOf x).toNat)
    case atStart => exact ⟨0, none, 0, Nat.zero_le _, rfl, rfl, HJ.out.nil _⟩
    case round =>
      obtain ⟨k, As, cs, hk, rfl, rfl, HO1⟩ := hrel
      clear HJ
      obtain ⟨-, hcx, -, -⟩ := HO1.out.cdc 0 rfl
      rcases Nat.lt_or_ge k d with hkd | hkd
      · have hd : decide ((k : Int) < (d : Int)) = true := decide_eq_true (by omega)
        have hka : Hid (a[k]? = some (Sy.wd a k)) := Sy.wd_lt (by rw [HLA.out]; exact hkd)
        have hkb : Hid (b[k]? = some (Sy.wd b k)) := Sy.wd_lt (by rw [HLB.out]; exact hkd)
        obtain ⟨z, hz, HZ⟩ := xor_ex (Sy.wd a k) (Gf.gmul fb (Sy.wd b k))
        have HZ2 : Hid ((Sy.comb fb a b).take k ++ [z] = (Sy.comb fb a b).take (k + 1)) := by unfold Hid; rw [Sy.comb_take (by rw [HLA.out]; exact hkd), HZ.out]
        obtain ⟨ad1, rfl, -⟩ := HO1.out.byteL 0 rfl hka.out
        obtain ⟨ad2, rfl, -⟩ := HO1.out.byteL 1 rfl hkb.out
        generalize Sy.wd a k = ak at *
        generalize Sy.wd b k = bk at *
        clear HZ
        go_upto_region 10 with (fail)
        refine reg_monoU [some 45, some 46, some 47, some 48, some 49, some 50, some 51, some 52, some 53, some 54, some 55, some 56, some 57, some 58, some 9] (fun v => Ow w v (some g) [] [⟨some ad1, d, c1, bys a⟩, ⟨some ad2, d, c2, bys b⟩] [codeR w2.heap.size d m f]) (fun us v => us.getD 14 undef = .slice As k cs ∧ Ow w v (some g) [] [⟨some ad1, d, c1, bys a⟩, ⟨some ad2, d, c2, bys b⟩] [codeR w2.heap.size d m f, ⟨As, k, cs, 5, bys ((Sy.comb fb a b).take k)⟩]) 13 (fun i => if i = 12 then 13 else 15) (lin10 w g k [⟨some ad1, d, c1, bys a⟩, ⟨some ad2, d, c2, bys b⟩] (codeR w2.heap.size d m f) As cs ad1 d c1 ad2 c2 fb ak bk z ((Sy.comb fb a b).take k)) (by kernel_rfl) (by kernel_rfl) (by kernel_rfl) ?_ ?_ ?_ ?_
        · exact (HO1.out.few 1).drew
        · intro us hl hp
          replace hl : us.length = 15 := hl
          obtain ⟨u0, us0, rfl, hl0⟩ := us_cons (n := 14) hl
          obtain ⟨u1, us1, rfl, hl1⟩ := us_cons (n := 13) hl0
          obtain ⟨u2, us2, rfl, hl2⟩ := us_cons (n := 12) hl1
          obtain ⟨u3, us3, rfl, hl3⟩ := us_cons (n := 11) hl2
          obtain ⟨u4, us4, rfl, hl4⟩ := us_cons (n := 10) hl3
          obtain ⟨u5, us5, rfl, hl5⟩ := us_cons (n := 9) hl4
          obtain ⟨u6, us6, rfl, hl6⟩ := us_cons (n := 8) hl5
          obtain ⟨u7, us7, rfl, hl7⟩ := us_cons (n := 7) hl6
          obtain ⟨u8, us8, rfl, hl8⟩ := us_cons (n := 6) hl7
          obtain ⟨u9, us9, rfl, hl9⟩ := us_cons (n := 5) hl8
          obtain ⟨u10, us10, rfl, hl10⟩ := us_cons (n := 4) hl9
          obtain ⟨u11, us11, rfl, hl11⟩ := us_cons (n := 3) hl10
          obtain ⟨u12, us12, rfl, hl12⟩ := us_cons (n := 2) hl11
          obtain ⟨u13, us13, rfl, hl13⟩ := us_cons (n := 1) hl12
          obtain ⟨u14, us14, rfl, hl14⟩ := us_cons (n := 0) hl13
          obtain rfl := us_nil hl14
          clear hl hl0 hl1 hl2 hl3 hl4 hl5 hl6 hl7 hl8 hl9 hl10 hl11 hl12 hl13
          refine ⟨?_, HO1.out.drew⟩
          have e := congrArg (fun x : Act => x.tmps.getD 9 undef) hp
          simp only [putL, Act.put, List.setIfInBounds_toArray, List.set_cons_zero, List.set_cons_succ] at e
          exact e
        · rintro j us v hj hl HS hS hp
          replace hl : us.length = 15 := hl
          obtain ⟨u0, us0, rfl, hl0⟩ := us_cons (n := 14) hl
          obtain ⟨u1, us1, rfl, hl1⟩ := us_cons (n := 13) hl0
          obtain ⟨u2, us2, rfl, hl2⟩ := us_cons (n := 12) hl1
          obtain ⟨u3, us3, rfl, hl3⟩ := us_cons (n := 11) hl2
          obtain ⟨u4, us4, rfl, hl4⟩ := us_cons (n := 10) hl3
          obtain ⟨u5, us5, rfl, hl5⟩ := us_cons (n := 9) hl4
          obtain ⟨u6, us6, rfl, hl6⟩ := us_cons (n := 8) hl5
          obtain ⟨u7, us7, rfl, hl7⟩ := us_cons (n := 7) hl6
          obtain ⟨u8, us8, rfl, hl8⟩ := us_cons (n := 6) hl7
          obtain ⟨u9, us9, rfl, hl9⟩ := us_cons (n := 5) hl8
          obtain ⟨u10, us10, rfl, hl10⟩ := us_cons (n := 4) hl9
          obtain ⟨u11, us11, rfl, hl11⟩ := us_cons (n := 3) hl10
          obtain ⟨u12, us12, rfl, hl12⟩ := us_cons (n := 2) hl11
          obtain ⟨u13, us13, rfl, hl13⟩ := us_cons (n := 1) hl12
          obtain ⟨u14, us14, rfl, hl14⟩ := us_cons (n := 0) hl13
          obtain rfl := us_nil hl14
          clear hl hl0 hl1 hl2 hl3 hl4 hl5 hl6 hl7 hl8 hl9 hl10 hl11 hl12 hl13
          have hj' : j < 15 := hj
          have hcase : j = 0 ∨ j = 1 ∨ j = 2 ∨ j = 3 ∨ j = 4 ∨ j = 5 ∨ j = 6 ∨ j = 7 ∨ j = 8 ∨ j = 9 ∨ j = 10 ∨ j = 11 ∨ j = 12 ∨ j = 13 ∨ j = 14 := by omega
          clear hj hj'
          replace HS : Ow w v (some g) [] [⟨some ad1, d, c1, bys a⟩, ⟨some ad2, d, c2, bys b⟩] [codeR w2.heap.size d m f] := HS
          rcases hcase with rfl | rfl | rfl | rfl | rfl | rfl | rfl | rfl | rfl | rfl | rfl | rfl | rfl | rfl | rfl
          · have hu : u14 = .slice As k cs := (hS (.inl (by kernel_rfl))).1
            subst hu
            have HS2 := Lib.hid HS
            clear HS hS hp
            refine wpOp_step rfl (fun K hK => ?_)
            simp only [putL, Act.put, List.setIfInBounds_toArray, List.set_cons_zero, List.set_cons_succ]
            go_simp
            refine hK _ _ ⟨.slice As k cs, ?_, HS2.out, fun _ _ h => ⟨h.1, h.2⟩, rfl, fun _ _ _ _ _ _ h => h⟩
            simp only [putL, Act.put, List.getD_cons_zero, List.setIfInBounds_toArray, List.set_cons_zero, List.set_cons_succ]
          · have HS2 := Lib.hid HS
            clear HS hS hp
            refine wpOp_step rfl (fun K hK => ?_)
            simp only [putL, Act.put, List.setIfInBounds_toArray, List.set_cons_zero, List.set_cons_succ]
            go_simp
            refine hK _ _ ⟨.slice (some ad1) d c1, ?_, HS2.out, fun _ _ h => ⟨h.1, h.2⟩, rfl, fun _ _ _ _ _ _ h => h⟩
            simp only [putL, Act.put, List.getD_cons_zero, List.getD_cons_succ, List.setIfInBounds_toArray, List.set_cons_zero, List.set_cons_succ]
          · have HS2 := Lib.hid HS
            clear HS hS hp
            refine wpOp_step rfl (fun K hK => ?_)
            simp only [putL, Act.put, List.setIfInBounds_toArray, List.set_cons_zero, List.set_cons_succ]
            go_simp
            refine hK _ _ ⟨.int .i64 (k : Int), ?_, HS2.out, fun _ _ h => ⟨h.1, h.2⟩, rfl, fun _ _ _ _ _ _ h => h⟩
            simp only [putL, Act.put, List.getD_cons_zero, List.getD_cons_succ, List.setIfInBounds_toArray, List.set_cons_zero, List.set_cons_succ]
          · obtain rfl : u1 = .slice (some ad1) d c1 := hp 1 (by kernel_rfl) (.inr (by decide))
            obtain rfl : u2 = .int .i64 (k : Int) := hp 2 (by kernel_rfl) (.inr (by decide))
            have HS2 := Lib.hid HS
            clear HS hS hp
            refine wpOp_step rfl (fun K hK => ?_)
            simp only [putL, Act.put, List.setIfInBounds_toArray, List.set_cons_zero, List.set_cons_succ]
            go_simp
            refine hK _ _ ⟨.pointer (some (ad1.add k)), ?_, HS2.out, fun _ _ h => ⟨h.1, h.2⟩, rfl, fun _ _ _ _ _ _ h => h⟩
            simp only [putL, Act.put, List.getD_cons_zero, List.getD_cons_succ, List.setIfInBounds_toArray, List.set_cons_zero, List.set_cons_succ]
          · obtain rfl : u3 = .pointer (some (ad1.add k)) := hp 3 (by kernel_rfl) (.inr (by decide))
            obtain ⟨ad', e', hx⟩ := HS.byteL 0 rfl hka.out
            obtain rfl := Option.some.inj e'
            clear e'
            have HS2 := Lib.hid HS
            clear HS hS hp
            refine wpOp_step rfl (fun K hK => ?_)
            simp only [putL, Act.put, List.setIfInBounds_toArray, List.set_cons_zero, List.set_cons_succ]
            go_simp
            refine hK _ _ ⟨.int .u8 (ak.toNat : Int), ?_, HS2.out, fun _ _ h => ⟨h.1, h.2⟩, rfl, fun _ _ _ _ _ _ h => h⟩
            simp only [putL, Act.put, List.getD_cons_zero, List.getD_cons_succ, List.setIfInBounds_toArray, List.set_cons_zero, List.set_cons_succ]
          · have HS2 := Lib.hid HS
            clear HS hS hp
            refine wpOp_step rfl (fun K hK => ?_)
            simp only [putL, Act.put, List.setIfInBounds_toArray, List.set_cons_zero, List.set_cons_succ]
            go_simp
            refine hK _ _ ⟨.int .u8 (fb.toNat : Int), ?_, HS2.out, fun _ _ h => ⟨h.1, h.2⟩, rfl, fun _ _ _ _ _ _ h => h⟩
            simp only [putL, Act.put, List.getD_cons_zero, List.getD_cons_succ, List.setIfInBounds_toArray, List.set_cons_zero, List.set_cons_succ]
          · have HS2 := Lib.hid HS
            clear HS hS hp
            refine wpOp_step rfl (fun K hK => ?_)
            simp only [putL, Act.put, List.setIfInBounds_toArray, List.set_cons_zero, List.set_cons_succ]
            go_simp
            refine hK _ _ ⟨.slice (some ad2) d c2, ?_, HS2.out, fun _ _ h => ⟨h.1, h.2⟩, rfl, fun _ _ _ _ _ _ h => h⟩
            simp only [putL, Act.put, List.getD_cons_zero, List.getD_cons_succ, List.setIfInBounds_toArray, List.set_cons_zero, List.set_cons_succ]
          · have HS2 := Lib.hid HS
            clear HS hS hp
            refine wpOp_step rfl (fun K hK => ?_)
            simp only [putL, Act.put, List.setIfInBounds_toArray, List.set_cons_zero, List.set_cons_succ]
            go_simp
            refine hK _ _ ⟨.int .i64 (k : Int), ?_, HS2.out, fun _ _ h => ⟨h.1, h.2⟩, rfl, fun _ _ _ _ _ _ h => h⟩
            simp only [putL, Act.put, List.getD_cons_zero, List.getD_cons_succ, List.setIfInBounds_toArray, List.set_cons_zero, List.set_cons_succ]
          · obtain rfl : u6 = .slice (some ad2) d c2 := hp 6 (by kernel_rfl) (.inr (by decide))
            obtain rfl : u7 = .int .i64 (k : Int) := hp 7 (by kernel_rfl) (.inr (by decide))
            have HS2 := Lib.hid HS
            clear HS hS hp
            refine wpOp_step rfl (fun K hK => ?_)
            simp only [putL, Act.put, List.setIfInBounds_toArray, List.set_cons_zero, List.set_cons_succ]
            go_simp
            refine hK _ _ ⟨.pointer (some (ad2.add k)), ?_, HS2.out, fun _ _ h => ⟨h.1, h.2⟩, rfl, fun _ _ _ _ _ _ h => h⟩
            simp only [putL, Act.put, List.getD_cons_zero, List.getD_cons_succ, List.setIfInBounds_toArray, List.set_cons_zero, List.set_cons_succ]
          · obtain rfl : u8 = .pointer (some (ad2.add k)) := hp 8 (by kernel_rfl) (.inr (by decide))
            obtain ⟨ad', e', hx⟩ := HS.byteL 1 rfl hkb.out
            obtain rfl := Option.some.inj e'
            clear e'
            have HS2 := Lib.hid HS
            clear HS hS hp
            refine wpOp_step rfl (fun K hK => ?_)
            simp only [putL, Act.put, List.setIfInBounds_toArray, List.set_cons_zero, List.set_cons_succ]
            go_simp
            refine hK _ _ ⟨.int .u8 (bk.toNat : Int), ?_, HS2.out, fun _ _ h => ⟨h.1, h.2⟩, rfl, fun _ _ _ _ _ _ h => h⟩
            simp only [putL, Act.put, List.getD_cons_zero, List.getD_cons_succ, List.setIfInBounds_toArray, List.set_cons_zero, List.set_cons_succ]
          · obtain rfl : u5 = .int .u8 (fb.toNat : Int) := hp 5 (by kernel_rfl) (.inr (by decide))
            obtain rfl : u9 = .int .u8 (bk.toNat : Int) := hp 9 (by kernel_rfl) (.inr (by decide))
            have HS2 := Lib.hid HS
            clear HS hS hp
            refine wpOp_step rfl (fun K hK => ?_)
            simp only [putL, Act.put, List.setIfInBounds_toArray, List.set_cons_zero, List.set_cons_succ]
            go_simp
            refine (refmul_any fb bk v).mono ?_
            rintro en v' ⟨rfl, rfl⟩
            refine hK _ _ ⟨.int .u8 ((Gf.gmul fb bk).toNat : Int), ?_, HS2.out, fun _ _ h => ⟨h.1, h.2⟩, rfl, fun _ _ _ _ _ _ h => h⟩
            simp only [putL, Act.put, List.getD_cons_zero, List.getD_cons_succ, List.setIfInBounds_toArray, List.set_cons_zero, List.set_cons_succ]
          · obtain rfl : u4 = .int .u8 (ak.toNat : Int) := hp 4 (by kernel_rfl) (.inr (by decide))
            obtain rfl : u10 = .int .u8 ((Gf.gmul fb bk).toNat : Int) := hp 10 (by kernel_rfl) (.inr (by decide))
            have HS2 := Lib.hid HS
            clear HS hS hp
            refine wpOp_step rfl (fun K hK => ?_)
            simp only [putL, Act.put, List.setIfInBounds_toArray, List.set_cons_zero, List.set_cons_succ]
            go_simp
            refine hK _ _ ⟨.int .u8 (z.toNat : Int), ?_, HS2.out, fun _ _ h => ⟨h.1, h.2⟩, rfl, fun _ _ _ _ _ _ h => h⟩
            simp only [putL, Act.put, List.getD_cons_zero, List.getD_cons_succ, List.setIfInBounds_toArray, List.set_cons_zero, List.set_cons_succ]
          · obtain rfl : u11 = .int .u8 (z.toNat : Int) := hp 11 (by kernel_rfl) (.inr (by decide))
            have HS2 := Lib.hid HS
            have hnew := Lib.hid (sl_new1 v 5 (.int .u8 (z.toNat : Int)))
            clear HS hS hp
            refine wpOp_step rfl (fun K hK => ?_)
            simp only [putL, Act.put, List.setIfInBounds_toArray, List.set_cons_zero, List.set_cons_succ]
            go_simp
            refine hK _ _ ⟨.slice (some ⟨v.heap.size, 0, none⟩) 1 1, ?_, HS2.out.go (own_box1 v _), fun _ _ h => ⟨h.1, h.2.go (own_box1 v _)⟩, ⟨v.heap.size, rfl, hnew.out.more (by simp)⟩, fun i y _ _ _ _ h => lin10_go (own_box1 v _) i y h⟩
            simp only [putL, Act.put, List.getD_cons_zero, List.getD_cons_succ, List.setIfInBounds_toArray, List.set_cons_zero, List.set_cons_succ]
          · obtain rfl : u0 = .slice As k cs := hp 0 (by kernel_rfl) (.inr (by decide))
            obtain ⟨q, rfl, hsl⟩ : lin10 w g k [⟨some ad1, d, c1, bys a⟩, ⟨some ad2, d, c2, bys b⟩] (codeR w2.heap.size d m f) As cs ad1 d c1 ad2 c2 fb ak bk z ((Sy.comb fb a b).take k) 12 u12 v := hp 12 (by kernel_rfl) (.inl rfl)
            have HS1 : Ow w v (some g) [] [⟨some ad1, d, c1, bys a⟩, ⟨some ad2, d, c2, bys b⟩] [codeR w2.heap.size d m f, ⟨As, k, cs, 5, bys ((Sy.comb fb a b).take k)⟩] := (hS (.inr (.inl rfl))).2
            clear hp hS HS
            refine wpOp_step rfl (fun K hK => ?_)
            simp only [putL, Act.put, List.setIfInBounds_toArray, List.set_cons_zero, List.set_cons_succ]
            refine owp_append elemB HS1 1 (.tmp 45) (.tmp 57) rfl (m := 1) (news := [.int .u8 (z.toNat : Int)]) rfl hsl (bys_one [z]) (by unfold maxLen; omega) (by omega) rfl rfl rfl ?_
            intro A' c' v' how
            rw [show bys (List.take k (Sy.comb fb a b)) ++ [.int .u8 (z.toNat : Int)] = bys (List.take k (Sy.comb fb a b) ++ [z]) from bys_snoc _ _] at how
            refine hK _ _ ⟨.slice A' (k + 1) c', ?_, how.few 1, fun h => absurd rfl h, ⟨A', c', rfl, how⟩, fun i y hi hk ha _ h => ?_⟩
            · show Act.put _ (some 58) (.slice A' (k + 1) c') = _
              simp only [putL, Act.put, List.getD_cons_zero, List.getD_cons_succ, List.setIfInBounds_toArray, List.set_cons_zero, List.set_cons_succ]
            rcases i with _ | _ | _ | _ | _ | _ | _ | _ | _ | _ | _ | _ | _ | _ | _ | i
            · exact h
            · exact h
            · exact h
            · exact h
            · exact h
            · exact h
            · exact h
            · exact h
            · exact h
            · exact h
            · exact h
            · exact h
            · exact absurd rfl hk
            · exact absurd rfl hi
            · exact absurd (ha.symm.trans (show _ = true by kernel_rfl)) (by decide)
            · trivial
          · obtain ⟨A', c', rfl, ho⟩ : lin10 w g k [⟨some ad1, d, c1, bys a⟩, ⟨some ad2, d, c2, bys b⟩] (codeR w2.heap.size d m f) As cs ad1 d c1 ad2 c2 fb ak bk z ((Sy.comb fb a b).take k) 13 u13 v := hp 13 (by kernel_rfl) (.inr (by decide))
            have HS2 := Lib.hid HS
            clear HS hS hp
            refine wpOp_step rfl (fun K hK => ?_)
            simp only [putL, Act.put, List.setIfInBounds_toArray, List.set_cons_zero, List.set_cons_succ]
            go_simp
            refine hK _ _ ⟨.slice A' (k + 1) c', ?_, HS2.out, fun _ ha _ => absurd (ha.symm.trans (show _ = true by kernel_rfl)) (by decide), ⟨A', c', rfl, ho⟩, fun _ _ _ _ _ _ h => h⟩
            simp only [putL, Act.put, List.getD_cons_zero, List.getD_cons_succ, List.setIfInBounds_toArray, List.set_cons_zero, List.set_cons_succ]
        · rintro us v hl HS hS hP
          replace hl : us.length = 15 := hl
          obtain ⟨u0, us0, rfl, hl0⟩ := us_cons (n := 14) hl
          obtain ⟨u1, us1, rfl, hl1⟩ := us_cons (n := 13) hl0
          obtain ⟨u2, us2, rfl, hl2⟩ := us_cons (n := 12) hl1
          obtain ⟨u3, us3, rfl, hl3⟩ := us_cons (n := 11) hl2
          obtain ⟨u4, us4, rfl, hl4⟩ := us_cons (n := 10) hl3
          obtain ⟨u5, us5, rfl, hl5⟩ := us_cons (n := 9) hl4
          obtain ⟨u6, us6, rfl, hl6⟩ := us_cons (n := 8) hl5
          obtain ⟨u7, us7, rfl, hl7⟩ := us_cons (n := 7) hl6
          obtain ⟨u8, us8, rfl, hl8⟩ := us_cons (n := 6) hl7
          obtain ⟨u9, us9, rfl, hl9⟩ := us_cons (n := 5) hl8
          obtain ⟨u10, us10, rfl, hl10⟩ := us_cons (n := 4) hl9
          obtain ⟨u11, us11, rfl, hl11⟩ := us_cons (n := 3) hl10
          obtain ⟨u12, us12, rfl, hl12⟩ := us_cons (n := 2) hl11
          obtain ⟨u13, us13, rfl, hl13⟩ := us_cons (n := 1) hl12
          obtain ⟨u14, us14, rfl, hl14⟩ := us_cons (n := 0) hl13
          obtain rfl := us_nil hl14
          clear hl hl0 hl1 hl2 hl3 hl4 hl5 hl6 hl7 hl8 hl9 hl10 hl11 hl12 hl13
          clear hS
          replace HS : Ow w v (some g) [] [⟨some ad1, d, c1, bys a⟩, ⟨some ad2, d, c2, bys b⟩] [codeR w2.heap.size d m f] := HS
          obtain ⟨A', c', rfl, ho⟩ : lin10 w g k [⟨some ad1, d, c1, bys a⟩, ⟨some ad2, d, c2, bys b⟩] (codeR w2.heap.size d m f) As cs ad1 d c1 ad2 c2 fb ak bk z ((Sy.comb fb a b).take k) 14 u14 v := hP 14 (by show 14 < 15; decide) (by decide)
          clear HS hP
          simp only [putL, Act.put, List.setIfInBounds_toArray, List.set_cons_zero, List.set_cons_succ]
          have HO2 := Lib.hid ho
          clear ho
          go_wp2_with fail
          go_roundw
          case rel =>
            have h5 := HO2.out
            rw [HZ2.out] at h5
            exact ⟨k + 1, A', c', by omega, by go_num, rfl, h5⟩
          case measure => simp [intOf]; omega
      · have hd : decide ((k : Int) < (d : Int)) = false := decide_eq_false (by omega)
        have hkd' : k = d := by omega
        subst hkd'
        have hcm : (Sy.comb fb a b).take k = Sy.comb fb a b := List.take_of_length_le (by rw [Sy.comb_length, HLA.out]; exact Nat.le_refl _)
        rw [hcm] at HO1
        clear hcm hk hkd
        obtain ⟨hc0, -, hc2, hc3⟩ := HO1.out.cdc 0 rfl
        have HN := Lib.hid (encode_ok hcd0.out hfm A1 c1 a wr HLA.out (HO1.out.sl (i := 0) rfl).2.2.2 (HO1.out.sl (i := 0) rfl).2.1)
        go_wp2_with fail
        refine HN.out.mono ?_
        rintro en w4 ⟨Ax, nx, cx, rfl, hnx, hox, hbx⟩
        obtain rfl : k + m = nx := (by rw [← hnx, Sy.enc_length, HLA.out])
        have HO2 := Lib.hid (HO1.out.add hox hbx)
        clear hnx hox hbx HN HO1 hc0 hcx hc2 hc3 hd
        obtain ⟨hc0, hc1, hc2, hc3⟩ := HO2.out.cdc 0 rfl
        have HN := Lib.hid (encode_ok hcd0.out hfm A2 c2 b w4 HLB.out (HO2.out.sl (i := 1) rfl).2.2.2 (HO2.out.sl (i := 1) rfl).2.1)
        go_wp2_with fail
        refine HN.out.mono ?_
        rintro en w5 ⟨Ay, nx, cy, rfl, hnx, hox, hbx⟩
        obtain rfl : k + m = nx := (by rw [← hnx, Sy.enc_length, HLB.out])
        have HO3 := Lib.hid (HO2.out.add hox hbx)
        clear hnx hox hbx HN HO2 hc0 hc1 hc2 hc3
        obtain ⟨hc0, hc1, hc2, hc3⟩ := HO3.out.cdc 0 rfl
        have HN := Lib.hid (encode_ok hcd0.out hfm As cs (Sy.comb fb a b) w5 (by rw [Sy.comb_length]; exact HLA.out) (Sl.of_own (HO3.out.row 1 rfl)) (own_cap (HO3.out.row 1 rfl)).1)
        go_wp2_with fail
        refine HN.out.mono ?_
        rintro en w6 ⟨Az, nx, cz, rfl, hnx, hox, hbx⟩
        obtain rfl : k + m = nx := (by rw [← hnx, Sy.enc_length, Sy.comb_length, HLA.out])
        have HO4 := Lib.hid (HO3.out.add hox hbx)
        clear hnx hox hbx HN HO3 hc0 hc1 hc2 hc3
        have HO4 : Hid (Ow w w6 (some g) [] [⟨A1, k, c1, bys a⟩, ⟨A2, k, c2, bys b⟩] [codeR w2.heap.size k m f, ⟨As, k, cs, 5, bys (Sy.comb fb a b)⟩, ⟨Ax, k + m, cx, 5, bys (Sy.enc m a)⟩, ⟨Ay, k + m, cy, 5, bys (Sy.enc m b)⟩, ⟨Az, k + m, cz, 5, bys (Sy.enc m (Sy.comb fb a b))⟩]) := HO4.out
        have hlab : Hid (a.length = b.length) := by unfold Hid; rw [HLA.out, HLB.out]
        have hzz : Sy.enc m (Sy.comb fb a b) = Sy.comb fb (Sy.enc m a) (Sy.enc m b) := Sy.enc_comb (by omega) fb hlab.out (by rw [HLA.out]; omega)
        rw [hzz] at HO4
        clear hzz
        obtain ⟨hc0, hc1, hc2, hc3⟩ := HO4.out.cdc 0 rfl
        obtain ⟨nn, hnn⟩ : ∃ nn : Nat, Hid (nn = k + m) := ⟨_, rfl⟩
        rw [← hnn.out] at HO4 ⊢
        have hnnI : (k : Int) + (m : Int) = (nn : Int) := by have := hnn.out; omega
        have hn40 : 1 ≤ nn ∧ nn ≤ 40 := by have := hnn.out; omega
        obtain ⟨hn1, hn40⟩ := hn40
        go_wp2_with fail
        refine (awake07_any w6).mono ?_
        rintro en w7 ⟨rfl, hb7⟩
        have HO5 := Lib.hid (HO4.out.go hb7)
        clear HO4 hb7 hc0 hc1 hc2 hc3 hnnI
        go_wp2_with fail
        skip
        obtain ⟨gx, rfl, -, -⟩ := own_form (HO5.out.row 2 rfl) (by omega)
        obtain ⟨gy, rfl, -, -⟩ := own_form (HO5.out.row 3 rfl) (by omega)
        obtain ⟨gz, rfl, -, -⟩ := own_form (HO5.out.row 4 rfl) (by omega)
        have hlx : Hid ((Sy.enc m a).length = nn) := by unfold Hid; rw [Sy.enc_length, HLA.out, hnn.out]
        have hly : Hid ((Sy.enc m b).length = nn) := by unfold Hid; rw [Sy.enc_length, HLB.out, hnn.out]
        have HO5 : Hid (Ow w w7 (some g) [] [⟨A1, k, c1, bys a⟩, ⟨A2, k, c2, bys b⟩] [codeR w2.heap.size k m f, ⟨As, k, cs, 5, bys (Sy.comb fb a b)⟩, ⟨some ⟨gx, 0, none⟩, nn, cx, 5, bys (Sy.enc m a)⟩, ⟨some ⟨gy, 0, none⟩, nn, cy, 5, bys (Sy.enc m b)⟩, ⟨some ⟨gz, 0, none⟩, nn, cz, 5, bys (Sy.comb fb (Sy.enc m a) (Sy.enc m b))⟩]) := HO5.out
        go_loopw [18, 19] (fun u x wr => RLin2 w g [⟨A1, k, c1, bys a⟩, ⟨A2, k, c2, bys b⟩] [codeR w2.heap.size k m f, ⟨As, k, cs, 5, bys (Sy.comb fb a b)⟩, ⟨some ⟨gx, 0, none⟩, nn, cx, 5, bys (Sy.enc m a)⟩, ⟨some ⟨gy, 0, none⟩, nn, cy, 5, bys (Sy.enc m b)⟩, ⟨some ⟨gz, 0, none⟩, nn, cz, 5, bys (Sy.comb fb (Sy.enc m a) (Sy.enc m b))⟩] nn (Sy.enc m a) (Sy.enc m b) u x wr) (fun _ x _ => nn - (intOf x).toNat)
        case atStart => exact ⟨0, 0, Nat.zero_le _, Nat.le_refl _, rfl, rfl, rfl, HO5.out⟩
        case round =>
          obtain ⟨i, df, hi, hdf, rfl, rfl, HDF, HO6⟩ := hrel
          clear HO5
          rcases Nat.lt_or_ge i nn with hin | hin
          · have hd : decide ((i : Int) < (nn : Int)) = true := decide_eq_true (by omega)
            have hx := Sy.wd_lt (l := Sy.enc m a) (i := i) (by rw [hlx.out]; exact hin)
            have hy := Sy.wd_lt (l := Sy.enc m b) (i := i) (by rw [hly.out]; exact hin)
            have hz := Sy.wd_lt (l := Sy.comb fb (Sy.enc m a) (Sy.enc m b)) (i := i) (by rw [Sy.comb_length, hlx.out]; exact hin)
            rw [Sy.wd_comb fb (Sy.enc m a) (Sy.enc m b) (by rw [hlx.out]; exact hin)] at hz
            have hDs : Hid (Sy.wt (fun j => Sy.wd (Sy.enc m a) j ^^^ Sy.wd (Sy.enc m b) j) (i + 1) = df + (if Sy.wd (Sy.enc m a) i ^^^ Sy.wd (Sy.enc m b) i != 0 then 1 else 0)) := by unfold Hid; rw [Sy.wt_succ, HDF.out]
            obtain ⟨q, hq, HQ⟩ := xor_ex (Sy.wd (Sy.enc m a) i) (Gf.gmul fb (Sy.wd (Sy.enc m b) i))
            rw [← HQ.out] at hz
            have hcx := HO6.out.byteO 2 rfl hx
            have hcy := HO6.out.byteO 3 rfl hy
            have hcz := HO6.out.byteO 4 rfl hz
            generalize Sy.wd (Sy.enc m a) i = xi at *
            generalize Sy.wd (Sy.enc m b) i = yi at *
            have hqq : ((q.toNat : Int) != (q.toNat : Int)) = false := by simp
            clear hx hy hz HQ HDF
            by_cases hxy : xi = yi
            · subst hxy
              have hne : ((xi.toNat : Int) != (xi.toNat : Int)) = false := by simp
              have hDs2 : Hid (df = Sy.wt (fun j => Sy.wd (Sy.enc m a) j ^^^ Sy.wd (Sy.enc m b) j) (i + 1)) := by
                unfold Hid
                rw [hDs.out, UInt8.xor_self]
                rfl
              clear hDs
              go_wp2_with fail
              go_quiet ((go_at_call 37; with_reducible exact quiet_left (refmul_any _ _ _)))
              go_wp2_with fail
              go_quiet (fail)
              go_wp2_with fail
              go_roundw
              case rel => exact ⟨i + 1, df, by omega, by omega, rfl, by go_num, hDs2, HO6.out.drewN _⟩
              case measure => simp [intOf]; omega
            · have hne : ((xi.toNat : Int) != (yi.toNat : Int)) = true := by
                rw [bne_iff_ne]
                exact fun e => hxy (UInt8.toNat_inj.1 (by omega))
              have hDs2 : Hid (df + 1 = Sy.wt (fun j => Sy.wd (Sy.enc m a) j ^^^ Sy.wd (Sy.enc m b) j) (i + 1)) := by
                unfold Hid
                rw [hDs.out, if_pos (bne_iff_ne.2 (Sy.xor_ne hxy))]
              clear hDs hxy
              go_wp2_with fail
              go_quiet ((go_at_call 37; with_reducible exact quiet_left (refmul_any _ _ _)))
              go_wp2_with fail
              go_quiet (fail)
              go_wp2_with fail
              go_roundw
              case rel => exact ⟨i + 1, df + 1, by omega, by omega, by go_num, by go_num, hDs2, HO6.out.drewN _⟩
              case measure => simp [intOf]; omega
          · have hd : decide ((i : Int) < (nn : Int)) = false := decide_eq_false (by omega)
            have hin' : i = nn := by omega
            subst hin'
            have HSy : Hid (Calls Tryd.prog 38 #[.agg #[.int .i64 2, .int .i64 (k : Int), .int .i64 (m : Int), .int .i64 (f : Int)], .slice (some ⟨gx, 0, none⟩) i cx] wr (ResB wr (List.replicate m 0) 0)) := by
              unfold Hid
              have h1 := Sl.of_own (HO6.out.row 2 rfl)
              have h2 := (own_cap (HO6.out.row 2 rfl)).1
              rw [← Sy.synL_zero (Sy.enc_cw m (by omega) a)]
              rw [hnn.out] at h2 ⊢
              exact synExp_any hcd0.out hfm (some ⟨gx, 0, none⟩) cx (Sy.enc m a) wr (by rw [hlx.out, hnn.out]) h1 h2
            have hFar : Hid (a ≠ b → m < df) := fun hne => by
              have h1 := Sy.enc_far (m := m) (by omega) hlab.out (by rw [HLA.out]; omega) hne
              rw [HLA.out, ← hnn.out] at h1
              rw [HDF.out]
              exact h1
            obtain ⟨hc0, hc1, hc2, hc3⟩ := HO6.out.cdc 0 rfl
            clear HDF hlx hly
            go_wp2_with fail
            refine HSy.out.mono ?_
            rintro en w8 ⟨Ap, mp, cp, rfl, hmp, hop, hbp⟩
            obtain rfl : m = mp := by rw [← hmp, List.length_replicate]
            obtain ⟨gp, rfl, -, -⟩ := own_form hop (by omega)
            have HO7 : Hid (Ow w w8 (some g) [] [⟨A1, k, c1, bys a⟩, ⟨A2, k, c2, bys b⟩] [codeR w2.heap.size k m f, ⟨some ⟨gp, 0, none⟩, m, cp, 5, bys (List.replicate m 0)⟩]) := by
              have h5 := HO6.out.add hop hbp
              exact h5.re (fun i => if i = 0 then 0 else 5) (fun i j hi hj h => by simp only [List.length_cons, List.length_nil] at hi hj; split at h <;> split at h <;> omega) (fun i r hi => by rcases i with _ | _ | i <;> simp at hi ⊢ <;> exact hi)
            clear hmp hop hbp HO6 HSy hc0 hc1 hc2 hc3
            go_wp2_with fail
            go_loopw [22] (fun x wr => RLin3 w g [⟨A1, k, c1, bys a⟩, ⟨A2, k, c2, bys b⟩] [codeR w2.heap.size k m f, ⟨some ⟨gp, 0, none⟩, m, cp, 5, bys (List.replicate m 0)⟩] m x wr) (fun x _ => m - (intOf x).toNat)
            case atStart => exact ⟨0, Nat.zero_le _, rfl, HO7.out⟩
            case round =>
              obtain ⟨j, hj, rfl, HO8⟩ := hrel
              clear HO7
              rcases Nat.lt_or_ge j m with hjm | hjm
              · have hd : decide ((j : Int) < (m : Int)) = true := decide_eq_true (by omega)
                have hcp : wr.cell? ⟨gp, j, none⟩ = some (.int .u8 0) := HO8.out.byteO 1 (b := 0) rfl (by rw [List.getElem?_replicate, if_pos hjm])
                go_wp2_with fail
                go_roundw
                case rel => exact ⟨j + 1, by omega, by go_num, HO8.out⟩
                case measure => simp [intOf]; omega
              · have hd : decide ((j : Int) < (m : Int)) = false := decide_eq_false (by omega)
                have hjm' : j = m := by omega
                subst hjm'
                obtain ⟨hc0, hc1, hc2, hc3⟩ := HO8.out.cdc 0 rfl
                have HSm : Hid (∀ v2 : World, Below wr.heap.size wr v2 → Calls Tryd.prog 35 #[.slice A1 k c1, .slice A2 k c2] v2 fun en v3 => en = .returned (.bool (decide (a = b))) ∧ Below v2.heap.size v2 v3) := fun v2 hb => by
                  have HX2 := HO8.out.go hb
                  exact same_any A1 A2 k c1 k c2 v2.heap.size a b v2 HLA.out HLB.out (HX2.sl (i := 0) rfl).2.2.2 (HX2.sl (i := 1) rfl).2.2.2 (by omega) (by omega)
                by_cases hab : a = b
                · rw [decide_eq_true hab] at HSm
                  clear hab hlab hFar HLA HLB
                  go_wp2_with (go_at_call 35; refine (HSm.out _ (Below.refl _ _)).mono ?_; rintro en w9 ⟨rfl, hb9⟩; have HO9 := Lib.hid (HO8.out.go hb9); clear hb9)
                  go_ret
                  exact ⟨rfl, HO9.out.below⟩
                · have hgt : decide ((df : Int) > (j : Int)) = true := decide_eq_true (by have := hFar.out hab; omega)
                  have hgt2 : decide ((j : Int) < (df : Int)) = true := decide_eq_true (by have := hFar.out hab; omega)
                  rw [decide_eq_false hab] at HSm
                  clear hab hlab hFar HLA HLB
                  go_wp2_with fail
                  refine (HSm.out _ (Below.refl _ _)).mono ?_
                  rintro en w9 ⟨rfl, hb9⟩
                  have HO9 := Lib.hid (HO8.out.go hb9)
                  obtain ⟨he0, he1, he2, he3⟩ := HO9.out.cdc 0 rfl
                  clear hb9
                  go_wp2_with fail
                  go_ret
                  exact ⟨ret_bool (decide_eq_true (by have := of_decide_eq_true hgt2; omega)), HO9.out.below⟩

end Go.Proofs.YtjhaogbopmhkoaaDoor

namespace Go.Proofs.YtjhaogbopmhkoaaDoor
open Go.ChangeShapes Go.WideShapes Go.ChangeAt Go.RowKit

section
variable {H : Type} {enc : TypeId × Value → H} {P : Program}
end
end Go.Proofs.YtjhaogbopmhkoaaDoor

namespace Go.Proofs.YtjhaogbopmhkoaaDoor
open Go.ChangeShapes Go.WideShapes Go.ChangeAt Go.RowKit
set_option linter.unusedVariables false

section
variable {H : Type} {enc : TypeId × Value → H} {P : Program} {W : World}
theorem u8_of' {n : Int} (h : (Lit.int .u8 n).wf = true) : ∃ a : UInt8, n = (a.toNat : Int) := by
  have hb : 0 ≤ n ∧ n < 256 := by
    simp [Lit.wf, IntKind.min, IntKind.max, IntKind.bits, IntKind.signed] at h
    omega
  refine ⟨UInt8.ofNat n.toNat, ?_⟩
  rw [UInt8.toNat_ofNat']
  omega
end
end Go.Proofs.YtjhaogbopmhkoaaDoor


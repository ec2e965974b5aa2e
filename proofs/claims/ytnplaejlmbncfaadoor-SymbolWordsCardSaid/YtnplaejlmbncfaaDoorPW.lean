/- what more is needed -/
import Derived.Test.YtnplaejlmbncfaaDoorZ11
import Derived.Test.YtnplaejlmbncfaaDoorZ13
import Derived.WalkKit
import Derived.WalkLawsBesides
import Derived.WalkSpells
import Derived.Lib.Hide
import Derived.Laws.BitsAllLaws
import Derived.Deep.QuietTactic
import Derived.BigQuiet
import Derived.Below
import Derived.OwnWalk
import Derived.Laws.OwnMore
import Derived.Laws.Rows
import Derived.Deep.AppendLies
import Derived.Maps.AppendAt
import Derived.Test.YtnplaejlmbncfaaDoorChecked
import Derived.StillTailTactics
import Derived.RangeFuncNested
import Derived.RangeFuncBound
import Derived.RangeFuncCalls
import Derived.RangeFuncLeaves
import Derived.RangeFuncBox
import Derived.RangeFuncWrites
import Derived.Shelf.Abstract
import Derived.Shelf.RegionOpen
import Derived.OwnWalkIn
import Derived.TacticsInMore
import Derived.LoopNIn
import Derived.LoopIn
import Derived.Outline
import Derived.Deep.Cut
import Derived.RegionIn
import Derived.Lib.IndexBytes
import Derived.Lib.BufferRead
import Derived.RegionTactic
import Derived.ChangeAlike
import Derived.Deep.RegionWith
import Derived.StillTail
import Derived.Lib.QuietBelow
import Derived.Lib.AppendZeros
import Derived.BigRegion
import Derived.ProofKit
import Derived.OpenShut
import Derived.Carry
namespace Go.Proofs.YtnplaejlmbncfaaDoor
namespace Gf
/-- the first k bits' part of a product -/
def gpart : Nat → UInt8 → UInt8 → UInt8
  | 0, _, _ => 0
  | k + 1, a, c => gpart k a c ^^^ sel (bit c k) (dblN k a)
theorem gpart_all (a c : UInt8) : gpart 8 a c = gmul a c := by
  unfold gmul
  simp only [gpart, UInt8.zero_xor]

end Gf
end Go.Proofs.YtnplaejlmbncfaaDoor

namespace Go.Proofs.YtnplaejlmbncfaaDoor
namespace Po
open Gf
theorem co_ext (p q : List UInt8) (hl : p.length = q.length) (h : ∀ i, co p i = co q i) : p = q := by
  apply List.ext_getElem hl
  intro i h1 h2
  have := h i
  unfold co at this
  rw [List.getElem?_eq_getElem h1, List.getElem?_eq_getElem h2] at this
  exact this
theorem len_le_of_top (p q : List UInt8) (hp : 0 < p.length → co p (p.length - 1) ≠ 0) (h : ∀ i, co p i = co q i) : p.length ≤ q.length := by
  rcases Nat.eq_zero_or_pos p.length with h0 | h0
  · omega
  · rcases Nat.lt_or_ge q.length p.length with h1 | h1
    · exact absurd ((h _).trans (co_big q _ (by omega))) (hp h0)
    · exact h1
/-- polynomials with equal coefficients are equal -/
theorem vld_ext (p q : List UInt8) (hp : vld p = true) (hq : vld q = true) (h : ∀ i, co p i = co q i) : p = q :=
  co_ext p q (Nat.le_antisymm (len_le_of_top p q (vld_top p hp) h) (len_le_of_top q p (vld_top q hq) (fun i => (h i).symm))) h
end Po
end Go.Proofs.YtnplaejlmbncfaaDoor

namespace Go.Proofs.YtnplaejlmbncfaaDoor
namespace Po
open Gf
section
variable (p q : List UInt8) (lead : UInt8) (hq : 0 < q.length) (hpq : q.length ≤ p.length)
end
theorem rem_vld (p q : List UInt8) (hp : vld p = true) (hq : q.length ≤ 255) : vld (rem p q) = true := by
  unfold rem
  split
  · exact hp
  · refine trim_vld _ ?_
    have : ((dvAll p q).1.take (q.length - 1)).length ≤ q.length - 1 := List.length_take_le _ _
    omega
end Po
end Go.Proofs.YtnplaejlmbncfaaDoor

namespace Go.Proofs.YtnplaejlmbncfaaDoor
open Go.RowKit
set_option linter.unusedVariables false
set_option maxRecDepth 100000

theorem Sl.nat {w : World} {B : Nat} {A : Option Addr} {l : List Nat} (h : Sl w B A (nats l)) {k : Nat} {b : Nat} (hk : l[k]? = some b) : ∃ ad, A = some ad ∧ ad.block < B ∧ w.cell? (ad.add k) = some (.int .i64 (b : Int)) := by
  have hlt := get_lt hk
  obtain ⟨ad, e, hb, hc⟩ := h (by rw [nats_length]; omega)
  exact ⟨ad, e, hb, hc k _ (by unfold nats; rw [List.getElem?_map, hk]; rfl)⟩
namespace Na
end Na
end Go.Proofs.YtnplaejlmbncfaaDoor

namespace Go.Proofs.YtnplaejlmbncfaaDoor
open Go.RowKit
set_option linter.unusedVariables false
set_option maxRecDepth 100000

theorem i64_xor_nat (a b : Nat) (ha : a < 9223372036854775808) (hb : b < 9223372036854775808) : bits .xor .i64 (a : Int) (b : Int) = ((a ^^^ b : Nat) : Int) := by
  have hx : a ^^^ b < 2 ^ 63 := Nat.xor_lt_two_pow (by omega) (by omega)
  show IntKind.i64.wrap ((BitVec.ofInt 64 (a : Int) ^^^ BitVec.ofInt 64 (b : Int)).toNat : Int) = _
  rw [BitVec.toNat_xor, ofInt_i64 a ha, ofInt_i64 b hb, IntKind.wrap_i64]
  omega
theorem i64_xor8 (a c : UInt8) : bits .xor .i64 (a.toNat : Int) (c.toNat : Int) = ((a ^^^ c).toNat : Int) := by
  have h1 := UInt8.toNat_lt a
  have h2 := UInt8.toNat_lt c
  rw [i64_xor_nat _ _ (by omega) (by omega), UInt8.toNat_xor]
theorem u8_bitk (y : UInt8) (k : Nat) : bits .and .u8 ((y.toNat : Int) / 2 ^ k) 1 = if Gf.bit y k then 1 else 0 := by
  have hy := UInt8.toNat_lt y
  have e : ((y.toNat : Int) / 2 ^ k) = ((y.toNat / 2 ^ k : Nat) : Int) := by simp
  have hlt : y.toNat / 2 ^ k < 256 := Nat.lt_of_le_of_lt (Nat.div_le_self _ _) hy
  have := u8_and_nat (y.toNat / 2 ^ k) 1 hlt (by decide)
  rw [show ((1 : Nat) : Int) = 1 from rfl] at this
  rw [e, this]
  unfold Gf.bit
  rw [Nat.and_one_is_mod, Nat.testBit_eq_decide_div_mod_eq]
  by_cases h : y.toNat / 2 ^ k % 2 = 1
  · simp [h]
  · have h0 : y.toNat / 2 ^ k % 2 = 0 := by omega
    simp [h0]
theorem dbl_hi1 : ∀ n : Nat, n < 256 → ¬ n < 128 → bits .xor .i64 ((n : Int) * 2) 285 = ((Gf.dbl (UInt8.ofNat n)).toNat : Int) := by decide +kernel
theorem dbl_hi64 (a : UInt8) (h : ¬ (a.toNat : Int) < 128) : bits .xor .i64 ((a.toNat : Int) * 2) 285 = ((Gf.dbl a).toNat : Int) := by
  have := dbl_hi1 a.toNat (UInt8.toNat_lt a) (by omega)
  rwa [UInt8.ofNat_toNat] at this

def RefMulRel (a0 c0 : UInt8) (v x k : Value) : Prop := ∃ (j : Nat) (y z : UInt8), j ≤ 8 ∧ k = .int .i64 (j : Int) ∧ x = .int .i64 (y.toNat : Int) ∧ v = .int .i64 (z.toNat : Int) ∧ y = Gf.dblN j a0 ∧ z = Gf.gpart j a0 c0
theorem refmul_step {a0 c0 : UInt8} {k : Nat} {bit : Bool} {y z y' z' : UInt8} (hy : Hid (y = Gf.dblN k a0)) (hz : Hid (z = Gf.gpart k a0 c0)) (hb : Hid (Gf.bit c0 k = bit)) (hy' : Hid (y' = Gf.dbl y)) (hz' : Hid (z' = if bit then z ^^^ y else z)) :
    y' = Gf.dblN (k + 1) a0 ∧ z' = Gf.gpart (k + 1) a0 c0 := by
  unfold Hid at *
  subst hy hz hy' hz'
  refine ⟨rfl, ?_⟩
  show _ = Gf.gpart k a0 c0 ^^^ Gf.sel (Gf.bit c0 k) (Gf.dblN k a0)
  rw [hb]
  cases bit <;> simp [Gf.sel]
theorem dbl_ex_lo (y : UInt8) (h : (y.toNat : Int) < 128) : ∃ y' : UInt8, Hid ((y.toNat : Int) * 2 = (y'.toNat : Int)) ∧ Hid (y' = Gf.dbl y) := ⟨_, dbl_lo y h, rfl⟩
theorem dbl_ex_hi (y : UInt8) (h : ¬ (y.toNat : Int) < 128) : ∃ y' : UInt8, bits .xor .i64 ((y.toNat : Int) * 2) 285 = (y'.toNat : Int) ∧ Hid (y' = Gf.dbl y) := ⟨_, dbl_hi64 y h, rfl⟩
set_option maxHeartbeats 1000000 in
theorem refmul_any (a0 c0 : UInt8) (w : World) : Calls Tryd.prog 58 #[.int .u8 (a0.toNat : Int), .int .u8 (c0.toNat : Int)] w fun e w' => e = .returned (.int .u8 ((Gf.gmul a0 c0).toNat : Int)) ∧ w = w' := by
  have ha := u8_lt a0
  have hc := u8_lt c0
  go_enter Tryd.func58, Tryd.ntmps58
  go_wp2_with fail
  go_loop [5, 6, 7] (fun v x k => RefMulRel a0 c0 v x k) (fun _ _ k => 8 - (intOf k).toNat)
  case atStart => exact ⟨0, a0, 0, by omega, rfl, rfl, rfl, rfl, rfl⟩
  case round =>
    obtain ⟨k, y, z, hk, rfl, rfl, rfl, hy, hz⟩ := hrel
    have HY := Lib.hid hy
    have HZ := Lib.hid hz
    clear hy hz
    have hx := u8_lt y
    have hz := u8_lt z
    rcases Nat.lt_or_ge k 8 with hk8 | hk8
    · obtain ⟨z', hxor, hz'⟩ : ∃ z' : UInt8, bits .xor .i64 (z.toNat : Int) (y.toNat : Int) = (z'.toNat : Int) ∧ Hid (z' = if true then z ^^^ y else z) := ⟨_, i64_xor8 z y, rfl⟩
      have hsh := u8_bitk c0 k
      cases hbit : Gf.bit c0 k <;> rw [hbit] at hsh
      · have HB := Lib.hid hbit
        replace hsh : bits .and .u8 ((c0.toNat : Int) / 2 ^ k) 1 = 0 := hsh
        clear hbit hxor
        have hzz : Hid (z = if false then z ^^^ y else z) := rfl
        rcases Int.lt_or_le (y.toNat : Int) 128 with hlo | hlo
        · obtain ⟨y', HD, hy'⟩ := dbl_ex_lo y hlo
          go_wp2_with fail
          go_round
          case rel => exact ⟨k + 1, y', z, by omega, by go_num, int_eq HD.out, rfl, refmul_step HY HZ HB hy' hzz⟩
          case measure => simp [intOf]; omega
        · obtain ⟨y', HD, hy'⟩ := dbl_ex_hi y (by omega)
          go_wp2_with fail
          go_round
          case rel => exact ⟨k + 1, y', z, by omega, by go_num, rfl, rfl, refmul_step HY HZ HB hy' hzz⟩
          case measure => simp [intOf]; omega
      · have HB := Lib.hid hbit
        replace hsh : bits .and .u8 ((c0.toNat : Int) / 2 ^ k) 1 = 1 := hsh
        clear hbit
        rcases Int.lt_or_le (y.toNat : Int) 128 with hlo | hlo
        · obtain ⟨y', HD, hy'⟩ := dbl_ex_lo y hlo
          go_wp2_with fail
          go_round
          case rel => exact ⟨k + 1, y', z', by omega, by go_num, int_eq HD.out, rfl, refmul_step HY HZ HB hy' hz'⟩
          case measure => simp [intOf]; omega
        · obtain ⟨y', HD, hy'⟩ := dbl_ex_hi y (by omega)
          go_wp2_with fail
          go_round
          case rel => exact ⟨k + 1, y', z', by omega, by go_num, rfl, rfl, refmul_step HY HZ HB hy' hz'⟩
          case measure => simp [intOf]; omega
    · have e8 : z = Gf.gmul a0 c0 := by
        rw [HZ.out, ← Gf.gpart_all]
        congr 1
        omega
      have HE := Lib.hid e8
      clear e8
      go_wp2_with fail
      go_ret
      exact ⟨ret_u8 HE.out, rfl⟩
end Go.Proofs.YtnplaejlmbncfaaDoor

namespace Go.Proofs.YtnplaejlmbncfaaDoor
open Go.RowKit
set_option linter.unusedVariables false
set_option maxRecDepth 100000

namespace Gf
end Gf

theorem refinverse_any (a : UInt8) (w : World) : Calls Tryd.prog 60 #[.int .u8 (a.toNat : Int)] w fun e w' => e = .returned (.tuple #[.int .u8 ((Gf.ginv a).toNat : Int), .int .i64 (Gf.ez a)]) ∧ w = w' := by
  rcases zero_or a with rfl | ⟨h, h1⟩
  · go_enter Tryd.func60, Tryd.ntmps60
    go_wp2_with fail
    go_ret2
    exact ⟨ret2_eq (by rw [Gf.ginv_zero]; rfl) rfl, rfl⟩
  · have H := Lib.hid (Gf.ez_ne a h)
    clear h
    have hl := u8_lt a
    go_enter Tryd.func60, Tryd.ntmps60
    go_wp2_with fail
    go_loop [4, 5] (fun v i => ∃ (k : Nat) (y : UInt8), k ≤ 254 ∧ i = .int .i64 (k : Int) ∧ v = .int .u8 (y.toNat : Int) ∧ Hid (y = Gf.gpow a k)) (fun _ i => 254 - (intOf i).toNat)
    case atStart => exact ⟨0, 1, by omega, rfl, rfl, rfl⟩
    case round =>
      obtain ⟨k, y, hk, rfl, rfl, HF⟩ := hrel
      have hy := u8_lt y
      rcases Nat.lt_or_ge k 254 with hk2 | hk2
      · go_wp2_with (go_at_call 58; refine (refmul_any _ _ _).mono ?_; rintro e w' ⟨rfl, rfl⟩)
        go_round
        case rel => exact ⟨k + 1, Gf.gmul y a, by omega, by go_num, rfl, by unfold Hid; rw [HF.out]; rfl⟩
        case measure => simp [intOf]; omega
      · go_wp2_with fail
        go_ret2
        exact ⟨ret2_eq (by rw [HF.out, show k = 254 from by omega]; rfl) H.out.symm, rfl⟩

end Go.Proofs.YtnplaejlmbncfaaDoor

namespace Go.Proofs.YtnplaejlmbncfaaDoor
open Go.RowKit
set_option linter.unusedVariables false
set_option maxRecDepth 100000
set_option maxHeartbeats 2000000 in
theorem synExp_any {d m f : Nat} (h : Cd d m f) (hf : f ≤ m / 2) (A : Option Addr) (c : Nat) (word : List UInt8) (w : World) (hn : word.length = d + m) (hs : Sl w w.heap.size A (bys word)) (hnc : d + m ≤ c) :
    Calls Tryd.prog 18 #[.agg #[.int .i64 2, .int .i64 (d : Int), .int .i64 (m : Int), .int .i64 (f : Int)], .slice A (d + m) c] w (ResB w (Sy.synL word m) 0) := by
  have hc := h
  obtain ⟨h1, h2, h3, h4, h5⟩ := h
  have H0 := ((Ow.of (St.refl w)).old hs (by rw [bys_length]; exact hn) hnc (by omega)).code d m f
  simp only [List.nil_append] at H0
  obtain ⟨hc0, hc1, hc2, hc3⟩ := H0.cdc 0 rfl
  have HO := Lib.hid H0
  have HV := Lib.hid (fun W => good_any hc W)
  have HN := Lib.hid hn
  have hne : (((d + m : Nat) : Int) != (d : Int) + (m : Int)) = false := by simp
  rw [decide_eq_true hf] at HV
  clear H0 hs hn hc
  go_enter Tryd.func18, Tryd.ntmps18
  go_wp2_with fail
  refine (HV.out _).mono ?_
  rintro e w1 ⟨rfl, hb⟩
  have HO1 := Lib.hid (HO.out.go hb)
  obtain ⟨hd0, hd1, hd2, hd3⟩ := HO1.out.cdc 0 rfl
  clear hb hc0 hc1 hc2 hc3
  go_wp2_with fail
  refine (syndromes_any A (d + m) c m word w1 HN.out (HO1.out.sl (i := 0) rfl).2.2.2 hnc (by omega) (by omega)).mono ?_
  rintro e w2 ⟨A2, n2, c2, rfl, hn2, ho2, hb2⟩
  have HO2 := Lib.hid (HO1.out.add ho2 hb2)
  go_wp2_with fail
  go_ret2
  exact ⟨A2, n2, c2, rfl, hn2, HO2.out.row 1 rfl, HO2.out.below⟩
end Go.Proofs.YtnplaejlmbncfaaDoor

namespace Go.Proofs.YtnplaejlmbncfaaDoor
open Go.RowKit
set_option linter.unusedVariables false
set_option maxRecDepth 100000
section
variable {w0 w w' : World} {g : Option Nat} {M : List (Nat × Value)} {L L2 : List Ob} {O : List Rw}
theorem Ow.join (h : Ow w0 w g M L O) (h2 : Ow w0 w g M L2 O) : Ow w0 w g M (L ++ L2) O :=
  ⟨⟨h.st.below, h.st.lt, h.st.box, h.st.one, fun o ho => (List.mem_append.1 ho).elim (h.st.held o) (h2.st.held o)⟩, h.own, fun i r hi b hb => ⟨(h.ap i r hi b hb).1, (h.ap i r hi b hb).2.1, fun o ho => (List.mem_append.1 ho).elim ((h.ap i r hi b hb).2.2 o) ((h2.ap i r hi b hb).2.2 o)⟩, h.two⟩
end
theorem Sy.synL_zero {m : Nat} {l : List UInt8} (h : Sy.Cw m l) : Sy.synL l m = List.replicate m 0 := by
  refine List.eq_replicate_iff.2 ⟨Sy.synL_length l m, fun b hb => ?_⟩
  unfold Sy.synL at hb
  obtain ⟨k, hk, rfl⟩ := List.mem_map.1 hb
  exact h k (List.mem_range.1 hk)
end Go.Proofs.YtnplaejlmbncfaaDoor

namespace Go.Proofs.YtnplaejlmbncfaaDoor
open Go.RowKit Go.Sort
set_option linter.unusedVariables false
set_option maxRecDepth 100000
section
variable {w0 w w' : World} {g : Option Nat} {M : List (Nat × Value)} {L : List Ob} {O : List Rw} {A : Option Addr} {n c k b : Nat} {l : List Nat}
theorem Ow.natL (h : Ow w0 w g M L O) (i : Nat) (hi : L[i]? = some ⟨A, n, c, nats l⟩) (hk : l[k]? = some b) : ∃ ad, A = some ad ∧ w.cell? (ad.add k) = some (.int .i64 (b : Int)) := by
  obtain ⟨ad, e, _, h⟩ := (h.sl hi).2.2.2.nat hk
  exact ⟨ad, e, h⟩
end
theorem filt_at {n i : Nat} (t : Nat → Bool) (hi : i < n) (ht : t i = true) : ((List.range n).filter t)[((List.range i).filter t).length]? = some i := by
  have e : n = (i + 1) + (n - (i + 1)) := by omega
  rw [e, List.range_add, List.filter_append, List.range_succ, List.filter_append, List.filter_cons, if_pos ht, List.filter_nil, List.append_assoc, List.getElem?_append_right (Nat.le_refl _), Nat.sub_self]
  rfl
theorem filt_suc (t : Nat → Bool) (i : Nat) : ((List.range (i + 1)).filter t).length = ((List.range i).filter t).length + (if t i then 1 else 0) := by
  rw [List.range_succ, List.filter_append, List.length_append, List.filter_cons]
  cases t i <;> rfl
end Go.Proofs.YtnplaejlmbncfaaDoor

namespace Go.Proofs.YtnplaejlmbncfaaDoor
open Go.RowKit
set_option linter.unusedVariables false
set_option maxRecDepth 100000

theorem rvalid_any (A : Option Addr) (n c B : Nat) (l : List UInt8) (w : World) (hn : l.length = n) (hs : Sl w B A (bys l)) (hl : n ≤ 9223372036854775807) :
    Calls Tryd.prog 57 #[.slice A n c] w fun e w' => e = .returned (.bool (Po.vld l)) ∧ w = w' := by
  rcases Nat.lt_or_ge 255 n with h | h
  · have H := Lib.hid (Po.vld_big l (by omega))
    clear hn
    go_enter Tryd.func57, Tryd.ntmps57
    go_wp2_with fail
    go_ret
    exact ⟨ret_bool H.out.symm, rfl⟩
  · rcases Nat.eq_zero_or_pos n with h0 | h0
    · have H := Lib.hid (Po.vld_nil l (by omega))
      subst h0
      clear hn
      go_enter Tryd.func57, Tryd.ntmps57
      go_wp2_with fail
      go_ret
      exact ⟨ret_bool H.out.symm, rfl⟩
    · obtain ⟨b, hb⟩ := byte_at l (n - 1) (by omega)
      have H := Lib.hid ((Po.vld_last l b (by omega) (by rw [hn]; exact hb)).trans (u8_bne0 b).symm)
      obtain ⟨ad, rfl, hbk, hc⟩ := hs.byte hb
      have hz := nat_ne0 h0
      clear hb hn
      go_enter Tryd.func57, Tryd.ntmps57
      go_wp2_with fail
      go_ret
      exact ⟨ret_bool H.out.symm, rfl⟩

theorem rtrim_any (A : Option Addr) (n c B : Nat) (l : List UInt8) (w : World) (hn : l.length = n) (hs : Sl w B A (bys l)) (hB : B ≤ w.heap.size) (hnc : n ≤ c) (hl : n ≤ 140737488355328) :
    Calls Tryd.prog 35 #[.slice A n c] w (FreshB w (Po.trim l)) := by
  obtain ⟨i0, hi, hz0, hz1, hz2⟩ := info_parts infoB
  have HN := Lib.hid hn
  have HS := Lib.hid hs
  have HTr : Hid (Po.trim l = l.take (Po.tl l n)) := by unfold Hid Po.trim; rw [hn]
  clear hn
  go_enter Tryd.func35, Tryd.ntmps35
  go_wp2_with fail
  go_loop [3] (fun v => ∃ k : Nat, k ≤ n ∧ v = .int .i64 (k : Int) ∧ Hid (Po.tl l k = Po.tl l n)) (fun v => (intOf v).toNat)
  case atStart => exact ⟨n, Nat.le_refl _, rfl, rfl⟩
  case round =>
    obtain ⟨k, hk, rfl, HT⟩ := hrel
    rcases Nat.eq_zero_or_pos k with hk0 | hk0
    · subst hk0
      have HL : Hid ((bys (l.take 0)).length = 0) := by unfold Hid; rw [bys_length]; simp
      have HSk : Hid (Sl w B A (bys (l.take 0))) := by
        have := HS.out.take 0
        rw [bys_take] at this
        exact this
      have HT0 : Hid (Po.trim l = l.take 0) := by unfold Hid; rw [HTr.out, ← HT.out]; rfl
      clear hs
      go_wp2_with (at_builtin; refine wpList_append_sl _ rfl (.const (.slice none 0 0)) (.tmp 20) 30 rfl w.heap.size 5 i0 (.int .u8 0) 1 Tryd.underlying30 hi hz0 hz1 hz2 rfl _ _ _ _ rfl (World.ownsRow_nil _ _ _ _) B _ _ _ _ rfl HL.out HSk.out (bys_one _) (by unfold maxLen; omega) (by omega) (Nat.le_refl _) ?_; intro A' c' w1 hown hgrow hblk)
      go_ret
      rw [HT0.out]
      exact ⟨A', _, c', rfl, by simp, hown, (Below.refl _ _).grown hgrow (Nat.le_refl _) (fun g hg => by cases hg)⟩
    · have hd : decide (0 < (k : Int)) = true := decide_eq_true (by omega)
      obtain ⟨b, hb⟩ := byte_at l (k - 1) (by rw [HN.out]; omega)
      obtain ⟨ad, rfl, hbk, hc⟩ := hs.byte hb
      by_cases hb0 : b = 0
      · have ht : Hid (Po.tl l (k - 1) = Po.tl l n) := by
          unfold Hid
          rw [← HT.out, ← Po.tl_zero l (k - 1) (by rw [hb, hb0]), show k - 1 + 1 = k from by omega]
        subst hb0
        clear hb
        go_wp2_with fail
        go_round
        case rel => exact ⟨k - 1, by omega, int_eqv (by omega), ht⟩
        case measure => simp [intOf]; omega
      · have HT0 : Hid (Po.trim l = l.take k) := by
          unfold Hid
          rw [HTr.out, ← HT.out]
          congr 1
          conv => lhs; rw [show k = k - 1 + 1 from by omega]
          rw [Po.tl_stop l (k - 1) (by rw [hb]; intro e; exact hb0 (Option.some.inj e))]
          omega
        have hne : ((b.toNat : Int) == 0) = false := by
          rw [beq_eq_false_iff_ne]
          intro e
          exact hb0 (UInt8.toNat_inj.1 (by simpa using e))
        have HL : Hid ((bys (l.take k)).length = k) := by unfold Hid; rw [bys_length, List.length_take, HN.out]; omega
        have HSk : Hid (Sl w B (some ad) (bys (l.take k))) := by
          have := HS.out.take k
          rw [bys_take] at this
          exact this
        clear hb hb0
        go_wp2_with (at_builtin; refine wpList_append_sl _ rfl (.const (.slice none 0 0)) (.tmp 20) 30 rfl w.heap.size 5 i0 (.int .u8 0) 1 Tryd.underlying30 hi hz0 hz1 hz2 rfl _ _ _ _ rfl (World.ownsRow_nil _ _ _ _) B _ _ _ _ rfl HL.out HSk.out (bys_one _) (by unfold maxLen; omega) (by omega) (Nat.le_refl _) ?_; intro A' c' w1 hown hgrow hblk)
        go_ret
        rw [HT0.out]
        rw [Nat.zero_add] at hown
        exact ⟨A', k, c', rfl, by rw [List.length_take, HN.out]; omega, hown, (Below.refl _ _).grown hgrow (Nat.le_refl _) (fun g hg => by cases hg)⟩

namespace Po
end Po
end Go.Proofs.YtnplaejlmbncfaaDoor

namespace Go.Proofs.YtnplaejlmbncfaaDoor
open Go.RowKit
set_option linter.unusedVariables false
set_option maxRecDepth 100000

def RMulLoop (w : World) (p q : List UInt8) (g n m : Nat) (v : Value) (wr : World) : Prop :=
  ∃ k : Nat, k ≤ n ∧ v = .int .i64 (k : Int) ∧ wr.ownsRow w.heap.size 5 1 (.slice (some ⟨g, 0, none⟩) (n + m - 1) (n + m - 1)) (n + m - 1) (bys (Po.mulTo p q k)) ∧ Below w.heap.size w wr
def RMulIn (w : World) (p q : List UInt8) (b : UInt8) (i g n m : Nat) (v : Value) (wr : World) : Prop :=
  ∃ k : Nat, k ≤ m ∧ v = .int .i64 (k : Int) ∧ wr.ownsRow w.heap.size 5 1 (.slice (some ⟨g, 0, none⟩) (n + m - 1) (n + m - 1)) (n + m - 1) (bys (Po.addTo (Po.mulTo p q i) q b i k)) ∧ Below w.heap.size w wr
set_option maxHeartbeats 1000000 in
theorem rmul_any (A A2 : Option Addr) (n c m c2 : Nat) (p q : List UInt8) (w : World) (hn : p.length = n) (hm : q.length = m) (hp : Sl w w.heap.size A (bys p)) (hq : Sl w w.heap.size A2 (bys q))
    (hl : n ≤ 140737488355328) (hl2 : m ≤ 140737488355328) :
    Calls Tryd.prog 32 #[.slice A n c, .slice A2 m c2] w (ResB w (Po.mulR p q) (Po.mulE p q)) := by
  obtain ⟨i0, hi, hz0, hz1, hz2⟩ := info_parts infoB
  have HV1 := Lib.hid (rvalid_any A n c _ p w hn hp (by omega))
  have HV2 := Lib.hid (rvalid_any A2 m c2 _ q w hm hq (by omega))
  cases hv : (Po.vld p && Po.vld q)
  · obtain ⟨hr, he⟩ := Po.mul_no hv
    have HR := Lib.hid hr
    have HE := Lib.hid he
    clear hr he
    cases hv1 : Po.vld p
    · rw [hv1] at HV1
      clear hp hq hn hm hv hv1
      go_enter Tryd.func32, Tryd.ntmps32
      go_wp2_with fail
      refine HV1.out.mono ?_
      rintro e w1 ⟨rfl, rfl⟩
      go_wp2_with fail
      go_ret2
      rw [HR.out, HE.out]
      exact resB_nil _ _ _ (Below.refl _ _)
    · have hv2 : Po.vld q = false := by rw [hv1] at hv; simpa using hv
      rw [hv1] at HV1
      rw [hv2] at HV2
      clear hp hq hn hm hv hv1 hv2
      go_enter Tryd.func32, Tryd.ntmps32
      go_wp2_with fail
      refine HV1.out.mono ?_
      rintro e w1 ⟨rfl, rfl⟩
      go_wp2_with fail
      refine HV2.out.mono ?_
      rintro e w1 ⟨rfl, rfl⟩
      go_wp2_with fail
      go_ret2
      rw [HR.out, HE.out]
      exact resB_nil _ _ _ (Below.refl _ _)
  · have hvv : Po.vld p = true ∧ Po.vld q = true := by simpa using hv
    rw [hvv.1] at HV1
    rw [hvv.2] at HV2
    have h255 : n ≤ 255 ∧ m ≤ 255 := ⟨by rw [← hn]; exact Po.vld_len hvv.1, by rw [← hm]; exact Po.vld_len hvv.2⟩
    obtain ⟨h1, h2⟩ := h255
    clear hvv
    rcases Nat.eq_zero_or_pos n with hn0 | hn0
    · obtain ⟨hr, he⟩ := Po.mul_empty hv (.inl (hn.trans hn0))
      have HR := Lib.hid hr
      have HE := Lib.hid he
      clear hr he hp hq hn hm hv
      subst hn0
      go_enter Tryd.func32, Tryd.ntmps32
      go_wp2_with fail
      refine HV1.out.mono ?_
      rintro e w1 ⟨rfl, rfl⟩
      go_wp2_with fail
      refine HV2.out.mono ?_
      rintro e w1 ⟨rfl, rfl⟩
      go_wp2_with fail
      go_ret2
      rw [HR.out, HE.out]
      exact resB_nil _ _ _ (Below.refl _ _)
    rcases Nat.eq_zero_or_pos m with hm0 | hm0
    · obtain ⟨hr, he⟩ := Po.mul_empty hv (.inr (hm.trans hm0))
      have HR := Lib.hid hr
      have HE := Lib.hid he
      have hz := nat_ne0 hn0
      clear hr he hp hq hn hm hv
      subst hm0
      go_enter Tryd.func32, Tryd.ntmps32
      go_wp2_with fail
      refine HV1.out.mono ?_
      rintro e w1 ⟨rfl, rfl⟩
      go_wp2_with fail
      refine HV2.out.mono ?_
      rintro e w1 ⟨rfl, rfl⟩
      go_wp2_with fail
      go_ret2
      rw [HR.out, HE.out]
      exact resB_nil _ _ _ (Below.refl _ _)
    have hz := nat_ne0 hn0
    have hz2' := nat_ne0 hm0
    rcases Nat.lt_or_ge 255 (n + m - 1) with hnm | hnm
    · obtain ⟨hr, he⟩ := Po.mul_long hv (by omega) (by omega) (by omega)
      have HR := Lib.hid hr
      have HE := Lib.hid he
      have hlo : 255 < (n : Int) + m - 1 := by omega
      clear hr he hp hq hn hm hv
      go_enter Tryd.func32, Tryd.ntmps32
      go_wp2_with fail
      refine HV1.out.mono ?_
      rintro e w1 ⟨rfl, rfl⟩
      go_wp2_with fail
      refine HV2.out.mono ?_
      rintro e w1 ⟨rfl, rfl⟩
      go_wp2_with fail
      go_ret2
      rw [HR.out, HE.out]
      exact resB_nil _ _ _ (Below.refl _ _)
    · obtain ⟨hr, he⟩ := Po.mul_some hv (by omega) (by omega) (by omega)
      have HR := Lib.hid hr
      have HE := Lib.hid he
      have hlo : (n : Int) + m - 1 ≤ 255 := by omega
      have HN := Lib.hid hn
      have HM := Lib.hid hm
      have HQ := Lib.hid hq
      have HL : Hid (∀ k, (Po.mulTo p q k).length = n + m - 1) := fun k => by rw [Po.mulTo_length, hn, hm]
      have H0 : Hid (List.replicate (n + m - 1) 0 = Po.mulTo p q 0) := by unfold Hid; rw [Po.mulTo, hn, hm]
      clear hr he hq hn hm hv
      go_enter Tryd.func32, Tryd.ntmps32
      go_wp2_with fail
      refine HV1.out.mono ?_
      rintro e w1 ⟨rfl, rfl⟩
      go_wp2_with fail
      refine HV2.out.mono ?_
      rintro e w1 ⟨rfl, rfl⟩
      go_wp2_with (at_make; refine wpList_make_full _ rfl (.tmp 37) (.tmp 37) 30 rfl w.heap.size 5 i0 (.int .u8 0) 1 Tryd.underlying30 hi hz0 hz1 _ _ _ _ (n + m - 1) rfl rfl (by omega) (by omega) (by rw [hz2]; omega) (by unfold maxLen; omega) (Nat.le_refl _) ?_; intro w2 hown2 hg2)
      rw [made_bys, H0.out] at hown2
      have hrow := own_block hown2
      have hb2 := below_of_grown hg2
      go_loopw [7] (fun v wr => RMulLoop w p q w.heap.size n m v wr) (fun v _ => n - (intOf v).toNat)
      case atStart => exact ⟨0, Nat.zero_le _, rfl, hown2, hb2⟩
      case round =>
        clear hown2 hg2 hb2
        obtain ⟨i, hi', rfl, ho, hg⟩ := hrel
        have HG := Lib.hid hg
        have HO := Lib.hid ho
        clear hg ho
        rcases Nat.lt_or_ge i n with hkn | hkn
        · obtain ⟨b, hb⟩ := byte_at p i (by rw [HN.out]; exact hkn)
          have HS := Lib.hid (Po.mulTo_succ p q i b hb)
          have HP := Lib.hid hp
          have HBI := Lib.hid hb
          clear hb hp
          go_wp2_with fail
          go_loopw [8] (fun v wr => RMulIn w p q b i w.heap.size n m v wr) (fun v _ => m - (intOf v).toNat)
          case atStart => exact ⟨0, Nat.zero_le _, rfl, HO.out, HG.out⟩
          case round =>
            clear HO HG
            obtain ⟨k, hk, rfl, ho, hg⟩ := hrel
            rcases Nat.lt_or_ge k m with hkm | hkm
            · obtain ⟨b2, hb2⟩ := byte_at q k (by rw [HM.out]; exact hkm)
              obtain ⟨d, hd⟩ := byte_at (Po.addTo (Po.mulTo p q i) q b i k) (i + k) (by rw [Po.addTo_length, HL.out]; omega)
              obtain ⟨x, hx, HX⟩ := xor_ex d (Gf.gmul b b2)
              have HSi := Lib.hid (Po.addTo_succ (Po.mulTo p q i) q b d b2 x i k hd hb2 HX.out)
              obtain ⟨ad, rfl, hbk, hc⟩ := (HP.out.below hg).byte HBI.out
              obtain ⟨ad2, rfl, hbk2, hc2⟩ := (HQ.out.below hg).byte hb2
              have hc3 := own_byte ho hd
              have hfz := ho.frozenAt (i + k)
              clear hb2 hd
              have HO := Lib.hid ho
              have HG := Lib.hid hg
              clear ho hg
              have hb8 := u8_lt b
              have hb82 := u8_lt b2
              have hd8 := u8_lt d
              go_wp2_with fail
              have s1 : IntKind.i64.wrap ((i : Int) + (k : Int)) = (i : Int) + (k : Int) := IntWalk.i64_in _ (by omega)
              have s2 : 0 ≤ (i : Int) + (k : Int) := by omega
              have s3 : (i : Int) + (k : Int) < ((n + m - 1 : Nat) : Int) := by omega
              have s4 : ((i : Int) + (k : Int)).toNat = i + k := by omega
              have s5 : (i : Int) < (n : Int) := by omega
              have s6 : (k : Int) < (m : Int) := by omega
              refine wp_region_still_tail 17 (by kernel_rfl) (by kernel_rfl) ?_
              simp only [List.take_succ_cons, List.take_zero, List.drop_succ_cons, List.drop_zero]
              repeat (first | still_step | still_call (flip_sameB (refmul_any _ _ _)))
              refine wpStill_nil ?_
              change wpList _ _ _ _ _ wr.drew
              clear s1 s2 s3 s4 s5 s6
              go_wp2_with fail
              go_roundw
              case rel =>
                have h1 := HO.out.drew.stored (i + k) (.int .u8 (x.toNat : Int))
                refine ⟨k + 1, by omega, by go_num, ?_, HG.out.drew.grown h1.2 HG.out.size (fun y e => by cases e; exact Nat.le_refl _)⟩
                rw [HSi.out]
                have h2 := h1.1
                unfold bys at h2 ⊢
                rw [List.map_set]
                exact h2
              case measure => simp [intOf]; omega
            · obtain rfl : k = m := by omega
              have HO : Hid (wr.ownsRow w.heap.size 5 1 (.slice (some ⟨w.heap.size, 0, none⟩) (n + k - 1) (n + k - 1)) (n + k - 1) (bys (Po.mulTo p q (i + 1)))) := by
                unfold Hid
                rw [HS.out]
                unfold Po.addAt
                rw [HM.out]
                exact ho
              have HG := Lib.hid hg
              clear ho hg
              go_wp2_with fail
              go_roundw
              case rel => exact ⟨i + 1, by omega, by go_num, HO.out, HG.out⟩
              case measure => simp [intOf]; omega
        · have hkn' : i = n := by omega
          have HO' : Hid (wr.ownsRow w.heap.size 5 1 (.slice (some ⟨w.heap.size, 0, none⟩) (n + m - 1) (n + m - 1)) (n + m - 1) (bys (Po.mulA p q))) := by
            unfold Hid Po.mulA
            rw [HN.out]
            have h' := HO.out
            rw [hkn'] at h'
            exact h'
          have hlen : Hid ((Po.mulA p q).length = n + m - 1) := HL.out _
          clear hp
          go_wp2_with fail
          go_ret2
          rw [HR.out, HE.out]
          exact ⟨_, _, _, rfl, hlen.out, HO'.out, HG.out⟩
end Go.Proofs.YtnplaejlmbncfaaDoor

namespace Go.Proofs.YtnplaejlmbncfaaDoor
open Go.RowKit
set_option linter.unusedVariables false
set_option maxRecDepth 100000
namespace Po
theorem trim_self (l : List UInt8) (h : vld l = true) : trim l = l :=
  vld_ext _ _ (trim_vld l (vld_len h)) h (fun i => co_trim l i)
theorem trim_rest (p q : List UInt8) (hq : 0 < q.length) (hpq : q.length ≤ p.length) (hp : vld p = true) (hv : vld q = true) : trim (dvAll p q).1 = rem p q := by
  have h1 := vld_len hp
  have h2 := vld_len hv
  have hl := (dv_len p q (Gf.ginv (lastOf q)) (p.length - q.length + 1)).1
  refine vld_ext _ _ (trim_vld _ (by unfold dvAll; rw [hl]; exact h1)) (rem_vld p q hp h2) (fun i => ?_)
  have h3 := dv_rest_zero p q (Gf.ginv (lastOf q)) hq hpq rfl (vld_top q hv hq) (p.length - q.length + 1) (Nat.le_refl _) i
  unfold rem
  rw [if_neg (by omega), co_trim, co_trim, co_take]
  split
  · rfl
  · exact h3 (by omega)
theorem trim_quo (p q : List UInt8) (hq : 0 < q.length) (hpq : q.length ≤ p.length) (hp : vld p = true) (hv : vld q = true) : trim (dvAll p q).2 = quo p q := by
  have h := quo_vld p q hp hq (vld_top q hv hq)
  have e : quo p q = (dvAll p q).2 := by unfold quo; rw [if_neg (by omega)]
  rw [e] at h ⊢
  exact trim_self _ h
theorem rem_short (p q : List UInt8) (h : p.length < q.length) : rem p q = p ∧ quo p q = [] := by
  unfold rem quo
  rw [if_pos h, if_pos h]
  exact ⟨rfl, rfl⟩
end Po
def RDivLoop (w : World) (p q : List UInt8) (lead : UInt8) (g1 c' g2 n m : Nat) (v : Value) (wr : World) : Prop :=
  ∃ a j : Nat, a + j = n - m + 1 ∧ v = .int .i64 ((a : Int) - 1) ∧ wr.ownsRow w.heap.size 5 1 (.slice (some ⟨g1, 0, none⟩) n c') n (bys (Po.dv p q lead j).1) ∧
    wr.ownsRow w.heap.size 5 1 (.slice (some ⟨g2, 0, none⟩) (n - m + 1) (n - m + 1)) (n - m + 1) (bys (Po.dv p q lead j).2) ∧ Below w.heap.size w wr
def RDivIn (w : World) (r q qu : List UInt8) (f : UInt8) (t g1 c' g2 n m : Nat) (v : Value) (wr : World) : Prop :=
  ∃ k : Nat, k ≤ m ∧ v = .int .i64 (k : Int) ∧ wr.ownsRow w.heap.size 5 1 (.slice (some ⟨g1, 0, none⟩) n c') n (bys (Po.addTo r q f t k)) ∧
    wr.ownsRow w.heap.size 5 1 (.slice (some ⟨g2, 0, none⟩) (n - m + 1) (n - m + 1)) (n - m + 1) (bys qu) ∧ Below w.heap.size w wr
set_option maxHeartbeats 4000000 in
theorem rdivide_long (A A2 : Option Addr) (n c m c2 : Nat) (p q : List UInt8) (w : World) (hn : p.length = n) (hm : q.length = m) (hp : Sl w w.heap.size A (bys p)) (hq : Sl w w.heap.size A2 (bys q))
    (hvp : Po.vld p = true) (hvq : Po.vld q = true) (hm0 : 0 < m) (hmn : m ≤ n) :
    Calls Tryd.prog 34 #[.slice A n c, .slice A2 m c2] w (ResE w (Po.quo p q) (Po.rem p q) 0) := by
  obtain ⟨i0, hi, hz0, hz1, hz2⟩ := info_parts infoB
  have h1 : n ≤ 255 := by rw [← hn]; exact Po.vld_len hvp
  have hmk := run_make_one (P := Tryd.prog) 30 5 i0 (.int .u8 0) Tryd.underlying30 hi hz0 hz1 .i64 .i64 ((n : Int) - (m : Int) + 1) ((n : Int) - (m : Int) + 1) (n - m + 1) (n - m + 1) (by omega) (by omega) (Nat.le_refl _) (by rw [hz2]; omega) (by omega)
  have HV1 := Lib.hid (rvalid_any A n c _ p w hn hp (by omega))
  have HV2 := Lib.hid (rvalid_any A2 m c2 _ q w hm hq (by omega))
  rw [hvp] at HV1
  rw [hvq] at HV2
  obtain ⟨lead0, hlast⟩ := byte_at q (m - 1) (by omega)
  obtain ⟨lead, hlead⟩ : ∃ lead, lead = Gf.ginv lead0 := ⟨_, rfl⟩
  have hlo : Po.lastOf q = lead0 := by unfold Po.lastOf; rw [hm, hlast]; rfl
  have HDA : Hid (Po.dvAll p q = Po.dv p q lead (n - m + 1)) := by unfold Hid Po.dvAll; rw [hlo, hn, hm, hlead]
  have HQ := Lib.hid (Po.trim_quo p q (by omega) (by omega) hvp hvq)
  have HR := Lib.hid (Po.trim_rest p q (by omega) (by omega) hvp hvq)
  rw [HDA.out] at HQ HR
  have HN := Lib.hid hn
  have HM := Lib.hid hm
  have HLE := Lib.hid hlead
  have HSQ := Lib.hid hq
  have HP := Lib.hid hp
  have HLn : Hid ((bys p).length = n) := by unfold Hid; rw [bys_length]; exact hn
  have hz := nat_ne0 hm0
  have hge : decide ((m : Int) ≤ (n : Int)) = true := decide_eq_true (by omega)
  clear hp hlead hlo hn hm hvp hvq
  go_enter Tryd.func34, Tryd.ntmps34
  go_wp2_with fail
  refine HV1.out.mono ?_
  rintro e w1 ⟨rfl, rfl⟩
  go_wp2_with fail
  refine HV2.out.mono ?_
  rintro e w1 ⟨rfl, rfl⟩
  go_wp2_with (at_builtin; refine wpList_append_sl _ rfl (.const (.slice none 0 0)) (.tmp 25) 30 rfl w.heap.size 5 i0 (.int .u8 0) 1 Tryd.underlying30 hi hz0 hz1 hz2 rfl _ _ _ _ rfl (World.ownsRow_nil _ _ _ _) w.heap.size _ _ _ _ rfl HLn.out HP.out (bys_one _) (by unfold maxLen; omega) (by omega) (Nat.le_refl _) ?_; intro A' c' w1 hown hgrow hblk)
  rw [Nat.zero_add] at hown
  have hb1 : Below w.heap.size w w1 := (Below.refl _ _).grown hgrow (Nat.le_refl _) (fun g hg => by cases hg)
  obtain ⟨g1, rfl, hg1b, hg1w⟩ := own_form hown (by omega)
  obtain ⟨ad, rfl, hbk, hc0⟩ := (hq.below hb1).byte hlast
  have HO1 := Lib.hid hown
  have HB1 := Lib.hid hb1
  clear hown hgrow hblk hb1 hlast hq
  have HOq : Hid ((w1.alloc (.cells (madeCells #[Value.int .u8 0] (n - m + 1)) 5)).ownsRow w.heap.size 5 1 (.slice (some ⟨w1.heap.size, 0, none⟩) (n - m + 1) (n - m + 1)) (n - m + 1) (bys (List.replicate (n - m + 1) 0))) := by
    have := own_made w1 5 (.int .u8 0) (n - m + 1) (n - m + 1) rfl (Nat.le_refl _) (by unfold maxLen; omega)
    have e : List.replicate (n - m + 1) (Value.int .u8 0) = bys (List.replicate (n - m + 1) 0) := by simp [bys, encB]
    rw [e] at this
    exact own_more this HB1.out.size
  have HO1' : Hid ((w1.alloc (.cells (madeCells #[Value.int .u8 0] (n - m + 1)) 5)).ownsRow w.heap.size 5 1 (.slice (some ⟨g1, 0, none⟩) n c') n (bys p)) := own_alloc HO1.out _
  have HB2 : Hid (Below w.heap.size w (w1.alloc (.cells (madeCells #[Value.int .u8 0] (n - m + 1)) 5))) := HB1.out.alloc HB1.out.size _
  have hne : g1 ≠ w1.heap.size := by omega
  have HNE := Lib.hid hne
  have hsz : w.heap.size ≤ w1.heap.size := HB1.out.size
  have hc1 : (w1.alloc (.cells (madeCells #[Value.int .u8 0] (n - m + 1)) 5)).cell? (ad.add (m - 1)) = some (.int .u8 (lead0.toNat : Int)) := by
    rw [World.cell?_of_block (Below.heap_alloc w1 _ _ (by rw [add_block]; omega))]
    exact hc0
  have hidx : ∀ W : World, (Instr.indexAt 30 (.slice (some ad) m c2) (.int .i64 ((m : Int) - 1))).run Tryd.prog W = .ok (.pointer (some (ad.add (m - 1)))) W := fun W => by
    go_simp
    intro h
    omega
  clear hne hc0 HV1 HV2 HO1 HB1
  go_wp2_with fail
  rw [hidx]
  clear hidx
  go_wp2_with (go_at_call 60; ((with_reducible refine (refinverse_any _ _).mono ?_); rintro e w' ⟨rfl, rfl⟩))
  rw [← HLE.out]
  generalize hgw : w1.heap.size = g2 at *
  generalize hw2 : w1.alloc (.cells (madeCells #[Value.int .u8 0] (n - m + 1)) 5) = w2 at *
  clear hw2 hgw hc1 hmk hg1w
  have hb11 : n - m + 1 ≤ 300 := by omega
  have hi11 : ((n : Int) - (m : Int)) = (((n - m + 1 : Nat) : Int) - 1) := by omega
  go_loopw [11] (fun v wr => RDivLoop w p q lead g1 c' g2 n m v wr) (fun v _ => (intOf v + 1).toNat)
  case atStart =>
    refine ⟨n - m + 1, 0, rfl, int_eqv hi11, HO1'.out, ?_, HB2.out⟩
    show w2.ownsRow _ _ _ _ _ (bys (List.replicate (p.length - q.length + 1) 0))
    rw [HN.out, HM.out]
    exact HOq.out
  case round =>
    clear hi11 HO1' HOq HB2
    obtain ⟨a, j, haj, rfl, ho1, ho2, hb⟩ := hrel
    have HLEN := Lib.hid (Po.dv_len p q lead j)
    have HB3 := Lib.hid hb
    rcases Nat.eq_zero_or_pos a with ha | ha
    · obtain rfl : j = n - m + 1 := by omega
      subst ha
      have HT1 := Lib.hid (rtrim_any (some ⟨g2, 0, none⟩) (n - m + 1) (n - m + 1) wr.heap.size (Po.dv p q lead (n - m + 1)).2 wr (by rw [HLEN.out.2, HN.out, HM.out]) (Sl.of_own ho2) (Nat.le_refl _) (Nat.le_refl _) (by omega))
      rw [HQ.out] at HT1
      have HO1 := Lib.hid ho1
      have hcap := (own_cap ho1).1
      clear ho1 ho2 hb
      go_wp2_with fail
      refine HT1.out.mono ?_
      rintro e w5 ⟨A3, n3, c3, rfl, hn3, ho3, hb3⟩
      have HT2 := Lib.hid (rtrim_any (some ⟨g1, 0, none⟩) n c' w5.heap.size (Po.dv p q lead (n - m + 1)).1 w5 (by rw [HLEN.out.1, HN.out]) (Sl.of_own (own_below HO1.out hb3)) (Nat.le_refl _) hcap (by omega))
      rw [HR.out] at HT2
      have HB5 : Hid (Below w.heap.size w w5) := HB3.out.trans (hb3.mono HB3.out.size)
      have HO3 := Lib.hid (own_more ho3 HB3.out.size)
      have HN3 := Lib.hid hn3
      clear ho3 hb3 hn3
      go_wp2_with fail
      refine HT2.out.mono ?_
      rintro e w6 ⟨A4, n4, c4, rfl, hn4, ho4, hb4⟩
      have HF : Hid (ResE w (Po.quo p q) (Po.rem p q) 0 (.returned (.tuple #[.slice A3 n3 c3, .slice A4 n4 c4, .int .i64 0])) w6) :=
        ⟨A3, n3, c3, A4, n4, c4, rfl, HN3.out, hn4, own_below HO3.out hb4, own_more ho4 HB5.out.size, HB5.out.trans (hb4.mono HB5.out.size)⟩
      clear ho4 hb4 hn4
      go_wp2_with fail
      go_ret3
      exact HF.out
    · obtain ⟨t, rfl⟩ : ∃ t, a = t + 1 := ⟨a - 1, by omega⟩
      have e1 : ((t + 1 : Nat) : Int) - 1 = (t : Int) := by omega
      rw [e1]
      have HE1 := Lib.hid e1
      clear e1
      obtain ⟨b, hb1⟩ := byte_at (Po.dv p q lead j).1 (t + m - 1) (by rw [HLEN.out.1, HN.out]; omega)
      have HDV := Lib.hid (Po.dv_succ p q lead j n m t b HN.out HM.out (by omega) hb1)
      have hcb := own_byte ho1 hb1
      obtain ⟨f, hf⟩ : ∃ f, f = Gf.gmul b lead := ⟨_, rfl⟩
      obtain ⟨y, hy⟩ := byte_at (Po.dv p q lead j).2 t (by rw [HLEN.out.2, HN.out, HM.out]; omega)
      have hcy := own_byte ho2 hy
      have hfy := ho2.frozenAt t
      have hst := ho2.stored t (.int .u8 (f.toNat : Int))
      rw [← hf] at HDV
      have HW2 : Hid ((wr.setCell ⟨g2, t, none⟩ (.int .u8 (f.toNat : Int))).ownsRow w.heap.size 5 1 (.slice (some ⟨g2, 0, none⟩) (n - m + 1) (n - m + 1)) (n - m + 1) (bys (Po.dv p q lead (j + 1)).2)) := by
        have h5 := hst.1
        unfold Hid
        rw [HDV.out.2]
        unfold bys at h5 ⊢
        rw [List.map_set]
        exact h5
      have HW1 : Hid ((wr.setCell ⟨g2, t, none⟩ (.int .u8 (f.toNat : Int))).ownsRow w.heap.size 5 1 (.slice (some ⟨g1, 0, none⟩) n c') n (bys (Po.dv p q lead j).1)) :=
        own_keep ho1 hst.2 (.inr (fun e => HNE.out (by simpa [Value.ownBlock] using e)))
      have HWB : Hid (Below w.heap.size w (wr.setCell ⟨g2, t, none⟩ (.int .u8 (f.toNat : Int)))) := HB3.out.grown hst.2 HB3.out.size (fun _ e => by cases e; exact hsz)
      have HF := Lib.hid hf
      have hx1 : (t : Int) + (m : Int) - 1 = ((t + m - 1 : Nat) : Int) := by omega
      have hidx : ∀ W : World, (Instr.indexAt 30 (.slice (some ⟨g1, 0, none⟩) n c') (.int .i64 ((t : Int) + (m : Int) - 1))).run Tryd.prog W = .ok (.pointer (some ⟨g1, t + m - 1, none⟩)) W := fun W => by
        rw [hx1]
        go_simp
        omega
      clear hb1 hy ho1 ho2 hb hst hf hx1
      go_wp2_with fail
      refine (refmul_any b lead _).mono ?_
      rintro e w' ⟨rfl, rfl⟩
      rw [← HF.out]
      clear hidx
      go_wp2_with fail
      go_loopw [13] (fun v wr => RDivIn w (Po.dv p q lead j).1 q (Po.dv p q lead (j + 1)).2 f t g1 c' g2 n m v wr) (fun v _ => m - (intOf v).toNat)
      case atStart => exact ⟨0, Nat.zero_le _, rfl, HW1.out, HW2.out, HWB.out⟩
      case round =>
        clear HW1 HW2 HWB HB3 hcb hcy hfy
        obtain ⟨k, hk, rfl, ho1, ho2, hb⟩ := hrel
        have HO2 := Lib.hid ho2
        have HG := Lib.hid hb
        rcases Nat.lt_or_ge k m with hkm | hkm
        · obtain ⟨b2, hb2⟩ := byte_at q k (by rw [HM.out]; exact hkm)
          obtain ⟨d, hd⟩ := byte_at (Po.addTo (Po.dv p q lead j).1 q f t k) (t + k) (by rw [Po.addTo_length, HLEN.out.1, HN.out]; omega)
          obtain ⟨x, hx, HX⟩ := xor_ex d (Gf.gmul f b2)
          have HSi := Lib.hid (Po.addTo_succ (Po.dv p q lead j).1 q f d b2 x t k hd hb2 HX.out)
          obtain ⟨ad2, had, hbk2, hc2⟩ := (HSQ.out.below hb).byte hb2
          obtain rfl := Option.some.inj had
          have hc3 := own_byte ho1 hd
          have hfz := ho1.frozenAt (t + k)
          clear hb2 hd had
          have HO := Lib.hid ho1
          clear ho1 hb ho2
          have hb8 := u8_lt f
          have hb82 := u8_lt b2
          have hd8 := u8_lt d
          go_wp2_with fail
          have s1 : IntKind.i64.wrap ((t : Int) + (k : Int)) = (t : Int) + (k : Int) := IntWalk.i64_in _ (by omega)
          have s2 : 0 ≤ (t : Int) + (k : Int) := by omega
          have s3 : (t : Int) + (k : Int) < (n : Int) := by omega
          have s4 : ((t : Int) + (k : Int)).toNat = t + k := by omega
          have s6 : (k : Int) < (m : Int) := by omega
          refine wp_region_still_tail 14 (by kernel_rfl) (by kernel_rfl) ?_
          simp only [List.take_succ_cons, List.take_zero, List.drop_succ_cons, List.drop_zero]
          repeat (first | still_step | still_call (flip_sameB (refmul_any _ _ _)))
          refine wpStill_nil ?_
          change wpList _ _ _ _ _ wr.drew
          clear s1 s2 s3 s4 s6
          go_wp2_with fail
          go_roundw
          case rel =>
            have h1 := HO.out.drew.stored (t + k) (.int .u8 (x.toNat : Int))
            refine ⟨k + 1, by omega, by go_num, ?_, own_keep (HO2.out.drew) h1.2 (.inr (fun e => HNE.out (by simpa [Value.ownBlock] using e.symm))), HG.out.drew.grown h1.2 HG.out.size (fun y e => by cases e; exact hg1b)⟩
            rw [HSi.out]
            have h2 := h1.1
            unfold bys at h2 ⊢
            rw [List.map_set]
            exact h2
          case measure => simp [intOf]; omega
        · obtain rfl : k = m := by omega
          have HO : Hid (wr.ownsRow w.heap.size 5 1 (.slice (some ⟨g1, 0, none⟩) n c') n (bys (Po.dv p q lead (j + 1)).1)) := by
            unfold Hid
            rw [HDV.out.1]
            unfold Po.addAt
            rw [HM.out]
            exact ho1
          clear ho1 ho2 hb
          go_wp2_with fail
          go_roundw
          case rel => exact ⟨t, j + 1, by omega, int_eqv rfl, HO.out, HO2.out, HG.out⟩
          case measure => simp [intOf]
end Go.Proofs.YtnplaejlmbncfaaDoor

namespace Go.Proofs.YtnplaejlmbncfaaDoor
open Go.RowKit
set_option linter.unusedVariables false
set_option maxRecDepth 100000
theorem rdivide_any (A A2 : Option Addr) (n c m c2 : Nat) (p q : List UInt8) (w : World) (hn : p.length = n) (hm : q.length = m) (hp : Sl w w.heap.size A (bys p)) (hq : Sl w w.heap.size A2 (bys q))
    (hl : n ≤ 140737488355328) (hl2 : m ≤ 140737488355328) :
    Calls Tryd.prog 34 #[.slice A n c, .slice A2 m c2] w (ResE w (Po.divQ p q) (Po.divR p q) (Po.divE p q)) := by
  obtain ⟨i0, hi, hz0, hz1, hz2⟩ := info_parts infoB
  have HV1 := Lib.hid (rvalid_any A n c _ p w hn hp (by omega))
  have HV2 := Lib.hid (rvalid_any A2 m c2 _ q w hm hq (by omega))
  cases hv : (Po.vld p && Po.vld q)
  · obtain ⟨hr, hr2, he⟩ := Po.div_no hv
    have HR := Lib.hid hr
    have HR2 := Lib.hid hr2
    have HE := Lib.hid he
    clear hr he hr2
    cases hv1 : Po.vld p
    · rw [hv1] at HV1
      clear hp hq hn hm hv hv1
      go_enter Tryd.func34, Tryd.ntmps34
      go_wp2_with fail
      refine HV1.out.mono ?_
      rintro e w1 ⟨rfl, rfl⟩
      go_wp2_with fail
      go_ret3
      rw [HR.out, HE.out, HR2.out]
      exact resE_nil _ _ _ (Below.refl _ _)
    · have hv2 : Po.vld q = false := by rw [hv1] at hv; simpa using hv
      rw [hv1] at HV1
      rw [hv2] at HV2
      clear hp hq hn hm hv hv1 hv2
      go_enter Tryd.func34, Tryd.ntmps34
      go_wp2_with fail
      refine HV1.out.mono ?_
      rintro e w1 ⟨rfl, rfl⟩
      go_wp2_with fail
      refine HV2.out.mono ?_
      rintro e w1 ⟨rfl, rfl⟩
      go_wp2_with fail
      go_ret3
      rw [HR.out, HE.out, HR2.out]
      exact resE_nil _ _ _ (Below.refl _ _)
  · have hvv : Po.vld p = true ∧ Po.vld q = true := by simpa using hv
    rcases Nat.eq_zero_or_pos m with hm0 | hm0
    · rw [hvv.1] at HV1
      rw [hvv.2] at HV2
      obtain ⟨hr, hr2, he⟩ := Po.div_zero hv (hm.trans hm0)
      have HR := Lib.hid hr
      have HR2 := Lib.hid hr2
      have HE := Lib.hid he
      clear hr he hr2 hp hq hn hm hv hvv
      subst hm0
      go_enter Tryd.func34, Tryd.ntmps34
      go_wp2_with fail
      refine HV1.out.mono ?_
      rintro e w1 ⟨rfl, rfl⟩
      go_wp2_with fail
      refine HV2.out.mono ?_
      rintro e w1 ⟨rfl, rfl⟩
      go_wp2_with fail
      go_ret3
      rw [HR.out, HE.out, HR2.out]
      exact resE_nil _ _ _ (Below.refl _ _)
    · obtain ⟨hr, hr2, he⟩ := Po.div_some hv (by omega)
      rcases Nat.lt_or_ge n m with hnm | hnm
      · have h255 : n ≤ 255 := by rw [← hn]; exact Po.vld_len hvv.1
        have hm255 : m ≤ 255 := by rw [← hm]; exact Po.vld_len hvv.2
        obtain ⟨s1, s2⟩ := Po.rem_short p q (by omega)
        have HT0 := Lib.hid (Po.trim_self p hvv.1)
        rw [hvv.1] at HV1
        rw [hvv.2] at HV2
        rw [s2] at hr
        rw [s1] at hr2
        have HR := Lib.hid hr
        have HR2 := Lib.hid hr2
        have HE := Lib.hid he
        have HN := Lib.hid hn
        have HM := Lib.hid hm
        have HP := Lib.hid hp
        have HQ := Lib.hid hq
        have HLn : Hid ((bys p).length = n) := by unfold Hid; rw [bys_length]; exact hn
        have hz := nat_ne0 hm0
        obtain ⟨b, hb⟩ := byte_at q (m - 1) (by omega)
        have HBy := Lib.hid hb
        obtain ⟨ad, rfl, hbk, hc00⟩ := hq.byte hb
        clear hc00
        have hge : decide (m ≤ n) = false := decide_eq_false (by omega)
        clear hr he hr2 hp hq hn hm hv hvv s1 s2 hb
        go_enter Tryd.func34, Tryd.ntmps34
        go_wp2_with fail
        refine HV1.out.mono ?_
        rintro e w1 ⟨rfl, rfl⟩
        go_wp2_with fail
        refine HV2.out.mono ?_
        rintro e w1 ⟨rfl, rfl⟩
        go_wp2_with (at_builtin; refine wpList_append_sl _ rfl (.const (.slice none 0 0)) (.tmp 25) 30 rfl w.heap.size 5 i0 (.int .u8 0) 1 Tryd.underlying30 hi hz0 hz1 hz2 rfl _ _ _ _ rfl (World.ownsRow_nil _ _ _ _) w.heap.size _ _ _ _ rfl HLn.out HP.out (bys_one _) (by unfold maxLen; omega) (by omega) (Nat.le_refl _) ?_; intro A' c' w1 hown hgrow hblk; rw [Nat.zero_add] at hown; have hb1 : Below w.heap.size w w1 := (Below.refl _ _).grown hgrow (Nat.le_refl _) (fun g hg => by cases hg); have hcl : w1.cell? (ad.add (m - 1)) = some (.int .u8 (b.toNat : Int)) := (by obtain ⟨ad', had, _, h⟩ := (HQ.out.below hb1).byte HBy.out; cases had; exact h); have HO1 := Lib.hid hown; have HB1 := Lib.hid hb1; have hcap := (own_cap hown).1; clear hown hgrow hblk hb1)
        refine (refinverse_any b _).mono ?_
        rintro e w' ⟨rfl, rfl⟩
        have hneg : decide (0 ≤ (n : Int) - (m : Int)) = false := decide_eq_false (by omega)
        have HT1 := Lib.hid (rtrim_any none 0 0 w1.heap.size [] w1 rfl (Sl.nil _ _ _) (Nat.le_refl _) (Nat.le_refl _) (by omega))
        clear hcl
        go_wp2_with fail
        refine wp_loop_rounds 1 ?_
        rw [rounds_succ]
        go_wp2_with fail
        refine HT1.out.mono ?_
        rintro e w5 ⟨A3, n3, c3, rfl, hn3, ho3, hb3⟩
        have HT2 := Lib.hid (rtrim_any A' n c' w5.heap.size p w5 HN.out (Sl.of_own (own_below HO1.out hb3)) (Nat.le_refl _) hcap (by omega))
        rw [HT0.out] at HT2
        have HB5 : Hid (Below w.heap.size w w5) := HB1.out.trans (hb3.mono HB1.out.size)
        have HO3 := Lib.hid (own_more ho3 HB1.out.size)
        have HN3 := Lib.hid hn3
        clear ho3 hb3 hn3
        go_wp2_with fail
        refine HT2.out.mono ?_
        rintro e w6 ⟨A4, n4, c4, rfl, hn4, ho4, hb4⟩
        have HF : Hid (ResE w (Po.divQ p q) (Po.divR p q) (Po.divE p q) (.returned (.tuple #[.slice A3 n3 c3, .slice A4 n4 c4, .int .i64 0])) w6) := by
          unfold Hid
          rw [HR.out, HR2.out, HE.out]
          exact ⟨A3, n3, c3, A4, n4, c4, rfl, HN3.out, hn4, own_below HO3.out hb4, own_more ho4 HB5.out.size, HB5.out.trans (hb4.mono HB5.out.size)⟩
        clear ho4 hb4 hn4
        go_wp2_with fail
        go_ret3
        exact HF.out
      · rw [hr, hr2, he]
        exact rdivide_long A A2 n c m c2 p q w hn hm hp hq hvv.1 hvv.2 hm0 hnm
end Go.Proofs.YtnplaejlmbncfaaDoor

namespace Go.Proofs.YtnplaejlmbncfaaDoor
open Go.RowKit
set_option linter.unusedVariables false
set_option maxRecDepth 100000

theorem refpow_ne (a : UInt8) (n : Int) (h : a ≠ 0) (w : World) : Calls Tryd.prog 59 #[.int .u8 (a.toNat : Int), .int .i64 n] w fun e w' => e = .returned (.tuple #[.int .u8 ((Gf.zpow a n).toNat : Int), .int .i64 0]) ∧ w = w' := by
  have hne : ((a.toNat : Int) == 0) = false := by have := u8_pos h; rw [beq_eq_false_iff_ne]; omega
  clear h
  have hb := tmod_lt n 255 (by omega)
  obtain ⟨hb1, hb2⟩ := hb
  have hm : ∃ r : Nat, r < 255 ∧ r = Gf.emod n ∧ ((n.tmod 255 < 0 ∧ n.tmod 255 + 255 = (r : Int)) ∨ (0 ≤ n.tmod 255 ∧ n.tmod 255 = (r : Int))) := by
    refine ⟨Gf.emod n, Gf.emod_lt n, rfl, ?_⟩
    rw [Gf.emod_cast]
    rcases Int.lt_or_le (n.tmod 255) 0 with hn | hn
    · exact .inl ⟨hn, mod_num n 255 (by omega) hn⟩
    · exact .inr ⟨hn, mod_num' n 255 (by omega) hn⟩
  obtain ⟨r, hr, hre, hm⟩ := hm
  have HR : Hid (Gf.zpow a n = Gf.gpow a r) := by unfold Hid Gf.zpow; rw [hre]
  clear hre
  rcases hm with ⟨hn, he⟩ | ⟨hn, he⟩
  all_goals
    go_enter Tryd.func59, Tryd.ntmps59
    go_wp2_with fail
    clear he hn
    go_loop [1, 6] (fun n v => ∃ (k : Nat) (y : UInt8), k ≤ r ∧ n = .int .i64 (k : Int) ∧ v = .int .u8 (y.toNat : Int) ∧ Hid (y = Gf.gpow a (r - k))) (fun n _ => (intOf n).toNat)
    case atStart => exact ⟨r, 1, by omega, rfl, rfl, by unfold Hid; rw [Nat.sub_self]; rfl⟩
    case round =>
      obtain ⟨k, y, hk, rfl, rfl, HF⟩ := hrel
      have hy := u8_lt y
      rcases Nat.eq_zero_or_pos k with rfl | hk0
      · go_wp2_with fail
        go_ret2
        exact ⟨ret2_eq (by rw [HF.out, HR.out]; rfl) rfl, rfl⟩
      · go_wp2_with (go_at_call 58; refine (refmul_any _ _ _).mono ?_; rintro e w' ⟨rfl, rfl⟩)
        go_round
        case rel => exact ⟨k - 1, Gf.gmul y a, by omega, int_eq (by omega), rfl, by unfold Hid; rw [HF.out, show r - (k - 1) = (r - k) + 1 from by omega]; rfl⟩
        case measure => simp [intOf]; omega

theorem refexp_any (n : Int) (w : World) : Calls Tryd.prog 33 #[.int .i64 n] w fun e w' => e = .returned (.int .u8 ((Gf.zpow 2 n).toNat : Int)) ∧ w = w' := by
  go_enter Tryd.func33, Tryd.ntmps33
  go_wp2_with fail
  refine (refpow_ne 2 n (by decide) _).mono ?_
  rintro e w' ⟨rfl, rfl⟩
  go_wp2_with fail
  go_ret
  exact ⟨rfl, rfl⟩

end Go.Proofs.YtnplaejlmbncfaaDoor

namespace Go.Proofs.YtnplaejlmbncfaaDoor
open Go.RowKit
set_option linter.unusedVariables false
set_option maxRecDepth 100000
set_option maxHeartbeats 2000000 in
theorem rvalidcode_any {d m f : Nat} (h : Cd d m f) (w : World) : Calls Tryd.prog 56 #[.agg #[.int .i64 2, .int .i64 (d : Int), .int .i64 (m : Int), .int .i64 (f : Int)]] w fun e w' => e = .returned (.bool (decide (f ≤ m / 2))) ∧ Below w.heap.size w w' := by
  obtain ⟨h1, h2, h3, h4, h5⟩ := h
  have H1 := (Ow.of (St.refl w)).code d m f
  obtain ⟨hc0, hc1, hc2, hc3⟩ := H1.cdc 0 rfl
  have HB : Hid (Below w.heap.size w (w.alloc (.cells #[.int .i64 2, .int .i64 (d : Int), .int .i64 (m : Int), .int .i64 (f : Int)] 28))) := H1.below
  have t1 : decide ((1 : Int) ≤ (d : Int)) = true := decide_eq_true (by omega)
  have t2 : decide ((d : Int) ≤ 32) = true := decide_eq_true (by omega)
  have t3 : decide ((1 : Int) ≤ (m : Int)) = true := decide_eq_true (by omega)
  have t4 : decide ((m : Int) ≤ 8) = true := decide_eq_true (by omega)
  have t5 : decide ((0 : Int) ≤ (f : Int)) = true := decide_eq_true (by omega)
  have HD : Hid (decide ((f : Int) ≤ (m : Int) / 2) = decide (f ≤ m / 2)) := by
    unfold Hid
    rw [decide_eq_decide]
    omega
  clear H1
  go_enter Tryd.func56, Tryd.ntmps56
  go_wp2_with fail
  go_ret
  exact ⟨ret_bool HD.out, HB.out⟩
set_option maxHeartbeats 2000000 in
theorem rsymbols_any {d m f : Nat} (h : Cd d m f) (w : World) : Calls Tryd.prog 31 #[.agg #[.int .i64 2, .int .i64 (d : Int), .int .i64 (m : Int), .int .i64 (f : Int)]] w fun e w' => e = .returned (.bool (decide (f ≤ m / 2))) ∧ Below w.heap.size w w' := by
  have H1 := (Ow.of (St.refl w)).code d m f
  obtain ⟨hc0, hc1, hc2, hc3⟩ := H1.cdc 0 rfl
  have HO := Lib.hid H1
  obtain ⟨vb, hvb⟩ : ∃ vb : Bool, Hid (vb = decide (f ≤ m / 2)) := ⟨_, rfl⟩
  have HV := Lib.hid (fun W => rvalidcode_any h W)
  rw [← hvb.out] at HV ⊢
  clear H1 h
  go_enter Tryd.func31, Tryd.ntmps31
  go_wp2_with (go_at_call 56; refine (HV.out _).mono ?_; rintro e w' ⟨rfl, hb⟩; have HB := Lib.hid (HO.out.go hb); clear hb)
  go_ret
  exact ⟨rfl, HB.out.below⟩
namespace Sy
def hiTo (m : Nat) (data : List UInt8) (k : Nat) : List UInt8 := (data.take k ++ List.replicate (data.length - k + m) 0).reverse
theorem hiTo_length (m : Nat) (data : List UInt8) {k : Nat} (h : k ≤ data.length) : (hiTo m data k).length = data.length + m := by unfold hiTo; simp; omega
theorem hiTo_zero (m : Nat) (data : List UInt8) : hiTo m data 0 = List.replicate (data.length + m) 0 := by unfold hiTo; simp
theorem hiTo_all (m : Nat) (data : List UInt8) : hiTo m data data.length = high m data := by unfold hiTo high; simp
theorem hiTo_succ (m : Nat) (data : List UInt8) {k : Nat} {b : UInt8} (h : data[k]? = some b) : (hiTo m data k).set (data.length + m - 1 - k) b = hiTo m data (k + 1) := by
  have hk := get_lt h
  have hkb : data[k]'hk = b := by rw [List.getElem?_eq_getElem hk] at h; exact Option.some.inj h
  refine List.ext_getElem? fun i => ?_
  unfold hiTo
  rw [List.getElem?_set]
  simp only [List.length_reverse, List.length_append, List.length_take, List.length_replicate]
  by_cases e : data.length + m - 1 - k = i
  · rw [if_pos e, if_pos (by omega), List.getElem?_reverse (by simp; omega)]
    simp only [List.length_append, List.length_take, List.length_replicate]
    rw [List.getElem?_append_left (by simp; omega), List.getElem?_take, if_pos (by omega), show min (k + 1) data.length + (data.length - (k + 1) + m) - 1 - i = k by omega, h]
  · rw [if_neg e]
    rcases Nat.lt_or_ge i (data.length + m) with h1 | h1
    · rw [List.getElem?_reverse (by simp; omega), List.getElem?_reverse (by simp; omega)]
      simp only [List.length_append, List.length_take, List.length_replicate]
      rw [show min k data.length + (data.length - k + m) - 1 - i = data.length + m - 1 - i by omega, show min (k + 1) data.length + (data.length - (k + 1) + m) - 1 - i = data.length + m - 1 - i by omega]
      obtain ⟨j, hj⟩ : ∃ j, j = data.length + m - 1 - i := ⟨_, rfl⟩
      rw [← hj]
      rcases Nat.lt_or_ge j k with h2 | h2
      · rw [List.getElem?_append_left (by simp; omega), List.getElem?_append_left (by simp; omega), List.getElem?_take, List.getElem?_take, if_pos h2, if_pos (by omega)]
      · rw [List.getElem?_append_right (by simp; omega), List.getElem?_append_right (by simp; omega), List.getElem?_replicate, List.getElem?_replicate, if_pos (by simp; omega), if_pos (by simp; omega)]
    · rw [List.getElem?_eq_none (by simp; omega), List.getElem?_eq_none (by simp; omega)]
def outTo (m : Nat) (data : List UInt8) (j : Nat) : List UInt8 := data ++ (List.range j).map fun i => Po.co (rest m data) (m - 1 - i)
theorem outTo_zero (m : Nat) (data : List UInt8) : outTo m data 0 = data := by unfold outTo; simp
theorem outTo_all (m : Nat) (data : List UInt8) : outTo m data m = enc m data := rfl
theorem outTo_succ (m : Nat) (data : List UInt8) (j : Nat) : outTo m data j ++ [Po.co (rest m data) (m - 1 - j)] = outTo m data (j + 1) := by
  unfold outTo
  rw [List.range_succ, List.map_append, List.append_assoc]
  rfl
end Sy
def RREn1 (w : World) (L : List Ob) (b d m f : Nat) (s v : Value) (wr : World) : Prop := ∃ (k : Nat) (A : Option Addr) (c : Nat), k ≤ m ∧ v = .int .i64 (k : Int) ∧ s = .slice A (k + 1) c ∧ Hid (Ow w wr none [] L [codeR b d m f, ⟨A, k + 1, c, 5, bys (Sy.gen k)⟩])
def RREn2 (w : World) (L : List Ob) (b d m f nn : Nat) (r : Rw) (gp : Nat) (data : List UInt8) (v : Value) (wr : World) : Prop := ∃ k : Nat, k ≤ d ∧ v = .int .i64 (k : Int) ∧ Hid (Ow w wr none [] L [codeR b d m f, r, ⟨some ⟨gp, 0, none⟩, nn, nn, 5, bys (Sy.hiTo m data k)⟩])
def RREn3 (w : World) (L : List Ob) (O : List Rw) (d m : Nat) (data : List UInt8) (s v : Value) (wr : World) : Prop := ∃ (j i : Nat) (A : Option Addr) (c : Nat), j ≤ m ∧ Hid (i = d + j) ∧ v = .int .i64 (i : Int) ∧ s = .slice A i c ∧ Hid (Ow w wr none [] L (O ++ [⟨A, i, c, 5, bys (Sy.outTo m data j)⟩]))
set_option maxHeartbeats 8000000 in
theorem rencode_ok {d m f : Nat} (h : Cd d m f) (hf : f ≤ m / 2) (A : Option Addr) (c : Nat) (data : List UInt8) (w : World) (hn : data.length = d) (hs : Sl w w.heap.size A (bys data)) (hnc : d ≤ c) :
    Calls Tryd.prog 17 #[.agg #[.int .i64 2, .int .i64 (d : Int), .int .i64 (m : Int), .int .i64 (f : Int)], .slice A d c] w (ResB w (Sy.enc m data) 0) := by
  have hc := h
  obtain ⟨h1, h2, h3, h4, h5⟩ := h
  have H0 := ((Ow.of (St.refl w)).old hs (by rw [bys_length]; exact hn) hnc (by omega)).code d m f
  simp only [List.nil_append] at H0
  obtain ⟨hc0, hc1, hc2, hc3⟩ := H0.cdc 0 rfl
  have HO := Lib.hid H0
  have HV := Lib.hid (fun W => rsymbols_any hc W)
  have HN := Lib.hid hn
  have hne : ((d : Int) != (d : Int)) = false := by simp
  rw [decide_eq_true hf] at HV
  clear H0 hs hn hc
  go_enter Tryd.func17, Tryd.ntmps17
  go_upto_region 5 with (go_at_call 31; refine (HV.out _).mono ?_; rintro e w1 ⟨rfl, hb⟩; have HO1 := Lib.hid (HO.out.go hb); obtain ⟨hd0, hd1, hd2, hd3⟩ := HO1.out.cdc 0 rfl; clear hb)
  have HO2 := Lib.hid (HO1.out.arr #[.int .u8 1] 1 rfl (by omega) 5)
  clear hd0 hd1 hd2 hd3 hc0 hc1 hc2 hc3 HO HO1 HV
  go_wp2_with fail
  go_loopw [6, 7] (fun s v wr => RREn1 w [⟨A, d, c, bys data⟩] w.heap.size d m f s v wr) (fun _ v _ => m - (intOf v).toNat)
  case atStart => exact ⟨0, _, 1, Nat.zero_le _, rfl, rfl, HO2.out⟩
  case round =>
    obtain ⟨k, Ag, cg, hk, rfl, rfl, HO3⟩ := hrel
    clear HO2
    obtain ⟨hc0, hc1, hc2, hc3⟩ := HO3.out.cdc 0 rfl
    rcases Nat.lt_or_ge k m with hkm | hkm
    · have hd : decide ((k : Int) < (m : Int)) = true := decide_eq_true (by omega)
      have HZ := Lib.hid (Sy.zpow_nat (show k < 255 by omega))
      have hg := Sy.gen_ok k (by omega)
      have H2 := HO3.out.arr #[.int .u8 ((Gf.gpow 2 k).toNat : Int), .int .u8 1] 2 rfl (by omega) 5
      have HM : Hid (Po.mulR (Sy.gen k) [Gf.gpow 2 k, 1] = Sy.gen (k + 1) ∧ Po.mulE (Sy.gen k) [Gf.gpow 2 k, 1] = 0) := Po.mulR_ok hg.1 (Po.vld_lin _) (by rw [hg.2]; simp; omega)
      have HP := Lib.hid (rmul_any Ag (some ⟨wr.heap.size, 0, none⟩) (k + 1) cg 2 2 (Sy.gen k) [Gf.gpow 2 k, 1] _ hg.2 rfl (Sl.of_own (H2.row 1 rfl)) (Sl.of_own (H2.row 2 rfl)) (by omega) (by omega))
      have HO4 := Lib.hid H2
      clear H2 hg
      go_wp2_with (first | (go_at_call 33; ((with_reducible refine (refexp_any _ _).mono ?_); rw [HZ.out]; rintro e w' ⟨rfl, rfl⟩)) | (go_at_call 32; refine HP.out.mono ?_; rw [HM.out.1, HM.out.2]; rintro e w' ⟨A', n', c', rfl, hn', ho, hb⟩; have hn2 := (Sy.gen_ok (k + 1) (by omega)).2; obtain rfl : k + 1 + 1 = n' := hn2.symm.trans hn'; have HO5 := Lib.hid ((HO4.out.add ho hb).re (fun i => if i = 0 then 0 else 3) (fun i j hi hj h => by simp only [List.length_cons, List.length_nil] at hi hj; split at h <;> split at h <;> omega) (O' := [codeR w.heap.size d m f, ⟨A', k + 1 + 1, c', 5, bys (Sy.gen (k + 1))⟩]) (fun i r hi => by rcases i with _ | _ | i <;> simp at hi ⊢ <;> exact hi)); clear ho hb hn' hn2))
      go_roundw
      case rel => exact ⟨k + 1, _, _, by omega, by go_num, rfl, HO5.out⟩
      case measure => simp [intOf]; omega
    · have hd : decide ((k : Int) < (m : Int)) = false := decide_eq_false (by omega)
      have hkm' : k = m := by omega
      subst hkm'
      obtain ⟨nn, hnn⟩ : ∃ nn : Nat, Hid (nn = d + k) := ⟨_, rfl⟩
      have hnnI : (d : Int) + (k : Int) = (nn : Int) := by have := hnn.out; omega
      have hn40 : 2 ≤ nn ∧ nn ≤ 40 := by have := hnn.out; omega
      obtain ⟨hn2, hn40⟩ := hn40
      have hmk := elemB.make .i64 .i64 (nn : Int) (nn : Int) nn nn rfl rfl (Nat.le_refl _) (by omega) (by omega) wr
      have h6 := HO3.out.made 5 (.int .u8 0) nn nn rfl (Nat.le_refl _) (by unfold maxLen; omega)
      have ez : List.replicate nn (0 : UInt8) = Sy.hiTo k data 0 := by rw [Sy.hiTo_zero, HN.out, hnn.out]
      rw [bys_zeros, ez] at h6
      have HO6 := Lib.hid h6
      obtain ⟨hd0, hd1, hd2, hd3⟩ := h6.cdc 0 rfl
      clear h6 HO3 ez
      obtain ⟨gp, hgp⟩ : ∃ gp, gp = wr.heap.size := ⟨_, rfl⟩
      go_wp2_with fail
      rw [← hgp] at HO6 ⊢
      clear hgp hmk hd0 hd1 hd2 hd3 hc0 hc1 hc2 hc3
      go_loopw [10] (fun v wr' => RREn2 w [⟨A, d, c, bys data⟩] w.heap.size d k f nn ⟨Ag, k + 1, cg, 5, bys (Sy.gen k)⟩ gp data v wr') (fun v _ => d - (intOf v).toNat)
      case atStart => exact ⟨0, Nat.zero_le _, rfl, HO6.out⟩
      case round =>
        obtain ⟨j, hj, rfl, HO7⟩ := hrel
        clear HO6
        obtain ⟨hc0, hc1, hc2, hc3⟩ := HO7.out.cdc 0 rfl
        rcases Nat.lt_or_ge j d with hjd | hjd
        · have hd : decide ((j : Int) < (d : Int)) = true := decide_eq_true (by omega)
          obtain ⟨b, hb⟩ := byte_at data j (by rw [HN.out]; exact hjd)
          obtain ⟨ad, rfl, hx⟩ := HO7.out.byteL 0 rfl hb
          obtain ⟨pz, hpz⟩ : ∃ pz : Nat, Hid (pz = nn - 1 - j) := ⟨_, rfl⟩
          have hpzI : (nn : Int) - 1 - (j : Int) = (pz : Int) := by have := hpz.out; have := hnn.out; omega
          have hpn : pz < nn := by have := hpz.out; omega
          obtain ⟨x0, hx0⟩ : ∃ x0, (Sy.hiTo k data j)[pz]? = some x0 := ⟨_, List.getElem?_eq_getElem (by rw [Sy.hiTo_length k data (by rw [HN.out]; exact hj), HN.out, ← hnn.out]; exact hpn)⟩
          have hcl := HO7.out.byteO 2 rfl hx0
          have hfr := HO7.out.frzO 2 (vs := _) rfl pz
          have G := HO7.out.putB 2 rfl pz b
          have e : (Sy.hiTo k data j).set pz b = Sy.hiTo k data (j + 1) := by rw [hpz.out, hnn.out, ← HN.out]; exact Sy.hiTo_succ k data hb
          rw [e] at G
          have HG := Lib.hid G
          clear G e hb hx0
          go_wp2_with fail
          go_roundw
          case rel => exact ⟨j + 1, by omega, by go_num, HG.out⟩
          case measure => simp [intOf]; omega
        · have hd : decide ((j : Int) < (d : Int)) = false := decide_eq_false (by omega)
          have hjd' : j = d := by omega
          have HHL : Hid ((Sy.high k data).length = nn) := by unfold Hid; rw [Sy.high_length, HN.out, hnn.out]
          have h7 := HO7.out
          rw [hjd', ← HN.out, Sy.hiTo_all, HN.out] at h7
          have HO8 := Lib.hid h7
          have HG := Lib.hid (Sy.gen_ok k (by omega))
          have HT := Lib.hid (rtrim_any (some ⟨gp, 0, none⟩) nn nn _ (Sy.high k data) wr HHL.out (Sl.of_own (h7.row 2 rfl)) (Nat.le_refl _) (Nat.le_refl _) (by omega))
          have HD : Hid (Po.divR (Po.trim (Sy.high k data)) (Sy.gen k) = Sy.rest k data ∧ Po.divE (Po.trim (Sy.high k data)) (Sy.gen k) = 0) := (Po.div_some (by rw [Po.trim_vld _ (by rw [HHL.out]; omega), HG.out.1]; rfl) (by rw [HG.out.2]; omega)).2
          have HRl : Hid ((Sy.rest k data).length ≤ k) := Sy.rest_length k (by omega) data
          clear HO7 h7
          go_wp2_with fail
          clear hc0 hc1 hc2 hc3
          refine HT.out.mono ?_
          rintro e w5 ⟨At, nt, ct, rfl, hnt, hot, hbt⟩
          have h9 := HO8.out.add hot hbt
          have hntn : nt ≤ nn := by rw [← hnt, Po.trim_length]; have := Po.tl_le (Sy.high k data) (Sy.high k data).length; have := HHL.out; omega
          have HV2 := Lib.hid (rdivide_any At Ag nt ct (k + 1) cg (Po.trim (Sy.high k data)) (Sy.gen k) w5 hnt HG.out.2 (Sl.of_own (h9.row 3 rfl)) (Sl.of_own (h9.row 1 rfl)) (by omega) (by omega))
          have HO9 := Lib.hid h9
          clear hnt hot hbt h9 HO8 HT
          go_wp2_with fail
          refine HV2.out.mono ?_
          rw [HD.out.1, HD.out.2]
          rintro e w6 ⟨Aq, nq, cq, Ar, rl, cr, rfl, hnq, hrl, hoq, hor, hbq⟩
          have hrlk : rl ≤ k := by rw [← hrl]; exact HRl.out
          have HRL := Lib.hid hrl
          have HOa : Hid (Ow w w6 none [] [⟨A, d, c, bys data⟩] [codeR w.heap.size d k f, ⟨Ar, rl, cr, 5, bys (Sy.rest k data)⟩]) := (HO9.out.add hor hbq).re (fun i => if i = 0 then 0 else 4) (fun i j hi hj h => by simp only [List.length_cons, List.length_nil] at hi hj; split at h <;> split at h <;> omega) (fun i r hi => by rcases i with _ | _ | i <;> simp at hi ⊢ <;> exact hi)
          have HX := Lib.hid (HOa.out.nil 5)
          have HVs := Lib.hid (HOa.out.sl (i := 0) rfl)
          obtain ⟨hc0, hc1, hc2, hc3⟩ := HOa.out.cdc 0 rfl
          clear hnq hrl hoq hor hbq HO9 HV2
          go_wp2_with (at_builtin; refine ow_append elemB HX.out 2 (.const (.slice none 0 0)) (.tmp 72) rfl (m := d) (news := bys data) (by rw [bys_length, HN.out]) HVs.out.2.2.2 (bys_one data) (by unfold maxLen; omega) (by omega) rfl rfl rfl rfl ?_; intro Ax cx w7 how; simp only [List.cons_append, List.nil_append, List.set_cons_zero, List.set_cons_succ, Nat.zero_add] at how ⊢; have HOb := Lib.hid how; clear how; obtain ⟨he0, he1, he2, he3⟩ := HOb.out.cdc 0 rfl)
          go_loopw [14, 15, 16, 17] (fun s v y z wr => RREn3 w [⟨A, d, c, bys data⟩] [codeR w.heap.size d k f, ⟨Ar, rl, cr, 5, bys (Sy.rest k data)⟩] d k data s v wr) (fun _ v _ _ _ => nn - (intOf v).toNat)
          case atStart => exact ⟨0, d, Ax, cx, Nat.zero_le _, rfl, rfl, rfl, by rw [Sy.outTo_zero]; exact HOb.out⟩
          case round =>
            obtain ⟨q, i, Ao, co, hq, hi, rfl, rfl, HOr⟩ := hrel
            clear HOa HOb HX HVs he0 he1 he2 he3 hc0 hc1 hc2 hc3
            rcases Nat.lt_or_ge q k with hqk | hqk
            · have hd2 : decide ((i : Int) < (nn : Int)) = true := decide_eq_true (by have := hi.out; have := hnn.out; omega)
              have hi40 : i ≤ 40 := by have := hi.out; omega
              obtain ⟨z, hz⟩ : ∃ z : Nat, Hid (z = k - 1 - q) := ⟨_, rfl⟩
              have hzI : (nn : Int) - 1 - (i : Int) = (z : Int) := by have := hz.out; have := hi.out; have := hnn.out; omega
              have hz40 : z ≤ 40 := by have := hz.out; omega
              obtain ⟨b, hb⟩ : ∃ b : UInt8, Hid (b = Po.co (Sy.rest k data) z) := ⟨_, rfl⟩
              have HS : Hid (Sy.outTo k data q ++ [b] = Sy.outTo k data (q + 1)) := by unfold Hid; rw [hb.out, hz.out]; exact Sy.outTo_succ k data q
              rcases Nat.lt_or_ge z rl with hzr | hzr
              · have hd3 : decide ((z : Int) < (rl : Int)) = true := decide_eq_true (by omega)
                have hbz : (Sy.rest k data)[z]? = some b := by
                  rw [hb.out]
                  unfold Po.co
                  rw [List.getElem?_eq_getElem (by rw [HRL.out]; exact hzr)]
                  rfl
                obtain ⟨gr, rfl, -, -⟩ := own_form (HOr.out.row 1 rfl) (by omega)
                have hcx := HOr.out.byteO 1 rfl hbz
                clear hbz
                have HX2 := Lib.hid (HOr.out.go (own_box1 wr (.cells #[.int .u8 (b.toNat : Int)] 5)))
                have HSn := Lib.hid (sl_new1 wr 5 (.int .u8 (b.toNat : Int)))
                go_wp2_with (at_builtin; refine ow_append elemB HX2.out 2 (.tmp 93) (.tmp 95) rfl (m := 1) (news := [.int .u8 (b.toNat : Int)]) rfl HSn.out (bys_one [b]) (by unfold maxLen; omega) (by omega) rfl rfl rfl rfl ?_; intro A' c' w8 how; rw [show bys (Sy.outTo k data q) ++ [.int .u8 (b.toNat : Int)] = bys (Sy.outTo k data q ++ [b]) from bys_snoc _ _, HS.out] at how; simp only [List.cons_append, List.nil_append, List.set_cons_zero, List.set_cons_succ] at how; have HOc := Lib.hid how; clear how)
                go_roundw
                case rel => exact ⟨q + 1, i + 1, A', c', by omega, by have := hi.out; unfold Hid; omega, by go_num, rfl, HOc.out⟩
                case measure => simp [intOf]; omega
              · have hd3 : decide ((z : Int) < (rl : Int)) = false := decide_eq_false (by omega)
                have hb0 : b = 0 := by rw [hb.out]; exact Po.co_big _ _ (by rw [HRL.out]; exact hzr)
                subst hb0
                have HX2 := Lib.hid (HOr.out.go (own_box1 wr (.cells #[.int .u8 ((0 : UInt8).toNat : Int)] 5)))
                have HSn := Lib.hid (sl_new1 wr 5 (.int .u8 ((0 : UInt8).toNat : Int)))
                go_wp2_with (at_builtin; refine ow_append elemB HX2.out 2 (.tmp 93) (.tmp 95) rfl (m := 1) (news := [.int .u8 ((0 : UInt8).toNat : Int)]) rfl HSn.out (bys_one [(0 : UInt8)]) (by unfold maxLen; omega) (by omega) rfl rfl rfl rfl ?_; intro A' c' w8 how; rw [show bys (Sy.outTo k data q) ++ [.int .u8 ((0 : UInt8).toNat : Int)] = bys (Sy.outTo k data q ++ [(0 : UInt8)]) from bys_snoc _ _, HS.out] at how; simp only [List.cons_append, List.nil_append, List.set_cons_zero, List.set_cons_succ] at how; have HOc := Lib.hid how; clear how)
                go_roundw
                case rel => exact ⟨q + 1, i + 1, A', c', by omega, by have := hi.out; unfold Hid; omega, by go_num, rfl, HOc.out⟩
                case measure => simp [intOf]; omega
            · have hd2 : decide ((i : Int) < (nn : Int)) = false := decide_eq_false (by have := hi.out; have := hnn.out; omega)
              have hqk' : q = k := by omega
              have hle : nn ≤ i := by have := hi.out; have := hnn.out; omega
              go_wp2_with fail
              go_ret2
              have h5 := HOr.out
              rw [hqk', Sy.outTo_all] at h5
              exact ⟨Ao, _, co, rfl, by rw [Sy.enc_length, HN.out, hi.out, hqk'], h5.row 2 rfl, h5.below⟩
end Go.Proofs.YtnplaejlmbncfaaDoor

namespace Go.Proofs.YtnplaejlmbncfaaDoor
open Go.RowKit Go.Sort
set_option linter.unusedVariables false
set_option maxRecDepth 100000
def RWd1 (w : World) (g cb d m f gw nn cw : Nat) (x : Value) (wr : World) : Prop :=
  ∃ (k : Nat) (W : List UInt8), k ≤ 20 ∧ x = .int .i64 (k : Int) ∧ Hid (W.length = nn) ∧ Hid (Ow w wr (some g) [] [] [codeR cb d m f, ⟨some ⟨gw, 0, none⟩, nn, cw, 5, bys W⟩]) ∧ Hid (Dice wr g w.heap.size)
def RWd2 (w : World) (g : Nat) (L : List Ob) (O : List Rw) (m : Nat) (v : Value) (wr : World) : Prop := ∃ j : Nat, j ≤ m ∧ v = .int .i64 (j : Int) ∧ Hid (Ow w wr (some g) [] L O)
def RWd3 (w : World) (g : Nat) (L : List Ob) (O : List Rw) (nn dl mn : Nat) (V W : List UInt8) (E : List Nat) (x y z : Value) (wr : World) : Prop :=
  ∃ ot k i : Nat, i ≤ nn ∧ k ≤ dl ∧ ot ≤ k ∧ x = .int .i64 (ot : Int) ∧ y = .int .i64 (k : Int) ∧ z = .int .i64 (i : Int) ∧ Hid (k = ((List.range i).filter fun j => Sy.wd V j != Sy.wd W j).length ∧ ot = ((List.range i).filter fun j => (Sy.wd V j != Sy.wd W j) && !E.contains j).length) ∧ Hid (Ow w wr (some g) [] L O)
def RWd4 (w : World) (g : Nat) (L : List Ob) (O : List Rw) (kl i : Nat) (E : List Nat) (x y : Value) (wr : World) : Prop :=
  ∃ j : Nat, j ≤ kl ∧ y = .int .i64 (j : Int) ∧ x = .bool ((E.take j).contains i) ∧ Hid (Ow w wr (some g) [] L O)

set_option maxHeartbeats 3000000 in
theorem symbolWords_any (A : Option Addr) (n c : Nat) (ts : List Int) (w : World) (hn : ts.length = n) (hl : n ≤ 9223372036854775807) (hs : Sl w w.heap.size A (ints ts)) :
    Calls Tryd.prog 5 #[.slice A n c] w fun e w' => e = .returned (.bool true) ∧ Below w.heap.size w w' := by
  rcases Nat.lt_or_ge 400 n with hbig | hsm
  · have HLi := Lib.hid (light_no A n c w hbig hl)
    have HAw := Lib.hid (awake07_any w)
    clear hs
    go_enter Tryd.func5, Tryd.ntmps5
    go_wp2_with (first | (go_at_call 6; refine HLi.out.mono ?_; rintro e w1 ⟨rfl, rfl⟩) | (go_at_call 7; refine HAw.out.mono ?_; rintro e w2 ⟨rfl, hb⟩))
    go_ret
    exact ⟨rfl, hb⟩
  have HLi := Lib.hid (light_yes A n c w hsm)
  have HR := Lib.hid (roll_at (St.refl w) A n c w.heap.size ts hn (by omega) (Nat.le_refl _) hs)
  clear hs hn hl hsm
  go_enter Tryd.func5, Tryd.ntmps5
  go_wp2_with fail
  refine HLi.out.mono ?_
  rintro e w1 ⟨rfl, rfl⟩
  go_wp2_with fail
  refine HR.out.mono ?_
  rintro e w1 ⟨g, rfl, hd1, hst1⟩
  have HN := Lib.hid (symbols_ow (Ow.of hst1) hd1 (Nat.le_refl _))
  clear HR HLi hd1 hst1
  go_wp2_with fail
  refine HN.out.mono ?_
  rintro e w2 ⟨d, m, f, rfl, hcd, hfm, hd2, h2⟩
  have h3 := h2.code d m f
  have HD := Lib.hid (hd2.alloc1 (.cells #[.int .i64 2, .int .i64 (d : Int), .int .i64 (m : Int), .int .i64 (f : Int)] 28))
  have HO : Hid (Ow w (w2.alloc (.cells #[.int .i64 2, .int .i64 (d : Int), .int .i64 (m : Int), .int .i64 (f : Int)] 28)) (some g) [] [] [codeR w2.heap.size d m f]) := h3
  have hcd0 := Lib.hid hcd
  obtain ⟨hd1', hd2', hm1', hm2', hf5'⟩ := hcd
  clear h2 hd2 h3 HN
  go_upto_region 5 with (fail)
  refine reg_monoT [some 29, some 30, some 31, some 32, some 33, some 34, some 28, some 35, some 36, some 5, some 6] (fun v => Ow w v (some g) [] [] [codeR w2.heap.size d m f] ∧ Dice v g w.heap.size) (fun _ => True) 11 (fun _ => 11) (lw5 w g w2.heap.size d m f) (by kernel_rfl) (by kernel_rfl) (by kernel_rfl) ?_ trivial ?_ ?_
  · exact ⟨HO.out.drew, HD.out.drew⟩
  · rintro j us v hj hl HS hS hp
    replace hl : us.length = 11 := hl
    obtain ⟨u0, us0, rfl, hl0⟩ := us_cons (n := 10) hl
    obtain ⟨u1, us1, rfl, hl1⟩ := us_cons (n := 9) hl0
    obtain ⟨u2, us2, rfl, hl2⟩ := us_cons (n := 8) hl1
    obtain ⟨u3, us3, rfl, hl3⟩ := us_cons (n := 7) hl2
    obtain ⟨u4, us4, rfl, hl4⟩ := us_cons (n := 6) hl3
    obtain ⟨u5, us5, rfl, hl5⟩ := us_cons (n := 5) hl4
    obtain ⟨u6, us6, rfl, hl6⟩ := us_cons (n := 4) hl5
    obtain ⟨u7, us7, rfl, hl7⟩ := us_cons (n := 3) hl6
    obtain ⟨u8, us8, rfl, hl8⟩ := us_cons (n := 2) hl7
    obtain ⟨u9, us9, rfl, hl9⟩ := us_cons (n := 1) hl8
    obtain ⟨u10, us10, rfl, hl10⟩ := us_cons (n := 0) hl9
    obtain rfl := us_nil hl10
    clear hl hl0 hl1 hl2 hl3 hl4 hl5 hl6 hl7 hl8 hl9
    clear hS
    have hj' : j < 11 := hj
    have hcase : j = 0 ∨ j = 1 ∨ j = 2 ∨ j = 3 ∨ j = 4 ∨ j = 5 ∨ j = 6 ∨ j = 7 ∨ j = 8 ∨ j = 9 ∨ j = 10 := by omega
    clear hj hj'
    replace HS : Ow w v (some g) [] [] [codeR w2.heap.size d m f] ∧ Dice v g w.heap.size := HS
    rcases hcase with rfl | rfl | rfl | rfl | rfl | rfl | rfl | rfl | rfl | rfl | rfl
    · obtain ⟨hx0, hx1, hx2, hx3⟩ := HS.1.cdc 0 rfl
      have HS2 := Lib.hid HS
      clear HS hp
      refine wpOp_step rfl (fun K hK => ?_)
      simp only [putL, Act.put, List.setIfInBounds_toArray, List.set_cons_zero, List.set_cons_succ]
      go_simp
      refine hK _ _ ⟨.agg #[.int .i64 2, .int .i64 (d : Int), .int .i64 (m : Int), .int .i64 (f : Int)], ?_, HS2.out, fun _ _ _ => trivial, rfl, fun _ _ _ _ _ _ h => h⟩
      simp only [putL, Act.put, List.getD_cons_zero, List.setIfInBounds_toArray, List.set_cons_zero, List.set_cons_succ]
    · have HS2 := Lib.hid HS
      clear HS hp
      refine wpOp_step rfl (fun K hK => ?_)
      simp only [putL, Act.put, List.setIfInBounds_toArray, List.set_cons_zero, List.set_cons_succ]
      go_simp
      refine hK _ _ ⟨.pointer (some ⟨g, 0, none⟩), ?_, HS2.out, fun _ _ _ => trivial, rfl, fun _ _ _ _ _ _ h => h⟩
      simp only [putL, Act.put, List.getD_cons_zero, List.getD_cons_succ, List.setIfInBounds_toArray, List.set_cons_zero, List.set_cons_succ]
    · have HS2 := Lib.hid HS
      clear HS hp
      refine wpOp_step rfl (fun K hK => ?_)
      simp only [putL, Act.put, List.setIfInBounds_toArray, List.set_cons_zero, List.set_cons_succ]
      go_simp
      refine hK _ _ ⟨.pointer (some ⟨w2.heap.size, 1, none⟩), ?_, HS2.out, fun _ _ _ => trivial, rfl, fun _ _ _ _ _ _ h => h⟩
      simp only [putL, Act.put, List.getD_cons_zero, List.getD_cons_succ, List.setIfInBounds_toArray, List.set_cons_zero, List.set_cons_succ]
    · obtain rfl : u2 = .pointer (some ⟨w2.heap.size, 1, none⟩) := hp 2 (by kernel_rfl) (.inr (by decide))
      obtain ⟨-, hx, -, -⟩ := HS.1.cdc 0 rfl
      have HS2 := Lib.hid HS
      clear HS hp
      refine wpOp_step rfl (fun K hK => ?_)
      simp only [putL, Act.put, List.setIfInBounds_toArray, List.set_cons_zero, List.set_cons_succ]
      go_simp
      refine hK _ _ ⟨.int .i64 (d : Int), ?_, HS2.out, fun _ _ _ => trivial, rfl, fun _ _ _ _ _ _ h => h⟩
      simp only [putL, Act.put, List.getD_cons_zero, List.getD_cons_succ, List.setIfInBounds_toArray, List.set_cons_zero, List.set_cons_succ]
    · obtain rfl : u1 = .pointer (some ⟨g, 0, none⟩) := hp 1 (by kernel_rfl) (.inr (by decide))
      obtain rfl : u3 = .int .i64 (d : Int) := hp 3 (by kernel_rfl) (.inr (by decide))
      have HS2 := Lib.hid HS
      clear HS hp
      refine wpOp_step rfl (fun K hK => ?_)
      simp only [putL, Act.put, List.setIfInBounds_toArray, List.set_cons_zero, List.set_cons_succ]
      go_simp
      refine (bytes_any g w.heap.size d v (by omega) HS2.out.2).mono ?_
      rintro en v' ⟨A', c', l, rfl, hl', ho, hd', hg⟩
      refine hK _ _ ⟨.slice A' d c', ?_, ⟨HS2.out.1.roll hg, hd'⟩, fun _ _ _ => trivial, ⟨A', c', l, rfl, hl', HS2.out.1.pushG ho hg (by omega)⟩, fun i y _ _ _ _ h => lw5_st (fun _ _ h => h.roll hg) i y h⟩
      simp only [putL, Act.put, List.getD_cons_zero, List.getD_cons_succ, List.setIfInBounds_toArray, List.set_cons_zero, List.set_cons_succ]
    · obtain rfl : u0 = .agg #[.int .i64 2, .int .i64 (d : Int), .int .i64 (m : Int), .int .i64 (f : Int)] := hp 0 (by kernel_rfl) (.inr (by decide))
      obtain ⟨A', c', l, rfl, hl', ho⟩ : lw5 w g w2.heap.size d m f 4 u4 v := hp 4 (by kernel_rfl) (.inr (by decide))
      have HS2 := Lib.hid HS
      have HE := Lib.hid (rencode_ok hcd0.out hfm A' c' l v hl' (ho.sl (i := 0) rfl).2.2.2 (ho.sl (i := 0) rfl).2.1)
      clear HS hp
      refine wpOp_step rfl (fun K hK => ?_)
      simp only [putL, Act.put, List.setIfInBounds_toArray, List.set_cons_zero, List.set_cons_succ]
      go_simp
      refine HE.out.mono ?_
      rintro en v' ⟨Ax, nx, cx, rfl, hnx, hox, hbx⟩
      obtain rfl : d + m = nx := (by rw [← hnx, Sy.enc_length, hl'])
      refine hK _ _ ⟨.tuple #[.slice Ax (d + m) cx, .int .i64 0], ?_, ⟨HS2.out.1.go hbx, HS2.out.2.below hbx⟩, fun _ _ _ => trivial, ⟨Ax, cx, l, rfl, hl', HS2.out.1.add hox hbx⟩, fun i y _ _ _ _ h => lw5_st (fun _ _ h => h.go hbx) i y h⟩
      simp only [putL, Act.put, List.getD_cons_zero, List.getD_cons_succ, List.setIfInBounds_toArray, List.set_cons_zero, List.set_cons_succ]
    · obtain ⟨A', c', l, rfl, hl', ho⟩ : lw5 w g w2.heap.size d m f 5 u5 v := hp 5 (by kernel_rfl) (.inr (by decide))
      have HS2 := Lib.hid HS
      clear HS hp
      refine wpOp_step rfl (fun K hK => ?_)
      simp only [putL, Act.put, List.setIfInBounds_toArray, List.set_cons_zero, List.set_cons_succ]
      go_simp
      refine hK _ _ ⟨.tuple #[.slice A' (d + m) c', .int .i64 0], ?_, HS2.out, fun _ _ _ => trivial, ⟨A', c', l, rfl, hl', ho⟩, fun _ _ _ _ _ _ h => h⟩
      simp only [putL, Act.put, List.getD_cons_zero, List.getD_cons_succ, List.setIfInBounds_toArray, List.set_cons_zero, List.set_cons_succ]
    · obtain ⟨A', c', l, rfl, hl', ho⟩ : lw5 w g w2.heap.size d m f 6 u6 v := hp 6 (by kernel_rfl) (.inr (by decide))
      have HS2 := Lib.hid HS
      clear HS hp
      refine wpOp_step rfl (fun K hK => ?_)
      simp only [putL, Act.put, List.setIfInBounds_toArray, List.set_cons_zero, List.set_cons_succ]
      go_simp
      refine hK _ _ ⟨.slice A' (d + m) c', ?_, HS2.out, fun _ _ _ => trivial, ⟨A', c', l, rfl, hl', ho⟩, fun _ _ _ _ _ _ h => h⟩
      simp only [putL, Act.put, List.getD_cons_zero, List.getD_cons_succ, List.setIfInBounds_toArray, List.set_cons_zero, List.set_cons_succ]
    · obtain ⟨A', c', l, rfl, hl', ho⟩ : lw5 w g w2.heap.size d m f 6 u6 v := hp 6 (by kernel_rfl) (.inr (by decide))
      have HS2 := Lib.hid HS
      clear HS hp
      refine wpOp_step rfl (fun K hK => ?_)
      simp only [putL, Act.put, List.setIfInBounds_toArray, List.set_cons_zero, List.set_cons_succ]
      go_simp
      refine hK _ _ ⟨.int .i64 0, ?_, HS2.out, fun _ _ _ => trivial, rfl, fun _ _ _ _ _ _ h => h⟩
      simp only [putL, Act.put, List.getD_cons_zero, List.getD_cons_succ, List.setIfInBounds_toArray, List.set_cons_zero, List.set_cons_succ]
    · obtain ⟨A', c', l, rfl, hl', ho⟩ : lw5 w g w2.heap.size d m f 7 u7 v := hp 7 (by kernel_rfl) (.inr (by decide))
      have HS2 := Lib.hid HS
      clear HS hp
      refine wpOp_step rfl (fun K hK => ?_)
      simp only [putL, Act.put, List.setIfInBounds_toArray, List.set_cons_zero, List.set_cons_succ]
      go_simp
      refine hK _ _ ⟨.slice A' (d + m) c', ?_, HS2.out, fun _ _ _ => trivial, ⟨A', c', l, rfl, hl', ho⟩, fun _ _ _ _ _ _ h => h⟩
      simp only [putL, Act.put, List.getD_cons_zero, List.getD_cons_succ, List.setIfInBounds_toArray, List.set_cons_zero, List.set_cons_succ]
    · obtain rfl : u8 = .int .i64 0 := hp 8 (by kernel_rfl) (.inr (by decide))
      have HS2 := Lib.hid HS
      clear HS hp
      refine wpOp_step rfl (fun K hK => ?_)
      simp only [putL, Act.put, List.setIfInBounds_toArray, List.set_cons_zero, List.set_cons_succ]
      go_simp
      refine hK _ _ ⟨.int .i64 0, ?_, HS2.out, fun _ _ _ => trivial, rfl, fun _ _ _ _ _ _ h => h⟩
      simp only [putL, Act.put, List.getD_cons_zero, List.getD_cons_succ, List.setIfInBounds_toArray, List.set_cons_zero, List.set_cons_succ]
  · rintro us v hl HS hS hP
    replace hl : us.length = 11 := hl
    obtain ⟨u0, us0, rfl, hl0⟩ := us_cons (n := 10) hl
    obtain ⟨u1, us1, rfl, hl1⟩ := us_cons (n := 9) hl0
    obtain ⟨u2, us2, rfl, hl2⟩ := us_cons (n := 8) hl1
    obtain ⟨u3, us3, rfl, hl3⟩ := us_cons (n := 7) hl2
    obtain ⟨u4, us4, rfl, hl4⟩ := us_cons (n := 6) hl3
    obtain ⟨u5, us5, rfl, hl5⟩ := us_cons (n := 5) hl4
    obtain ⟨u6, us6, rfl, hl6⟩ := us_cons (n := 4) hl5
    obtain ⟨u7, us7, rfl, hl7⟩ := us_cons (n := 3) hl6
    obtain ⟨u8, us8, rfl, hl8⟩ := us_cons (n := 2) hl7
    obtain ⟨u9, us9, rfl, hl9⟩ := us_cons (n := 1) hl8
    obtain ⟨u10, us10, rfl, hl10⟩ := us_cons (n := 0) hl9
    obtain rfl := us_nil hl10
    clear hl hl0 hl1 hl2 hl3 hl4 hl5 hl6 hl7 hl8 hl9
    clear hS
    replace HS : Ow w v (some g) [] [] [codeR w2.heap.size d m f] ∧ Dice v g w.heap.size := HS
    obtain ⟨Aw, cw, data, rfl, hdl, hOw⟩ : lw5 w g w2.heap.size d m f 9 u9 v := hP 9 (by show 9 < 11; decide) (by decide)
    obtain rfl : u10 = .int .i64 0 := hP 10 (by show 10 < 11; decide) (by decide)
    have HDv := Lib.hid HS.2
    have HOv := Lib.hid hOw
    clear HS hP hOw HO HD
    simp only [putL, Act.put, List.setIfInBounds_toArray, List.set_cons_zero, List.set_cons_succ]
    obtain ⟨gw, rfl, -, -⟩ := own_form (HOv.out.row 1 rfl) (by omega)
    obtain ⟨nn, hnn⟩ : ∃ nn : Nat, Hid (nn = d + m) := ⟨_, rfl⟩
    rw [← hnn.out] at HOv ⊢
    have hnnI : (d : Int) + (m : Int) = (nn : Int) := by have := hnn.out; omega
    have hn40 : 2 ≤ nn ∧ nn ≤ 40 := by have := hnn.out; omega
    obtain ⟨hn2, hn40⟩ := hn40
    have HVl : Hid ((Sy.enc m data).length = nn) := by unfold Hid; rw [Sy.enc_length, hdl, hnn.out]
    obtain ⟨V0, hV⟩ : ∃ V, V = Sy.enc m data := ⟨_, rfl⟩
    rw [← hV] at HOv HVl
    clear hV hdl
    obtain ⟨hc0, hc1, hc2, hc3⟩ := HOv.out.cdc 0 rfl
    obtain ⟨m3, hm3⟩ : ∃ m3 : Nat, Hid (m3 = m + 3) := ⟨_, rfl⟩
    have em3 : (m : Int) + 3 = (m3 : Int) := by have := hm3.out; omega
    have HN := Lib.hid (next_ow HOv.out HDv.out m3 (by have := hm3.out; omega) (by have := hm3.out; omega))
    go_wp2_with fail
    refine HN.out.mono ?_
    rintro en w8 ⟨k0, rfl, hk0, hd8, h8, -⟩
    have HO3 := Lib.hid h8
    have HD3 := Lib.hid hd8
    have hk20 : k0 ≤ 20 := by have := hm3.out; omega
    clear HN hd8 h8 HOv HDv hc0 hc1 hc2 hc3 em3 hm3 hk0
    go_wp2_with fail
    go_loopw [8] (fun x wr => RWd1 w g w2.heap.size d m f gw nn cw x wr) (fun x _ => (intOf x).toNat)
    case atStart => exact ⟨k0, V0, hk20, rfl, HVl.out, HO3.out, HD3.out⟩
    case round =>
      clear HO3 HD3 hk20 HVl
      obtain ⟨k, W, hk, rfl, HWl, HOr, HDr⟩ := hrel
      rcases Nat.eq_zero_or_pos k with hk0 | hk0
      · subst hk0
        have HO1 := Lib.hid HOr.out
        have HD1 := Lib.hid HDr.out
        clear HOr HDr
        obtain ⟨hc0, hc1, hc2, hc3⟩ := HO1.out.cdc 0 rfl
        obtain ⟨m1, hm1⟩ : ∃ m1 : Nat, Hid (m1 = m + 1) := ⟨_, rfl⟩
        have em1 : (m : Int) + 1 = (m1 : Int) := by have := hm1.out; omega
        have HN := Lib.hid (next_ow HO1.out HD1.out m1 (by have := hm1.out; omega) (by have := hm1.out; omega))
        go_wp2_with fail
        refine HN.out.mono ?_
        rintro en w8 ⟨mo, rfl, hmo, hd8, h8, -⟩
        have HN := Lib.hid (some_ow h8 hd8 (Nat.le_refl _) nn mo (by omega) (by have := hm1.out; omega))
        clear HO1 HD1 hd8 h8 hc0 hc1 hc2 hc3 em1
        go_wp2_with fail
        refine HN.out.mono ?_
        rintro en w9 ⟨Al, kl, cl, E, rfl, hkl, hE, h9, hd9⟩
        simp only [List.cons_append, List.nil_append] at h9
        have HE : Hid (Sy.Ers E nn m ∧ E.length = kl) := ⟨⟨hE.asc, hE.lt, Nat.le_trans hE.le (by have := hm1.out; omega)⟩, hkl⟩
        have hklm : kl ≤ m := by rw [← hkl]; exact HE.out.1.le
        have HO2 := Lib.hid h9
        have HD2 := Lib.hid hd9
        clear HN h9 hd9 hE hkl hmo hm1
        obtain ⟨q, hq⟩ : ∃ q : Nat, Hid (q = (m - kl) / 2) := ⟨_, rfl⟩
        have eq : ((m : Int) - (kl : Int)) / 2 = (q : Int) := by have := hq.out; omega
        obtain ⟨hc0, hc1, hc2, hc3⟩ := HO2.out.cdc 0 rfl
        obtain ⟨mn, hmn⟩ : ∃ mn : Nat, Hid ((if q < f then (q : Int) else (f : Int)) = (mn : Int)) := ⟨min f q, by unfold Hid; split <;> omega⟩
        have hmn2 : Hid (mn = min f ((m - E.length) / 2)) := by have h1 := hmn.out; have h2 := hq.out; unfold Hid; rw [HE.out.2]; split at h1 <;> omega
        have hmn8 : mn ≤ 8 := by have h1 := hmn.out; split at h1 <;> omega
        have hVn : Hid (nn ≤ 255) := by unfold Hid; omega
        have HDec : Hid (Calls Tryd.prog 14 #[.agg #[.int .i64 2, .int .i64 (d : Int), .int .i64 (m : Int), .int .i64 (f : Int)], .slice (some ⟨gw, 0, none⟩) nn cw, .slice Al kl cl] w9 (DecR w9 (Sy.decM m f W E))) := by
          unfold Hid
          have h1 := HO2.out.row 1 rfl
          have h2 := HO2.out.row 2 rfl
          have h3 := HWl.out
          rw [hnn.out] at h1 h3 ⊢
          exact decode_any hcd0.out hfm (some ⟨gw, 0, none⟩) cw Al kl cl W E w9 h3 (Sl.of_own h1) (own_cap h1).1 HE.out.2 (Sl.of_own h2) (own_cap h2).1 (by rw [← hnn.out]; exact HE.out.1)
        rcases Sy.dec_sound (fix := f) HWl.out HE.out.1 with hlost | ⟨V, hnear, hdec⟩
        · rw [hlost] at HDec
          clear hlost hmn eq hq hmn2 hmn8
          go_wp2_with fail
          refine HDec.out.mono ?_
          rintro en w12 ⟨A1, n1, c1, A2, n2, c2, rfl, hn1, hn2, ho1, ho2, hb⟩
          obtain rfl : 0 = n1 := hn1
          obtain rfl : 0 = n2 := hn2
          have HOw := Lib.hid ((HO2.out.go hb).arr #[.int .i64 ((2 : Nat) : Int), .slice A1 0 c1, .slice A2 0 c2] 3 rfl (by omega) 38)
          clear hb ho1 ho2 HDec HO2 HD2 hc0 hc1 hc2 hc3
          go_wp2_with fail
          refine (awake07_any _).mono ?_
          rintro en w13 ⟨rfl, hb13⟩
          have HOw2 := Lib.hid (HOw.out.go hb13)
          obtain ⟨hy0, hy1, hy2⟩ := HOw2.out.dec 3 rfl
          clear hb13 HOw
          go_wp2_with fail
          go_ret
          exact ⟨rfl, HOw2.out.below⟩
        · obtain ⟨o, ho⟩ : ∃ o : Nat, Hid (o = if V = W then 0 else 1) := ⟨_, rfl⟩
          obtain ⟨dl, hdl⟩ : ∃ dl : Nat, Hid (dl = (Sy.diff nn V W).length) := ⟨_, rfl⟩
          rw [← ho.out] at hdec
          rw [hdec] at HDec
          have HNear := Lib.hid hnear
          have HVl : Hid (V.length = nn) := hnear.len
          have hdl40 : dl ≤ 40 := by
            have h1 := hdl.out
            have h2 := List.length_filter_le (fun i => Sy.wd V i != Sy.wd W i) (List.range nn)
            rw [List.length_range] at h2
            unfold Sy.diff at h1
            omega
          clear hdec hnear
          go_wp2_with fail
          refine HDec.out.mono ?_
          rintro en w12 ⟨A1, n1, c1, A2, n2, c2, rfl, hn1, hn2, ho1, ho2, hb⟩
          obtain rfl : nn = n1 := HVl.out.symm.trans hn1
          obtain rfl : dl = n2 := hdl.out.trans hn2
          have HJ := Lib.hid (((HO2.out.push ho1 (by omega) hb).join (HO2.out.push ho2 (by omega) hb)).arr #[.int .i64 (o : Int), .slice A1 nn c1, .slice A2 dl c2] 3 rfl (by omega) 38)
          obtain ⟨xb, hxb⟩ : ∃ b, b = w12.heap.size := ⟨_, rfl⟩
          have HJ : Hid (Ow w (w12.alloc (.cells #[.int .i64 (o : Int), .slice A1 nn c1, .slice A2 dl c2] 38)) (some g) [] [⟨A1, nn, c1, bys V⟩, ⟨A2, dl, c2, nats (Sy.diff nn V W)⟩] [codeR w2.heap.size d m f, ⟨some ⟨gw, 0, none⟩, nn, cw, 5, bys W⟩, ⟨Al, kl, cl, 3, nats E⟩, decRw w12.heap.size o A1 nn c1 A2 dl c2]) := HJ.out
          have hov : Hid (o ≤ 1) := by have := ho.out; unfold Hid; split at this <;> omega
          obtain ⟨sb, hsb⟩ : ∃ sb : Bool, Hid (sb = decide (W = V)) := ⟨_, rfl⟩
          have ho0 : ((o : Int) == 0) = sb := by
            have h1 := ho.out
            have h2 := hsb.out
            by_cases e : V = W
            · rw [if_pos e] at h1
              rw [h2, h1, decide_eq_true e.symm]; rfl
            · rw [if_neg e] at h1
              rw [h2, h1, decide_eq_false (fun e' => e e'.symm)]; rfl
          have hd0 : ((dl : Int) == 0) = sb := by
            have h1 := hdl.out
            have h2 := hsb.out
            by_cases e : V = W
            · rw [e, Sy.diff_self] at h1
              rw [h2, h1, decide_eq_true e.symm]; rfl
            · rw [h2, decide_eq_false (fun e' => e e'.symm), beq_eq_false_iff_ne]
              intro h3
              apply e
              have h4 : Sy.diff nn V W = [] := List.eq_nil_of_length_eq_zero (by omega)
              refine Sy.wd_ext (by rw [HVl.out, HWl.out]) fun i hi => ?_
              rcases Classical.em (Sy.wd V i = Sy.wd W i) with h5 | h5
              · exact h5
              · exfalso
                have h6 : i ∈ Sy.diff nn V W := List.mem_filter.2 ⟨List.mem_range.2 (by rw [HVl.out] at hi; exact hi), bne_iff_ne.2 h5⟩
                rw [h4] at h6
                cases h6
          have ho2' : ((o : Int) == 2) = false := beq_eq_false_iff_ne.2 (by have := hov.out; omega)
          have hsbb : (sb == sb) = true := by cases sb <;> rfl
          have Ho0 := Lib.hid ho0
          have Hd0 := Lib.hid hd0
          have Heq := Lib.hid eq
          clear hn1 hn2 ho1 ho2 hb HDec HO2 HD2 hc0 hc1 hc2 hc3 ho hov hd0 ho0 hq hsb eq
          go_upto_region 13 with (fail)
          rw [← hxb] at HJ ⊢
          clear hxb
          go_wp2_with fail
          refine (awake07_any _).mono ?_
          rintro en w13 ⟨rfl, hb13⟩
          have HJ2 := Lib.hid (HJ.out.go hb13)
          obtain ⟨hy0, hy1, hy2⟩ := HJ2.out.dec 3 rfl
          obtain ⟨hc0, hc1, hc2, hc3⟩ := HJ2.out.cdc 0 rfl
          have HSy : Hid (Calls Tryd.prog 18 #[.agg #[.int .i64 2, .int .i64 (d : Int), .int .i64 (m : Int), .int .i64 (f : Int)], .slice A1 nn c1] w13 (ResB w13 (List.replicate m 0) 0)) := by
            unfold Hid
            have h1 := (HJ2.out.sl (i := 0) rfl).2.2.2
            have h2 := (HJ2.out.sl (i := 0) rfl).2.1
            rw [← Sy.synL_zero HNear.out.cw]
            rw [hnn.out] at h2 ⊢
            exact synExp_any hcd0.out hfm A1 c1 V w13 (by rw [HVl.out, hnn.out]) h1 h2
          clear HJ hb13
          go_wp2_with fail
          refine HSy.out.mono ?_
          rintro en w14 ⟨Ap, mp, cp, rfl, hmp, hop, hbp⟩
          obtain rfl : m = mp := by rw [← hmp, List.length_replicate]
          obtain ⟨gp, rfl, -, -⟩ := own_form hop (by omega)
          have HO7 := Lib.hid (HJ2.out.add hop hbp)
          simp only [List.cons_append, List.nil_append] at HO7
          clear hmp hop hbp HJ2 HSy hc0 hc1 hc2 hc3 hy0 hy1 hy2
          obtain ⟨hy0, hy1, hy2⟩ := HO7.out.dec 3 rfl
          obtain ⟨hc0, hc1, hc2, hc3⟩ := HO7.out.cdc 0 rfl
          go_wp2_with fail
          go_loopw [14] (fun x wr => RWd2 w g [⟨A1, nn, c1, bys V⟩, ⟨A2, dl, c2, nats (Sy.diff nn V W)⟩] [codeR w2.heap.size d m f, ⟨some ⟨gw, 0, none⟩, nn, cw, 5, bys W⟩, ⟨Al, kl, cl, 3, nats E⟩, decRw xb o A1 nn c1 A2 dl c2, ⟨some ⟨gp, 0, none⟩, m, cp, 5, bys (List.replicate m 0)⟩] m x wr) (fun x _ => m - (intOf x).toNat)
          case atStart => exact ⟨0, Nat.zero_le _, rfl, HO7.out⟩
          case round =>
            obtain ⟨j, hj, rfl, HO8⟩ := hrel
            clear HO7 hy0 hy1 hy2 hc0 hc1 hc2 hc3
            rcases Nat.lt_or_ge j m with hjm | hjm
            · have hd : decide ((j : Int) < (m : Int)) = true := decide_eq_true (by omega)
              have hcp : wr.cell? ⟨gp, j, none⟩ = some (.int .u8 0) := HO8.out.byteO 4 (b := 0) rfl (by rw [List.getElem?_replicate, if_pos hjm])
              go_wp2_with fail
              go_roundw
              case rel => exact ⟨j + 1, by omega, by go_num, HO8.out⟩
              case measure => simp [intOf]; omega
            · have hd : decide ((j : Int) < (m : Int)) = false := decide_eq_false (by omega)
              go_wp2_with fail
              go_loopw [15, 16, 17, 18, 19] (fun x y z _ _ wr => RWd3 w g [⟨A1, nn, c1, bys V⟩, ⟨A2, dl, c2, nats (Sy.diff nn V W)⟩] [codeR w2.heap.size d m f, ⟨some ⟨gw, 0, none⟩, nn, cw, 5, bys W⟩, ⟨Al, kl, cl, 3, nats E⟩, decRw xb o A1 nn c1 A2 dl c2, ⟨some ⟨gp, 0, none⟩, m, cp, 5, bys (List.replicate m 0)⟩] nn dl mn V W E x y z wr) (fun _ _ z _ _ _ => nn - (intOf z).toNat)
              case atStart => exact ⟨0, 0, 0, Nat.zero_le _, Nat.zero_le _, Nat.le_refl _, rfl, rfl, rfl, ⟨rfl, rfl⟩, HO8.out⟩
              case round =>
                clear HO8 hj hjm
                obtain ⟨ot, k, i, hi, hk, hok, rfl, rfl, rfl, HKc, HOr⟩ := hrel
                obtain ⟨hy0, hy1, hy2⟩ := HOr.out.dec 3 rfl
                rcases Nat.lt_or_ge i nn with hin | hin
                · have t1 : decide ((i : Int) < (nn : Int)) = true := decide_eq_true (by omega)
                  obtain ⟨adv, rfl, hxv⟩ := HOr.out.byteL 0 rfl (Sy.wd_lt (l := V) (i := i) (by rw [HVl.out]; exact hin))
                  have hxw := HOr.out.byteO 1 rfl (Sy.wd_lt (l := W) (i := i) (by rw [HWl.out]; exact hin))
                  by_cases hvw : Sy.wd V i = Sy.wd W i
                  · have HK2 : Hid (k = ((List.range (i + 1)).filter fun j => Sy.wd V j != Sy.wd W j).length ∧ ot = ((List.range (i + 1)).filter fun j => (Sy.wd V j != Sy.wd W j) && !E.contains j).length) := by
                      refine ⟨?_, ?_⟩
                      · rw [filt_suc, ← HKc.out.1, hvw]
                        simp
                      · rw [filt_suc, ← HKc.out.2, hvw]
                        simp
                    rw [hvw] at hxv
                    generalize Sy.wd W i = wj at *
                    have hne : ((wj.toNat : Int) == (wj.toNat : Int)) = true := by simp
                    clear hvw hy2 hy0
                    go_wp2_with fail
                    go_quiet (fail)
                    go_wp2_with fail
                    go_roundw
                    case rel => exact ⟨ot, k, i + 1, by omega, hk, hok, rfl, rfl, by go_num, HK2, HOr.out.drewN _⟩
                    case measure => simp [intOf]; omega
                  · have hbn : (Sy.wd V i != Sy.wd W i) = true := bne_iff_ne.2 hvw
                    have HK2 : Hid (k + 1 = ((List.range (i + 1)).filter fun j => Sy.wd V j != Sy.wd W j).length ∧ ot + (if E.contains i then 0 else 1) = ((List.range (i + 1)).filter fun j => (Sy.wd V j != Sy.wd W j) && !E.contains j).length) := by
                      refine ⟨?_, ?_⟩
                      · rw [filt_suc, ← HKc.out.1, if_pos hbn]
                      · rw [filt_suc, ← HKc.out.2, hbn, Bool.true_and]
                        cases E.contains i <;> rfl
                    have hat := filt_at (n := nn) (fun j => Sy.wd V j != Sy.wd W j) hin hbn
                    rw [← HKc.out.1] at hat
                    have hkd : k < dl := by
                      have h1 := get_lt hat
                      rw [hdl.out]
                      exact h1
                    have hneb : (((Sy.wd V i).toNat : Int) == ((Sy.wd W i).toNat : Int)) = false := beq_eq_false_iff_ne.2 fun e => hvw (UInt8.toNat_inj.1 (by omega))
                    generalize Sy.wd W i = wj at *
                    generalize Sy.wd V i = vj at *
                    obtain ⟨ad2, rfl, hxd⟩ := HOr.out.natL 1 rfl hat
                    have Hat := Lib.hid hat
                    have hkk : ((k : Int) == (dl : Int)) = false := beq_eq_false_iff_ne.2 (by omega)
                    have hjj : ((i : Int) != (i : Int)) = false := by simp
                    clear hvw hbn hat
                    have HOq := Lib.hid HOr.out
                    go_wp2_with fail
                    go_quiet (fail)
                    have HOq2 := Lib.hid (HOq.out.drewN nq)
                    obtain ⟨wa, hwa⟩ : ∃ wa, wr.drewN nq = wa := ⟨_, rfl⟩
                    rw [hwa] at HOq2 ⊢
                    clear HOq HOr hxv hxw hxd hy0 hy1 hy2 hwa
                    obtain ⟨hy0, hy1, hy2⟩ := HOq2.out.dec 3 rfl
                    obtain ⟨ad3, e3, hxd⟩ := HOq2.out.natL 1 rfl (show (Sy.diff nn V W)[k]? = some i from Hat.out)
                    obtain rfl := Option.some.inj e3
                    clear e3
                    go_wp2_with fail
                    go_loopw [18, 19] (fun x y wr => RWd4 w g [⟨some adv, nn, c1, bys V⟩, ⟨some ad2, dl, c2, nats (Sy.diff nn V W)⟩] [codeR w2.heap.size d m f, ⟨some ⟨gw, 0, none⟩, nn, cw, 5, bys W⟩, ⟨Al, kl, cl, 3, nats E⟩, decRw xb o (some adv) nn c1 (some ad2) dl c2, ⟨some ⟨gp, 0, none⟩, m, cp, 5, bys (List.replicate m 0)⟩] kl i E x y wr) (fun _ y _ => kl - (intOf y).toNat)
                    case atStart => exact ⟨0, Nat.zero_le _, rfl, rfl, HOq2.out⟩
                    case round =>
                      clear HOq2 hy0 hy1 hy2 hxd
                      obtain ⟨j, hj, rfl, rfl, HOs⟩ := hrel
                      rcases Nat.lt_or_ge j kl with hjk | hjk
                      · have t3 : decide ((j : Int) < (kl : Int)) = true := decide_eq_true (by omega)
                        obtain ⟨p, hp⟩ : ∃ p, E[j]? = some p := ⟨_, List.getElem?_eq_getElem (by rw [HE.out.2]; exact hjk)⟩
                        obtain ⟨gl, rfl, -, -⟩ := own_form (HOs.out.row 2 rfl) (by omega)
                        have hxl := HOs.out.natO 2 rfl hp
                        have HT : Hid ((E.take (j + 1)).contains i = ((E.take j).contains i || (p == i))) := by
                          unfold Hid
                          rw [List.take_add_one, hp, Bool.eq_iff_iff, List.contains_iff_mem, Bool.or_eq_true, List.contains_iff_mem, List.mem_append, beq_iff_eq]
                          refine or_congr_right ?_
                          show i ∈ [p] ↔ p = i
                          rw [List.mem_singleton]
                          exact eq_comm
                        cases hct : (E.take j).contains i with
                        | true =>
                          have HT2 : Hid (true = (E.take (j + 1)).contains i) := by unfold Hid; rw [HT.out, hct]; rfl
                          clear hct hp
                          go_wp2_with fail
                          go_roundw
                          case rel => exact ⟨j + 1, by omega, by go_num, by rw [← HT2.out], HOs.out⟩
                          case measure => simp [intOf]; omega
                        | false =>
                          obtain ⟨bb, hbb⟩ : ∃ bb : Bool, Hid (bb = (p == i)) := ⟨_, rfl⟩
                          have HT2 : Hid (bb = (E.take (j + 1)).contains i) := by unfold Hid; rw [HT.out, hct, hbb.out]; rfl
                          have hpi : ((p : Int) == (i : Int)) = bb := by
                            rw [hbb.out, Bool.eq_iff_iff, beq_iff_eq, beq_iff_eq]
                            omega
                          have hpi2 : (p == i) = bb := hbb.out.symm
                          clear hct hp
                          go_wp2_with fail
                          go_roundw
                          case rel => exact ⟨j + 1, by omega, by go_num, by rw [← HT2.out], HOs.out⟩
                          case measure => simp [intOf]; omega
                      · have t3 : decide ((j : Int) < (kl : Int)) = false := decide_eq_false (by omega)
                        have htk : E.take j = E := List.take_of_length_le (by rw [HE.out.2]; exact hjk)
                        rw [htk]
                        cases hct : E.contains i with
                        | true =>
                          have HK3 : Hid (k + 1 = ((List.range (i + 1)).filter fun j => Sy.wd V j != Sy.wd W j).length ∧ ot = ((List.range (i + 1)).filter fun j => (Sy.wd V j != Sy.wd W j) && !E.contains j).length) := ⟨HK2.out.1, by have := HK2.out.2; rw [hct] at this; exact this⟩
                          clear hct htk HK2
                          go_wp2_with fail
                          go_roundw
                          case rel => exact ⟨ot, k + 1, i + 1, by omega, by omega, by omega, rfl, by go_num, by go_num, HK3, HOs.out⟩
                          case measure => simp [intOf]; omega
                        | false =>
                          have HK3 : Hid (k + 1 = ((List.range (i + 1)).filter fun j => Sy.wd V j != Sy.wd W j).length ∧ ot + 1 = ((List.range (i + 1)).filter fun j => (Sy.wd V j != Sy.wd W j) && !E.contains j).length) := ⟨HK2.out.1, by have := HK2.out.2; rw [hct] at this; exact this⟩
                          clear hct htk HK2
                          go_wp2_with fail
                          go_roundw
                          case rel => exact ⟨ot + 1, k + 1, i + 1, by omega, by omega, by omega, by go_num, by go_num, by go_num, HK3, HOs.out⟩
                          case measure => simp [intOf]; omega
                · have t1 : decide ((i : Int) < (nn : Int)) = false := decide_eq_false (by omega)
                  have hin' : i = nn := by omega
                  have hkd : k = dl := by
                    rw [HKc.out.1, hdl.out, hin']
                    rfl
                  have hotm : ot ≤ mn := by
                    rw [HKc.out.2, hin', hmn2.out]
                    exact HNear.out.few
                  have t4 : decide ((ot : Int) ≤ (mn : Int)) = true := decide_eq_true (by omega)
                  subst hkd
                  obtain ⟨hc0, hc1, hc2, hc3⟩ := HOr.out.cdc 0 rfl
                  have hmn' := hmn.out
                  have ho0 := Ho0.out
                  have hd0 := Hd0.out
                  have eq := Heq.out
                  have hkk : ((k : Int) == (k : Int)) = true := by simp
                  go_wp2_with fail
                  go_ret
                  exact ⟨rfl, HOr.out.below⟩
      · have t2 : decide (0 < (k : Int)) = true := decide_eq_true (by omega)
        have HN := Lib.hid (next_ow HOr.out HDr.out nn (by omega) (by omega))
        go_wp2_with fail
        refine HN.out.mono ?_
        rintro en w9 ⟨p, rfl, hpn, hd9, h9, -⟩
        have HN := Lib.hid (next_ow h9 hd9 256 (by omega) (by omega))
        clear HOr HDr h9 hd9
        go_wp2_with fail
        refine HN.out.mono ?_
        rintro en w10 ⟨r, rfl, hr, hd10, h10, -⟩
        obtain ⟨b, hb⟩ := byte_of hr
        rw [hb]
        have hwb : IntKind.u8.wrap (b.toNat : Int) = (b.toNat : Int) := IntWalk.u8_in _ (by have := u8_lt' b; omega)
        obtain ⟨x0, hx0⟩ : ∃ x0, W[p]? = some x0 := ⟨_, List.getElem?_eq_getElem (by rw [HWl.out]; exact hpn)⟩
        have hcl := h10.byteO 1 rfl hx0
        have hfr := h10.frzO 1 (vs := _) rfl p
        have HG := Lib.hid (h10.putB 1 rfl p b)
        have GD := Lib.hid (hd10.turned (Nat.le_refl _) h10 (i := 1) rfl (grown_set w10 ⟨gw, p, none⟩ (.int .u8 (b.toNat : Int))))
        clear HN hx0 h10 hd10 hb hr
        go_wp2_with fail
        go_roundw
        case rel => exact ⟨k - 1, W.set p b, by omega, int_eqv (by omega), by unfold Hid; rw [List.length_set]; exact HWl.out, HG.out, GD.out⟩
        case measure => simp [intOf]; omega
end Go.Proofs.YtnplaejlmbncfaaDoor


/- what more is needed -/
import Derived.Test.YtdjfbbfbdgiblaaGreatDoorK15
import Derived.WalkKit
import Derived.WalkLawsBesides
import Derived.WalkSpells
import Derived.Lib.Hide
import Derived.Laws.BitsAllLaws
import Derived.Deep.QuietTactic
import Derived.BigQuiet
import Derived.Below
import Derived.OwnWalk
import Derived.Laws.OwnMore
import Derived.Laws.Rows
import Derived.Deep.AppendLies
import Derived.Maps.AppendAt
import Derived.RangeFuncNested
import Derived.RangeFuncBound
import Derived.RangeFuncCalls
import Derived.RangeFuncLeaves
import Derived.RangeFuncBox
import Derived.RangeFuncWrites
import Derived.Shelf.Abstract
import Derived.Shelf.RegionOpen
import Derived.OwnWalkIn
import Derived.TacticsInMore
import Derived.LoopNIn
import Derived.LoopIn
import Derived.Test.YtdjfbbfbdgiblaaGreatDoorChecked
import Derived.StillTailTactics
import Derived.Outline
import Derived.Deep.Cut
import Derived.RegionIn
import Derived.Lib.IndexBytes
import Derived.Lib.BufferRead
import Derived.RegionTactic
import Derived.ChangeAlike
import Derived.Deep.RegionWith
import Derived.StillTail
import Derived.Lib.QuietBelow
import Derived.Deep.RegionHeld3
import Derived.Lib.BitFns
import Derived.Deep.CutBlock
import Derived.Deep.LoopGhost
import Derived.Lib.TrailingZeros
import Derived.BigRegion
import Derived.Shelf.Spec.BitsCarry
import Derived.Lib.AppendZeros
import Derived.Shelf.Bits.Mul64
import Derived.Test.YtdjfbbfbdgiblaaGreatDoorRows
import Derived.ProofKit
import Derived.OpenShut
import Derived.LaidMore
import Derived.Lay
import Derived.SevenTiedAt
import Derived.Stop.Joined
import Derived.Lib.SmallJoins
import Derived.Carry
namespace Go.Proofs.YtdjfbbfbdgiblaaGreatDoor
set_option linter.unusedVariables false
namespace Ch
/-- the sum of all coefficients is the product of all 1 + x -/
def pd : List Int → Int
  | [] => 1
  | x :: l => (1 + x) * pd l
theorem E_sum : ∀ (l : List Int), sm (E l) (l.length + 1) = pd l
  | [] => rfl
  | x :: l => by
    have h := E_sum l
    show sm (E (x :: l)) (l.length + 1 + 1) = (1 + x) * pd l
    rw [sm_first]
    have e : sm (fun i => E (x :: l) (i + 1)) (l.length + 1) = sm (fun i => E l (i + 1)) (l.length + 1) + x * sm (E l) (l.length + 1) := by
      rw [← sm_mul, ← sm_add]
      rfl
    have e2 := sm_first (E l) (l.length + 1)
    have e3 : sm (E l) (l.length + 1 + 1) = sm (E l) (l.length + 1) := by
      show _ + E l (l.length + 1) = _
      rw [E_more l _ (by omega)]; omega
    rw [e3, h] at e2
    rw [e, h, E_zero]
    rw [E_zero] at e2
    rw [Int.add_mul]
    omega
theorem pd_none : ∀ (l : List Int), (-1) ∈ l → pd l = 0
  | [], h => by cases h
  | x :: l, h => by
    show (1 + x) * pd l = 0
    rcases List.mem_cons.1 h with h | h
    · rw [← h]; simp
    · rw [pd_none l h]; simp
end Ch
end Go.Proofs.YtdjfbbfbdgiblaaGreatDoor

namespace Go.Proofs.YtdjfbbfbdgiblaaGreatDoor
set_option linter.unusedVariables false
namespace Ch
theorem odd_pos : ∀ y : Fin 256, y.1 ≠ 0 → (-1) ∈ cols.map (chi y.1) := by decide +kernel
theorem pd_zero : pd (cols.map (chi 0)) * (1 + ls (cols.map (chi 0))) = 4722366482869645213696 * 73 := by decide +kernel
theorem V_whole : sm V 73 = 4722366482869645213696 * 73 := by
  rw [sm_congr (g := fun w => sm (fun y => E (cols.map (chi y)) w * (1 + ls (cols.map (chi y)))) 256) 73 fun w _ => V_sum w, sm_swap, sm_one (k := 0) 256 (by omega) fun i hi hn => ?_]
  · have e := E_sum (cols.map (chi 0))
    rw [List.length_map, cols_len] at e
    rw [← pd_zero, ← e, Int.mul_comm, ← sm_mul]
    exact sm_congr _ fun w _ => Int.mul_comm _ _
  · have e := E_sum (cols.map (chi i))
    rw [List.length_map, cols_len, pd_none _ (odd_pos ⟨i, hi⟩ hn)] at e
    have e2 : sm (fun w => E (cols.map (chi i)) w * (1 + ls (cols.map (chi i)))) 73 = (1 + ls (cols.map (chi i))) * sm (E (cols.map (chi i))) 73 := by
      rw [← sm_mul]
      exact sm_congr _ fun w _ => Int.mul_comm _ _
    rw [e2]
    have e3 : sm (E (cols.map (chi i))) 73 = 0 := e
    rw [e3, Int.mul_zero]
/-- the sets that pass, in all -/
theorem pass_whole : ns pass 73 = 18446744073709551615 * 73 := by
  have h : sm (fun w => V w - 256 * (right w : Int)) 73 = sm (fun w => 256 * (pass w : Int)) 73 := sm_congr _ fun w _ => pass_eq w
  rw [sm_mul, ← ns_sm] at h
  have e : sm (fun w => V w - 256 * (right w : Int)) 73 = sm V 73 + sm (fun w => (-256) * (right w : Int)) 73 := by
    rw [← sm_add]
    refine sm_congr _ fun w _ => ?_
    omega
  have e2 : sm (fun w => (right w : Int)) 73 = 73 := by decide +kernel
  rw [e, sm_mul, e2, V_whole] at h
  omega
end Ch
end Go.Proofs.YtdjfbbfbdgiblaaGreatDoor

namespace Go.Proofs.YtdjfbbfbdgiblaaGreatDoor
open Go.RowKit Go.Sort
set_option linter.unusedVariables false
set_option maxRecDepth 100000
theorem Ch.ns_pass (k : Nat) (hk : k ≤ 73) : Ch.ns Ch.pass k ≤ 18446744073709551615 * 73 := by
  rw [← Ch.pass_whole]
  have h := Ch.ns_split Ch.pass k (73 - k)
  rw [show k + (73 - k) = 73 by omega] at h
  rw [h]
  exact Nat.le_add_right _ _
theorem Ch.pass_lt (k : Nat) : Ch.pass k < 1329227995784915872903807060280344576 := by have := Ch.pass_le k; omega
def RWh (w0 : World) (b : Nat) (x : Value) (wr : World) : Prop := ∃ (k : Nat) (P : Option Addr) (np cp : Nat), k ≤ 73 ∧ x = .int .i64 (k : Int) ∧ Hid (Ow w0 wr none [(b, .slice P np cp)] [⟨P, np, cp, nats (Na.dig (Ch.ns Ch.pass k))⟩] [])
set_option maxHeartbeats 8000000 in
theorem chanceWhole_any (w : World) (ht : Tab w) : Calls Tryz.prog 10 #[] w fun e w' => e = .returned (.bool true) ∧ Below w.heap.size w w' := by
  have HT := Lib.hid ht
  have H0 := ((Ow.of (St.refl w)).boxed (.slice none 0 0) 31).nil'
  try simp only [List.cons_append] at H0
  try simp only [List.nil_append] at H0
  have HO := Lib.hid H0
  clear H0 ht
  go_enter Tryz.func10, Tryz.ntmps10
  go_wp2_with fail
  go_loopw [2] (fun x wr => RWh w w.heap.size x wr) (fun x _ => 74 - (intOf x).toNat)
  case atStart => exact ⟨0, none, 0, 0, by omega, rfl, HO.out⟩
  case round =>
    clear HO
    obtain ⟨k, P, np, cp, hk, rfl, HO⟩ := hrel
    rcases Nat.lt_or_ge k 73 with hlt | hge
    · have hd : decide ((k : Int) ≤ 72) = true := decide_eq_true (by omega)
      have hd' : decide (k ≤ 72) = true := decide_eq_true (by omega)
      have HC := Lib.hid (wrongbits_ow HO.out k (by omega))
      have HB : Hid (Ch.ns Ch.pass k < Na.top ∧ Ch.pass k < Na.top ∧ Ch.ns Ch.pass k + Ch.pass k < Na.top) := by
        have h1 := Ch.ns_pass k (by omega)
        have h2 := Ch.ns_pass (k + 1) (by omega)
        have h3 : Ch.ns Ch.pass (k + 1) = Ch.ns Ch.pass k + Ch.pass k := rfl
        rw [h3] at h2
        have h4 : 18446744073709551615 * 73 < Na.top := by decide +kernel
        exact ⟨Nat.lt_of_le_of_lt h1 h4, Nat.lt_of_le_of_lt (Nat.le_trans (Nat.le_add_left _ _) h2) h4, Nat.lt_of_le_of_lt h2 h4⟩
      clear HO
      go_wp2_with fail
      refine HC.out.mono ?_
      rintro e w1 ⟨B, m, d, rfl, G⟩
      have H1 := G.boxed (.slice B m d) 31
      try simp only [List.cons_append] at H1
      try simp only [List.nil_append] at H1
      have hm : m ≤ 100 := by
        rw [← H1.digs (i := 1) rfl]
        exact Na.dig_len_le (Nat.lt_of_lt_of_le (Ch.pass_lt k) (by decide +kernel))
      have t1 : decide ((100 : Int) < (m : Int)) = false := decide_eq_false (by omega)
      have t2 : decide (100 < m) = false := decide_eq_false (by omega)
      have c0 := H1.cell 0 rfl
      have c1 := H1.cell 1 rfl
      have HA := Lib.hid (radd_z H1 0 1 rfl rfl HB.out.1 HB.out.2.1 HB.out.2.2)
      clear HC G H1 hm
      go_wp2_with fail
      refine HA.out.mono ?_
      rintro e w2 ⟨B2, m2, d2, rfl, G2⟩
      have f0 := G2.free 0 rfl
      have v0 := G2.cell 0 rfl
      have Z := G2.setv 0 rfl (.slice B2 m2 d2)
      simp only [List.set_cons_zero] at Z
      have HG : Hid (Ow w (w2.setCell ⟨w.heap.size, 0, none⟩ (.slice B2 m2 d2)) none [(w.heap.size, .slice B2 m2 d2)] [⟨B2, m2, d2, nats (Na.dig (Ch.ns Ch.pass (k + 1)))⟩] []) := by
        refine Z.few2 rfl (fun o ho => ?_)
        rw [List.mem_singleton] at ho
        subst ho
        exact List.mem_append_right _ List.mem_cons_self
      clear HA G2 Z c0 c1
      go_wp2_with fail
      go_roundw
      case rel => exact ⟨k + 1, B2, m2, d2, by omega, by go_num, HG⟩
      case measure => simp [intOf]; omega
    · have hd : decide ((k : Int) ≤ 72) = false := decide_eq_false (by omega)
      have hd' : decide (k ≤ 72) = false := decide_eq_false (by omega)
      obtain rfl : k = 73 := by omega
      rw [Ch.pass_whole] at HO
      have HC := Lib.hid (rof_z HO.out 2 (by omega))
      clear HO
      go_wp2_with fail
      refine HC.out.mono ?_
      rintro e w1 ⟨B1, m1, d1, rfl, G⟩
      have H1 := G.boxed (.slice B1 m1 d1) 31
      try simp only [List.cons_append] at H1
      try simp only [List.nil_append] at H1
      have HC1 := Lib.hid (rof_z H1 1 (by omega))
      clear HC G H1
      go_wp2_with fail
      refine HC1.out.mono ?_
      rintro e w2 ⟨B2, m2, d2, rfl, G⟩
      have H2 := G.boxed (.slice B2 m2 d2) 31
      try simp only [List.cons_append] at H2
      try simp only [List.nil_append] at H2
      have c1 := H2.cell 1 rfl
      have HC2 := Lib.hid (rpow_z H2 1 rfl (tiny_top (by omega)) 64 (by omega) (by decide +kernel))
      clear HC1 G H2
      go_wp2_with fail
      refine HC2.out.mono ?_
      rintro e w3 ⟨B3, m3, d3, rfl, G⟩
      have H3 := G.boxed (.slice B3 m3 d3) 31
      try simp only [List.cons_append] at H3
      try simp only [List.nil_append] at H3
      have c2 := H3.cell 2 rfl
      have c3 := H3.cell 3 rfl
      have f3 := H3.free 3 rfl
      have HC3 := Lib.hid (rsub_z H3 3 2 rfl rfl (show (2 : Nat) ^ 64 < Na.top by decide +kernel) (by decide +kernel))
      clear HC2 G H3 c1
      go_wp2_with fail
      refine HC3.out.mono ?_
      rintro e w4 ⟨B4, m4, d4, rfl, G⟩
      try simp only [List.cons_append] at G
      try simp only [List.nil_append] at G
      have f3 := G.free 3 rfl
      have v3 := G.cell 3 rfl
      have Z := G.setv 3 rfl (.slice B4 m4 d4)
      simp only [List.set_cons_zero, List.set_cons_succ] at Z
      have HC4 := Lib.hid (rof_z Z 73 (by omega))
      clear HC3 G Z c2 c3
      go_wp2_with fail
      refine HC4.out.mono ?_
      rintro e w5 ⟨B5, m5, d5, rfl, G⟩
      have H5 := G.boxed (.slice B5 m5 d5) 31
      try simp only [List.cons_append] at H5
      try simp only [List.nil_append] at H5
      have c3 := H5.cell 3 rfl
      have c4 := H5.cell 4 rfl
      have HC5 := Lib.hid (rmul_z H5 4 5 rfl rfl (show (2 : Nat) ^ 64 - 1 < Na.top by decide +kernel) (tiny_top (by omega)) (by decide +kernel))
      clear HC4 G H5 f3 v3
      go_wp2_with fail
      refine HC5.out.mono ?_
      rintro e w6 ⟨B6, m6, d6, rfl, G⟩
      have H6 := G.boxed (.slice B6 m6 d6) 31
      try simp only [List.cons_append] at H6
      try simp only [List.nil_append] at H6
      have HC6 := Lib.hid (awake08_ow H6 HT.out)
      clear HC5 G H6 c3 c4
      go_wp2_with fail
      refine HC6.out.mono ?_
      rintro e w7 ⟨rfl, H7⟩
      have c0 := H7.cell 0 rfl
      have c5 := H7.cell 5 rfl
      have HC7 := Lib.hid (ag_same (l := Na.dig (18446744073709551615 * 73)) H7 0 6 rfl rfl)
      clear HC6 H7
      go_wp2_with fail
      refine HC7.out.mono ?_
      rintro e w8 ⟨rfl, H8⟩
      have HB := Lib.hid H8.below
      clear HC7 H8 c0 c5
      go_wp2_with fail
      go_ret
      exact ⟨rfl, HB.out⟩
end Go.Proofs.YtdjfbbfbdgiblaaGreatDoor


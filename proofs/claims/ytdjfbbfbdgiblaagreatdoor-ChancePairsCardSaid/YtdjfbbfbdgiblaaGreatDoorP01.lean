/- what more is needed -/
import Derived.Test.YtdjfbbfbdgiblaaGreatDoorK15
import Derived.WalkKit
import Derived.WalkLawsBesides
import Derived.WalkSpells
import Derived.Lib.Hide
import Derived.Laws.BitsAllLaws
import Derived.Deep.QuietTactic
import Derived.BigQuiet
import Derived.Below
import Derived.OwnWalk
import Derived.Laws.OwnMore
import Derived.Laws.Rows
import Derived.Deep.AppendLies
import Derived.Maps.AppendAt
import Derived.Test.YtdjfbbfbdgiblaaGreatDoorChecked
import Derived.StillTailTactics
import Derived.RangeFuncNested
import Derived.RangeFuncBound
import Derived.RangeFuncCalls
import Derived.RangeFuncLeaves
import Derived.RangeFuncBox
import Derived.RangeFuncWrites
import Derived.Shelf.Abstract
import Derived.Shelf.RegionOpen
import Derived.OwnWalkIn
import Derived.TacticsInMore
import Derived.LoopNIn
import Derived.LoopIn
import Derived.Outline
import Derived.Deep.Cut
import Derived.RegionIn
import Derived.Lib.IndexBytes
import Derived.Lib.BufferRead
import Derived.RegionTactic
import Derived.ChangeAlike
import Derived.Deep.RegionWith
import Derived.StillTail
import Derived.Lib.QuietBelow
import Derived.Lib.AppendZeros
import Derived.Deep.RegionHeld3
import Derived.Lib.BitFns
import Derived.Deep.CutBlock
import Derived.Deep.LoopGhost
import Derived.Lib.TrailingZeros
import Derived.BigRegion
import Derived.Shelf.Spec.BitsCarry
import Derived.Shelf.Bits.Mul64
import Derived.Test.YtdjfbbfbdgiblaaGreatDoorRows
import Derived.ProofKit
import Derived.OpenShut
import Derived.LaidMore
import Derived.Lay
import Derived.SevenTiedAt
import Derived.Stop.Joined
import Derived.Lib.SmallJoins
import Derived.Carry
namespace Go.Proofs.YtdjfbbfbdgiblaaGreatDoor
namespace Sy
open Gf
set_option linter.unusedVariables false
theorem wd_some {l : List UInt8} {i : Nat} {b : UInt8} (h : l[i]? = some b) : wd l i = b := by unfold wd; rw [h]; rfl
end Sy
end Go.Proofs.YtdjfbbfbdgiblaaGreatDoor

namespace Go.Proofs.YtdjfbbfbdgiblaaGreatDoor
open Go.RowKit

section
variable {w w' : World} {B B' : Nat} {A : Option Addr} {xs : List Value}
end

section
variable {w w' : World} {base n c : Nat} {e : TypeId} {A : Option Addr} {xs : List Value}
end

section
variable {P : Program} (w : World)
end

theorem bys_one (l : List UInt8) : ∀ u ∈ bys l, u.oneCell' = true := by
  intro u hu
  obtain ⟨b, _, rfl⟩ := List.mem_map.1 hu
  rfl
/-- what a call leaves that hands back a slice of its own -/
def Fresh (e : TypeId) (w : World) (n : Nat) (xs : List Value) (en : Ending) (w' : World) : Prop := ∃ A c, en = .returned (.slice A n c) ∧ w'.ownsRow w.heap.size e 1 (.slice A n c) n xs ∧ Below w.heap.size w w'
theorem ret_fresh {e : TypeId} {w w' : World} {n m : Nat} {xs : List Value} {A : Option Addr} {c : Nat} (h : w'.ownsRow w.heap.size e 1 (.slice A m c) m xs) (hb : Below w.heap.size w w') (hm : m = n) : Fresh e w n xs (.returned (.slice A m c)) w' := by
  subst hm
  exact ⟨A, c, rfl, h, hb⟩
end Go.Proofs.YtdjfbbfbdgiblaaGreatDoor

namespace Go.Proofs.YtdjfbbfbdgiblaaGreatDoor
open Go.RowKit
set_option linter.unusedVariables false
set_option maxRecDepth 100000

theorem cloneB_any (A : Option Addr) (n c B : Nat) (l : List UInt8) (w : World) (hn : l.length = n) (hs : Sl w B A (bys l)) (hB : B ≤ w.heap.size) (hl : n ≤ 140737488355328) :
    Calls Tryz.prog 65 #[.slice A n c] w (Fresh 5 w n (bys l)) := by
  obtain ⟨i0, hi, hz0, hz1, hz2⟩ := info_parts infoB
  cases A with
  | none =>
    have h0 : n = 0 := by
      rcases Nat.eq_zero_or_pos n with h | h
      · exact h
      · obtain ⟨ad, h, _⟩ := hs (by rw [bys_length]; omega)
        cases h
    subst h0
    have hl0 : l = [] := List.eq_nil_of_length_eq_zero hn
    subst hl0
    have heq := fun w => Lib.run_eql_slice_nil (P := Tryz.prog) w 46 5 none 0 c 0 0 Tryz.underlying46
    clear hs hn
    go_enter Tryz.func65, Tryz.ntmps65
    go_wp2_with fail
    go_ret
    exact ret_fresh (World.ownsRow_nil _ _ _ _) (Below.refl _ _) rfl
  | some ad =>
    have heq := fun w => Lib.run_eql_slice_nil (P := Tryz.prog) w 46 5 (some ad) n c 0 0 Tryz.underlying46
    have HN := Lib.hid ((bys_length l).trans hn)
    have hbw := (Below.refl w.heap.size w).alloc (Nat.le_refl _) (.cells #[] 5)
    have HS : Hid (Sl (w.alloc (.cells #[] 5)) B (some ad) (bys l)) := hs.alloc hB _
    have HO := Lib.hid (own_empty w 5)
    clear hn hs
    go_enter Tryz.func65, Tryz.ntmps65
    go_wp2_with (at_builtin; refine wpList_append_sl _ rfl (.tmp 5) (.tmp 6) 46 rfl w.heap.size 5 i0 (.int .u8 0) 1 Tryz.underlying46 hi hz0 hz1 hz2 rfl _ _ _ _ rfl HO.out B _ _ _ _ rfl HN.out HS.out (bys_one l) (by unfold maxLen; omega) (by omega) (by simp) ?_; intro A' c' w1 hown hgrow hblk)
    go_ret
    rw [Nat.zero_add] at hown
    exact ret_fresh hown (hbw.grown hgrow (by simp) (fun g hg => by cases hg; exact Nat.le_refl _)) rfl
end Go.Proofs.YtdjfbbfbdgiblaaGreatDoor

namespace Go.Proofs.YtdjfbbfbdgiblaaGreatDoor
open Go.RowKit Go.Shelf
attribute [local go_sem] Oper.semAt_some
set_option linter.unusedVariables false
set_option maxRecDepth 100000
def intV (x : Nat) : Int := if x ≤ 4611686018427387904 then (x : Int) else 0
def intE (x : Nat) : Int := if x ≤ 4611686018427387904 then 0 else 3
def IntX (w : World) (b x : Nat) (W : World) : Prop := W.cell? ⟨b + 1, 0, none⟩ = some (.int .i64 0) ∧ W.cell? ⟨b + 1 + 1, 0, none⟩ = some (.int .i64 3) ∧ 4611686018427387904 < x ∧ Below w.heap.size w W
def IntI (w : World) (b vb x n : Nat) (A : Option Addr) (c : Nat) (k : Nat) (W : World) : Prop :=
  ∃ v, v = Na.val ((Na.dig x).drop (n - k)) ∧ v ≤ 4611686018444165119 ∧ W.cell? ⟨b + 1, 0, none⟩ = some (.int .i64 0) ∧ W.frozen? ⟨b + 1, 0, none⟩ = false ∧ W.cell? ⟨b + 1 + 1, 0, none⟩ = some (.int .i64 0) ∧ W.frozen? ⟨b + 1 + 1, 0, none⟩ = false ∧
    W.cell? ⟨vb, 0, none⟩ = some (.int .i64 (v : Int)) ∧ W.frozen? ⟨vb, 0, none⟩ = false ∧ W.cell? ⟨vb + 1, 0, none⟩ = some (.slice A n c) ∧ Below w.heap.size w W
theorem int_big {x v k : Nat} (hv : v = Na.val ((Na.dig x).drop (k + 1))) (h : 274877906944 < v) : 4611686018427387904 < x := by
  have e := Na.val_split (Na.dig x) (k + 1) (by
    rcases Nat.lt_or_ge (Na.dig x).length (k + 1) with h1 | h1
    · rw [List.drop_of_length_le (by omega)] at hv; simp [Na.val] at hv; omega
    · exact h1)
  rw [Na.val_dig, ← hv, Nat.pow_succ] at e
  have e2 : 16777216 ^ k * 16777216 * v ≥ 1 * 16777216 * v := Nat.mul_le_mul_right _ (Nat.mul_le_mul_right _ (Nat.pow_pos (by omega)))
  omega
set_option maxHeartbeats 2000000 in
theorem nint_in (F : Fence) (N : Nat) (q1 : F.fn 31) (q2 : F.fn 68) (q3 : F.fn 101) (q4 : F.fn 67) (hro : F.round = none) (hN : 3 ≤ N)
    (A : Option Addr) (n c : Nat) (x : Nat) (w : World)
    (hval : ∀ (m : Nat) (W : World), Below w.heap.size w W → CallsIn F m Tryz.prog 67 #[.agg #[.slice A n c]] W fun e w' => e = .returned (.bool true) ∧ Below W.heap.size W w')
    (hn : (Na.dig x).length = n) (hs : Sl w w.heap.size A (nats (Na.dig x))) (hl : n ≤ 140737488351232) :
    CallsIn F N Tryz.prog 31 #[.agg #[.slice A n c]] w fun e w' => e = .returned (.tuple #[.int .i64 (intV x), .int .i64 (intE x)]) ∧ Below w.heap.size w w' := by
  have h1 : 1 ≤ N := by omega
  refine callsIn_of_wp_marks Tryz.func31 rfl q1 ?_ hro
  simp only [Tryz.ntmps31, List.size_toArray, List.length_cons, List.length_nil, Nat.reduceAdd, Nat.reduceSub, Array.replicate_succ, Array.replicate_zero, List.push_toArray, List.append_toArray, List.nil_append, List.cons_append]
  gi_wp2_with (fail)
  gi_at_call 67
  refine (hval _ _ (bal (bal (bal (Below.refl _ _) _) _) _)).mono ?_
  rintro e w1 ⟨rfl, hb1⟩
  obtain ⟨b, hb⟩ : ∃ b, w.heap.size = b := ⟨_, rfl⟩
  rw [hb]
  have k0 : w1.cell? ⟨b, 0, none⟩ = some (.slice A n c) := (hb1.cell (p := ⟨b, 0, none⟩) (by simp; omega)).trans (by subst hb; simp [go_sem])
  have k1 : w1.cell? ⟨b + 1, 0, none⟩ = some (.int .i64 0) := (hb1.cell (p := ⟨b + 1, 0, none⟩) (by simp; omega)).trans (by subst hb; simp [go_sem])
  have k2 : w1.cell? ⟨b + 1 + 1, 0, none⟩ = some (.int .i64 0) := (hb1.cell (p := ⟨b + 1 + 1, 0, none⟩) (by simp; omega)).trans (by subst hb; simp [go_sem])
  have f1 : w1.frozen? ⟨b + 1, 0, none⟩ = false := (hb1.frozen (p := ⟨b + 1, 0, none⟩) (by simp; omega)).trans (by subst hb; simp [go_sem])
  have f2 : w1.frozen? ⟨b + 1 + 1, 0, none⟩ = false := (hb1.frozen (p := ⟨b + 1 + 1, 0, none⟩) (by simp; omega)).trans (by subst hb; simp [go_sem])
  have HB1 : Hid (Below w.heap.size w w1) := btr (bal (bal (bal (Below.refl _ _) _) _) _) hb1
  have hsz : b + 3 ≤ w1.heap.size := by have := hb1.size; simp at this; omega
  have HSb := Lib.hid hb
  have ka : ∀ (p : Addr) (v : Value), p.block < w1.heap.size → w1.cell? p = some v → ∀ o, (w1.alloc o).cell? p = some v := fun p v hp h o => ((own_box1 w1 o).cell hp).trans h
  have k0a := ka _ _ (by simp only; omega) k0
  have HI0 : Hid (∀ o1 o2, o1 = .cells #[.int .i64 0] 3 → o2 = .cells #[.slice A n c] 22 → IntI w b w1.heap.size x n A c 0 ((w1.alloc o1).alloc o2)) := fun o1 o2 e1 e2 => by
    subst e1 e2
    have bV := Boxed.new w1 3 (.int .i64 0)
    have bS := Boxed.new (w1.alloc (.cells #[.int .i64 0] 3)) 22 (.slice A n c)
    simp only [World.size_alloc] at bS
    have hbb : Below w1.heap.size w1 ((w1.alloc (.cells #[.int .i64 0] 3)).alloc (.cells #[.slice A n c] 22)) := bal (bal (Below.refl _ _) _) _
    exact ⟨0, by rw [Nat.sub_zero, List.drop_of_length_le (by omega)]; rfl, by omega, (hbb.cell (p := ⟨b + 1, 0, none⟩) (by simp only; omega)).trans k1, (hbb.frozen (p := ⟨b + 1, 0, none⟩) (by simp only; omega)).trans f1, (hbb.cell (p := ⟨b + 1 + 1, 0, none⟩) (by simp only; omega)).trans k2, (hbb.frozen (p := ⟨b + 1 + 1, 0, none⟩) (by simp only; omega)).trans f2, (bV.alloc _).cell, (bV.alloc _).frozen, bS.cell, btr HB1.out hbb⟩
  have HN := Lib.hid hn
  have HS := Lib.hid hs
  clear hb1 hb hval ka k0 hn hs k1 k2 f1 f2
  gi_wp2_with (gi_at_call 68; refine (backI_in F (N - 1) q2 hro _ _ _ _).mono ?_; rintro e w' ⟨rfl, rfl⟩)
  refine range_back (F := F) (n := N) (A := A) (Bs := w1.heap.size + 1) (len := n) (cap := c) q3 hro (by omega) ?hg ?hps hl
    (IntI w b w1.heap.size x n A c) (IntX w b x) ?hI ?hX (fun k W h => by obtain ⟨_, _, _, _, _, _, _, _, _, hh, _⟩ := h; exact hh) ?hRd (HI0.out _ _ rfl rfl) ?a1 ?assign ?body ?done ?stop
  case hg => rfl
  case hps => rfl
  case hI => 
    rintro k W W' row ⟨v, e1, e2, e3, e4, e5, e6, e7, e8, e9, e10⟩ hg hr
    have hr' : ∀ r, row = some r → ∃ o : Obj, W.heap[r]? = some o ∧ o.isCells = false := fun r e => (hr r e).2
    exact ⟨v, e1, e2, cell_kept e3 hg hr', (frozen_kept e3 hg hr').trans e4, cell_kept e5 hg hr', (frozen_kept e5 hg hr').trans e6, cell_kept e7 hg hr', (frozen_kept e7 hg hr').trans e8, cell_kept e9 hg hr', below_from e10 hg (by simp; have := HSb.out; omega) hr⟩
  case hX =>
    rintro k W W' row ⟨e1, e2, e3, e4⟩ hg hr
    exact ⟨cell_kept e1 hg (fun r e => (hr r e).2), cell_kept e2 hg (fun r e => (hr r e).2), e3, below_from e4 hg (by simp; have := HSb.out; omega) hr⟩
  case hRd =>
    rintro k W ⟨v, e1, e2, e3, e4, e5, e6, e7, e8, e9, e10⟩ hk
    obtain ⟨a, ha⟩ := nat_at (Na.dig x) (n - 1 - k) (by rw [HN.out]; omega)
    obtain ⟨ad, e, _, hc⟩ := (HS.out.below e10).nat ha
    exact ⟨_, ad, e, hc⟩
  case assign =>
    intro l k v W K hK
    dsimp only [encBack]
    gi_wp2
    exact hK
  case body =>
    rintro l k v W ⟨y, e1, e2, e3, e4, e5, e6, e7, e8, e9, e10⟩ hk hR
    obtain ⟨a, ha⟩ := nat_at (Na.dig x) (n - 1 - k) (by rw [HN.out]; omega)
    obtain ⟨ad, rfl, _, hca⟩ := (HS.out.below e10).nat ha
    obtain ⟨ad', e0, hv⟩ := hR
    obtain rfl := Option.some.inj e0
    rw [hca] at hv
    obtain rfl := Option.some.inj hv
    have hbv : b + 1 ≠ w1.heap.size ∧ b + 1 + 1 ≠ w1.heap.size := by omega
    have HHA := Lib.hid ha
    have HE1 := Lib.hid e1
    have HB := Lib.hid e10
    have ha3 := (Na.dig_lim x).at ha
    clear ha hca e0 e1 e10 HI0
    obtain ⟨j, hj⟩ : ∃ j, n - 1 - k = j := ⟨_, rfl⟩
    rw [hj] at HHA
    rw [hj]
    rcases Nat.lt_or_ge 274877906944 y with hy | hy
    · have HBig : Hid (4611686018427387904 < x) := by
        have h7 := HE1.out
        rw [show n - k = j + 1 by omega] at h7
        exact int_big h7 hy
      clear hj
      have hbw := HSb.out
      gi_wp2
      exact ⟨((KeepsOthers.setCell _ _ _).from _).trans ((KeepsOthers.setCell _ _ _).from _), by rw [World.cell?_setCell_other _ _ _ _ (by simp)]; exact cell_of_set _ e3, cell_of_set _ (by rw [World.cell?_setCell_other _ _ _ _ (by simp)]; exact e5), HBig.out, bset (bset HB.out _ (by simp only; omega) _) _ (by simp only; omega) _⟩
    · obtain ⟨T, hT⟩ : ∃ T, y * 16777216 + a = T := ⟨_, rfl⟩
      have hT1 : (y : Int) * 16777216 + (a : Int) = (T : Int) := by omega
      have hT2 : T ≤ 4611686018444165119 := by omega
      have HD2 : Hid (T = Na.val ((Na.dig x).drop (n - (k + 1)))) := by
        have h7 := Na.val_drop_cons _ _ _ HHA.out
        unfold Hid
        rw [show n - (k + 1) = j by omega, h7, show j + 1 = n - k by omega, ← HE1.out, ← hT]
        omega
      clear hj hT
      have hbw := HSb.out
      gi_wp2
      exact ⟨(KeepsOthers.setCell _ _ _).from _, T, HD2.out, hT2, by rw [World.cell?_setCell_other _ _ _ _ (by simp <;> omega)]; exact e3, by rw [World.frozen?_setCell]; exact e4, by rw [World.cell?_setCell_other _ _ _ _ (by simp <;> omega)]; exact e5, by rw [World.frozen?_setCell]; exact e6, cell_of_set _ e7, by rw [World.frozen?_setCell]; exact e8, by rw [World.cell?_setCell_other _ _ _ _ (by simp)]; exact e9, bset HB.out _ (by simp only; omega) _⟩
  case done =>
    rintro D W hD ⟨v, e1, e2, e3, e4, e5, e6, e7, e8, e9, e10⟩ hK
    obtain rfl : v = x := by rw [e1, Nat.sub_self, List.drop_zero, Na.val_dig]
    have hD2 : w1.heap.size + 2 ≤ D := by simpa using hD
    have hbw := HSb.out
    have HB := Lib.hid e10
    clear e1 e10 HI0 HSb
    rcases Nat.lt_or_ge 4611686018427387904 v with hv | hv
    · have hc1 : (((W.setCell ⟨b + 1, 0, none⟩ (.int .i64 0)).setCell ⟨b + 1 + 1, 0, none⟩ (.int .i64 3)).putObj D (.deferred none)).cell? ⟨b + 1, 0, none⟩ = some (.int .i64 0) :=
        (World.cell?_of_block (World.putObj_heap_other (k := b + 1) (by omega))).trans (by rw [World.cell?_setCell_other _ _ _ _ (by simp)]; exact cell_of_set _ e3)
      have hc2 : (((W.setCell ⟨b + 1, 0, none⟩ (.int .i64 0)).setCell ⟨b + 1 + 1, 0, none⟩ (.int .i64 3)).putObj D (.deferred none)).cell? ⟨b + 1 + 1, 0, none⟩ = some (.int .i64 3) :=
        (World.cell?_of_block (World.putObj_heap_other (k := b + 1 + 1) (by omega))).trans (cell_of_set _ (by rw [World.cell?_setCell_other _ _ _ _ (by simp)]; exact e5))
      have hK2 : ((W.setCell ⟨b + 1, 0, none⟩ (.int .i64 0)).setCell ⟨b + 1 + 1, 0, none⟩ (.int .i64 3)).heap[D]? = some (.deferred (some [])) := (Below.heap_setCell _ _ _ _ (by simp; omega)).trans ((Below.heap_setCell _ _ _ _ (by simp; omega)).trans hK)
      have HV : Hid (intV v = 0 ∧ intE v = 3) := ⟨if_neg (by omega), if_neg (by omega)⟩
      gi_wp2
      refine ⟨by simp, .inl ⟨_, _, rfl, run_takeDeferred hK2, ?_⟩⟩
      refine ⟨.tuple #[.int .i64 0, .int .i64 3], by simp [results, Tryz.results31, go_sem, hc1, hc2], by rw [HV.out.1, HV.out.2], ?_⟩
      exact (bset (bset HB.out _ (by simp only; omega) _) _ (by simp only; omega) _).grown (grownBy_putObj' _ D _) (by simp [World.setCell]; have := HB.out.size; omega) (fun r e => by cases e; omega)
    · have hc1 : (((W.setCell ⟨b + 1, 0, none⟩ (.int .i64 (v : Int))).setCell ⟨b + 1 + 1, 0, none⟩ (.int .i64 0)).putObj D (.deferred none)).cell? ⟨b + 1, 0, none⟩ = some (.int .i64 (v : Int)) :=
        (World.cell?_of_block (World.putObj_heap_other (k := b + 1) (by omega))).trans (by rw [World.cell?_setCell_other _ _ _ _ (by simp)]; exact cell_of_set _ e3)
      have hc2 : (((W.setCell ⟨b + 1, 0, none⟩ (.int .i64 (v : Int))).setCell ⟨b + 1 + 1, 0, none⟩ (.int .i64 0)).putObj D (.deferred none)).cell? ⟨b + 1 + 1, 0, none⟩ = some (.int .i64 0) :=
        (World.cell?_of_block (World.putObj_heap_other (k := b + 1 + 1) (by omega))).trans (cell_of_set _ (by rw [World.cell?_setCell_other _ _ _ _ (by simp)]; exact e5))
      have hK2 : ((W.setCell ⟨b + 1, 0, none⟩ (.int .i64 (v : Int))).setCell ⟨b + 1 + 1, 0, none⟩ (.int .i64 0)).heap[D]? = some (.deferred (some [])) := (Below.heap_setCell _ _ _ _ (by simp; omega)).trans ((Below.heap_setCell _ _ _ _ (by simp; omega)).trans hK)
      have HV : Hid (intV v = (v : Int) ∧ intE v = 0) := ⟨if_pos hv, if_pos hv⟩
      have hvd : decide (4611686018427387904 < (v : Int)) = false := decide_eq_false (by omega)
      gi_wp2
      refine ⟨by simp, .inl ⟨_, _, rfl, run_takeDeferred hK2, ?_⟩⟩
      refine ⟨.tuple #[.int .i64 (v : Int), .int .i64 0], by simp [results, Tryz.results31, go_sem, hc1, hc2], by rw [HV.out.1, HV.out.2], ?_⟩
      exact (bset (bset HB.out _ (by simp only; omega) _) _ (by simp only; omega) _).grown (grownBy_putObj' _ D _) (by simp [World.setCell]; have := HB.out.size; omega) (fun r e => by cases e; omega)
  case stop =>
    rintro D W hD ⟨e3, e5, e6, e10⟩ hK
    have hD2 : w1.heap.size + 2 ≤ D := by simpa using hD
    have hbw := HSb.out
    have HB := Lib.hid e10
    clear e10 HI0
    have hc1 : (W.putObj D (.deferred none)).cell? ⟨b + 1, 0, none⟩ = some (.int .i64 0) := (World.cell?_of_block (World.putObj_heap_other (k := b + 1) (by omega))).trans e3
    have hc2 : (W.putObj D (.deferred none)).cell? ⟨b + 1 + 1, 0, none⟩ = some (.int .i64 3) := (World.cell?_of_block (World.putObj_heap_other (k := b + 1 + 1) (by omega))).trans e5
    have HV : Hid (intV x = 0 ∧ intE x = 3) := ⟨if_neg (by omega), if_neg (by omega)⟩
    gi_wp2
    refine ⟨by simp, .inl ⟨_, _, rfl, run_takeDeferred hK, ?_⟩⟩
    refine ⟨.tuple #[.int .i64 0, .int .i64 3], by simp [results, Tryz.results31, go_sem, hc1, hc2], by rw [HV.out.1, HV.out.2], ?_⟩
    exact HB.out.grown (grownBy_putObj' _ D _) HB.out.size (fun r e => by cases e; omega)
theorem nint_ok (A : Option Addr) (n c : Nat) (x : Nat) (w : World) (hn : (Na.dig x).length = n) (hs : Sl w w.heap.size A (nats (Na.dig x))) (hx : x < Na.top) :
    Calls Tryz.prog 31 #[.agg #[.slice A n c]] w fun e w' => e = .returned (.tuple #[.int .i64 (intV x), .int .i64 (intE x)]) ∧ Below w.heap.size w w' := by
  have h200 : n ≤ 200 := by rw [← hn]; exact (Na.dig_200 x).2 hx
  refine (callsIn_wide (n := 3)).1 (nint_in Fence.wide 3 trivial trivial trivial trivial rfl (Nat.le_refl _) A n c x w (fun m W hW => callsIn_wide.2 ?_) hn hs (by omega))
  have h := nvalid_any A n c w.heap.size (Na.up (Na.dig x)) W (by rw [Na.up_length]; exact hn) (by rw [nats_up]; exact hs.below hW) hW.size (by omega)
  rwa [Na.vld_dig hx] at h
theorem nint_bad (A : Option Addr) (n c : Nat) (zs : List Int) (w : World) (hn : zs.length = n) (hs : Sl w w.heap.size A (ints zs)) (hl : n ≤ 140737488351232) (hv : Na.vld zs = false) :
    Calls Tryz.prog 31 #[.agg #[.slice A n c]] w fun e w' => e = .returned (.tuple #[.int .i64 0, .int .i64 1]) ∧ Below w.heap.size w w' := by
  have HV : Hid (∀ W, Below w.heap.size w W → Calls Tryz.prog 67 #[.agg #[.slice A n c]] W fun e w' => e = .returned (.bool false) ∧ Below W.heap.size W w') := fun W hW => by
    have h := nvalid_any A n c w.heap.size zs W hn (hs.below hW) hW.size (by omega)
    rwa [hv] at h
  clear hs hn hv
  go_enter Tryz.func31, Tryz.ntmps31
  go_wp2_with fail
  refine (HV.out _ (bal (bal (bal (Below.refl _ _) _) _) _)).mono ?_
  rintro e w1 ⟨rfl, hb1⟩
  obtain ⟨b, hb⟩ : ∃ b, w.heap.size = b := ⟨_, rfl⟩
  rw [hb]
  have k1 : w1.cell? ⟨b + 1, 0, none⟩ = some (.int .i64 0) := (hb1.cell (p := ⟨b + 1, 0, none⟩) (by simp; omega)).trans (by subst hb; simp [go_sem])
  have k2 : w1.cell? ⟨b + 1 + 1, 0, none⟩ = some (.int .i64 0) := (hb1.cell (p := ⟨b + 1 + 1, 0, none⟩) (by simp; omega)).trans (by subst hb; simp [go_sem])
  have f1 : w1.frozen? ⟨b + 1, 0, none⟩ = false := (hb1.frozen (p := ⟨b + 1, 0, none⟩) (by simp; omega)).trans (by subst hb; simp [go_sem])
  have f2 : w1.frozen? ⟨b + 1 + 1, 0, none⟩ = false := (hb1.frozen (p := ⟨b + 1 + 1, 0, none⟩) (by simp; omega)).trans (by subst hb; simp [go_sem])
  have HB1 : Hid (Below w.heap.size w w1) := btr (bal (bal (bal (Below.refl _ _) _) _) _) hb1
  have HSb := Lib.hid hb
  have hc2 : (w1.setCell ⟨b + 1, 0, none⟩ (.int .i64 0)).cell? ⟨b + 1 + 1, 0, none⟩ = some (.int .i64 0) := by rw [World.cell?_setCell_other _ _ _ _ (by simp)]; exact k2
  have hc3 : ((w1.setCell ⟨b + 1, 0, none⟩ (.int .i64 0)).setCell ⟨b + 1 + 1, 0, none⟩ (.int .i64 1)).cell? ⟨b + 1, 0, none⟩ = some (.int .i64 0) := by rw [World.cell?_setCell_other _ _ _ _ (by simp)]; exact cell_of_set _ k1
  have hc4 : ((w1.setCell ⟨b + 1, 0, none⟩ (.int .i64 0)).setCell ⟨b + 1 + 1, 0, none⟩ (.int .i64 1)).cell? ⟨b + 1 + 1, 0, none⟩ = some (.int .i64 1) := cell_of_set _ hc2
  clear hb1 hb HV
  go_wp2_with fail
  have hbw := HSb.out
  refine bodyPost_ret (v := .tuple #[.int .i64 0, .int .i64 1]) (by simp [results, Tryz.results31, go_sem, hc3, hc4]) rfl ?_
  exact ⟨rfl, bset (bset HB1.out _ (by simp only; omega) _) _ (by simp only; omega) _⟩
end Go.Proofs.YtdjfbbfbdgiblaaGreatDoor

namespace Go.Proofs.YtdjfbbfbdgiblaaGreatDoor
open Go.RowKit Go.Sort
set_option linter.unusedVariables false
set_option maxRecDepth 100000
def intW (zs : List Int) : Int := if Na.vld zs then intV (num zs) else 0
def intF (zs : List Int) : Int := if Na.vld zs then intE (num zs) else 1
section
variable {w0 w w' : World} {g : Option Nat} {M : List (Nat × Value)} {L : List Ob} {O : List Rw} {A A2 : Option Addr} {n c m c2 : Nat} {zs ys : List Int}
theorem ag_int_b (h : Ow w0 w g M L O) (i : Nat) (hi : L[i]? = some ⟨A, n, c, ints zs⟩) :
    Calls Tryz.prog 31 #[.agg #[.slice A n c]] w fun e w' => e = .returned (.tuple #[.int .i64 (intW zs), .int .i64 (intF zs)]) ∧ Below w.heap.size w w' := by
  have p := h.raw hi
  cases hv : Na.vld zs
  · have a1 : intW zs = 0 := by unfold intW; rw [hv]; rfl
    have a2 : intF zs = 1 := by unfold intF; rw [hv]; rfl
    rw [a1, a2]
    exact nint_bad A n c zs w p.1 p.2.2.2 (by have := p.2.2.1; omega) hv
  · obtain ⟨x, hx, e1⟩ := Na.vld_ex hv
    have p' := raw_dig p e1
    have a1 : intW zs = intV x := by unfold intW; rw [hv, if_pos rfl, e1, num_dig]
    have a2 : intF zs = intE x := by unfold intF; rw [hv, if_pos rfl, e1, num_dig]
    rw [a1, a2]
    exact nint_ok A n c x w p'.1 p'.2.2.2 hx
theorem ag_int (h : Ow w0 w g M L O) (i : Nat) (hi : L[i]? = some ⟨A, n, c, ints zs⟩) :
    Calls Tryz.prog 31 #[.agg #[.slice A n c]] w fun e w' => e = .returned (.tuple #[.int .i64 (intW zs), .int .i64 (intF zs)]) ∧ Ow w0 w' g M L O :=
  (ag_int_b h i hi).mono fun en w' ⟨he, hb⟩ => ⟨he, h.go hb⟩
end
end Go.Proofs.YtdjfbbfbdgiblaaGreatDoor

namespace Go.Proofs.YtdjfbbfbdgiblaaGreatDoor
open Go.RowKit Go.Shelf
set_option linter.unusedVariables false
set_option maxRecDepth 100000
namespace Ch
/-- the columns as bytes -/
def colB : List UInt8 := cols.map UInt8.ofNat
theorem colB_len : colB.length = 72 := by unfold colB; rw [List.length_map, cols_len]
/-- bit i of a word -/
def hbit (word : List UInt8) (i : Nat) : Bool := (Sy.wd word (i / 8)).toNat / 2 ^ (i % 8) % 2 == 1
/-- the sum of the first columns whose bits are 1 -/
def hsp (word : List UInt8) : Nat → UInt8
  | 0 => 0
  | k + 1 => if hbit word k then hsp word k ^^^ Sy.wd colB k else hsp word k
end Ch
theorem nb_bys : nb Ch.cols = bys Ch.colB := by
  unfold nb bys Ch.colB
  rw [List.map_map]
  refine List.map_congr_left fun x hx => ?_
  have := Ch.cols_lt x hx
  show Value.int .u8 (x : Int) = .int .u8 ((UInt8.ofNat x).toNat : Int)
  rw [UInt8.toNat_ofNat', Nat.mod_eq_of_lt this]
theorem shr_u8 (a k : Nat) : (a : Int) / 2 ^ k = ((a / 2 ^ k : Nat) : Int) := by simp
theorem u8_and_one (a : Nat) (h : a < 256) : bits .and .u8 (a : Int) 1 = ((a % 2 : Nat) : Int) := by
  have := u8_and_nat a 1 h (by omega)
  rw [show ((1 : Int)) = ((1 : Nat) : Int) from rfl, this, Nat.and_one_is_mod]
theorem u8_xor_u (a b : UInt8) : bits .xor .u8 (a.toNat : Int) (b.toNat : Int) = ((a ^^^ b).toNat : Int) := by
  rw [u8_xor_nat _ _ (UInt8.toNat_lt a) (UInt8.toNat_lt b), UInt8.toNat_xor]
def RHs (word : List UInt8) (v5 v14 : Value) : Prop := ∃ k : Nat, k ≤ 72 ∧ v14 = .int .i64 (k : Int) ∧ v5 = .int .u8 ((Ch.hsp word k).toNat : Int)
set_option maxHeartbeats 4000000 in
theorem syndrome_any (A A2 : Option Addr) (c c2 : Nat) (word : List UInt8) (w : World) (hn : word.length = 9) (hs : Sl w w.heap.size A (bys word)) (hs2 : Sl w w.heap.size A2 (bys Ch.colB)) (hc : 9 ≤ c) (hc2 : 72 ≤ c2) :
    Calls Tryz.prog 64 #[.slice A 9 c, .slice A2 72 c2] w fun e w' => e = .returned (.int .u8 ((Ch.hsp word 72).toNat : Int)) ∧ w = w' := by
  have HS := Lib.hid hs
  have HS2 := Lib.hid hs2
  have HN := Lib.hid hn
  clear hs hs2 hn
  go_enter Tryz.func64, Tryz.ntmps64
  go_wp2_with fail
  go_loopw [5, 14] (fun v5 v14 wr => RHs word v5 v14 ∧ w = wr) (fun _ v14 _ => 73 - (intOf v14).toNat)
  case atStart => exact ⟨⟨0, by omega, rfl, rfl⟩, rfl⟩
  case round =>
    obtain ⟨⟨k, hk, rfl, rfl⟩, rfl⟩ := hrel
    obtain ⟨s, hs⟩ : ∃ s, Ch.hsp word k = s := ⟨_, rfl⟩
    rw [hs]
    rcases Nat.lt_or_ge k 72 with hlt | hge
    · have hd : decide ((k : Int) < 72) = true := decide_eq_true (by omega)
      obtain ⟨q, hq⟩ : ∃ q, k / 8 = q := ⟨_, rfl⟩
      obtain ⟨r, hr⟩ : ∃ r, k % 8 = r := ⟨_, rfl⟩
      have hq9 : q < 9 := by omega
      have hr8 : r < 8 := by omega
      obtain ⟨x, hx⟩ : ∃ x, word[q]? = some x := ⟨_, List.getElem?_eq_getElem (by rw [HN.out]; exact hq9)⟩
      obtain ⟨y, hy⟩ : ∃ y, Ch.colB[k]? = some y := ⟨_, List.getElem?_eq_getElem (by rw [Ch.colB_len]; exact hlt)⟩
      obtain ⟨ad, rfl, hbk, hcx⟩ := HS.out.byte hx
      obtain ⟨ad2, rfl, hbk2, hcy⟩ := HS2.out.byte hy
      have e1 : (k : Int) / 8 = (q : Int) := by omega
      have e2 : (k : Int) % 8 = (r : Int) := by omega
      have e3 : (k : Int).tmod 8 = (r : Int) := by rw [Int.tmod_eq_emod_of_nonneg (by omega)]; exact e2
      obtain ⟨t, ht⟩ : ∃ t, x.toNat / 2 ^ r = t := ⟨_, rfl⟩
      have ht2 : t < 256 := by rw [← ht]; exact Nat.lt_of_le_of_lt (Nat.div_le_self _ _) (UInt8.toNat_lt x)
      have e4 : (x.toNat : Int) / 2 ^ r = (t : Int) := by rw [← ht]; exact shr_u8 _ _
      have e5 := u8_and_one t ht2
      obtain ⟨u, hu⟩ : ∃ u, t % 2 = u := ⟨_, rfl⟩
      rw [hu] at e5
      have hkI : (k : Int) < 72 := by omega
      have hqI : (q : Int) < 9 := by omega
      have HB : Hid (Ch.hbit word k = (u == 1)) := by
        show ((Sy.wd word (k / 8)).toNat / 2 ^ (k % 8) % 2 == 1) = _
        rw [hq, hr, Sy.wd_some hx, ht, hu]
      rcases (show u = 0 ∨ u = 1 by omega) with hu0 | hu1
      · have hA : ((u : Int) == 1) = false := by rw [beq_eq_false_iff_ne]; omega
        have HX : Hid (Ch.hsp word (k + 1) = s) := by
          show (if Ch.hbit word k then _ else Ch.hsp word k) = s
          rw [HB.out, hu0, hs]; rfl
        clear hx hy ht hu hq hr hs hu0
        go_wp2_with fail
        go_roundw
        case rel => exact ⟨⟨k + 1, by omega, by go_num, by rw [HX.out]⟩, trivial⟩
        case measure => simp [intOf]; omega
      · have hA : ((u : Int) == 1) = true := by rw [beq_iff_eq]; omega
        have e6 := u8_xor_u s y
        obtain ⟨z, hz⟩ : ∃ z, s ^^^ y = z := ⟨_, rfl⟩
        rw [hz] at e6
        have HX : Hid (Ch.hsp word (k + 1) = z) := by
          show (if Ch.hbit word k then Ch.hsp word k ^^^ Sy.wd Ch.colB k else Ch.hsp word k) = z
          rw [HB.out, hu1, hs, Sy.wd_some hy, ← hz]; rfl
        clear hx hy ht hu hq hr hs hu1 hz
        go_wp2_with fail
        go_roundw
        case rel => exact ⟨⟨k + 1, by omega, by go_num, by rw [HX.out]⟩, trivial⟩
        case measure => simp [intOf]; omega
    · have hd : decide ((k : Int) < 72) = false := decide_eq_false (by omega)
      obtain rfl : k = 72 := by omega
      go_wp2_with fail
      go_ret
      exact ⟨by rw [← hs]; rfl, rfl⟩
/-- where a column stands -/
def At72 (s : UInt8) (z : Int) : Prop := (∃ k : Nat, k < 72 ∧ Ch.colB[k]? = some s ∧ z = (k : Int)) ∨ (s ∉ Ch.colB ∧ z = -1)
set_option maxHeartbeats 4000000 in
theorem index_any (A2 : Option Addr) (c2 : Nat) (s : UInt8) (w : World) (hs2 : Sl w w.heap.size A2 (bys Ch.colB)) (hc2 : 72 ≤ c2) :
    Calls Tryz.prog 66 #[.slice A2 72 c2, .int .u8 (s.toNat : Int)] w fun e w' => ∃ z : Int, e = .returned (.int .i64 z) ∧ At72 s z ∧ w = w' := by
  have HS2 := Lib.hid hs2
  clear hs2
  go_enter Tryz.func66, Tryz.ntmps66
  go_wp2_with fail
  go_loopw [8] (fun v8 wr => (∃ k : Nat, k ≤ 72 ∧ v8 = .int .i64 (k : Int) ∧ Hid (∀ i, i < k → Ch.colB[i]? ≠ some s)) ∧ w = wr) (fun v8 _ => 73 - (intOf v8).toNat)
  case atStart => exact ⟨⟨0, by omega, rfl, fun i hi => by omega⟩, rfl⟩
  case round =>
    obtain ⟨⟨k, hk, rfl, HI⟩, rfl⟩ := hrel
    rcases Nat.lt_or_ge k 72 with hlt | hge
    · have hd : decide ((k : Int) < 72) = true := decide_eq_true (by omega)
      obtain ⟨y, hy⟩ : ∃ y, Ch.colB[k]? = some y := ⟨_, List.getElem?_eq_getElem (by rw [Ch.colB_len]; exact hlt)⟩
      obtain ⟨ad2, rfl, hbk2, hcy⟩ := HS2.out.byte hy
      have hkI : (k : Int) < 72 := by omega
      by_cases hsy : s = y
      · have hA : ((s.toNat : Int) == (y.toNat : Int)) = true := by rw [beq_iff_eq, hsy]
        have HY := Lib.hid hy
        have HE : Hid (s = y) := hsy
        clear hy hsy
        go_wp2_with fail
        go_ret
        exact ⟨(k : Int), rfl, .inl ⟨k, hlt, by rw [HE.out]; exact HY.out, rfl⟩, rfl⟩
      · have hA : ((s.toNat : Int) == (y.toNat : Int)) = false := by rw [beq_eq_false_iff_ne]; intro e; exact hsy (UInt8.toNat_inj.1 (by omega))
        have HI2 : Hid (∀ i, i < k + 1 → Ch.colB[i]? ≠ some s) := fun i hi => by
          rcases Nat.lt_or_ge i k with h | h
          · exact HI.out i h
          · obtain rfl : i = k := by omega
            rw [hy]
            intro e
            exact hsy (Option.some.inj e).symm
        clear hy hsy
        go_wp2_with fail
        go_roundw
        case rel => exact ⟨⟨k + 1, by omega, by go_num, HI2⟩, trivial⟩
        case measure => simp [intOf]; omega
    · have hd : decide ((k : Int) < 72) = false := decide_eq_false (by omega)
      obtain rfl : k = 72 := by omega
      go_wp2_with fail
      go_ret
      refine ⟨-1, rfl, .inr ⟨fun h => ?_, rfl⟩, rfl⟩
      obtain ⟨i, hi⟩ := List.mem_iff_getElem?.1 h
      exact HI.out i (by have := get_lt hi; rw [Ch.colB_len] at this; exact this) hi
/-- what the decoder of bits hands back -/
inductive DecH (w : World) (word : List UInt8) (en : Ending) (w' : World) : Prop
  | clean (A1 : Option Addr) (c1 : Nat) (h0 : Ch.hsp word 72 = 0) (he : en = .returned (.tuple #[.agg #[.int .i64 0, .slice A1 9 c1, .slice none 0 0], .int .i64 (-1), .int .i64 0])) (ho : w'.ownsRow w.heap.size 5 1 (.slice A1 9 c1) 9 (bys word)) (hb : Below w.heap.size w w') : DecH w word en w'
  | lost (h0 : Ch.hsp word 72 ≠ 0) (h1 : Ch.hsp word 72 ∉ Ch.colB) (he : en = .returned (.tuple #[.agg #[.int .i64 2, .slice none 0 0, .slice none 0 0], .int .i64 (-1), .int .i64 0])) (hb : Below w.heap.size w w') : DecH w word en w'
  | fixed (k : Nat) (A1 : Option Addr) (c1 : Nat) (A2 : Option Addr) (c2 : Nat) (hk : k < 72) (h0 : Ch.hsp word 72 ≠ 0) (h1 : Ch.colB[k]? = some (Ch.hsp word 72)) (he : en = .returned (.tuple #[.agg #[.int .i64 1, .slice A1 9 c1, .slice A2 1 c2], .int .i64 (k : Int), .int .i64 0])) (ho : w'.ownsRow w.heap.size 5 1 (.slice A1 9 c1) 9 (bys (word.set (k / 8) (Sy.wd word (k / 8) ^^^ UInt8.ofNat (2 ^ (k % 8)))))) (ho2 : w'.ownsRow w.heap.size 3 1 (.slice A2 1 c2) 1 (nats [k / 8])) (hb : Below w.heap.size w w') : DecH w word en w'
set_option maxHeartbeats 8000000 in
theorem hdecode_any (A : Option Addr) (c : Nat) (word : List UInt8) (w : World) (hn : word.length = 9) (hs : Sl w w.heap.size A (bys word)) (hc : 9 ≤ c) :
    Calls Tryz.prog 30 #[.slice A 9 c] w (DecH w word) := by
  have H0 := ((Ow.of (St.refl w)).old hs (by rw [bys_length]; exact hn) hc (by omega)).arr #[.int .i64 0, .slice none 0 0, .slice none 0 0] 3 rfl (by omega) 49
  simp only [List.nil_append] at H0
  have HO := Lib.hid H0
  have HN := Lib.hid hn
  have HC := Lib.hid (fun W => columns_any W)
  obtain ⟨s, hsy⟩ : ∃ s, Ch.hsp word 72 = s := ⟨_, rfl⟩
  have HS := Lib.hid hsy
  clear H0 hs hn hsy
  go_enter Tryz.func30, Tryz.ntmps30
  go_wp2_with (go_at_call 63; refine (HC.out _).mono ?_; rintro e w1 ⟨A1, c1, rfl, ho, hb⟩; have HO1 := Lib.hid ((HO.out).push ho (by omega) hb); have HCap := Lib.hid (own_cap ho).1; clear ho hb)
  have hsl0 := (HO1.out.sl (i := 0) rfl).2.2.2
  have hsl1 := (HO1.out.sl (i := 1) rfl).2.2.2
  rw [nb_bys] at hsl1
  have HY := Lib.hid (syndrome_any A A1 c c1 word w1 HN.out hsl0 hsl1 hc HCap.out)
  rw [HS.out] at HY
  have HI := Lib.hid (index_any A1 c1 s w1 hsl1 HCap.out)
  have HCl := Lib.hid (cloneB_any A 9 c w1.heap.size word w1 HN.out hsl0 (Nat.le_refl _) (by omega))
  clear HO HC hsl0 hsl1
  refine HY.out.mono ?_
  rintro e w2 ⟨rfl, rfl⟩
  clear HY
  by_cases hs0 : s = 0
  · have hA : ((s.toNat : Int) == 0) = true := by rw [beq_iff_eq, hs0]; rfl
    have HZ : Hid (s = 0) := hs0
    clear hs0
    go_wp2_with fail
    refine HCl.out.mono ?_
    rintro e w3 ⟨A3, c3, rfl, ho, hb⟩
    have H3 := HO1.out.go hb
    have f0 := (H3.row 0 rfl).frozenAt 0
    have f1 := (H3.row 0 rfl).frozenAt 1
    have f2 := (H3.row 0 rfl).frozenAt 2
    have q0 := (H3.row 0 rfl).cellAt 0 (by decide)
    have q1 := (H3.row 0 rfl).cellAt 1 (by decide)
    have q2 := (H3.row 0 rfl).cellAt 2 (by decide)
    have H4 := ((((HO1.out.add ho hb).put 0 rfl 0 (.int .i64 0)).put 0 rfl 1 (.slice A3 9 c3)).put 0 rfl 2 (.slice none 0 0))
    simp only [List.cons_append, List.nil_append, List.set_cons_zero, List.set_cons_succ] at H4
    have s0 := (H4.row 0 rfl).cellAt 0 (by decide)
    have s1 := (H4.row 0 rfl).cellAt 1 (by decide)
    have s2 := (H4.row 0 rfl).cellAt 2 (by decide)
    have HF := Lib.hid (And.intro (H4.row 1 rfl) H4.below)
    clear HO1 HI HCl H3 H4 ho hb
    go_wp2_with fail
    refine bodyPost_ret (v := .tuple #[.agg #[.int .i64 0, .slice A3 9 c3, .slice none 0 0], .int .i64 (-1), .int .i64 0]) (by simp [results, Tryz.results30, go_sem, s0, s1, s2]) rfl ?_
    exact .clean A3 c3 (by rw [HS.out, HZ.out]) rfl HF.out.1 HF.out.2
  · have hA : ((s.toNat : Int) == 0) = false := by rw [beq_eq_false_iff_ne]; intro e; exact hs0 (UInt8.toNat_inj.1 (by show s.toNat = 0; omega))
    have HZ : Hid (s ≠ 0) := hs0
    clear hs0
    go_wp2_with fail
    refine HI.out.mono ?_
    rintro e w3 ⟨z, rfl, hz, rfl⟩
    rcases hz with ⟨k, hk, hck, rfl⟩ | ⟨hno, rfl⟩
    · have hd : decide ((k : Int) < 0) = false := decide_eq_false (by omega)
      have HK := Lib.hid hck
      obtain ⟨q, hq⟩ : ∃ q, k / 8 = q := ⟨_, rfl⟩
      obtain ⟨r, hr⟩ : ∃ r, k % 8 = r := ⟨_, rfl⟩
      have hq9 : q < 9 := by omega
      have hr8 : r < 8 := by omega
      have e1 : (k : Int) / 8 = (q : Int) := by omega
      have HQ : Hid (k / 8 = q ∧ k % 8 = r) := ⟨hq, hr⟩
      clear hck hq hr
      go_wp2_with fail
      refine HCl.out.mono ?_
      rintro e w3 ⟨A3, c3, rfl, ho, hb⟩
      have hl := own_len ho
      obtain ⟨gb, rfl, -, -⟩ := own_form ho (by omega)
      have H3 := ((HO1.out.add ho hb).arr #[.int .i64 (q : Int)] 1 rfl (by omega) 3)
      simp only [List.cons_append, List.nil_append] at H3
      have H4 := H3.arr #[.int .i64 1, .slice (some ⟨gb, 0, none⟩) 9 c3, .slice (some ⟨w3.heap.size, 0, none⟩) 1 1] 3 rfl (by omega) 49
      simp only [List.cons_append, List.nil_append, World.size_alloc] at H4
      have HO4 := Lib.hid H4
      clear HO1 HI HCl H3 H4 ho hb hl
      go_upto_region 11 with (fail)
      obtain ⟨w5, hw5⟩ : ∃ z, (w3.alloc (.cells #[.int .i64 (q : Int)] 3)).alloc (.cells #[.int .i64 1, .slice (some ⟨gb, 0, none⟩) 9 c3, .slice (some ⟨w3.heap.size, 0, none⟩) 1 1] 49) = z := ⟨_, rfl⟩
      rw [hw5] at HO4
      rw [hw5]
      clear hw5
      obtain ⟨x, hx⟩ : ∃ x, word[q]? = some x := ⟨_, List.getElem?_eq_getElem (by rw [HN.out]; exact hq9)⟩
      obtain ⟨pw, hpw⟩ : ∃ p : UInt8, UInt8.ofNat (2 ^ r) = p := ⟨_, rfl⟩
      have e4 : (2 : Int) ^ r % 256 = (pw.toNat : Int) := by
        rcases (show r = 0 ∨ r = 1 ∨ r = 2 ∨ r = 3 ∨ r = 4 ∨ r = 5 ∨ r = 6 ∨ r = 7 by omega) with rfl | rfl | rfl | rfl | rfl | rfl | rfl | rfl <;> (subst hpw; rfl)
      have e5 : Hid (bits .xor .u8 (x.toNat : Int) ((2 : Int) ^ r % 256) = ((x ^^^ pw).toNat : Int)) := by unfold Hid; rw [e4]; exact u8_xor_u x pw
      clear e4
      have e2 : (k : Int) % 8 = (r : Int) := by have := HQ.out.2; omega
      have e3 : (k : Int).tmod 8 = (r : Int) := by rw [Int.tmod_eq_emod_of_nonneg (by omega)]; exact e2
      have e0 : IntKind.i64.wrap (q : Int) = (q : Int) := IntWalk.i64_in _ (by omega)
      have c0 := cell_regrown ((HO4.out.row 3 rfl).cellAt 1 (by decide))
      have c1' := cell_regrown (own_byte (HO4.out.row 1 rfl) hx)
      have hqI : (q : Int) < 9 := by omega
      refine region_below_tail 11 (by kernel_rfl) (by kernel_rfl) ?_
      simp only [List.take_succ_cons, List.take_zero, List.drop_succ_cons, List.drop_zero]
      repeat (quiet_step (fail))
      refine wpQuiet_nil ?_
      intro W hW
      have hbl := regrown_below hW
      have H5 := HO4.out.go hbl
      have g0 := own_byte (H5.row 1 rfl) hx
      have g1 := (H5.row 1 rfl).frozenAt q
      have H6 := H5.put 1 rfl q (.int .u8 (bits .xor .u8 (x.toNat : Int) ((2 : Int) ^ r % 256)))
      simp only [List.set_cons_zero, List.set_cons_succ] at H6
      have z0 := (H6.row 3 rfl).cellAt 0 (by decide)
      have z1 := (H6.row 3 rfl).cellAt 1 (by decide)
      have z2 := (H6.row 3 rfl).cellAt 2 (by decide)
      have f0 := (H6.row 0 rfl).frozenAt 0
      have f1 := (H6.row 0 rfl).frozenAt 1
      have f2 := (H6.row 0 rfl).frozenAt 2
      have q0 := (H6.row 0 rfl).cellAt 0 (by decide)
      have q1 := (H6.row 0 rfl).cellAt 1 (by decide)
      have q2 := (H6.row 0 rfl).cellAt 2 (by decide)
      have H7 := (((H6.put 0 rfl 0 (.int .i64 1)).put 0 rfl 1 (.slice (some ⟨gb, 0, none⟩) 9 c3)).put 0 rfl 2 (.slice (some ⟨w3.heap.size, 0, none⟩) 1 1))
      simp only [List.set_cons_zero, List.set_cons_succ] at H7
      have s0 := (H7.row 0 rfl).cellAt 0 (by decide)
      have s1 := (H7.row 0 rfl).cellAt 1 (by decide)
      have s2 := (H7.row 0 rfl).cellAt 2 (by decide)
      have e9 : (bys word).set q (.int .u8 (bits .xor .u8 (x.toNat : Int) ((2 : Int) ^ r % 256))) = bys (word.set (k / 8) (Sy.wd word (k / 8) ^^^ UInt8.ofNat (2 ^ (k % 8)))) := by
        rw [e5.out, HQ.out.1, HQ.out.2, Sy.wd_some hx, hpw]
        unfold bys
        rw [List.map_set]
        rfl
      have HF := Lib.hid (And.intro (H7.row 1 rfl) (And.intro (H7.row 2 rfl) H7.below))
      rw [e9] at HF
      clear HO4 H5 H6 H7 hbl hW hx hpw c0 c1' e9 e1 e2 e3 e5
      go_wp2_with fail
      refine bodyPost_ret (v := .tuple #[.agg #[.int .i64 1, .slice (some ⟨gb, 0, none⟩) 9 c3, .slice (some ⟨w3.heap.size, 0, none⟩) 1 1], .int .i64 (k : Int), .int .i64 0]) (by simp [results, Tryz.results30, go_sem, s0, s1, s2]) rfl ?_
      refine .fixed k _ c3 _ 1 hk (by rw [HS.out]; exact HZ.out) (by rw [HS.out]; exact HK.out) rfl HF.out.1 ?_ HF.out.2.2
      rw [HQ.out.1]
      exact HF.out.2.1
    · have hd : decide ((-1 : Int) < 0) = true := rfl
      have HNo := Lib.hid hno
      have f0 := (HO1.out.row 0 rfl).frozenAt 0
      have f1 := (HO1.out.row 0 rfl).frozenAt 1
      have f2 := (HO1.out.row 0 rfl).frozenAt 2
      have q0 := (HO1.out.row 0 rfl).cellAt 0 (by decide)
      have q1 := (HO1.out.row 0 rfl).cellAt 1 (by decide)
      have q2 := (HO1.out.row 0 rfl).cellAt 2 (by decide)
      have H4 := (((HO1.out.put 0 rfl 0 (.int .i64 2)).put 0 rfl 1 (.slice none 0 0)).put 0 rfl 2 (.slice none 0 0))
      simp only [List.set_cons_zero, List.set_cons_succ] at H4
      have s0 := (H4.row 0 rfl).cellAt 0 (by decide)
      have s1 := (H4.row 0 rfl).cellAt 1 (by decide)
      have s2 := (H4.row 0 rfl).cellAt 2 (by decide)
      have HF := Lib.hid H4.below
      clear HO1 HI HCl H4 hno
      go_wp2_with fail
      refine bodyPost_ret (v := .tuple #[.agg #[.int .i64 2, .slice none 0 0, .slice none 0 0], .int .i64 (-1), .int .i64 0]) (by simp [results, Tryz.results30, go_sem, s0, s1, s2]) rfl ?_
      exact .lost (by rw [HS.out]; exact HZ.out) (by rw [HS.out]; exact HNo.out) rfl HF.out
end Go.Proofs.YtdjfbbfbdgiblaaGreatDoor

namespace Go.Proofs.YtdjfbbfbdgiblaaGreatDoor
set_option linter.unusedVariables false
namespace Ch
/-- the sums of products of one, two and three -/
def e3 : List Int → Int × Int × Int
  | [] => (0, 0, 0)
  | x :: l => match e3 l with | (a, b, c) => (a + x, b + x * a, c + x * b)
theorem e3_eq : ∀ l, e3 l = (E l 1, E l 2, E l 3)
  | [] => rfl
  | x :: l => by
    show (match e3 l with | (a, b, c) => (a + x, b + x * a, c + x * b)) = (E l 1 + x * E l 0, E l 2 + x * E l 1, E l 3 + x * E l 2)
    rw [e3_eq l, E_zero, Int.mul_one]
theorem v3 : sm (fun y => (e3 (cols.map (chi y))).2.2 * (1 + ls (cols.map (chi y)))) 256 = 8745984 := by decide +kernel
theorem pass3 : pass 3 = 34164 := by
  have h := pass_eq 3
  rw [V_sum, sm_congr (g := fun y => (e3 (cols.map (chi y))).2.2 * (1 + ls (cols.map (chi y)))) 256 (fun y _ => by rw [e3_eq]), v3] at h
  have : right 3 = 0 := rfl
  omega
end Ch
end Go.Proofs.YtdjfbbfbdgiblaaGreatDoor

namespace Go.Proofs.YtdjfbbfbdgiblaaGreatDoor
open Go.RowKit Go.Shelf
set_option linter.unusedVariables false
set_option maxRecDepth 100000
namespace Ch
/-- a word with bit j turned over -/
def flp (word : List UInt8) (j : Nat) : List UInt8 := word.set (j / 8) (Sy.wd word (j / 8) ^^^ UInt8.ofNat (2 ^ (j % 8)))
theorem flp_len (word : List UInt8) (j : Nat) : (flp word j).length = word.length := by unfold flp; rw [List.length_set]
def wz : List UInt8 := List.replicate 9 0
end Ch
theorem pw_byte {r : Nat} {p : UInt8} (hr8 : r < 8) (hpw : UInt8.ofNat (2 ^ r) = p) : (2 : Int) ^ r % 256 = (p.toNat : Int) := by
  rcases (show r = 0 ∨ r = 1 ∨ r = 2 ∨ r = 3 ∨ r = 4 ∨ r = 5 ∨ r = 6 ∨ r = 7 by omega) with rfl | rfl | rfl | rfl | rfl | rfl | rfl | rfl <;> (subst hpw; rfl)
theorem flp_bys {word : List UInt8} {j q r : Nat} {x p : UInt8} {v : Int} (hq : j / 8 = q) (hr : j % 8 = r) (hx : word[q]? = some x) (hpw : UInt8.ofNat (2 ^ r) = p) (e5 : v = ((x ^^^ p).toNat : Int)) :
    (bys word).set q (.int .u8 v) = bys (Ch.flp word j) := by
  unfold Ch.flp
  rw [hq, hr, Sy.wd_some hx, hpw, e5]
  unfold bys
  rw [List.map_set]
  rfl
theorem infoU : (Tryz.prog.info? 5).map (fun i => (i.zero, i.size, i.bytes)) = some (some (.int .u8 0), 1, 1) := by kernel_rfl
theorem pairs_int : intW (Na.up (Na.dig 34164)) = 34164 ∧ intF (Na.up (Na.dig 34164)) = 0 := by decide +kernel
def RPb (w0 : World) (c : Nat) (x n : Value) (wr : World) : Prop :=
  ∃ (i m : Nat), i ≤ 72 ∧ x = .int .i64 (i : Int) ∧ n = .int .i64 (m : Int) ∧ m ≤ 72 * i ∧ Hid (Ow w0 wr none [] [] [])
def RPc (w0 : World) (i : Nat) (x n : Value) (wr : World) : Prop :=
  ∃ (k m : Nat), k ≤ i ∧ x = .int .i64 (k : Int) ∧ n = .int .i64 (m : Int) ∧ m ≤ 72 * i + k ∧ Hid (Ow w0 wr none [] [] [])
set_option maxHeartbeats 16000000 in
theorem chancePairs_any (bit : Int) (w : World) (ht : Tab w) : Calls Tryz.prog 8 #[.int .i64 bit] w fun e w' => e = .returned (.bool true) ∧ Below w.heap.size w w' := by
  have HT := Lib.hid ht
  obtain ⟨b, hb⟩ : ∃ b : Nat, bit % 72 = (b : Int) := ⟨(bit % 72).toNat, by omega⟩
  have hb72 : b < 72 := by omega
  have HMd : Hid (∀ w : World, Calls Tryz.prog 27 #[.int .i64 bit, .int .i64 72] w fun e w' => e = .returned (.int .i64 (b : Int)) ∧ w = w') := fun w => by rw [← hb]; exact mod_any bit 72 w (by omega) (by omega)
  have HO := Lib.hid (Ow.of (St.refl w))
  clear hb ht
  go_enter Tryz.func8, Tryz.ntmps8
  go_wp2_with (go_at_call 27; refine (HMd.out _).mono ?_; rintro e w' ⟨rfl, rfl⟩)
  clear HMd
  go_loopw [4, 5] (fun v4 v5 wr => RPb w b v5 v4 wr) (fun _ v5 _ => 73 - (intOf v5).toNat)
  case atStart => exact ⟨0, 0, by omega, rfl, rfl, by omega, HO.out⟩
  case round =>
    clear HO
    obtain ⟨i, n0, hi, rfl, rfl, hn, HO⟩ := hrel
    rcases Nat.lt_or_ge i 72 with hlt | hge
    · have hd : decide ((i : Int) < 72) = true := decide_eq_true (by omega)
      have hd' : decide (i < 72) = true := decide_eq_true (by omega)
      go_wp2_with fail
      go_loopw [4, 6] (fun v4 v6 wr => RPc w i v6 v4 wr) (fun _ v6 _ => 73 - (intOf v6).toNat)
      case atStart => exact ⟨0, n0, by omega, rfl, rfl, by omega, HO.out⟩
      case round =>
        clear HO
        obtain ⟨k, m, hk, rfl, rfl, hm, HO⟩ := hrel
        rcases Nat.lt_or_ge k i with hki | hki
        · have hz : decide ((k : Int) < (i : Int)) = true := decide_eq_true (by omega)
          have hz' : decide (k < i) = true := decide_eq_true hki
          by_cases hib : i = b
          · have hA : ((i : Int) == (b : Int)) = true := by rw [beq_iff_eq]; omega
            have hA' : (i == b) = true := by rw [beq_iff_eq]; omega
            have HM := Lib.hid hm
            have HK := Lib.hid hki
            have hk72 : k < 72 := by omega
            clear hib hm hki hk
            go_wp2_with fail
            go_roundw
            case rel => exact ⟨k + 1, m, HK.out, by go_num, rfl, Nat.le_succ_of_le HM.out, HO⟩
            case measure => have := HK.out; simp [intOf]; omega
          · have hA : ((i : Int) == (b : Int)) = false := by rw [beq_eq_false_iff_ne]; omega
            have hA' : (i == b) = false := by rw [beq_eq_false_iff_ne]; omega
            by_cases hkb : k = b
            · have hB : ((k : Int) == (b : Int)) = true := by rw [beq_iff_eq]; omega
              have hB' : (k == b) = true := by rw [beq_iff_eq]; omega
              have HM := Lib.hid hm
              have HK := Lib.hid hki
              have hk72 : k < 72 := by omega
              clear hib hkb hm hki hk
              go_wp2_with fail
              go_roundw
              case rel => exact ⟨k + 1, m, HK.out, by go_num, rfl, Nat.le_succ_of_le HM.out, HO⟩
              case measure => have := HK.out; simp [intOf]; omega
            · have hB : ((k : Int) == (b : Int)) = false := by rw [beq_eq_false_iff_ne]; omega
              have hB' : (k == b) = false := by rw [beq_eq_false_iff_ne]; omega
              have HM := Lib.hid hm
              have HK := Lib.hid (And.intro hki (And.intro hk hlt))
              have hk72 : k < 72 := by omega
              have hm72 : m < 100000 := by omega
              clear hib hkb hm hki hk hn
              obtain ⟨i0, hi0, hz0, hz1, hz2⟩ := info_parts infoU
              have hmk := run_make_one (P := Tryz.prog) 46 5 i0 (.int .u8 0) Tryz.underlying46 hi0 hz0 hz1 .i64 .i64 9 9 9 9 (by omega) (by omega) (Nat.le_refl _) (by rw [hz2]; omega) (by omega) wr
              have H1 : Ow w (wr.alloc (.cells (madeCells #[Value.int .u8 0] 9) 5)) none [] [] [⟨some ⟨wr.heap.size, 0, none⟩, 9, 9, 5, bys Ch.wz⟩] := by
                have ho := own_made wr 5 (.int .u8 0) 9 9 rfl (Nat.le_refl _) (by unfold maxLen; omega)
                rw [show List.replicate 9 (Value.int .u8 0) = bys Ch.wz from rfl] at ho
                exact HO.out.add ho (own_box1 _ _)
              have HO1 := Lib.hid H1
              clear HO H1 hi0 hz0 hz1 hz2
              obtain ⟨wrd0, hwrd0⟩ : ∃ z, Ch.wz = z := ⟨_, rfl⟩
              have HN0 : Hid (wrd0.length = 9) := by unfold Hid; rw [← hwrd0]; rfl
              rw [hwrd0] at HO1
              clear hwrd0
              go_upto_region 11 with (fail)
              obtain ⟨wa, hwa⟩ : ∃ z, wr.alloc (.cells (madeCells #[Value.int .u8 0] 9) 5) = z := ⟨_, rfl⟩
              rw [hwa] at HO1
              rw [hwa]
              clear hwa hmk
              obtain ⟨q0, hq⟩ : ∃ q, b / 8 = q := ⟨_, rfl⟩
              obtain ⟨r0, hr⟩ : ∃ r, b % 8 = r := ⟨_, rfl⟩
              have hq9 : q0 < 9 := by omega
              have hr8 : r0 < 8 := by omega
              have e1 : (b : Int) / 8 = (q0 : Int) := by omega
              have e2 : (b : Int) % 8 = (r0 : Int) := by omega
              have e3 : (b : Int).tmod 8 = (r0 : Int) := by rw [Int.tmod_eq_emod_of_nonneg (by omega)]; exact e2
              have e0 : IntKind.i64.wrap (q0 : Int) = (q0 : Int) := IntWalk.i64_in _ (by omega)
              obtain ⟨x0, hx⟩ : ∃ x, wrd0[q0]? = some x := ⟨_, List.getElem?_eq_getElem (by rw [HN0.out]; exact hq9)⟩
              obtain ⟨pw0, hpw⟩ : ∃ p : UInt8, UInt8.ofNat (2 ^ r0) = p := ⟨_, rfl⟩
              have e5 : Hid (bits .xor .u8 (x0.toNat : Int) ((2 : Int) ^ r0 % 256) = ((x0 ^^^ pw0).toNat : Int)) := by unfold Hid; rw [pw_byte hr8 hpw]; exact u8_xor_u _ _
              have HQ := Lib.hid (flp_bys hq hr hx hpw e5.out)
              have g0 := own_byte (HO1.out.row 0 rfl) hx
              have g1 := (HO1.out.row 0 rfl).frozenAt q0
              have hqI : (q0 : Int) < 9 := by omega
              clear hpw hq hr e5 hx
              have H6 := HO1.out.put 0 rfl q0 (.int .u8 (bits .xor .u8 (x0.toNat : Int) ((2 : Int) ^ r0 % 256)))
              simp only [List.set_cons_zero] at H6
              rw [HQ.out] at H6
              obtain ⟨wrd1, hw⟩ : ∃ z, Ch.flp wrd0 b = z := ⟨_, rfl⟩
              have HN1 : Hid (wrd1.length = 9) := by unfold Hid; rw [← hw, Ch.flp_len]; exact HN0.out
              rw [hw] at H6
              have HO2 := Lib.hid H6
              clear HO1 H6 HQ hw HN0
              go_upto_region 12 with (fail)
              obtain ⟨wa1, hwa⟩ : ∃ z, wa.setCell ⟨wr.heap.size, q0, none⟩ (.int .u8 (bits .xor .u8 (x0.toNat : Int) ((2 : Int) ^ r0 % 256))) = z := ⟨_, rfl⟩
              rw [hwa] at HO2
              rw [hwa]
              clear hwa g0 g1 e1 e2 e3 e0 hqI hq9 hr8
              obtain ⟨q1, hq⟩ : ∃ q, i / 8 = q := ⟨_, rfl⟩
              obtain ⟨r1, hr⟩ : ∃ r, i % 8 = r := ⟨_, rfl⟩
              have hq9 : q1 < 9 := by omega
              have hr8 : r1 < 8 := by omega
              have e1 : (i : Int) / 8 = (q1 : Int) := by omega
              have e2 : (i : Int) % 8 = (r1 : Int) := by omega
              have e3 : (i : Int).tmod 8 = (r1 : Int) := by rw [Int.tmod_eq_emod_of_nonneg (by omega)]; exact e2
              have e0 : IntKind.i64.wrap (q1 : Int) = (q1 : Int) := IntWalk.i64_in _ (by omega)
              obtain ⟨x1, hx⟩ : ∃ x, wrd1[q1]? = some x := ⟨_, List.getElem?_eq_getElem (by rw [HN1.out]; exact hq9)⟩
              obtain ⟨pw1, hpw⟩ : ∃ p : UInt8, UInt8.ofNat (2 ^ r1) = p := ⟨_, rfl⟩
              have e5 : Hid (bits .xor .u8 (x1.toNat : Int) ((2 : Int) ^ r1 % 256) = ((x1 ^^^ pw1).toNat : Int)) := by unfold Hid; rw [pw_byte hr8 hpw]; exact u8_xor_u _ _
              have HQ := Lib.hid (flp_bys hq hr hx hpw e5.out)
              have g0 := own_byte (HO2.out.row 0 rfl) hx
              have g1 := (HO2.out.row 0 rfl).frozenAt q1
              have hqI : (q1 : Int) < 9 := by omega
              clear hpw hq hr e5 hx
              have H6 := HO2.out.put 0 rfl q1 (.int .u8 (bits .xor .u8 (x1.toNat : Int) ((2 : Int) ^ r1 % 256)))
              simp only [List.set_cons_zero] at H6
              rw [HQ.out] at H6
              obtain ⟨wrd2, hw⟩ : ∃ z, Ch.flp wrd1 i = z := ⟨_, rfl⟩
              have HN2 : Hid (wrd2.length = 9) := by unfold Hid; rw [← hw, Ch.flp_len]; exact HN1.out
              rw [hw] at H6
              have HO3 := Lib.hid H6
              clear HO2 H6 HQ hw HN1
              go_upto_region 13 with (fail)
              obtain ⟨wa2, hwa⟩ : ∃ z, wa1.setCell ⟨wr.heap.size, q1, none⟩ (.int .u8 (bits .xor .u8 (x1.toNat : Int) ((2 : Int) ^ r1 % 256))) = z := ⟨_, rfl⟩
              rw [hwa] at HO3
              rw [hwa]
              clear hwa g0 g1 e1 e2 e3 e0 hqI hq9 hr8
              obtain ⟨q2, hq⟩ : ∃ q, k / 8 = q := ⟨_, rfl⟩
              obtain ⟨r2, hr⟩ : ∃ r, k % 8 = r := ⟨_, rfl⟩
              have hq9 : q2 < 9 := by omega
              have hr8 : r2 < 8 := by omega
              have e1 : (k : Int) / 8 = (q2 : Int) := by omega
              have e2 : (k : Int) % 8 = (r2 : Int) := by omega
              have e3 : (k : Int).tmod 8 = (r2 : Int) := by rw [Int.tmod_eq_emod_of_nonneg (by omega)]; exact e2
              have e0 : IntKind.i64.wrap (q2 : Int) = (q2 : Int) := IntWalk.i64_in _ (by omega)
              obtain ⟨x2, hx⟩ : ∃ x, wrd2[q2]? = some x := ⟨_, List.getElem?_eq_getElem (by rw [HN2.out]; exact hq9)⟩
              obtain ⟨pw2, hpw⟩ : ∃ p : UInt8, UInt8.ofNat (2 ^ r2) = p := ⟨_, rfl⟩
              have e5 : Hid (bits .xor .u8 (x2.toNat : Int) ((2 : Int) ^ r2 % 256) = ((x2 ^^^ pw2).toNat : Int)) := by unfold Hid; rw [pw_byte hr8 hpw]; exact u8_xor_u _ _
              have HQ := Lib.hid (flp_bys hq hr hx hpw e5.out)
              have g0 := own_byte (HO3.out.row 0 rfl) hx
              have g1 := (HO3.out.row 0 rfl).frozenAt q2
              have hqI : (q2 : Int) < 9 := by omega
              clear hpw hq hr e5 hx
              have H6 := HO3.out.put 0 rfl q2 (.int .u8 (bits .xor .u8 (x2.toNat : Int) ((2 : Int) ^ r2 % 256)))
              simp only [List.set_cons_zero] at H6
              rw [HQ.out] at H6
              obtain ⟨wrd3, hw⟩ : ∃ z, Ch.flp wrd2 k = z := ⟨_, rfl⟩
              have HN3 : Hid (wrd3.length = 9) := by unfold Hid; rw [← hw, Ch.flp_len]; exact HN2.out
              rw [hw] at H6
              have HO4 := Lib.hid H6
              clear HO3 H6 HQ hw HN2
              go_upto_region 14 with (fail)
              obtain ⟨wa3, hwa⟩ : ∃ z, wa2.setCell ⟨wr.heap.size, q2, none⟩ (.int .u8 (bits .xor .u8 (x2.toNat : Int) ((2 : Int) ^ r2 % 256))) = z := ⟨_, rfl⟩
              rw [hwa] at HO4
              rw [hwa]
              clear hwa g0 g1 e1 e2 e3 e0 hqI hq9 hr8
              have HD := Lib.hid (hdecode_any _ 9 wrd3 _ HN3.out (Sl.of_own (HO4.out.row 0 rfl)) (by omega))
              go_wp2_with fail
              refine HD.out.mono ?_
              rintro e w5 hde
              clear HD HN3
              rcases hde with ⟨A1, c1, h0, rfl, ho5, hb5⟩ | ⟨h0, h1, rfl, hb5⟩ | ⟨k1, A1, c1, A2, c2, hk1, h0, h1, rfl, ho5, ho6, hb5⟩
              · have H5 := (HO4.out.go hb5).arr #[.int .i64 0, .slice A1 9 c1, .slice none 0 0] 3 rfl (by omega) 49
                simp only [List.cons_append, List.nil_append] at H5
                have HF := Lib.hid H5
                clear HO4 hb5 H5
                go_wp2_with fail
                go_roundw
                case rel => exact ⟨k + 1, m + 1, HK.out.1, by go_num, by go_num, by have := HM.out; omega, HF.out.few 0⟩
                case measure => have := HK.out.1; have := HK.out.2.2; simp [intOf]; omega
              · have H5 := (HO4.out.go hb5).arr #[.int .i64 2, .slice none 0 0, .slice none 0 0] 3 rfl (by omega) 49
                simp only [List.cons_append, List.nil_append] at H5
                have HF := Lib.hid H5
                clear HO4 hb5 H5
                go_wp2_with fail
                go_roundw
                case rel => exact ⟨k + 1, m, HK.out.1, by go_num, by go_num, by have := HM.out; omega, HF.out.few 0⟩
                case measure => have := HK.out.1; have := HK.out.2.2; simp [intOf]; omega
              · have H5 := (HO4.out.go hb5).arr #[.int .i64 1, .slice A1 9 c1, .slice A2 1 c2] 3 rfl (by omega) 49
                simp only [List.cons_append, List.nil_append] at H5
                have HF := Lib.hid H5
                clear HO4 hb5 H5
                go_wp2_with fail
                go_roundw
                case rel => exact ⟨k + 1, m + 1, HK.out.1, by go_num, by go_num, by have := HM.out; omega, HF.out.few 0⟩
                case measure => have := HK.out.1; have := HK.out.2.2; simp [intOf]; omega
        · have hz : decide ((k : Int) < (i : Int)) = false := decide_eq_false (by omega)
          have hz' : decide (k < i) = false := decide_eq_false (by omega)
          have HM : Hid (m ≤ 72 * (i + 1)) := by unfold Hid; omega
          clear hm hki hk hn
          go_wp2_with fail
          go_roundw
          case rel => exact ⟨i + 1, m, by omega, by go_num, rfl, HM.out, HO⟩
          case measure => simp [intOf]; omega
    · have hd : decide ((i : Int) < 72) = false := decide_eq_false (by omega)
      have hd' : decide (i < 72) = false := decide_eq_false (by omega)
      have hn2 : n0 ≤ 5184 := by omega
      have hl1 : decide ((n0 : Int) ≤ 34164) = true := decide_eq_true (by omega)
      have HW := Lib.hid (wrongbits_ow HO.out 3 (by omega))
      rw [Ch.pass3] at HW
      clear HO hn
      go_wp2_with fail
      refine HW.out.mono ?_
      rintro e w1 ⟨B, mm, d, rfl, G⟩
      have H1 := G.boxed (.slice B mm d) 31
      try simp only [List.cons_append] at H1
      try simp only [List.nil_append] at H1
      have c0 := H1.cell 0 rfl
      have HI := Lib.hid (ag_int (zs := Na.up (Na.dig 34164)) H1 0 (by rw [nats_up]; rfl))
      rw [pairs_int.1, pairs_int.2] at HI
      clear HW G H1
      go_wp2_with fail
      refine HI.out.mono ?_
      rintro e w2 ⟨rfl, H2⟩
      have HA := Lib.hid (awake08_ow H2 HT.out)
      clear HI H2
      go_wp2_with fail
      refine HA.out.mono ?_
      rintro e w3 ⟨rfl, H3⟩
      have HB := Lib.hid H3.below
      clear HA H3
      go_wp2_with fail
      go_ret
      exact ⟨rfl, HB.out⟩
end Go.Proofs.YtdjfbbfbdgiblaaGreatDoor


/- slices.Backward over bytes: the contract of the iterator, for every loop body that keeps what lay before. -/
import Derived.RangeFuncNested
import Derived.RangeFuncBound
import Derived.RangeFuncCalls
import Derived.RangeFuncLeaves
import Derived.RangeFuncBox
import Derived.RangeFuncWrites
import Derived.Shelf.Abstract
import Derived.Shelf.RegionOpen
import Derived.WalkKit
import Derived.OwnWalkIn
import Derived.TacticsInMore
import Derived.LoopNIn
import Derived.LoopIn
import Derived.Test.YtkolmppfhpcdpaaDoorMem
import Derived.Test.YtkolmppfhpcdpaaDoorChecked
namespace Go.Proofs.YtkolmppfhpcdpaaDoor
open Go.RowKit Go.Shelf
attribute [local go_sem] Oper.semAt_some
set_option linter.unusedVariables false
set_option maxRecDepth 100000

/-- what a slice hands out from its end on: so many pairs of an index and an element -/
def backB (zs : List UInt8) (k : Nat) : List (Nat × UInt8) := (List.range k).map fun j => (zs.length - 1 - j, zs[zs.length - 1 - j]?.getD 0)
theorem backB_succ (zs : List UInt8) (k : Nat) : backB zs (k + 1) = backB zs k ++ [(zs.length - 1 - k, zs[zs.length - 1 - k]?.getD 0)] := by simp [backB, List.range_succ]
theorem backB_length (zs : List UInt8) (k : Nat) : (backB zs k).length = k := by simp [backB]
def encPB (x : Nat × UInt8) : Array Value := #[.int .i64 (x.1 : Int), .int .u8 (x.2.toNat : Int)]

/-- what each round keeps: all below n₀, and the box of the slice -/
def KpBox (n₀ Bs : Nat) (W W' : World) : Prop := Below n₀ W W' ∧ W'.heap[Bs]? = W.heap[Bs]?
theorem KpBox.refl (n₀ Bs : Nat) (W : World) : KpBox n₀ Bs W W := ⟨Below.refl _ _, rfl⟩
theorem KpBox.trans {n₀ Bs : Nat} {A B C : World} (h : KpBox n₀ Bs A B) (k : KpBox n₀ Bs B C) : KpBox n₀ Bs A C := ⟨h.1.trans k.1, k.2.trans h.2⟩
theorem kpBox_b {n₀ Bs : Nat} {w : World} (h : n₀ ≤ w.heap.size) (hb : Bs < w.heap.size) (W : World) (l : Nat) (o o' : Obj) (hl : w.heap.size ≤ l) (ho : W.heap[l]? = some o) (hc : o.isCells = false) (hw : o.isWalk = false) : KpBox n₀ Bs W (W.putObj l o') :=
  ⟨belowK_b h W l o o' hl ho hc hw, (belowK_b (Nat.le_refl _) W l o o' hl ho hc hw).block Bs hb⟩
theorem KpBox.cell {n₀ Bs : Nat} {W W' : World} (h : KpBox n₀ Bs W W') : W'.cell? ⟨Bs, 0, none⟩ = W.cell? ⟨Bs, 0, none⟩ := World.cell?_of_block (a := ⟨Bs, 0, none⟩) h.2

set_option maxHeartbeats 2000000 in
theorem backB1_in (F : Fence) (n : Nat) (h8 : F.fn 49) (hro : F.round = none) (hn : 1 ≤ n) (l Bs n₀ len cap : Nat) (A : Option Addr) (zs : List UInt8) (hz : zs.length = len) (hreach : len ≤ 140737488351232) (J Jx : List (Nat × UInt8) → World → Prop)
    (hY : ∀ pre x W, J pre W → pre.length < len → YieldAt F (n - 1) Tryd.prog l (encPB x) W fun e W' =>
      (e = .returned (.bool true) ∧ J (pre ++ [x]) W' ∧ KpBox n₀ Bs W W') ∨ (e = .returned (.bool false) ∧ Jx (pre ++ [x]) W'))
    (W : World) (hBs : W.cell? ⟨Bs, 0, none⟩ = some (.slice A len cap)) (hs : Sl W n₀ A (bys zs)) (h0 : J [] W) :
    CallsIn F n Tryd.prog 49 #[.func (.yield l) #[] #[], .pointer (some ⟨Bs, 0, none⟩)] W fun e W' => (∃ v, e = .returned v) ∧
      ((∃ ys, ys = backB zs len ∧ J ys W') ∨ (∃ pre, (∃ k, k ≤ len ∧ pre = backB zs k) ∧ Jx pre W')) := by
  have HZ := Lib.hid hz
  clear hz
  refine callsIn_of_wp Tryd.func49 rfl h8 ?_ hro
  simp only [Tryd.ntmps49, List.size_toArray, List.length_cons, List.length_nil, Nat.reduceAdd, Nat.reduceSub, Array.replicate_succ, Array.replicate_zero, List.push_toArray, List.append_toArray, List.nil_append, List.cons_append]
  gi_wp2
  gi_loopw [3] (fun i wr => ∃ k : Nat, k ≤ len ∧ i = .int .i64 ((len : Int) - 1 - k) ∧ J (backB zs k) wr ∧ KpBox n₀ Bs W wr)
    (fun i _ => (intOf i + 1).toNat)
  case atStart => exact ⟨0, Nat.zero_le _, by simp, h0, KpBox.refl _ _ _⟩
  case round =>
    obtain ⟨k, hk, rfl, hJs, hnx⟩ := hrel
    have hcb : wr.cell? ⟨Bs, 0, none⟩ = some (.slice A len cap) := hnx.cell.trans hBs
    by_cases hlt : k < len
    · obtain ⟨b, hb⟩ := byte_at zs (len - 1 - k) (by rw [HZ.out]; omega)
      obtain ⟨ad, rfl, hbk, hc⟩ := (hs.below hnx.1).byte hb
      obtain ⟨fn, tmps, assign, body, hy, hR⟩ := hY _ (len - 1 - k, b) wr hJs (by rw [backB_length]; exact hlt)
      have hx : backB zs (k + 1) = backB zs k ++ [(len - 1 - k, b)] := by rw [backB_succ, HZ.out, hb]; rfl
      have HX := Lib.hid hx
      clear hx hb
      have e1 : ((len - 1 - k : Nat) : Int) = (len : Int) - 1 - k := by omega
      have e2 : ((len : Int) - 1 - k).toNat = len - 1 - k := by omega
      dsimp only [encPB] at hy
      rw [e1] at hy
      have E1 := Lib.hid e1
      have hlo : 0 ≤ (len : Int) - 1 - k := by omega
      have hhi : (len : Int) - 1 - k < len := by omega
      clear e1
      gi_wp2
      refine hR.mono ?_
      rintro e W3 (⟨rfl, hJ3, hk3⟩ | ⟨rfl, hJx3⟩)
      · gi_wp2
        go_roundw
        case rel => exact ⟨k + 1, by omega, int_eqv (by omega), by rw [HX.out]; exact hJ3, hnx.trans hk3⟩
        case measure => simp [intOf]; omega
      · gi_wp2
        refine bodyPost_ret (results_none rfl _ _ _) rfl ?_
        exact ⟨⟨_, rfl⟩, .inr ⟨_, ⟨k + 1, by omega, HX.out.symm⟩, hJx3⟩⟩
    · obtain rfl : k = len := by omega
      have e1 : (k : Int) - 1 - k = -1 := by omega
      rw [e1]
      clear e1
      gi_wp2
      go_end0
      exact ⟨⟨_, rfl⟩, .inl ⟨_, rfl, hJs⟩⟩

set_option maxHeartbeats 1000000 in
theorem backB_in (F : Fence) (n : Nat) (h5 : F.fn 31) (hro : F.round = none) (a : Option Addr) (len cap : Nat) (w : World) :
    CallsIn F n Tryd.prog 31 #[.slice a len cap] w fun e w' => e = .returned (.func (.func 49) #[] #[.pointer (some ⟨w.heap.size, 0, none⟩)]) ∧ w' = w.alloc (.cells #[.slice a len cap] 27) := by
  refine callsIn_of_wp Tryd.func31 rfl h5 ?_ hro
  simp only [Tryd.ntmps31, List.size_toArray, List.length_cons, List.length_nil, Nat.reduceAdd, Nat.reduceSub, Array.replicate_succ, Array.replicate_zero, List.push_toArray, List.append_toArray, List.nil_append, List.cons_append]
  gi_wp2
  go_ret
  exact ⟨rfl, rfl⟩

theorem backB_stops (F : Fence) (n : Nat) (h8 : F.fn 49) (hro : F.round = none) (hn : 1 ≤ n) (Bs n₀ len cap : Nat) (A : Option Addr) (zs : List UInt8) (hz : zs.length = len) (hreach : len ≤ 140737488351232) (w : World) (hBs : Bs < w.heap.size) (hn₀ : n₀ ≤ w.heap.size)
    (hc : w.cell? ⟨Bs, 0, none⟩ = some (.slice A len cap)) (hI : Sl w n₀ A (bys zs)) :
    SeqStopsK F n Tryd.prog 49 #[.pointer (some ⟨Bs, 0, none⟩)] encPB (KpBox n₀ Bs) (fun ys => ys = backB zs len) (fun pre => ∃ k, k ≤ len ∧ pre = backB zs k) len w := fun l J Jx W hW _ _ hY h0 => by
  have hc' := (hW.cell (p := ⟨Bs, 0, none⟩) hBs).trans hc
  exact backB1_in F n h8 hro hn l Bs n₀ len cap A zs hz hreach J Jx hY W hc' (hI.below (hW.mono hn₀)) h0
end Go.Proofs.YtkolmppfhpcdpaaDoor

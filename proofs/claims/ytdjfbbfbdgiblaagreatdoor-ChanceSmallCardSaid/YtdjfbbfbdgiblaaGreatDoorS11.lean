/- BackB PolyE PolyM PolyN PolyQ PolyR Sb Sc Sd Se -/
import Derived.Test.YtdjfbbfbdgiblaaGreatDoorS01
import Derived.Test.YtdjfbbfbdgiblaaGreatDoorS10
import Derived.RangeFuncNested
import Derived.RangeFuncBound
import Derived.RangeFuncCalls
import Derived.RangeFuncLeaves
import Derived.RangeFuncBox
import Derived.RangeFuncWrites
import Derived.Shelf.Abstract
import Derived.Shelf.RegionOpen
import Derived.WalkKit
import Derived.OwnWalkIn
import Derived.TacticsInMore
import Derived.LoopNIn
import Derived.LoopIn
import Derived.Test.YtdjfbbfbdgiblaaGreatDoorChecked
namespace Go.Proofs.YtdjfbbfbdgiblaaGreatDoor
open Go.RowKit Go.Shelf
attribute [local go_sem] Oper.semAt_some
set_option linter.unusedVariables false
set_option maxRecDepth 100000

/-- what a slice hands out from its end on: so many pairs of an index and an element -/
def backB (zs : List UInt8) (k : Nat) : List (Nat × UInt8) := (List.range k).map fun j => (zs.length - 1 - j, zs[zs.length - 1 - j]?.getD 0)
theorem backB_succ (zs : List UInt8) (k : Nat) : backB zs (k + 1) = backB zs k ++ [(zs.length - 1 - k, zs[zs.length - 1 - k]?.getD 0)] := by simp [backB, List.range_succ]
theorem backB_length (zs : List UInt8) (k : Nat) : (backB zs k).length = k := by simp [backB]
def encPB (x : Nat × UInt8) : Array Value := #[.int .i64 (x.1 : Int), .int .u8 (x.2.toNat : Int)]

/-- what each round keeps: all below n₀, and the box of the slice -/
def KpBox (n₀ Bs : Nat) (W W' : World) : Prop := Below n₀ W W' ∧ W'.heap[Bs]? = W.heap[Bs]?
theorem KpBox.refl (n₀ Bs : Nat) (W : World) : KpBox n₀ Bs W W := ⟨Below.refl _ _, rfl⟩
theorem KpBox.trans {n₀ Bs : Nat} {A B C : World} (h : KpBox n₀ Bs A B) (k : KpBox n₀ Bs B C) : KpBox n₀ Bs A C := ⟨h.1.trans k.1, k.2.trans h.2⟩
theorem kpBox_b {n₀ Bs : Nat} {w : World} (h : n₀ ≤ w.heap.size) (hb : Bs < w.heap.size) (W : World) (l : Nat) (o o' : Obj) (hl : w.heap.size ≤ l) (ho : W.heap[l]? = some o) (hc : o.isCells = false) (hw : o.isWalk = false) : KpBox n₀ Bs W (W.putObj l o') :=
  ⟨belowK_b h W l o o' hl ho hc hw, (belowK_b (Nat.le_refl _) W l o o' hl ho hc hw).block Bs hb⟩
theorem KpBox.cell {n₀ Bs : Nat} {W W' : World} (h : KpBox n₀ Bs W W') : W'.cell? ⟨Bs, 0, none⟩ = W.cell? ⟨Bs, 0, none⟩ := World.cell?_of_block (a := ⟨Bs, 0, none⟩) h.2

set_option maxHeartbeats 2000000 in
theorem backB1_in (F : Fence) (n : Nat) (h8 : F.fn 155) (hro : F.round = none) (hn : 1 ≤ n) (l Bs n₀ len cap : Nat) (A : Option Addr) (zs : List UInt8) (hz : zs.length = len) (hreach : len ≤ 140737488351232) (J Jx : List (Nat × UInt8) → World → Prop)
    (hY : ∀ pre x W, J pre W → pre.length < len → YieldAt F (n - 1) Tryz.prog l (encPB x) W fun e W' =>
      (e = .returned (.bool true) ∧ J (pre ++ [x]) W' ∧ KpBox n₀ Bs W W') ∨ (e = .returned (.bool false) ∧ Jx (pre ++ [x]) W'))
    (W : World) (hBs : W.cell? ⟨Bs, 0, none⟩ = some (.slice A len cap)) (hs : Sl W n₀ A (bys zs)) (h0 : J [] W) :
    CallsIn F n Tryz.prog 155 #[.func (.yield l) #[] #[], .pointer (some ⟨Bs, 0, none⟩)] W fun e W' => (∃ v, e = .returned v) ∧
      ((∃ ys, ys = backB zs len ∧ J ys W') ∨ (∃ pre, (∃ k, k ≤ len ∧ pre = backB zs k) ∧ Jx pre W')) := by
  have HZ := Lib.hid hz
  clear hz
  refine callsIn_of_wp Tryz.func155 rfl h8 ?_ hro
  simp only [Tryz.ntmps155, List.size_toArray, List.length_cons, List.length_nil, Nat.reduceAdd, Nat.reduceSub, Array.replicate_succ, Array.replicate_zero, List.push_toArray, List.append_toArray, List.nil_append, List.cons_append]
  gi_wp2
  gi_loopw [3] (fun i wr => ∃ k : Nat, k ≤ len ∧ i = .int .i64 ((len : Int) - 1 - k) ∧ J (backB zs k) wr ∧ KpBox n₀ Bs W wr)
    (fun i _ => (intOf i + 1).toNat)
  case atStart => exact ⟨0, Nat.zero_le _, by simp, h0, KpBox.refl _ _ _⟩
  case round =>
    obtain ⟨k, hk, rfl, hJs, hnx⟩ := hrel
    have hcb : wr.cell? ⟨Bs, 0, none⟩ = some (.slice A len cap) := hnx.cell.trans hBs
    by_cases hlt : k < len
    · obtain ⟨b, hb⟩ := byte_at zs (len - 1 - k) (by rw [HZ.out]; omega)
      obtain ⟨ad, rfl, hbk, hc⟩ := (hs.below hnx.1).byte hb
      obtain ⟨fn, tmps, assign, body, hy, hR⟩ := hY _ (len - 1 - k, b) wr hJs (by rw [backB_length]; exact hlt)
      have hx : backB zs (k + 1) = backB zs k ++ [(len - 1 - k, b)] := by rw [backB_succ, HZ.out, hb]; rfl
      have HX := Lib.hid hx
      clear hx hb
      have e1 : ((len - 1 - k : Nat) : Int) = (len : Int) - 1 - k := by omega
      have e2 : ((len : Int) - 1 - k).toNat = len - 1 - k := by omega
      dsimp only [encPB] at hy
      rw [e1] at hy
      have E1 := Lib.hid e1
      have hlo : 0 ≤ (len : Int) - 1 - k := by omega
      have hhi : (len : Int) - 1 - k < len := by omega
      clear e1
      gi_wp2
      refine hR.mono ?_
      rintro e W3 (⟨rfl, hJ3, hk3⟩ | ⟨rfl, hJx3⟩)
      · gi_wp2
        go_roundw
        case rel => exact ⟨k + 1, by omega, int_eqv (by omega), by rw [HX.out]; exact hJ3, hnx.trans hk3⟩
        case measure => simp [intOf]; omega
      · gi_wp2
        refine bodyPost_ret (results_none rfl _ _ _) rfl ?_
        exact ⟨⟨_, rfl⟩, .inr ⟨_, ⟨k + 1, by omega, HX.out.symm⟩, hJx3⟩⟩
    · obtain rfl : k = len := by omega
      have e1 : (k : Int) - 1 - k = -1 := by omega
      rw [e1]
      clear e1
      gi_wp2
      go_end0
      exact ⟨⟨_, rfl⟩, .inl ⟨_, rfl, hJs⟩⟩

set_option maxHeartbeats 1000000 in
theorem backB_in (F : Fence) (n : Nat) (h5 : F.fn 142) (hro : F.round = none) (a : Option Addr) (len cap : Nat) (w : World) :
    CallsIn F n Tryz.prog 142 #[.slice a len cap] w fun e w' => e = .returned (.func (.func 155) #[] #[.pointer (some ⟨w.heap.size, 0, none⟩)]) ∧ w' = w.alloc (.cells #[.slice a len cap] 46) := by
  refine callsIn_of_wp Tryz.func142 rfl h5 ?_ hro
  simp only [Tryz.ntmps142, List.size_toArray, List.length_cons, List.length_nil, Nat.reduceAdd, Nat.reduceSub, Array.replicate_succ, Array.replicate_zero, List.push_toArray, List.append_toArray, List.nil_append, List.cons_append]
  gi_wp2
  go_ret
  exact ⟨rfl, rfl⟩

theorem backB_stops (F : Fence) (n : Nat) (h8 : F.fn 155) (hro : F.round = none) (hn : 1 ≤ n) (Bs n₀ len cap : Nat) (A : Option Addr) (zs : List UInt8) (hz : zs.length = len) (hreach : len ≤ 140737488351232) (w : World) (hBs : Bs < w.heap.size) (hn₀ : n₀ ≤ w.heap.size)
    (hc : w.cell? ⟨Bs, 0, none⟩ = some (.slice A len cap)) (hI : Sl w n₀ A (bys zs)) :
    SeqStopsK F n Tryz.prog 155 #[.pointer (some ⟨Bs, 0, none⟩)] encPB (KpBox n₀ Bs) (fun ys => ys = backB zs len) (fun pre => ∃ k, k ≤ len ∧ pre = backB zs k) len w := fun l J Jx W hW _ _ hY h0 => by
  have hc' := (hW.cell (p := ⟨Bs, 0, none⟩) hBs).trans hc
  exact backB1_in F n h8 hro hn l Bs n₀ len cap A zs hz hreach J Jx hY W hc' (hI.below (hW.mono hn₀)) h0
end Go.Proofs.YtdjfbbfbdgiblaaGreatDoor

namespace Go.Proofs.YtdjfbbfbdgiblaaGreatDoor
open Go.RowKit Go.Shelf
attribute [local go_sem] Oper.semAt_some
set_option linter.unusedVariables false
set_option maxRecDepth 100000
namespace Po
def ev (x : UInt8) (pre : List (Nat × UInt8)) : UInt8 := pre.foldl (fun v p => Gf.gmul v x ^^^ p.2) 0
theorem ev_snoc (x : UInt8) (pre : List (Nat × UInt8)) (p : Nat × UInt8) : ev x (pre ++ [p]) = Gf.gmul (ev x pre) x ^^^ p.2 := by simp [ev]
/-- P4.3 -/
def eval (l : List UInt8) (x : UInt8) : UInt8 := l.reverse.foldl (fun v c => Gf.gmul v x ^^^ c) 0
theorem back_rev (zs : List UInt8) : (backB zs zs.length).map (·.2) = zs.reverse := by
  apply List.ext_getElem
  · simp [backB]
  · intro i h1 h2
    simp [backB] at h1 h2 ⊢
    rw [List.getElem?_eq_getElem (by omega)]
    rfl
theorem ev_all (zs : List UInt8) (x : UInt8) : ev x (backB zs zs.length) = eval zs x := by
  unfold ev eval
  rw [← back_rev, List.foldl_map]
end Po

set_option maxHeartbeats 2000000 in
theorem eval_in (F : Fence) (n : Nat) (h3 : F.fn 109) (h5 : F.fn 142) (h7 : F.fn 155) (h9 : F.fn 103) (hro : F.round = none) (hn : 3 ≤ n)
    (hmul : ∀ (m : Nat) (a c : UInt8) (w : World), CallsIn F m Tryz.prog 103 #[.int .u8 (a.toNat : Int), .int .u8 (c.toNat : Int)] w fun e w' => e = .returned (.int .u8 ((Gf.gmul a c).toNat : Int)) ∧ w = w')
    (A : Option Addr) (len cap : Nat) (zs : List UInt8) (x : UInt8) (hz : zs.length = len) (hreach : len ≤ 140737488351232) (w : World) (hI : Sl w w.heap.size A (bys zs)) :
    CallsIn F n Tryz.prog 109 #[.slice A len cap, .int .u8 (x.toNat : Int)] w fun e W' => e = .returned (.int .u8 ((Po.eval zs x).toNat : Int)) ∧ Below w.heap.size w W' := by
  have h1 : 1 ≤ n := by omega
  refine callsIn_of_wp_marks Tryz.func109 rfl h3 ?_ hro
  simp only [Tryz.ntmps109, List.size_toArray, List.length_cons, List.length_nil, Nat.reduceAdd, Nat.reduceSub, Array.replicate_succ, Array.replicate_zero, List.push_toArray, List.append_toArray, List.nil_append, List.cons_append]
  gi_wp2_with (gi_at_call 142; refine (backB_in F (n - 1) h5 hro _ _ _ _).mono ?_; rintro e w' ⟨rfl, rfl⟩)
  have bX := Boxed.new w 5 (.int .u8 (x.toNat : Int))
  have bV := Boxed.new (w.alloc (.cells #[.int .u8 (x.toNat : Int)] 5)) 5 (.int .u8 0)
  have bN := Boxed.new ((w.alloc (.cells #[.int .u8 (x.toNat : Int)] 5)).alloc (.cells #[.int .u8 0] 5)) 46 (.slice A len cap)
  simp only [World.size_alloc] at bV bN
  have hB0 : Below w.heap.size w (((w.alloc (.cells #[.int .u8 (x.toNat : Int)] 5)).alloc (.cells #[.int .u8 0] 5)).alloc (.cells #[.slice A len cap] 46)) := (((Below.refl _ w).alloc (Nat.le_refl _) _).alloc (by simp) _).alloc (by simp; omega) _
  refine wpIn_rangeFunc_ownG hro h1 (gf := 155) (lb := #[.pointer (some ⟨w.heap.size + 1 + 1, 0, none⟩)]) rfl h7 (enters_of Tryz.func155 (by kernel_rfl) rfl)
    (backB_stops F (n - 1) h7 hro (by omega) (w.heap.size + 1 + 1) w.heap.size len cap A zs hz hreach _ (by simp) (by simp; omega) bN.cell (hI.below hB0)) KpBox.trans (kpBox_b (by simp; omega) (by simp)) (Below.refl _ _) (fun _ => rfl)
    (fun pre W => (W.cell? ⟨w.heap.size, 0, none⟩ = some (.int .u8 (x.toNat : Int)) ∧ W.cell? ⟨w.heap.size + 1, 0, none⟩ = some (.int .u8 ((Po.ev x pre).toNat : Int)) ∧ W.frozen? ⟨w.heap.size + 1, 0, none⟩ = false) ∧ Below w.heap.size w W)
    (fun _ _ _ => False)
    (OwnFrom.and (Own.from (fun s A B row hs hg hr => ⟨cell_kept hs.1 hg hr, cell_kept hs.2.1 hg hr, (frozen_kept hs.2.1 hg hr).trans hs.2.2⟩) _) (ownFrom_below (Nat.le_refl _) (by simp; omega)))
    (fun _ _ _ _ _ hs _ _ => hs)
    ⟨⟨((bX.alloc _).alloc _).cell, (bV.alloc _).cell, (bV.alloc _).frozen⟩, hB0⟩
    (fun p => { tmps := #[.slice A len cap, .int .u8 (x.toNat : Int), undef, .pointer (some ⟨w.heap.size, 0, none⟩), .int .u8 0, .pointer (some ⟨w.heap.size + 1, 0, none⟩), undef, .int .u8 (p.2.toNat : Int), .slice A len cap, .func (.func 155) #[] #[.pointer (some ⟨w.heap.size + 1 + 1, 0, none⟩)], .int .i64 (p.1 : Int), .int .u8 (p.2.toNat : Int), undef, undef, undef, undef, undef, undef], defers := [] }) ?assign ?body ?done ?stop
  case assign =>
    intro l p W K hK
    dsimp only [encPB]
    gi_wp2
    exact hK
  case body =>
    rintro l pre p W ⟨⟨hc0, hc, hf⟩, hB⟩ _
    obtain ⟨z, hx, HX⟩ := xor_ex (Gf.gmul (Po.ev x pre) x) p.2
    have hn1 : 1 ≤ n - 1 - 1 := by omega
    have hHX := Lib.hid hmul
    clear hmul
    gi_wp2_with (gi_at_call 103; refine (CallsIn.inRound l (hHX.out _ _ _ _)).mono ?_; rintro e w' ⟨rfl, rfl⟩)
    refine ⟨(KeepsOthers.setCell _ _ _).from _, ⟨(Below.refl w.heap.size W).setCell (p := ⟨w.heap.size + 1, 0, none⟩) (by simp) _, Below.heap_setCell _ _ _ _ (by simp)⟩, ⟨?_, ?_, by rw [World.frozen?_setCell]; exact hf⟩, hB.setCell (p := ⟨w.heap.size + 1, 0, none⟩) (by simp) _⟩
    · rw [World.cell?_setCell_other _ _ _ _ (by simp)]
      exact hc0
    · rw [Po.ev_snoc, ← HX.out]
      exact World.cell?_setCell_same' _ _ _ (by rw [hc]; rfl)
  case done =>
    rintro D ys W hD rfl ⟨⟨_, hc, _⟩, hB⟩ hK
    gi_wp2
    refine ⟨by simp, .inl ⟨_, _, rfl, run_takeDeferred hK, ?_⟩⟩
    exact ⟨_, results_tmp rfl _ _ _, by simp only [← hz, Po.ev_all]; rfl, hB.trans (belowK_b (w := w) (Nat.le_refl _) W D _ _ (by simp at hD; omega) hK rfl rfl)⟩
  case stop =>
    rintro D c pre W _ _ h _
    exact h.elim
theorem eval_any (A : Option Addr) (len cap : Nat) (zs : List UInt8) (x : UInt8) (hz : zs.length = len) (hreach : len ≤ 140737488351232) (w : World) (hI : Sl w w.heap.size A (bys zs)) :
    Calls Tryz.prog 109 #[.slice A len cap, .int .u8 (x.toNat : Int)] w fun e W' => e = .returned (.int .u8 ((Po.eval zs x).toNat : Int)) ∧ Below w.heap.size w W' :=
  (callsIn_wide (n := 3)).1 (eval_in Fence.wide 3 trivial trivial trivial trivial rfl (Nat.le_refl _) (fun m a c w => callsIn_wide.2 (mul_any a c w)) A len cap zs x hz hreach w hI)
namespace Po
end Po
end Go.Proofs.YtdjfbbfbdgiblaaGreatDoor

namespace Go.Proofs.YtdjfbbfbdgiblaaGreatDoor
namespace Po
open Gf
/-- a coefficient, 0 behind the last one -/
def co (l : List UInt8) (i : Nat) : UInt8 := l[i]?.getD 0
theorem co_nil (i : Nat) : co [] i = 0 := rfl
theorem co_big (l : List UInt8) (i : Nat) (h : l.length ≤ i) : co l i = 0 := by
  unfold co
  rw [List.getElem?_eq_none h]
  rfl
theorem co_set (l : List UInt8) (k : Nat) (x : UInt8) (j : Nat) (h : k < l.length) : co (l.set k x) j = if j = k then x else co l j := by
  unfold co
  rw [List.getElem?_set]
  split
  · rename_i e
    subst e
    rw [if_pos rfl]
    rfl
  · rename_i e
    rw [if_neg (fun e' => e e'.symm)]
theorem co_replicate (n i : Nat) : co (List.replicate n 0) i = 0 := by
  unfold co
  rw [List.getElem?_replicate]
  split <;> rfl
theorem co_addTo (l r : List UInt8) (t : UInt8) (i : Nat) : ∀ k, i + k ≤ l.length → ∀ j, co (addTo l r t i k) j = co l j ^^^ (if i ≤ j ∧ j < i + k then gmul t (co r (j - i)) else 0) := by
  intro k
  induction k with
  | zero =>
    intro _ j
    rw [if_neg (by omega), UInt8.xor_zero]
    rfl
  | succ k ih =>
    intro hk j
    have e : co (addTo l r t i (k + 1)) j = co ((addTo l r t i k).set (i + k) (co (addTo l r t i k) (i + k) ^^^ gmul t (co r k))) j := rfl
    rw [e, co_set _ _ _ _ (by rw [addTo_length]; omega)]
    split
    · rename_i hj
      subst hj
      rw [ih (by omega), if_neg (by omega), UInt8.xor_zero, if_pos (by omega), Nat.add_sub_cancel_left]
    · rw [ih (by omega)]
      congr 1
      by_cases h : i ≤ j ∧ j < i + k
      · rw [if_pos h, if_pos (by omega)]
      · rw [if_neg h, if_neg (by omega)]
theorem co_addAt (l r : List UInt8) (t : UInt8) (i : Nat) (h : i + r.length ≤ l.length) (j : Nat) : co (addAt l r t i) j = co l j ^^^ (if i ≤ j then gmul t (co r (j - i)) else 0) := by
  unfold addAt
  rw [co_addTo l r t i r.length h j]
  congr 1
  by_cases h1 : i ≤ j
  · by_cases h2 : j < i + r.length
    · rw [if_pos ⟨h1, h2⟩, if_pos h1]
    · rw [if_neg (by omega), if_pos h1, co_big r _ (by omega), gmul_zero]
  · rw [if_neg (by omega), if_neg h1]
theorem co_take (l : List UInt8) (k i : Nat) : co (l.take k) i = if i < k then co l i else 0 := by
  unfold co
  rw [List.getElem?_take]
  split <;> rfl
theorem tl_zeros (l : List UInt8) : ∀ n i, tl l n ≤ i → i < n → co l i = 0 := by
  intro n
  induction n with
  | zero => intro i _ h; omega
  | succ n ih =>
    intro i h1 h2
    by_cases h : l[n]? = some 0
    · rw [tl_zero l n h] at h1
      by_cases hi : i = n
      · subst hi
        unfold co
        rw [h]
        rfl
      · exact ih i h1 (by omega)
    · rw [tl_stop l n h] at h1
      omega
theorem co_trim (l : List UInt8) (i : Nat) : co (trim l) i = co l i := by
  unfold trim
  rw [co_take]
  split
  · rfl
  · rcases Nat.lt_or_ge i l.length with h | h
    · exact (tl_zeros l l.length i (by omega) h).symm
    · exact (co_big l i h).symm
theorem vld_top (l : List UInt8) (hv : vld l = true) (h : 0 < l.length) : co l (l.length - 1) ≠ 0 := by
  unfold vld at hv
  simp only [Bool.and_eq_true, bne_iff_ne, ne_eq] at hv
  intro e
  apply hv.2
  rw [List.getLast?_eq_getElem?, List.getElem?_eq_getElem (by omega)]
  unfold co at e
  rw [List.getElem?_eq_getElem (by omega)] at e
  exact congrArg some e
theorem co_padd (p q : List UInt8) (i : Nat) : co (padd p q) i = co p i ^^^ co q i := by
  unfold padd
  rw [co_addAt _ _ _ _ (by rw [addAt_length, List.length_replicate]; omega), co_addAt _ _ _ _ (by rw [List.length_replicate]; omega), co_replicate, if_pos (Nat.zero_le _), if_pos (Nat.zero_le _), one_gmul, one_gmul, UInt8.zero_xor]
  rfl

def sumX (f : Nat → UInt8) : Nat → UInt8
  | 0 => 0
  | k + 1 => sumX f k ^^^ f k
theorem sumX_congr {f g : Nat → UInt8} {n : Nat} (h : ∀ i, i < n → f i = g i) : sumX f n = sumX g n := by
  induction n with
  | zero => rfl
  | succ n ih => rw [sumX, sumX, ih (fun i hi => h i (by omega)), h n (by omega)]
theorem sumX_zero (n : Nat) : sumX (fun _ => 0) n = 0 := by
  induction n with
  | zero => rfl
  | succ n ih => rw [sumX, ih]; rfl
theorem sumX_add (f g : Nat → UInt8) (n : Nat) : sumX (fun i => f i ^^^ g i) n = sumX f n ^^^ sumX g n := by
  induction n with
  | zero => exact (UInt8.xor_self).symm
  | succ n ih => rw [sumX, sumX, sumX, ih, xor4]
theorem sumX_mul (c : UInt8) (f : Nat → UInt8) (n : Nat) : sumX (fun i => gmul c (f i)) n = gmul c (sumX f n) := by
  induction n with
  | zero => exact (gmul_zero c).symm
  | succ n ih => rw [sumX, sumX, ih, gmul_add]
theorem sumX_left (f : Nat → UInt8) (n : Nat) : sumX f (n + 1) = f 0 ^^^ sumX (fun i => f (i + 1)) n := by
  induction n with
  | zero => rw [sumX, sumX, sumX, UInt8.zero_xor, UInt8.xor_zero]
  | succ n ih => rw [sumX, ih, sumX, UInt8.xor_assoc]
theorem sumX_rev (f : Nat → UInt8) (n : Nat) : sumX (fun i => f (n - i)) (n + 1) = sumX f (n + 1) := by
  induction n generalizing f with
  | zero => rfl
  | succ n ih =>
    rw [sumX_left]
    have e : sumX (fun i => f (n + 1 - (i + 1))) (n + 1) = sumX (fun i => f (n - i)) (n + 1) := sumX_congr (fun i _ => by congr 1; omega)
    rw [e, ih f]
    conv => rhs; rw [sumX]
    rw [UInt8.xor_comm]
    rfl
/-- the product -/
def cv (f g : Nat → UInt8) (n : Nat) : UInt8 := sumX (fun i => gmul (f i) (g (n - i))) (n + 1)
def shift (f : Nat → UInt8) : Nat → UInt8
  | 0 => 0
  | n + 1 => f n
theorem cv_comm (f g : Nat → UInt8) (n : Nat) : cv f g n = cv g f n := by
  unfold cv
  rw [← sumX_rev]
  refine sumX_congr (fun i hi => ?_)
  show gmul (f (n - i)) (g (n - (n - i))) = _
  rw [gmul_comm, show n - (n - i) = i from by omega]
theorem cv_congr {f f' g g' : Nat → UInt8} (h : ∀ i, f i = f' i) (h' : ∀ i, g i = g' i) (n : Nat) : cv f g n = cv f' g' n := by
  unfold cv
  exact sumX_congr (fun i _ => by rw [h, h'])
theorem cv_add_right (f g h : Nat → UInt8) (n : Nat) : cv f (fun i => g i ^^^ h i) n = cv f g n ^^^ cv f h n := by
  unfold cv
  rw [← sumX_add]
  exact sumX_congr (fun i _ => gmul_add _ _ _)
theorem cv_add_left (f g h : Nat → UInt8) (n : Nat) : cv (fun i => f i ^^^ g i) h n = cv f h n ^^^ cv g h n := by
  rw [cv_comm, cv_add_right, cv_comm h f, cv_comm h g]
theorem cv_mul_right (c : UInt8) (f g : Nat → UInt8) (n : Nat) : cv f (fun i => gmul c (g i)) n = gmul c (cv f g n) := by
  unfold cv
  rw [← sumX_mul]
  refine sumX_congr (fun i _ => ?_)
  rw [← gmul_assoc, ← gmul_assoc, gmul_comm (f i) c]
theorem cv_mul_left (c : UInt8) (f g : Nat → UInt8) (n : Nat) : cv (fun i => gmul c (f i)) g n = gmul c (cv f g n) := by
  rw [cv_comm, cv_mul_right, cv_comm]
theorem cv_shift_left (f g : Nat → UInt8) (n : Nat) : cv (shift f) g n = shift (cv f g) n := by
  cases n with
  | zero =>
    show sumX _ 1 = 0
    rw [sumX, sumX, UInt8.zero_xor]
    exact zero_gmul _
  | succ n =>
    show cv (shift f) g (n + 1) = cv f g n
    unfold cv
    rw [sumX_left]
    show gmul 0 _ ^^^ _ = _
    rw [zero_gmul, UInt8.zero_xor]
    exact sumX_congr (fun i hi => by show gmul (f i) (g (n + 1 - (i + 1))) = _; congr 2; omega)
theorem cv_nil (g : Nat → UInt8) (n : Nat) : cv (co []) g n = 0 := by
  unfold cv
  rw [sumX_congr (g := fun _ => 0) (fun i _ => by rw [co_nil, zero_gmul]), sumX_zero]
theorem cv_cons (a : UInt8) (p : List UInt8) (g : Nat → UInt8) (n : Nat) : cv (co (a :: p)) g n = gmul a (g n) ^^^ shift (cv (co p) g) n := by
  rw [← cv_shift_left]
  unfold cv
  rw [sumX_left, sumX_left (fun i => gmul (shift (co p) i) (g (n - i)))]
  show gmul a (g n) ^^^ _ = _ ^^^ (gmul 0 _ ^^^ _)
  rw [zero_gmul, UInt8.zero_xor]
  congr 1
theorem shift_congr {f g : Nat → UInt8} (h : ∀ i, f i = g i) (n : Nat) : shift f n = shift g n := by
  cases n with
  | zero => rfl
  | succ n => exact h n
theorem cv_assoc (p : List UInt8) (g h : Nat → UInt8) : ∀ n, cv (co p) (cv g h) n = cv (cv (co p) g) h n := by
  induction p with
  | nil =>
    intro n
    rw [cv_nil, cv_congr (f' := fun _ => 0) (g' := h) (fun i => cv_nil g i) (fun _ => rfl)]
    exact (cv_nil h n).symm
  | cons a p ih =>
    intro n
    rw [cv_cons, cv_congr (f' := fun i => gmul a (g i) ^^^ shift (cv (co p) g) i) (g' := h) (fun i => cv_cons a p g i) (fun _ => rfl), cv_add_left, cv_mul_left, cv_shift_left]
    congr 1
    exact shift_congr ih n

theorem co_mulTo (p q : List UInt8) (hq : 0 < q.length) : ∀ k, k ≤ p.length → ∀ n, co (mulTo p q k) n = sumX (fun i => if i ≤ n then gmul (co p i) (co q (n - i)) else 0) k := by
  intro k
  induction k with
  | zero =>
    intro _ n
    rw [mulTo, co_replicate]
    rfl
  | succ k ih =>
    intro hk n
    rw [mulTo, co_addAt _ _ _ _ (by rw [mulTo_length]; omega), ih (by omega), sumX]
    rfl
theorem sumX_split (f : Nat → UInt8) (m n : Nat) (h : m ≤ n) (hf : ∀ i, m ≤ i → i < n → f i = 0) : sumX f n = sumX f m := by
  induction n with
  | zero =>
    have : m = 0 := by omega
    rw [this]
  | succ n ih =>
    by_cases e : m = n + 1
    · rw [e]
    · rw [sumX, ih (by omega) (fun i h1 h2 => hf i h1 (by omega)), hf n (by omega) (by omega), UInt8.xor_zero]
theorem co_mulA (p q : List UInt8) (hq : 0 < q.length) (n : Nat) : co (mulA p q) n = cv (co p) (co q) n := by
  unfold mulA cv
  rw [co_mulTo p q hq _ (Nat.le_refl _)]
  rcases Nat.lt_or_ge n p.length with h | h
  · rw [sumX_split _ (n + 1) p.length (by omega) (fun i h1 _ => if_neg (by omega))]
    exact sumX_congr (fun i hi => if_pos (by omega))
  · rw [sumX_split (fun i => gmul (co p i) (co q (n - i))) p.length (n + 1) (by omega) (fun i h1 _ => by rw [co_big p i h1, zero_gmul])]
    exact sumX_congr (fun i hi => if_pos (by omega))

/-- the value of the first N coefficients -/
def ev' (f : Nat → UInt8) (x : UInt8) (N : Nat) : UInt8 := sumX (fun i => gmul (f i) (gpow x i)) N
theorem eval_cons (a : UInt8) (l : List UInt8) (x : UInt8) : eval (a :: l) x = gmul (eval l x) x ^^^ a := by
  unfold eval
  rw [List.reverse_cons, List.foldl_append]
  rfl
theorem eval_nil (x : UInt8) : eval [] x = 0 := rfl
theorem ev_succ (f : Nat → UInt8) (x : UInt8) (N : Nat) : ev' f x (N + 1) = f 0 ^^^ gmul (ev' (fun i => f (i + 1)) x N) x := by
  unfold ev'
  rw [sumX_left]
  show gmul (f 0) 1 ^^^ _ = _
  rw [gmul_one, gmul_comm (sumX _ N) x, ← sumX_mul]
  congr 1
  refine sumX_congr (fun i _ => ?_)
  show gmul (f (i + 1)) (gmul (gpow x i) x) = _
  rw [← gmul_assoc, gmul_comm _ x]
theorem ev_co (l : List UInt8) (x : UInt8) : ∀ N, l.length ≤ N → ev' (co l) x N = eval l x := by
  induction l with
  | nil =>
    intro N _
    unfold ev'
    rw [sumX_congr (g := fun _ => 0) (fun i _ => by rw [co_nil, zero_gmul]), sumX_zero]
    rfl
  | cons a l ih =>
    intro N hN
    obtain ⟨M, rfl⟩ : ∃ M, N = M + 1 := ⟨N - 1, by simp at hN; omega⟩
    rw [ev_succ, eval_cons, UInt8.xor_comm]
    congr 1
    rw [← ih M (by simpa using hN)]
    congr 1
theorem ev_congr {f g : Nat → UInt8} (h : ∀ i, f i = g i) (x : UInt8) (N : Nat) : ev' f x N = ev' g x N := by
  unfold ev'
  exact sumX_congr (fun i _ => by rw [h])
theorem ev_add (f g : Nat → UInt8) (x : UInt8) (N : Nat) : ev' (fun i => f i ^^^ g i) x N = ev' f x N ^^^ ev' g x N := by
  unfold ev'
  rw [← sumX_add]
  exact sumX_congr (fun i _ => gmul_add' _ _ _)
theorem ev_mul (c : UInt8) (f : Nat → UInt8) (x : UInt8) (N : Nat) : ev' (fun i => gmul c (f i)) x N = gmul c (ev' f x N) := by
  unfold ev'
  rw [← sumX_mul]
  exact sumX_congr (fun i _ => gmul_assoc _ _ _)
/-- values depend on the coefficients alone -/
theorem eval_ext (p q : List UInt8) (h : ∀ i, co p i = co q i) (x : UInt8) : eval p x = eval q x := by
  rw [← ev_co p x (p.length + q.length) (by omega), ← ev_co q x (p.length + q.length) (by omega)]
  exact ev_congr h x _
theorem eval_add (p q r : List UInt8) (h : ∀ i, co r i = co p i ^^^ co q i) (x : UInt8) : eval r x = eval p x ^^^ eval q x := by
  rw [← ev_co p x (p.length + q.length + r.length) (by omega), ← ev_co q x (p.length + q.length + r.length) (by omega), ← ev_co r x (p.length + q.length + r.length) (by omega), ← ev_add]
  exact ev_congr h x _
theorem ev_cv (p : List UInt8) (g : Nat → UInt8) (x : UInt8) (m : Nat) (hg : ∀ i, m ≤ i → g i = 0) : ∀ N, p.length + m ≤ N → ev' (cv (co p) g) x N = gmul (eval p x) (ev' g x N) := by
  induction p with
  | nil =>
    intro N _
    rw [ev_congr (fun i => cv_nil g i), eval_nil, zero_gmul]
    unfold ev'
    rw [sumX_congr (g := fun _ => 0) (fun i _ => zero_gmul _), sumX_zero]
  | cons a p ih =>
    intro N hN
    obtain ⟨M, rfl⟩ : ∃ M, N = M + 1 := ⟨N - 1, by simp at hN; omega⟩
    have hM : p.length + m ≤ M := by simp at hN; omega
    rw [ev_congr (fun i => cv_cons a p g i), ev_add, ev_mul, eval_cons]
    have h1 : ev' (shift (cv (co p) g)) x (M + 1) = gmul (ev' (cv (co p) g) x M) x := by
      rw [ev_succ]
      show 0 ^^^ _ = _
      rw [UInt8.zero_xor]
      rfl
    have h2 : ev' g x (M + 1) = ev' g x M := by
      show ev' g x M ^^^ gmul (g M) _ = _
      rw [hg M (by omega), zero_gmul, UInt8.xor_zero]
    rw [h1, ih M hM, h2, gmul_add', UInt8.xor_comm]
    congr 1
    rw [gmul_assoc, gmul_comm (ev' g x M) x, ← gmul_assoc]
theorem eval_mul (p q r : List UInt8) (h : ∀ i, co r i = cv (co p) (co q) i) (x : UInt8) : eval r x = gmul (eval p x) (eval q x) := by
  rw [← ev_co r x (p.length + q.length + r.length) (by omega), ev_congr h x, ev_cv p (co q) x q.length (fun i hi => co_big q i hi) _ (by omega), ev_co q x _ (by omega)]
end Po
end Go.Proofs.YtdjfbbfbdgiblaaGreatDoor

namespace Go.Proofs.YtdjfbbfbdgiblaaGreatDoor
namespace Po
open Gf
def addV (p q : List UInt8) : List UInt8 := trim (padd p q)
def mulV (p q : List UInt8) : List UInt8 := if mulB p q then [] else mulA p q
theorem co_addV (p q : List UInt8) (i : Nat) : co (addV p q) i = co p i ^^^ co q i := by unfold addV; rw [co_trim, co_padd]
theorem mulV_pos (p q : List UInt8) (hp : 0 < p.length) (hq : 0 < q.length) : mulV p q = mulA p q := by
  unfold mulV mulB
  rw [decide_eq_false (by omega), decide_eq_false (by omega)]
  rfl
theorem mulV_empty (p q : List UInt8) (h : p.length = 0 ∨ q.length = 0) : mulV p q = [] := by
  unfold mulV mulB
  rcases h with h | h
  · rw [decide_eq_true h]; rfl
  · rw [decide_eq_true h, Bool.or_true]; rfl
theorem co_mulV (p q : List UInt8) (n : Nat) : co (mulV p q) n = cv (co p) (co q) n := by
  rcases Nat.eq_zero_or_pos p.length with h | h
  · rw [mulV_empty p q (.inl h), List.eq_nil_of_length_eq_zero h, cv_nil]
    rfl
  · rcases Nat.eq_zero_or_pos q.length with h' | h'
    · rw [mulV_empty p q (.inr h'), List.eq_nil_of_length_eq_zero h', cv_comm, cv_nil]
      rfl
    · rw [mulV_pos p q h h', co_mulA p q h']
theorem sumX_single (f : Nat → UInt8) (n k : Nat) (hk : k < n) (h : ∀ i, i < n → i ≠ k → f i = 0) : sumX f n = f k := by
  induction n with
  | zero => omega
  | succ n ih =>
    rw [sumX]
    by_cases e : k = n
    · subst e
      rw [sumX_congr (g := fun _ => 0) (fun i hi => h i (by omega) (by omega)), sumX_zero, UInt8.zero_xor]
    · rw [ih (by omega) (fun i h1 h2 => h i (by omega) h2), h n (by omega) (fun x => e x.symm), UInt8.xor_zero]
theorem cv_top (p q : List UInt8) (hp : 0 < p.length) (hq : 0 < q.length) : cv (co p) (co q) (p.length + q.length - 2) = gmul (co p (p.length - 1)) (co q (q.length - 1)) := by
  unfold cv
  rw [sumX_single _ _ (p.length - 1) (by omega) (fun i hi hne => ?_)]
  · rw [show p.length + q.length - 2 - (p.length - 1) = q.length - 1 from by omega]
  · rcases Nat.lt_or_ge i p.length with h | h
    · rw [co_big q _ (by omega), gmul_zero]
    · rw [co_big p i h, zero_gmul]
theorem vld_of_top (l : List UInt8) (hl : l.length ≤ 255) (h : 0 < l.length → co l (l.length - 1) ≠ 0) : vld l = true := by
  unfold vld
  rw [decide_eq_true hl, Bool.true_and, bne_iff_ne, List.getLast?_eq_getElem?]
  intro e
  rcases Nat.eq_zero_or_pos l.length with h0 | h0
  · rw [List.getElem?_eq_none (by omega)] at e
    cases e
  · apply h h0
    unfold co
    rw [e]
    rfl
theorem mulA_vld (p q : List UInt8) (hp : vld p = true) (hq : vld q = true) (hp0 : 0 < p.length) (hq0 : 0 < q.length) (hl : p.length + q.length - 1 ≤ 255) : vld (mulA p q) = true := by
  have hlen : (mulA p q).length = p.length + q.length - 1 := by unfold mulA; rw [mulTo_length]
  refine vld_of_top _ (by rw [hlen]; exact hl) (fun _ => ?_)
  rw [hlen, show p.length + q.length - 1 - 1 = p.length + q.length - 2 from by omega, co_mulA p q hq0, cv_top p q hp0 hq0]
  exact gmul_ne _ _ (vld_top p hp hp0) (vld_top q hq hq0)
theorem mulV_vld (p q : List UInt8) (hp : vld p = true) (hq : vld q = true) (hl : p.length + q.length - 1 ≤ 255) : vld (mulV p q) = true := by
  rcases Nat.eq_zero_or_pos p.length with h | h
  · rw [mulV_empty p q (.inl h)]; rfl
  · rcases Nat.eq_zero_or_pos q.length with h' | h'
    · rw [mulV_empty p q (.inr h')]; rfl
    · rw [mulV_pos p q h h']
      exact mulA_vld p q hp hq h h' hl
theorem eval_addV (p q : List UInt8) (x : UInt8) : eval (addV p q) x = eval p x ^^^ eval q x := eval_add p q _ (co_addV p q) x
theorem eval_mulV (p q : List UInt8) (x : UInt8) : eval (mulV p q) x = gmul (eval p x) (eval q x) := eval_mul p q _ (co_mulV p q) x

end Po
end Go.Proofs.YtdjfbbfbdgiblaaGreatDoor

namespace Go.Proofs.YtdjfbbfbdgiblaaGreatDoor
namespace Po
open Gf
theorem cv_delta (f : UInt8) (a : Nat) (g : Nat → UInt8) (n : Nat) : cv (fun i => if i = a then f else 0) g n = if a ≤ n then gmul f (g (n - a)) else 0 := by
  unfold cv
  by_cases h : a ≤ n
  · rw [if_pos h, sumX_single _ _ a (by omega) (fun i _ hi => by show gmul (if i = a then f else 0) _ = 0; rw [if_neg hi, zero_gmul])]
    show gmul (if a = a then f else 0) _ = _
    rw [if_pos rfl]
  · rw [if_neg h, sumX_congr (g := fun _ => 0) (fun i hi => by show gmul (if i = a then f else 0) _ = 0; rw [if_neg (by omega), zero_gmul]), sumX_zero]
section
variable (p q : List UInt8) (lead : UInt8) (hq : 0 < q.length) (hpq : q.length ≤ p.length)
/-- the quotient's places that are still to come are 0 -/
theorem dv_quot_zero : ∀ j, ∀ i, i + j ≤ p.length - q.length → co (dv p q lead j).2 i = 0 := by
  intro j
  induction j with
  | zero => intro i _; rw [dv]; exact co_replicate _ _
  | succ j ih =>
    intro i hi
    rw [dv]
    simp only
    rw [co_set _ _ _ _ (by rw [(dv_len p q lead j).2]; omega), if_neg (by omega)]
    exact ih i (by omega)
include hpq in
theorem dv_id : ∀ j, j ≤ p.length - q.length + 1 → ∀ i, co p i = co (dv p q lead j).1 i ^^^ cv (co (dv p q lead j).2) (co q) i := by
  intro j
  induction j with
  | zero =>
    intro _ i
    rw [dv]
    simp only
    rw [cv_congr (f' := co []) (g' := co q) (fun k => co_replicate _ k) (fun _ => rfl), cv_nil, UInt8.xor_zero]
  | succ j ih =>
    intro hj i
    obtain ⟨l1, l2⟩ := dv_len p q lead j
    have hz := dv_quot_zero p q lead j (p.length - q.length - j) (by omega)
    rw [dv]
    simp only
    generalize gmul ((dv p q lead j).1[p.length - q.length - j + q.length - 1]?.getD 0) lead = f
    rw [co_addAt _ _ _ _ (by rw [l1]; omega)]
    have e1 : cv (co ((dv p q lead j).2.set (p.length - q.length - j) f)) (co q) i = cv (co (dv p q lead j).2) (co q) i ^^^ (if p.length - q.length - j ≤ i then gmul f (co q (i - (p.length - q.length - j))) else 0) := by
      rw [← cv_delta, ← cv_add_left]
      refine cv_congr (fun k => ?_) (fun _ => rfl) i
      rw [co_set _ _ _ _ (by rw [l2]; omega)]
      by_cases hk : k = p.length - q.length - j
      · rw [if_pos hk, if_pos hk, hk, hz, UInt8.zero_xor]
      · rw [if_neg hk, if_neg hk, UInt8.xor_zero]
    rw [e1, ih (by omega) i]
    generalize (if p.length - q.length - j ≤ i then gmul f (co q (i - (p.length - q.length - j))) else 0) = z
    rw [UInt8.xor_assoc, UInt8.xor_comm z, UInt8.xor_assoc, UInt8.xor_self, UInt8.xor_zero]
include hq hpq in
theorem dv_rest_zero (hl : lead = ginv (co q (q.length - 1))) (hne : co q (q.length - 1) ≠ 0) : ∀ j, j ≤ p.length - q.length + 1 → ∀ i, p.length ≤ i + j → co (dv p q lead j).1 i = 0 := by
  intro j
  induction j with
  | zero => intro _ i hi; rw [dv]; exact co_big _ _ (by simpa using hi)
  | succ j ih =>
    intro hj i hi
    obtain ⟨l1, l2⟩ := dv_len p q lead j
    rw [dv]
    simp only
    rw [co_addAt _ _ _ _ (by rw [l1]; omega)]
    have hb : (dv p q lead j).1[p.length - q.length - j + q.length - 1]?.getD 0 = co (dv p q lead j).1 (p.length - j - 1) := by
      unfold co
      rw [show p.length - q.length - j + q.length - 1 = p.length - j - 1 by omega]
    rw [hb]
    by_cases h1 : i = p.length - j - 1
    · rw [if_pos (by omega), h1, show p.length - j - 1 - (p.length - q.length - j) = q.length - 1 by omega, hl, gmul_assoc, ginv_mul _ hne, gmul_one, UInt8.xor_self]
    · rw [ih (by omega) i (by omega)]
      rw [co_big q _ (by omega), gmul_zero]
      split <;> rfl
end
theorem div_co (p q : List UInt8) (hq : 0 < q.length) (hne : co q (q.length - 1) ≠ 0) (i : Nat) : co p i = co (rem p q) i ^^^ cv (co (quo p q)) (co q) i := by
  unfold rem quo
  by_cases h : p.length < q.length
  · rw [if_pos h, if_pos h, cv_nil, UInt8.xor_zero]
  · rw [if_neg h, if_neg h, co_trim, co_take]
    have h1 := dv_id p q (ginv (lastOf q)) (by omega) (p.length - q.length + 1) (Nat.le_refl _) i
    have h2 := dv_rest_zero p q (ginv (lastOf q)) hq (by omega) rfl hne (p.length - q.length + 1) (Nat.le_refl _) i
    unfold dvAll
    by_cases hi : i < q.length - 1
    · rw [if_pos hi]; exact h1
    · rw [if_neg hi, UInt8.zero_xor]
      rw [h2 (by omega), UInt8.zero_xor] at h1
      exact h1
theorem rem_vld (p q : List UInt8) (hp : vld p = true) (hq : q.length ≤ 255) : vld (rem p q) = true := by
  unfold rem
  split
  · exact hp
  · refine trim_vld _ ?_
    have : ((dvAll p q).1.take (q.length - 1)).length ≤ q.length - 1 := List.length_take_le _ _
    omega
theorem dv_top (p q : List UInt8) (lead : UInt8) (hq : 0 < q.length) (hpq : q.length ≤ p.length) : ∀ j, j ≤ p.length - q.length → co (dv p q lead (j + 1)).2 (p.length - q.length) = gmul (co p (p.length - 1)) lead := by
  intro j
  induction j with
  | zero =>
    intro _
    rw [dv]
    simp only
    rw [co_set _ _ _ _ (by rw [(dv_len p q lead 0).2]; omega), if_pos (by omega)]
    rw [dv]
    simp only
    rw [show p.length - q.length - 0 + q.length - 1 = p.length - 1 by omega]
    rfl
  | succ j ih =>
    intro hj
    rw [dv]
    simp only
    rw [co_set _ _ _ _ (by rw [(dv_len p q lead (j + 1)).2]; omega), if_neg (by omega)]
    exact ih (by omega)
theorem quo_vld (p q : List UInt8) (hp : vld p = true) (hq : 0 < q.length) (hne : co q (q.length - 1) ≠ 0) : vld (quo p q) = true := by
  unfold quo
  split
  · rfl
  · rename_i h
    have hl := (dv_len p q (ginv (lastOf q)) (p.length - q.length + 1)).2
    have h255 := vld_len hp
    unfold dvAll
    refine vld_of_top _ (by rw [hl]; omega) (fun _ => ?_)
    rw [hl, Nat.add_sub_cancel, dv_top p q _ hq (by omega) _ (Nat.le_refl _)]
    exact gmul_ne _ _ (vld_top p hp (by omega)) (ginv_ne _ hne)
/-- c divides x -/
def Dv (c x : List UInt8) : Prop := ∃ k : List UInt8, ∀ i, co x i = cv (co k) (co c) i
theorem dv_refl (c : List UInt8) : Dv c c := ⟨[1], fun i => by rw [cv_cons, one_gmul]; cases i with
  | zero => simp [shift]
  | succ i => simp [shift, cv_nil]⟩
theorem dv_nil (c : List UInt8) : Dv c [] := ⟨[], fun i => by rw [cv_nil]; rfl⟩
theorem dv_comb {a b r k : List UInt8} {c : List UInt8} (h : ∀ i, co a i = co r i ^^^ cv (co k) (co b) i) (hb : Dv c b) (hr : Dv c r) : Dv c a := by
  obtain ⟨k2, h2⟩ := hb
  obtain ⟨k1, h1⟩ := hr
  refine ⟨addV k1 (mulV k k2), fun i => ?_⟩
  rw [h, h1, cv_congr (fun _ => rfl) h2, cv_assoc, cv_congr (co_addV k1 (mulV k k2)) (fun _ => rfl), cv_add_left, cv_congr (co_mulV k k2) (fun _ => rfl)]
theorem gcd_div : ∀ (f : Nat) (a b : List UInt8), b.length ≤ f → vld a = true → vld b = true → Dv (gcdF b.length a b) a ∧ Dv (gcdF b.length a b) b := by
  intro f
  induction f with
  | zero =>
    intro a b hf _ _
    have h0 : b.length = 0 := Nat.le_zero.1 hf
    rw [gcd_end a b h0, List.eq_nil_of_length_eq_zero h0]
    exact ⟨dv_refl a, dv_nil a⟩
  | succ f ih =>
    intro a b hf ha hb
    rcases Nat.eq_zero_or_pos b.length with h0 | h0
    · rw [gcd_end a b h0, List.eq_nil_of_length_eq_zero h0]
      exact ⟨dv_refl a, dv_nil a⟩
    · have hlt := rem_lt a b h0
      rw [gcd_step a b h0]
      obtain ⟨d1, d2⟩ := ih b (rem a b) (by omega) hb (rem_vld a b ha (vld_len hb))
      exact ⟨dv_comb (div_co a b h0 (vld_top b hb h0)) d1 d2, d1⟩
end Po
end Go.Proofs.YtdjfbbfbdgiblaaGreatDoor

namespace Go.Proofs.YtdjfbbfbdgiblaaGreatDoor
namespace Po
open Gf
theorem eval_lin (r x : UInt8) : eval [r, 1] x = x ^^^ r := by
  rw [eval_cons, eval_cons, eval_nil, zero_gmul, UInt8.zero_xor, one_gmul]
theorem xor_eq0 (a b : UInt8) : a ^^^ b = 0 ↔ a = b := UInt8.xor_eq_zero_iff
theorem gmul_eq0 (a b : UInt8) : gmul a b = 0 ↔ a = 0 ∨ b = 0 := by
  constructor
  · intro h
    by_cases ha : a = 0
    · exact .inl ha
    · by_cases hb : b = 0
      · exact .inr hb
      · exact absurd h (gmul_ne a b ha hb)
  · rintro (rfl | rfl)
    · exact zero_gmul _
    · exact gmul_zero _
theorem vld_lin (r : UInt8) : vld [r, 1] = true := vld_last [r, 1] 1 (by simp) rfl
theorem eval_times (l : List UInt8) (r x : UInt8) : eval (mulV l [r, 1]) x = 0 ↔ eval l x = 0 ∨ x = r := by
  rw [eval_mulV, eval_lin, gmul_eq0, xor_eq0]
theorem eval_zero_of (l : List UInt8) (h : ∀ i, co l i = 0) (x : UInt8) : eval l x = 0 := by
  rw [eval_ext l [] (fun i => by rw [h i]; rfl) x, eval_nil]
theorem roots_lt : ∀ (n : Nat) (q rs : List UInt8), q.length = n → vld q = true → 0 < n → rs.Nodup → (∀ r ∈ rs, eval q r = 0) → rs.length < n := by
  intro n
  induction n with
  | zero => intro q rs _ _ h; omega
  | succ n ih =>
    intro q rs hq hv _ hnd hr
    match rs, hnd, hr with
    | [], _, _ => simp
    | r :: rs, hnd, hr =>
      have hr0 := hr r (by simp)
      rw [List.nodup_cons] at hnd
      have hdl : ([r, 1] : List UInt8).length = 2 := rfl
      have hne : co [r, 1] (([r, 1] : List UInt8).length - 1) ≠ 0 := by
        show (1 : UInt8) ≠ 0
        decide
      have hco := div_co q [r, 1] (by simp) hne
      have hrem := rem_lt q [r, 1] (by simp)
      have hev : ∀ x, eval q x = eval (rem q [r, 1]) x ^^^ gmul (eval (quo q [r, 1]) x) (x ^^^ r) := fun x => by
        rw [← eval_lin r x, ← eval_mulV, ← eval_addV]
        exact eval_ext _ _ (fun i => by rw [co_addV, co_mulV, ← hco]) x
      have h1 : eval (rem q [r, 1]) r = 0 := by
        have := hev r
        rw [hr0, UInt8.xor_self, gmul_zero, UInt8.xor_zero] at this
        exact this.symm
      have h2 : ∀ i, co (rem q [r, 1]) i = 0 := by
        match hm : rem q [r, 1], hrem, h1 with
        | [], _, _ => intro i; rfl
        | [a], _, h1 =>
          rw [eval_cons, eval_nil, zero_gmul, UInt8.zero_xor] at h1
          subst h1
          intro i
          cases i <;> simp [co]
        | a :: b :: t, hl, _ => simp at hl; omega
      rcases Nat.lt_or_ge q.length 2 with h3 | h3
      · exfalso
        have hq1 : q.length = 1 := by omega
        have : rem q [r, 1] = q := by unfold rem; rw [if_pos (by simpa using h3)]
        rw [this] at h2
        exact vld_top q hv (by omega) (h2 _)
      · have hql : (quo q [r, 1]).length = n := by
          unfold quo dvAll
          rw [if_neg (by simp; omega), (dv_len q [r, 1] _ _).2, hdl]
          omega
        have := ih (quo q [r, 1]) rs hql (quo_vld q [r, 1] hv (by simp) hne) (by omega) hnd.2 (fun s hs => by
          have e := hev s
          rw [hr s (by simp [hs]), eval_zero_of _ h2, UInt8.zero_xor] at e
          rcases (gmul_eq0 _ _).1 e.symm with e1 | e1
          · exact e1
          · exact absurd ((xor_eq0 _ _).1 e1 ▸ hs) hnd.1)
        simp
        omega
end Po
end Go.Proofs.YtdjfbbfbdgiblaaGreatDoor

namespace Go.Proofs.YtdjfbbfbdgiblaaGreatDoor
namespace Sy
open Gf
set_option linter.unusedVariables false
/-- the product of x - 2^k -/
def gen : Nat → List UInt8
  | 0 => [1]
  | k + 1 => Po.mulV (gen k) [gpow 2 k, 1]
theorem gen_ok : ∀ k, k ≤ 200 → Po.vld (gen k) = true ∧ (gen k).length = k + 1 := by
  intro k
  induction k with
  | zero => exact fun _ => ⟨by decide +kernel, rfl⟩
  | succ k ih =>
    intro hk
    obtain ⟨h1, h2⟩ := ih (by omega)
    refine ⟨Po.mulV_vld _ _ h1 (Po.vld_lin _) (by rw [h2]; simp; omega), ?_⟩
    show (Po.mulV (gen k) [gpow 2 k, 1]).length = _
    rw [Po.mulV_pos _ _ (by omega) (by simp)]
    unfold Po.mulA
    rw [Po.mulTo_length, h2]
    simp
theorem gen_root : ∀ m k, k < m → Po.eval (gen m) (gpow 2 k) = 0 := by
  intro m
  induction m with
  | zero => intro k hk; omega
  | succ m ih =>
    intro k hk
    show Po.eval (Po.mulV (gen m) [gpow 2 m, 1]) _ = 0
    rw [Po.eval_times]
    rcases Nat.lt_or_ge k m with h | h
    · exact .inl (ih k h)
    · exact .inr (by rw [show k = m by omega])
theorem hor_eval (x : UInt8) (l : List UInt8) : Po.eval l.reverse x = hor x l := by
  unfold Po.eval hor
  rw [List.reverse_reverse]
/-- the dividend: the data at the high powers -/
def high (m : Nat) (data : List UInt8) : List UInt8 := (data ++ List.replicate m 0).reverse
def rest (m : Nat) (data : List UInt8) : List UInt8 := Po.rem (Po.trim (high m data)) (gen m)
/-- the code word -/
def enc (m : Nat) (data : List UInt8) : List UInt8 := data ++ (List.range m).map fun i => Po.co (rest m data) (m - 1 - i)
theorem enc_length (m : Nat) (data : List UInt8) : (enc m data).length = data.length + m := by unfold enc; simp
theorem rest_length (m : Nat) (hm : m ≤ 200) (data : List UInt8) : (rest m data).length ≤ m := by
  have h := (gen_ok m hm).2
  have := Po.rem_lt (Po.trim (high m data)) (gen m) (by omega)
  unfold rest
  omega
theorem co_rev {l : List UInt8} {i : Nat} (h : i < l.length) : Po.co l.reverse i = wd l (l.length - 1 - i) := by
  unfold Po.co wd
  rw [List.getElem?_reverse h]
theorem wd_enc_hi (m : Nat) (data : List UInt8) {i : Nat} (h : i < m) : wd (enc m data) (data.length + i) = Po.co (rest m data) (m - 1 - i) := by
  unfold enc
  rw [wd_right]
  unfold wd
  rw [List.getElem?_map, List.getElem?_range h]
  rfl
theorem wd_enc_lo (m : Nat) (data : List UInt8) {i : Nat} (h : i < data.length) : wd (enc m data) i = wd data i := by
  unfold enc
  rw [wd_left h]
theorem wd_replicate (k i : Nat) : wd (List.replicate k 0) i = 0 := by
  unfold wd
  rw [List.getElem?_replicate]
  split <;> rfl
theorem high_length (m : Nat) (data : List UInt8) : (high m data).length = data.length + m := by unfold high; simp; omega
theorem co_high (m : Nat) (data : List UInt8) (i : Nat) : Po.co (high m data) i = if m ≤ i ∧ i < data.length + m then wd data (data.length + m - 1 - i) else 0 := by
  rcases Nat.lt_or_ge i (data.length + m) with h | h
  · unfold high
    rw [co_rev (by simpa using h)]
    simp only [List.length_append, List.length_replicate]
    rcases Nat.lt_or_ge i m with h1 | h1
    · rw [if_neg (by omega), show data.length + m - 1 - i = data.length + (m - 1 - i) by omega, wd_right, wd_replicate]
    · rw [if_pos ⟨h1, h⟩, wd_left (by omega)]
  · rw [if_neg (by omega)]
    exact Po.co_big _ _ (by rw [high_length]; exact h)
theorem co_enc (m : Nat) (hm : m ≤ 200) (data : List UInt8) (i : Nat) : Po.co (enc m data).reverse i = Po.co (high m data) i ^^^ Po.co (rest m data) i := by
  rcases Nat.lt_or_ge i (data.length + m) with h | h
  · rw [co_rev (by rw [enc_length]; exact h), enc_length, co_high]
    rcases Nat.lt_or_ge i m with h1 | h1
    · rw [if_neg (by omega), UInt8.zero_xor, show data.length + m - 1 - i = data.length + (m - 1 - i) by omega, wd_enc_hi m data (by omega), show m - 1 - (m - 1 - i) = i by omega]
    · rw [if_pos ⟨h1, h⟩, wd_enc_lo m data (by omega), Po.co_big (rest m data) i (by have := rest_length m hm data; omega), UInt8.xor_zero]
  · rw [Po.co_big _ _ (by rw [List.length_reverse, enc_length]; exact h), Po.co_big (high m data) i (by rw [high_length]; exact h), Po.co_big (rest m data) i (by have := rest_length m hm data; omega)]
    rfl
/-- all values at the first m powers of 2 are 0 -/
def Cw (m : Nat) (l : List UInt8) : Prop := ∀ k, k < m → syn l k = 0
theorem enc_cw (m : Nat) (hm : m ≤ 200) (data : List UInt8) : Cw m (enc m data) := by
  intro k hk
  unfold syn
  rw [← hor_eval, Po.eval_add (high m data) (rest m data) _ (co_enc m hm data)]
  have hg := gen_ok m hm
  have h1 : ∀ i, Po.co (high m data) i = Po.co (rest m data) i ^^^ Po.cv (Po.co (Po.quo (Po.trim (high m data)) (gen m))) (Po.co (gen m)) i := fun i => by
    rw [← Po.co_trim]
    exact Po.div_co _ _ (by omega) (Po.vld_top _ hg.1 (by omega)) i
  have h2 := Po.eval_add (rest m data) (Po.mulV (Po.quo (Po.trim (high m data)) (gen m)) (gen m)) (high m data) (fun i => by rw [h1 i, Po.co_mulV]) (gpow 2 k)
  rw [h2, Po.eval_mulV, gen_root m k hk, gmul_zero, UInt8.xor_zero, UInt8.xor_self]
end Sy
end Go.Proofs.YtdjfbbfbdgiblaaGreatDoor

namespace Go.Proofs.YtdjfbbfbdgiblaaGreatDoor
namespace Sy
open Gf
set_option linter.unusedVariables false
theorem ls_single {f : Nat → UInt8} {n k : Nat} (hk : k < n) (h : ∀ j, j < n → j ≠ k → f j = 0) : ls f (List.range n) = f k := by
  induction n with
  | zero => omega
  | succ n ih =>
    rw [ls_range_succ]
    rcases Nat.lt_or_ge k n with h1 | h1
    · rw [ih h1 fun j hj => h j (by omega), h n (by omega) (by omega), UInt8.xor_zero]
    · have e : n = k := by omega
      subst e
      rw [ls_zero fun j hj => h j (by have := List.mem_range.1 hj; omega) (by have := List.mem_range.1 hj; omega), UInt8.zero_xor]
theorem ls_two {f : Nat → UInt8} {n a b : Nat} (ha : a < n) (hb : b < n) (hab : a ≠ b) (h : ∀ j, j < n → j ≠ a → j ≠ b → f j = 0) : ls f (List.range n) = f a ^^^ f b := by
  have e : ls f (List.range n) = ls (fun j => (if j = a then f a else 0) ^^^ (if j = b then f b else 0)) (List.range n) := ls_congr fun j hj => by
    have hj := List.mem_range.1 hj
    by_cases h1 : j = a
    · rw [if_pos h1, if_neg (by omega), h1, UInt8.xor_zero]
    · by_cases h2 : j = b
      · rw [if_neg h1, if_pos h2, h2, UInt8.zero_xor]
      · rw [if_neg h1, if_neg h2, h j hj h1 h2]; rfl
  rw [e, ls_add, ls_single (k := a) ha (fun j _ hj => if_neg hj), ls_single (k := b) hb (fun j _ hj => if_neg hj), if_pos rfl, if_pos rfl]
/-- a row, none behind the last one -/
def rw_ (rows : List (List UInt8)) (k : Nat) : List UInt8 := rows[k]?.getD []
theorem rw_lt {rows : List (List UInt8)} {k : Nat} (h : k < rows.length) : rows[k]? = some (rw_ rows k) := by unfold rw_; rw [List.getElem?_eq_getElem h]; rfl
theorem rw_some {rows : List (List UInt8)} {k : Nat} {r : List UInt8} (h : rows[k]? = some r) : rw_ rows k = r := by unfold rw_; rw [h]; rfl
def dot (r : List UInt8) (y : Nat → UInt8) (n : Nat) : UInt8 := ls (fun j => gmul (wd r j) (y j)) (List.range n)
/-- the row times t -/
def scl (t : UInt8) (r : List UInt8) : List UInt8 := r.map fun a => gmul a t
/-- the row and t times another -/
def addRow (t : UInt8) (p r : List UInt8) : List UInt8 := (List.range r.length).map fun q => wd r q ^^^ gmul t (wd p q)
theorem scl_length (t : UInt8) (r : List UInt8) : (scl t r).length = r.length := List.length_map _
theorem addRow_length (t : UInt8) (p r : List UInt8) : (addRow t p r).length = r.length := by unfold addRow; simp
theorem wd_scl (t : UInt8) (r : List UInt8) (j : Nat) : wd (scl t r) j = gmul (wd r j) t := by
  unfold scl wd
  rw [List.getElem?_map]
  cases r[j]? with
  | none => exact (zero_gmul t).symm
  | some a => rfl
theorem wd_addRow (t : UInt8) (p r : List UInt8) {j : Nat} (h : j < r.length) : wd (addRow t p r) j = wd r j ^^^ gmul t (wd p j) := by
  conv => lhs; unfold addRow wd
  rw [List.getElem?_map, List.getElem?_range h]
  rfl
theorem addRow_zero (p r : List UInt8) : addRow 0 p r = r := wd_ext (addRow_length _ _ _) fun i hi => by
  rw [addRow_length] at hi
  rw [wd_addRow _ _ _ hi, zero_gmul, UInt8.xor_zero]
theorem dot_scl (t : UInt8) (r : List UInt8) (y : Nat → UInt8) (n : Nat) : dot (scl t r) y n = gmul t (dot r y n) := by
  unfold dot
  rw [← ls_mul]
  refine ls_congr fun j _ => ?_
  rw [wd_scl, gmul_comm (wd r j) t, gmul_assoc]
theorem dot_addRow (t : UInt8) (p r : List UInt8) (y : Nat → UInt8) {n : Nat} (h : n ≤ r.length) : dot (addRow t p r) y n = dot r y n ^^^ gmul t (dot p y n) := by
  unfold dot
  rw [← ls_mul, ← ls_add]
  refine ls_congr fun j hj => ?_
  have hj := List.mem_range.1 hj
  rw [wd_addRow _ _ _ (by omega), gmul_add', gmul_assoc]
/-- what solves all equations -/
def Ker (rows : List (List UInt8)) (n : Nat) (y : Nat → UInt8) : Prop := ∀ k, k < rows.length → dot (rw_ rows k) y n = 0
def Wid (rows : List (List UInt8)) (n : Nat) : Prop := ∀ k, k < rows.length → (rw_ rows k).length = n
/-- the first columns are those of the unit matrix -/
def Uni (rows : List (List UInt8)) (c : Nat) : Prop := ∀ j, j < c → ∀ k, k < rows.length → wd (rw_ rows k) j = if k = j then 1 else 0
/-- the first row from c on with something in column c -/
def piv (c : Nat) (rows : List (List UInt8)) : Option Nat := ((rows.drop c).findIdx? fun r => wd r c != 0).map (c + ·)
def swapR (rows : List (List UInt8)) (c p : Nat) : List (List UInt8) := (rows.set c (rw_ rows p)).set p (rw_ rows c)
def leadOf (rows : List (List UInt8)) (c : Nat) : UInt8 := ginv (wd (rw_ rows c) c)
def clearC (rows : List (List UInt8)) (c : Nat) (p : List UInt8) : List (List UInt8) := rows.mapIdx fun k r => if k = c then r else addRow (wd r c) p r
def stepC (rows : List (List UInt8)) (c p : Nat) : List (List UInt8) :=
  let R := swapR rows c p
  let S := R.set c (scl (leadOf R c) (rw_ R c))
  clearC S c (rw_ S c)
def elim (rows : List (List UInt8)) : Nat → Option (List (List UInt8))
  | 0 => some rows
  | c + 1 => match elim rows c with
    | none => none
    | some R => match piv c R with
      | none => none
      | some p => some (stepC R c p)
def badR (rows : List (List UInt8)) (w : Nat) : Bool := (rows.drop w).any fun r => wd r w != 0
def outR (rows : List (List UInt8)) (w : Nat) : List UInt8 := (rows.take w).map fun r => wd r w
/-- the only solution, where there is just one -/
def solve (rows : List (List UInt8)) (w : Nat) : Option (List UInt8) := match elim rows w with
  | none => none
  | some R => if badR R w then none else some (outR R w)
theorem swap_length (rows : List (List UInt8)) (c p : Nat) : (swapR rows c p).length = rows.length := by unfold swapR; simp
theorem rw_swap {rows : List (List UInt8)} {c p : Nat} (hc : c < rows.length) (hp : p < rows.length) {k : Nat} : rw_ (swapR rows c p) k = if k = c then rw_ rows p else if k = p then rw_ rows c else rw_ rows k := by
  unfold swapR
  conv => lhs; unfold rw_
  rw [List.getElem?_set, List.getElem?_set]
  by_cases h1 : p = k
  · subst h1
    rw [if_pos rfl, if_pos (by simpa using hp)]
    by_cases h2 : p = c
    · subst h2; rw [if_pos rfl]; rfl
    · rw [if_neg h2, if_pos rfl]; rfl
  · rw [if_neg h1]
    by_cases h2 : c = k
    · subst h2; rw [if_pos rfl, if_pos hc, if_pos rfl]; rfl
    · rw [if_neg h2, if_neg (fun e => h2 e.symm), if_neg (fun e => h1 e.symm)]; rfl
theorem rw_set {rows : List (List UInt8)} {c : Nat} {r : List UInt8} (hc : c < rows.length) {k : Nat} : rw_ (rows.set c r) k = if k = c then r else rw_ rows k := by
  conv => lhs; unfold rw_
  rw [List.getElem?_set]
  by_cases h : c = k
  · subst h; rw [if_pos rfl, if_pos hc, if_pos rfl]; rfl
  · rw [if_neg h, if_neg (fun e => h e.symm)]; rfl
theorem clear_length (rows : List (List UInt8)) (c : Nat) (p : List UInt8) : (clearC rows c p).length = rows.length := by unfold clearC; simp
theorem rw_clear {rows : List (List UInt8)} {c k : Nat} {p : List UInt8} (hk : k < rows.length) : rw_ (clearC rows c p) k = if k = c then rw_ rows k else addRow (wd (rw_ rows k) c) p (rw_ rows k) := by
  have e := rw_lt hk
  refine rw_some ?_
  unfold clearC
  rw [List.getElem?_mapIdx, e]
  rfl
theorem step_length (rows : List (List UInt8)) (c p : Nat) : (stepC rows c p).length = rows.length := by
  unfold stepC
  simp only [clear_length, List.length_set, swap_length]
/-- the pivot's row behind a step, and the others -/
theorem rw_step {rows : List (List UInt8)} {c p : Nat} (hc : c < rows.length) (hp : p < rows.length) {k : Nat} (hk : k < rows.length) :
    rw_ (stepC rows c p) k = if k = c then scl (ginv (wd (rw_ rows p) c)) (rw_ rows p) else addRow (wd (if k = p then rw_ rows c else rw_ rows k) c) (scl (ginv (wd (rw_ rows p) c)) (rw_ rows p)) (if k = p then rw_ rows c else rw_ rows k) := by
  have hcs : c < (swapR rows c p).length := by rw [swap_length]; exact hc
  have e0 : rw_ (swapR rows c p) c = rw_ rows p := by rw [rw_swap hc hp, if_pos rfl]
  unfold stepC leadOf
  simp only
  rw [rw_clear (by rw [List.length_set, swap_length]; exact hk), rw_set hcs, rw_set hcs, if_pos rfl, e0]
  by_cases h : k = c
  · rw [if_pos h, if_pos h, if_pos h]
  · rw [if_neg h, if_neg h, if_neg h, rw_swap hc hp, if_neg h]
theorem wid_step {rows : List (List UInt8)} {c p n : Nat} (hw : Wid rows n) (hc : c < rows.length) (hp : p < rows.length) : Wid (stepC rows c p) n := fun k hk => by
  rw [step_length] at hk
  rw [rw_step hc hp hk]
  split
  · rw [scl_length]; exact hw p hp
  · rw [addRow_length]; split
    · exact hw c hc
    · exact hw k hk
theorem ker_step {rows : List (List UInt8)} {c p n : Nat} (hw : Wid rows n) (hc : c < rows.length) (hp : p < rows.length) (hne : wd (rw_ rows p) c ≠ 0) (y : Nat → UInt8) : Ker (stepC rows c p) n y ↔ Ker rows n y := by
  constructor
  · intro h
    have hpv : dot (rw_ rows p) y n = 0 := by
      have := h c (by rw [step_length]; exact hc)
      rw [rw_step hc hp hc, if_pos rfl, dot_scl] at this
      rcases (gmul_eq_zero _ _).1 this with h1 | h1
      · exact absurd h1 (ginv_ne _ hne)
      · exact h1
    have key : ∀ k, k < rows.length → k ≠ c → dot (if k = p then rw_ rows c else rw_ rows k) y n = 0 := fun k hk hkc => by
      have := h k (by rw [step_length]; exact hk)
      rw [rw_step hc hp hk, if_neg hkc, dot_addRow, dot_scl, hpv, gmul_zero, gmul_zero, UInt8.xor_zero] at this
      · exact this
      · split
        · rw [hw c hc]; exact Nat.le_refl _
        · rw [hw k hk]; exact Nat.le_refl _
    intro k hk
    by_cases h1 : k = p
    · rw [h1]; exact hpv
    · by_cases h2 : k = c
      · have := key p hp (fun e => h1 (by rw [h2, e]))
        rw [if_pos rfl] at this
        rw [h2]; exact this
      · have := key k hk h2
        rwa [if_neg h1] at this
  · intro h k hk
    rw [step_length] at hk
    rw [rw_step hc hp hk]
    split
    · rw [dot_scl, h p hp, gmul_zero]
    · rw [dot_addRow, dot_scl, h p hp, gmul_zero, gmul_zero, UInt8.xor_zero]
      · split
        · exact h c hc
        · exact h k hk
      · split
        · rw [hw c hc]; exact Nat.le_refl _
        · rw [hw k hk]; exact Nat.le_refl _
theorem uni_step {rows : List (List UInt8)} {c p n : Nat} (hw : Wid rows n) (hcn : c < n) (hu : Uni rows c) (hc : c < rows.length) (hp : p < rows.length) (hcp : c ≤ p) (hne : wd (rw_ rows p) c ≠ 0) : Uni (stepC rows c p) (c + 1) := by
  intro j hj k hk
  rw [step_length] at hk
  rw [rw_step hc hp hk]
  have hlen : (if k = p then rw_ rows c else rw_ rows k).length = n := by
    split
    · exact hw c hc
    · exact hw k hk
  rcases Nat.lt_or_ge j c with h1 | h1
  · have hp0 : wd (rw_ rows p) j = 0 := by rw [hu j h1 p hp, if_neg (by omega)]
    by_cases h : k = c
    · rw [if_pos h, wd_scl, hp0, zero_gmul, if_neg (by omega)]
    · rw [if_neg h, wd_addRow _ _ _ (by rw [hlen]; omega), wd_scl, hp0, zero_gmul, gmul_zero, UInt8.xor_zero]
      by_cases h2 : k = p
      · rw [if_pos h2, hu j h1 c hc, if_neg (by omega), if_neg (by omega)]
      · rw [if_neg h2, hu j h1 k hk]
  · have e : j = c := by omega
    subst e
    have e1 : wd (scl (ginv (wd (rw_ rows p) j)) (rw_ rows p)) j = 1 := by rw [wd_scl, gmul_inv _ hne]
    by_cases h : k = j
    · rw [if_pos h, if_pos h, e1]
    · rw [if_neg h, if_neg h, wd_addRow _ _ _ (by rw [hlen]; omega), e1, gmul_one, UInt8.xor_self]
/-- no row is left for a column: something solves all equations without their right side -/
theorem stuck {rows : List (List UInt8)} {c w : Nat} (hw : Wid rows (w + 1)) (hcw : c < w) (hu : Uni rows c) (h0 : ∀ k, k < rows.length → c ≤ k → wd (rw_ rows k) c = 0) : ∃ y : Nat → UInt8, Ker rows (w + 1) y ∧ y w = 0 ∧ y c = 1 := by
  refine ⟨fun j => if j = c then 1 else if j < c then wd (rw_ rows j) c else 0, fun k hk => ?_, ?_, ?_⟩
  · unfold dot
    rcases Nat.lt_or_ge k c with h | h
    · rw [ls_two (a := k) (b := c) (by omega) (by omega) (by omega) (fun j hj h1 h2 => ?_)]
      · dsimp only
        rw [if_neg (by omega), if_pos h, if_pos rfl, hu k h k hk, if_pos rfl, one_gmul, gmul_one, UInt8.xor_self]
      · dsimp only
        rw [if_neg h2]
        rcases Nat.lt_or_ge j c with h3 | h3
        · rw [hu j h3 k hk, if_neg (fun e => h1 e.symm), zero_gmul]
        · rw [if_neg (by omega), gmul_zero]
    · refine ls_zero fun j hj => ?_
      dsimp only
      by_cases h1 : j = c
      · rw [h1, h0 k hk h, zero_gmul]
      · rw [if_neg h1]
        rcases Nat.lt_or_ge j c with h3 | h3
        · rw [hu j h3 k hk, if_neg (by omega), zero_gmul]
        · rw [if_neg (by omega), gmul_zero]
  · show (if w = c then (1 : UInt8) else if w < c then _ else 0) = 0
    rw [if_neg (by omega), if_neg (by omega)]
  · exact if_pos rfl
theorem piv_some {c : Nat} {rows : List (List UInt8)} {p : Nat} (h : piv c rows = some p) : c ≤ p ∧ p < rows.length ∧ wd (rw_ rows p) c ≠ 0 ∧ ∀ k, c ≤ k → k < p → wd (rw_ rows k) c = 0 := by
  unfold piv at h
  rw [Option.map_eq_some_iff] at h
  obtain ⟨i, hi, rfl⟩ := h
  rw [List.findIdx?_eq_some_iff_getElem] at hi
  obtain ⟨hlt, hb, hn⟩ := hi
  rw [List.length_drop] at hlt
  have e : ∀ j, c + j < rows.length → ∀ h', (rows.drop c)[j]'h' = rw_ rows (c + j) := fun j hj h' => by
    rw [List.getElem_drop]
    exact (rw_some (List.getElem?_eq_getElem hj)).symm
  refine ⟨by omega, by omega, ?_, fun k h1 h2 => ?_⟩
  · rw [e i (by omega)] at hb
    simpa using hb
  · have := hn (k - c) (by omega)
    rw [e (k - c) (by omega), show c + (k - c) = k by omega] at this
    simpa using this
theorem piv_none {c : Nat} {rows : List (List UInt8)} (h : piv c rows = none) : ∀ k, k < rows.length → c ≤ k → wd (rw_ rows k) c = 0 := fun k hk hck => by
  unfold piv at h
  rw [Option.map_eq_none_iff, List.findIdx?_eq_none_iff] at h
  have := h (rw_ rows k) (by
    rw [List.mem_iff_getElem?]
    exact ⟨k - c, by rw [List.getElem?_drop, show c + (k - c) = k by omega]; exact rw_lt hk⟩)
  simpa using this
structure El (rows R : List (List UInt8)) (w c : Nat) : Prop where
  len : R.length = rows.length
  wid : Wid R (w + 1)
  uni : Uni R c
  ker : ∀ y, Ker R (w + 1) y ↔ Ker rows (w + 1) y
  le : c = 0 ∨ c ≤ R.length
theorem elim_ok {rows : List (List UInt8)} {w : Nat} (hw : Wid rows (w + 1)) : ∀ c, c ≤ w → ∀ R, elim rows c = some R → El rows R w c := by
  intro c
  induction c with
  | zero => intro _ R h; cases h; exact ⟨rfl, hw, fun j hj => by omega, fun y => Iff.rfl, .inl rfl⟩
  | succ c ih =>
    intro hc R h
    unfold elim at h
    cases e1 : elim rows c with
    | none => rw [e1] at h; cases h
    | some R' =>
      have H := ih (by omega) R' e1
      rw [e1] at h
      dsimp only at h
      cases e2 : piv c R' with
      | none => rw [e2] at h; cases h
      | some p =>
        rw [e2] at h
        dsimp only at h
        cases h
        obtain ⟨h1, h2, h3, _⟩ := piv_some e2
        exact ⟨by rw [step_length]; exact H.len, wid_step H.wid (by omega) h2, uni_step H.wid (by omega) H.uni (by omega) h2 h1 h3, fun y => (ker_step H.wid (by omega) h2 h3 y).trans (H.ker y), .inr (by rw [step_length]; omega)⟩
theorem elim_some {rows : List (List UInt8)} {w : Nat} (hw : Wid rows (w + 1)) (hk : ∀ y, Ker rows (w + 1) y → y w = 0 → ∀ j, j < w → y j = 0) : ∀ c, c ≤ w → ∃ R, elim rows c = some R := by
  intro c
  induction c with
  | zero => exact fun _ => ⟨rows, rfl⟩
  | succ c ih =>
    intro hc
    obtain ⟨R', e1⟩ := ih (by omega)
    have H := elim_ok hw c (by omega) R' e1
    unfold elim
    rw [e1]
    dsimp only
    cases e2 : piv c R' with
    | some p => exact ⟨_, rfl⟩
    | none =>
      exfalso
      obtain ⟨y, h1, h2, h3⟩ := stuck H.wid (by omega) H.uni (piv_none e2)
      have := hk y ((H.ker y).1 h1) h2 c (by omega)
      rw [h3] at this
      exact one_ne this
theorem dot_unit {R : List (List UInt8)} {w k : Nat} (hu : Uni R w) (hk : k < R.length) (hkw : k < w) (y : Nat → UInt8) : dot (rw_ R k) y (w + 1) = y k ^^^ gmul (wd (rw_ R k) w) (y w) := by
  unfold dot
  rw [ls_two (a := k) (b := w) (by omega) (by omega) (by omega) (fun j hj h1 h2 => by rw [hu j (by omega) k hk, if_neg (fun e => h1 e.symm), zero_gmul]), hu k hkw k hk, if_pos rfl, one_gmul]
theorem dot_low {R : List (List UInt8)} {w k : Nat} (hu : Uni R w) (hk : k < R.length) (hkw : w ≤ k) (y : Nat → UInt8) : dot (rw_ R k) y (w + 1) = gmul (wd (rw_ R k) w) (y w) := by
  unfold dot
  rw [ls_single (k := w) (by omega) (fun j hj h1 => by rw [hu j (by omega) k hk, if_neg (by omega), zero_gmul])]
theorem wd_out {R : List (List UInt8)} {w k : Nat} (hkw : k < w) (hk : k < R.length) : wd (outR R w) k = wd (rw_ R k) w := by
  refine wd_some ?_
  unfold outR
  rw [List.getElem?_map, List.getElem?_take, if_pos hkw, rw_lt hk]
  rfl
theorem bad_false {R : List (List UInt8)} {w : Nat} : badR R w = false ↔ ∀ k, k < R.length → w ≤ k → wd (rw_ R k) w = 0 := by
  unfold badR
  rw [List.any_eq_false]
  constructor
  · intro h k hk hw
    have := h (rw_ R k) (by
      rw [List.mem_iff_getElem?]
      exact ⟨k - w, by rw [List.getElem?_drop, show w + (k - w) = k by omega]; exact rw_lt hk⟩)
    simpa using this
  · intro h r hr
    obtain ⟨i, hi⟩ := List.mem_iff_getElem?.1 hr
    rw [List.getElem?_drop] at hi
    have hlt : w + i < R.length := by
      rcases Nat.lt_or_ge (w + i) R.length with h1 | h1
      · exact h1
      · rw [List.getElem?_eq_none h1] at hi; cases hi
    have := h (w + i) hlt (by omega)
    rw [rw_some hi] at this
    simp [this]
/-- what is given back solves the equations -/
theorem solve_sound {rows : List (List UInt8)} {w : Nat} (hw : Wid rows (w + 1)) {x : List UInt8} (h : solve rows w = some x) : x.length = w ∧ Ker rows (w + 1) (fun j => if j = w then 1 else wd x j) := by
  unfold solve at h
  cases e : elim rows w with
  | none => rw [e] at h; cases h
  | some R =>
    rw [e] at h
    dsimp only at h
    cases hb : badR R w with
    | true => rw [hb, if_pos rfl] at h; cases h
    | false =>
      rw [hb, if_neg (by simp)] at h
      cases h
      have H := elim_ok hw w (Nat.le_refl _) R e
      have hl : w ≤ R.length := by rcases H.le with h | h <;> omega
      refine ⟨by unfold outR; rw [List.length_map, List.length_take]; omega, (H.ker _).1 fun k hk => ?_⟩
      rcases Nat.lt_or_ge k w with h1 | h1
      · rw [dot_unit H.uni hk h1]
        rw [if_neg (by omega), if_pos rfl, wd_out h1 hk, gmul_one, UInt8.xor_self]
      · rw [dot_low H.uni hk h1]
        rw [if_pos rfl, bad_false.1 hb k hk h1, zero_gmul]
/-- where there is just one solution, it is given back -/
theorem solve_one {rows : List (List UInt8)} {w : Nat} (hw : Wid rows (w + 1)) (hk : ∀ y, Ker rows (w + 1) y → y w = 0 → ∀ j, j < w → y j = 0) {y : Nat → UInt8} (hy : Ker rows (w + 1) y) (h1 : y w = 1) : ∃ x, solve rows w = some x ∧ x.length = w ∧ ∀ j, j < w → wd x j = y j := by
  obtain ⟨R, e⟩ := elim_some hw hk w (Nat.le_refl _)
  have H := elim_ok hw w (Nat.le_refl _) R e
  have hl : w ≤ R.length := by rcases H.le with h | h <;> omega
  have hyR := (H.ker y).2 hy
  have hb : badR R w = false := bad_false.2 fun k hk h => by
    have := hyR k hk
    rwa [dot_low H.uni hk h, h1, gmul_one] at this
  refine ⟨outR R w, by unfold solve; rw [e]; dsimp only; rw [hb, if_neg (by simp)], by unfold outR; rw [List.length_map, List.length_take]; omega, fun j hj => ?_⟩
  have := hyR j (by omega)
  rw [dot_unit H.uni (by omega) hj, h1, gmul_one] at this
  rw [wd_out hj (by omega)]
  exact (UInt8.xor_eq_zero_iff.1 this).symm
end Sy
end Go.Proofs.YtdjfbbfbdgiblaaGreatDoor

namespace Go.Proofs.YtdjfbbfbdgiblaaGreatDoor
namespace Sy
open Gf Po
set_option linter.unusedVariables false
structure Bm where
  now : List UInt8
  old : List UInt8
  len : Nat
  gap : Nat
  last : UInt8
/-- the next value and what the recursion says of it: so many elements -/
def discTo (now s : List UInt8) (k : Nat) : Nat → UInt8
  | 0 => 0
  | j + 1 => if j ≤ k then discTo now s k j ^^^ gmul (wd now j) (wd s (k - j)) else discTo now s k j
def disc (now s : List UInt8) (k : Nat) : UInt8 := discTo now s k now.length
def nextR (now old : List UInt8) (gap : Nat) (t : UInt8) : List UInt8 := addAt (now ++ List.replicate (gap + old.length - now.length) 0) old t gap
def bmStep (s : List UInt8) (k : Nat) (b : Bm) : Bm :=
  if disc b.now s k = 0 then { b with gap := b.gap + 1 }
  else if k < 2 * b.len then { b with now := nextR b.now b.old b.gap (gmul (disc b.now s k) (ginv b.last)), gap := b.gap + 1 }
  else ⟨nextR b.now b.old b.gap (gmul (disc b.now s k) (ginv b.last)), b.now, k + 1 - b.len, 1, disc b.now s k⟩
def bm (s : List UInt8) : Nat → Bm
  | 0 => ⟨[1], [1], 0, 1, 1⟩
  | k + 1 => bmStep s k (bm s k)
def fitR (l : List UInt8) (n : Nat) : List UInt8 := (l ++ List.replicate (n + 1 - l.length) 0).take (n + 1)
def shortest (s : List UInt8) : List UInt8 := fitR (bm s s.length).now (bm s s.length).len
theorem discTo_sum (now s : List UInt8) (k : Nat) : ∀ j, discTo now s k j = sumX (fun i => if i ≤ k then gmul (co now i) (co s (k - i)) else 0) j := by
  intro j
  induction j with
  | zero => rfl
  | succ j ih =>
    show (if j ≤ k then _ else _) = sumX _ j ^^^ (if j ≤ k then _ else _)
    rw [ih]
    by_cases h : j ≤ k
    · rw [if_pos h, if_pos h]; rfl
    · rw [if_neg h, if_neg h, UInt8.xor_zero]
theorem sumX_to (f : Nat → UInt8) (a b : Nat) (h1 : ∀ i, a ≤ i → i < b → f i = 0) (h2 : ∀ i, b ≤ i → i < a → f i = 0) : sumX f a = sumX f b := by
  rcases Nat.le_total a b with h | h
  · exact (sumX_split f a b h h1).symm
  · exact sumX_split f b a h h2
theorem disc_cv (now s : List UInt8) (k : Nat) : disc now s k = cv (co now) (co s) k := by
  unfold disc
  rw [discTo_sum]
  unfold cv
  rw [sumX_to _ _ (k + 1) (fun i h1 h2 => by rw [if_pos (by omega), co_big now i h1, zero_gmul]) (fun i h1 h2 => if_neg (by omega))]
  exact sumX_congr fun i hi => if_pos (by omega)
theorem co_padR (l : List UInt8) (n i : Nat) : co (l ++ List.replicate n 0) i = co l i := by
  rcases Nat.lt_or_ge i l.length with h | h
  · exact wd_left h
  · have := wd_right l (List.replicate n 0) (i - l.length)
    rw [show l.length + (i - l.length) = i by omega] at this
    rw [co_big l i h]
    exact this.trans (co_replicate n _)
theorem nextR_length (now old : List UInt8) (gap : Nat) (t : UInt8) : (nextR now old gap t).length = max now.length (gap + old.length) := by
  unfold nextR
  rw [addAt_length, List.length_append, List.length_replicate]
  omega
theorem co_nextR (now old : List UInt8) (gap : Nat) (t : UInt8) (i : Nat) : co (nextR now old gap t) i = co now i ^^^ gmul t (if gap ≤ i then co old (i - gap) else 0) := by
  unfold nextR
  rw [co_addAt _ _ _ _ (by rw [List.length_append, List.length_replicate]; omega), co_padR]
  congr 1
  split
  · rfl
  · rw [gmul_zero]
theorem cv_late (f s : Nat → UInt8) : ∀ g n, cv (fun i => if g ≤ i then f (i - g) else 0) s n = if g ≤ n then cv f s (n - g) else 0 := by
  intro g
  induction g with
  | zero => intro n; rw [if_pos (Nat.zero_le _)]; exact cv_congr (fun i => by rw [if_pos (Nat.zero_le _)]; rfl) (fun _ => rfl) n
  | succ g ih =>
    intro n
    have e : cv (fun i => if g + 1 ≤ i then f (i - (g + 1)) else 0) s n = cv (shift (fun i => if g ≤ i then f (i - g) else 0)) s n := cv_congr (fun i => by
      cases i with
      | zero => rfl
      | succ i =>
        show _ = if g ≤ i then f (i - g) else 0
        by_cases h : g ≤ i
        · rw [if_pos (by omega), if_pos h, Nat.add_sub_add_right]
        · rw [if_neg (by omega), if_neg h]) (fun _ => rfl) n
    rw [e, cv_shift_left]
    cases n with
    | zero => rw [if_neg (by omega)]; rfl
    | succ n =>
      show cv _ s n = _
      rw [ih n]
      by_cases h : g ≤ n
      · rw [if_pos h, if_pos (by omega), Nat.add_sub_add_right]
      · rw [if_neg h, if_neg (by omega)]
theorem cv_nextR (now old s : List UInt8) (gap : Nat) (t : UInt8) (n : Nat) : cv (co (nextR now old gap t)) (co s) n = cv (co now) (co s) n ^^^ gmul t (if gap ≤ n then cv (co old) (co s) (n - gap) else 0) := by
  rw [cv_congr (co_nextR now old gap t) (fun _ => rfl), cv_add_left, cv_mul_left, cv_late]
/-- what holds behind k rounds -/
structure Bi (s : List UInt8) (k : Nat) (b : Bm) : Prop where
  le : b.len ≤ k
  one : co b.now 0 = 1
  deg : ∀ i, b.len < i → co b.now i = 0
  gen : ∀ j, b.len ≤ j → j < k → cv (co b.now) (co s) j = 0
  ne : b.last ≠ 0
  gp : 1 ≤ b.gap
  was : (b.len = 0 ∧ b.old = [1] ∧ b.gap = k + 1 ∧ b.last = 1) ∨ (b.gap ≤ k ∧ b.len ≤ k - b.gap + 1 ∧ (∀ i, k - b.gap + 1 - b.len < i → co b.old i = 0) ∧ (∀ j, k - b.gap + 1 - b.len ≤ j → j < k - b.gap → cv (co b.old) (co s) j = 0) ∧ cv (co b.old) (co s) (k - b.gap) = b.last)
  long : b.now.length ≤ k + 1 ∧ b.old.length + b.gap ≤ k + 2 ∧ 1 ≤ b.now.length ∧ 1 ≤ b.old.length
theorem bi_zero (s : List UInt8) : Bi s 0 (bm s 0) :=
  ⟨Nat.le_refl _, rfl, fun i hi => co_big [1] i (by have hi : 0 < i := hi; show 1 ≤ i; omega), fun j _ h => by omega, one_ne, Nat.le_refl _, .inl ⟨rfl, rfl, rfl, rfl⟩, by simp [bm]⟩
theorem bi_step {s : List UInt8} {k : Nat} {b : Bm} (h : Bi s k b) : Bi s (k + 1) (bmStep s k b) := by
  have hd := disc_cv b.now s k
  unfold bmStep
  by_cases h0 : disc b.now s k = 0
  · rw [if_pos h0]
    refine ⟨by have := h.le; show b.len ≤ k + 1; omega, h.one, h.deg, fun j h1 h2 => ?_, h.ne, by show 1 ≤ b.gap + 1; omega, ?_, by have := h.long; simp only; omega⟩
    · rcases Nat.lt_or_ge j k with h3 | h3
      · exact h.gen j h1 h3
      · rw [show j = k by omega, ← hd]; exact h0
    · rcases h.was with ⟨a1, a2, a3, a4⟩ | ⟨a1, a2, a3, a4, a5⟩
      · exact .inl ⟨a1, a2, by show b.gap + 1 = _; omega, a4⟩
      · refine .inr ?_
        show b.gap + 1 ≤ k + 1 ∧ _
        simp only [Nat.add_sub_add_right]
        exact ⟨by omega, a2, a3, a4, a5⟩
  · rw [if_neg h0]
    have hg := h.gp
    have e0 : co (nextR b.now b.old b.gap (gmul (disc b.now s k) (ginv b.last))) 0 = 1 := by
      rw [co_nextR, if_neg (by omega), gmul_zero, UInt8.xor_zero, h.one]
    have ek : b.gap ≤ k → cv (co (nextR b.now b.old b.gap (gmul (disc b.now s k) (ginv b.last)))) (co s) k = 0 := by
      intro a1
      rw [cv_nextR]
      rcases h.was with ⟨b1, b2, b3, b4⟩ | ⟨_, a2, a3, a4, a5⟩
      · omega
      · rw [if_pos a1, a5, gmul_assoc, ginv_mul _ h.ne, gmul_one, ← hd, UInt8.xor_self]
    have hlong := h.long
    by_cases h1 : k < 2 * b.len
    · rw [if_pos h1]
      rcases h.was with ⟨a1, _⟩ | ⟨a1, a2, a3, a4, a5⟩
      · omega
      · refine ⟨by have := h.le; show b.len ≤ k + 1; omega, e0, fun i hi => ?_, fun j h2 h3 => ?_, h.ne, by show 1 ≤ b.gap + 1; omega, .inr ?_, ?_⟩
        · have hi : b.len < i := hi
          rw [co_nextR, h.deg i hi, UInt8.zero_xor]
          by_cases h4 : b.gap ≤ i
          · rw [if_pos h4, a3 (i - b.gap) (by omega), gmul_zero]
          · rw [if_neg h4, gmul_zero]
        · have h2 : b.len ≤ j := h2
          rcases Nat.lt_or_ge j k with h4 | h4
          · rw [cv_nextR, h.gen j h2 h4, UInt8.zero_xor]
            by_cases h5 : b.gap ≤ j
            · rw [if_pos h5, a4 (j - b.gap) (by omega) (by omega), gmul_zero]
            · rw [if_neg h5, gmul_zero]
          · rw [show j = k by omega]; exact ek a1
        · show b.gap + 1 ≤ k + 1 ∧ _
          simp only [Nat.add_sub_add_right]
          exact ⟨by omega, a2, a3, a4, a5⟩
        · simp only [nextR_length]
          omega
    · rw [if_neg h1]
      have hle := h.le
      refine ⟨by show k + 1 - b.len ≤ k + 1; omega, e0, fun i hi => ?_, fun j h2 h3 => ?_, h0, Nat.le_refl _, .inr ?_, ?_⟩
      · have hi : k + 1 - b.len < i := hi
        rw [co_nextR, h.deg i (by omega), UInt8.zero_xor]
        by_cases h4 : b.gap ≤ i
        · rw [if_pos h4]
          rcases h.was with ⟨a1, a2, a3', a4'⟩ | ⟨a1, a2, a3, a4, a5⟩
          · rw [a2, co_big [1] _ (by simp; omega), gmul_zero]
          · rw [a3 (i - b.gap) (by omega), gmul_zero]
        · rw [if_neg h4, gmul_zero]
      · have h2 : k + 1 - b.len ≤ j := h2
        rcases Nat.lt_or_ge j k with h4 | h4
        · rw [cv_nextR, h.gen j (by omega) h4, UInt8.zero_xor]
          rcases h.was with ⟨a1, _⟩ | ⟨a1, a2, a3, a4, a5⟩
          · omega
          · by_cases h5 : b.gap ≤ j
            · rw [if_pos h5, a4 (j - b.gap) (by omega) (by omega), gmul_zero]
            · rw [if_neg h5, gmul_zero]
        · have e : j = k := by omega
          rw [e]
          refine ek ?_
          rcases h.was with ⟨a1, _⟩ | ⟨a1, _⟩
          · omega
          · exact a1
      · show 1 ≤ k + 1 ∧ _
        simp only [Nat.add_sub_cancel]
        refine ⟨by omega, by omega, fun i hi => h.deg i (by omega), fun j h2 h3 => h.gen j (by omega) h3, hd.symm⟩
      · simp only [nextR_length]
        omega
theorem bi_all (s : List UInt8) : ∀ k, Bi s k (bm s k)
  | 0 => bi_zero s
  | k + 1 => bi_step (bi_all s k)
/-- no recursion of less than this length makes the list -/
theorem bm_min (s : List UInt8) (lam : List UInt8) (v K : Nat) (h1 : co lam 0 = 1) (hd : ∀ i, v < i → co lam i = 0) (hg : ∀ j, v ≤ j → j < K → cv (co lam) (co s) j = 0) : ∀ k, k ≤ K → (bm s k).len ≤ v := by
  intro k
  induction k with
  | zero => exact fun _ => Nat.zero_le _
  | succ k ih =>
    intro hk
    have h := bi_all s k
    have hl := ih (by omega)
    show (bmStep s k (bm s k)).len ≤ v
    unfold bmStep
    by_cases h0 : disc (bm s k).now s k = 0
    · rw [if_pos h0]; exact hl
    · rw [if_neg h0]
      by_cases h2 : k < 2 * (bm s k).len
      · rw [if_pos h2]; exact hl
      · rw [if_neg h2]
        show k + 1 - (bm s k).len ≤ v
        rcases Nat.lt_or_ge v (k + 1 - (bm s k).len) with h3 | h3
        · exfalso
          apply h0
          rw [disc_cv]
          have e1 : cv (co (bm s k).now) (cv (co lam) (co s)) k = 0 := by
            unfold cv
            rw [sumX_congr (g := fun _ => 0) (fun i hi => ?_), sumX_zero]
            rcases Nat.lt_or_ge (bm s k).len i with h4 | h4
            · rw [h.deg i h4, zero_gmul]
            · have : sumX (fun i_1 => gmul (co lam i_1) (co s (k - i - i_1))) (k - i + 1) = 0 := hg (k - i) (by omega) (by omega)
              rw [this, gmul_zero]
          have e2 : cv (co (bm s k).now) (cv (co lam) (co s)) k = cv (co lam) (cv (co (bm s k).now) (co s)) k := by
            rw [cv_assoc, cv_assoc]
            exact cv_congr (fun i => cv_comm _ _ i) (fun _ => rfl) k
          have e3 : cv (co lam) (cv (co (bm s k).now) (co s)) k = cv (co (bm s k).now) (co s) k := by
            show sumX _ (k + 1) = _
            rw [sumX_single _ (k + 1) 0 (by omega) (fun i hi hne => ?_), Nat.sub_zero, h1, one_gmul]
            rcases Nat.lt_or_ge v i with h4 | h4
            · rw [hd i h4, zero_gmul]
            · rw [h.gen (k - i) (by omega) (by omega), gmul_zero]
          rw [← e3, ← e2, e1]
        · exact h3
end Sy
end Go.Proofs.YtdjfbbfbdgiblaaGreatDoor

namespace Go.Proofs.YtdjfbbfbdgiblaaGreatDoor
namespace Sy
open Gf Po
set_option linter.unusedVariables false
theorem ls_sumX (g : Nat → Nat → UInt8) (T : List Nat) : ∀ N, sumX (fun i => ls (g i) T) N = ls (fun t => sumX (fun i => g i t) N) T := by
  intro N
  induction N with
  | zero => exact (ls_zero fun _ _ => rfl).symm
  | succ N ih =>
    show sumX _ N ^^^ _ = _
    rw [ih, ← ls_add]
    rfl
/-- the value at 1 / x, times x^L -/
def rv (C : List UInt8) (L : Nat) (x : UInt8) : UInt8 := sumX (fun i => gmul (co C i) (gpow x (L - i))) (L + 1)
theorem gpow_inv {x : UInt8} (hx : x ≠ 0) (i : Nat) : gmul (gpow x i) (gpow (ginv x) i) = 1 := by
  rw [← mul_gpow, gmul_inv x hx, one_gpow]
theorem rv_eval {C : List UInt8} {L : Nat} (hl : C.length ≤ L + 1) {x : UInt8} (hx : x ≠ 0) : rv C L x = gmul (gpow x L) (Po.eval C (ginv x)) := by
  rw [← ev_co C (ginv x) (L + 1) hl]
  unfold ev' rv
  rw [← sumX_mul]
  refine sumX_congr fun i hi => ?_
  have e : gpow x L = gmul (gpow x (L - i)) (gpow x i) := by rw [← gpow_add]; congr 1; omega
  rw [e, gmul_comm (co C i) (gpow (ginv x) i), ← gmul_assoc, gmul_assoc (gpow x (L - i)), gpow_inv hx, gmul_one, gmul_comm]
theorem cv_rv {C U : List UInt8} {L M : Nat} {f X : Nat → UInt8} {T : List Nat} (hd : ∀ i, L < i → co C i = 0) (hU : ∀ k, k < M → co U k = ls (fun t => gmul (f t) (gpow (X t) k)) T) {j : Nat} (hL : L ≤ j) (hj : j < M) :
    cv (co C) (co U) j = ls (fun t => gmul (gmul (f t) (rv C L (X t))) (gpow (X t) (j - L))) T := by
  unfold cv
  rw [sumX_to _ (j + 1) (L + 1) (fun i h1 h2 => by omega) (fun i h1 h2 => by rw [hd i (by omega), zero_gmul])]
  rw [sumX_congr (g := fun i => ls (fun t => gmul (gmul (f t) (gpow (X t) (j - L))) (gmul (co C i) (gpow (X t) (L - i)))) T) (fun i hi => by
    rw [hU (j - i) (by omega), ← ls_mul]
    refine ls_congr fun t _ => ?_
    rw [show j - i = (j - L) + (L - i) by omega, gpow_add, ← gmul_assoc (f t), gmul_comm (co C i), gmul_assoc, gmul_comm (gpow (X t) (L - i))]), ls_sumX]
  refine ls_congr fun t _ => ?_
  rw [sumX_mul]
  show gmul (gmul (f t) (gpow (X t) (j - L))) (rv C L (X t)) = _
  rw [gmul_assoc, gmul_comm (gpow _ _), ← gmul_assoc]
/-- the polynomial with these roots turned -/
def lam (X : Nat → UInt8) : List Nat → List UInt8
  | [] => [1]
  | p :: ps => mulV (lam X ps) [1, X p]
theorem lam_len (X : Nat → UInt8) : ∀ ps, (lam X ps).length = ps.length + 1 := by
  intro ps
  induction ps with
  | nil => rfl
  | cons p ps ih =>
    show (mulV (lam X ps) [1, X p]).length = _
    rw [mulV_pos _ _ (by omega) (by simp)]
    unfold mulA
    rw [mulTo_length, ih]
    simp
theorem lam_zero (X : Nat → UInt8) : ∀ ps, co (lam X ps) 0 = 1 := by
  intro ps
  induction ps with
  | nil => rfl
  | cons p ps ih =>
    show co (mulV (lam X ps) [1, X p]) 0 = 1
    rw [co_mulV]
    show 0 ^^^ gmul (co (lam X ps) 0) 1 = 1
    rw [ih, gmul_one]; rfl
theorem lam_root (X : Nat → UInt8) : ∀ ps, ∀ p ∈ ps, X p ≠ 0 → Po.eval (lam X ps) (ginv (X p)) = 0 := by
  intro ps
  induction ps with
  | nil => intro p hp; cases hp
  | cons q ps ih =>
    intro p hp hx
    show Po.eval (mulV (lam X ps) [1, X q]) _ = 0
    rw [eval_mulV]
    rcases List.mem_cons.1 hp with rfl | hp
    · have : Po.eval [1, X p] (ginv (X p)) = 0 := by
        rw [eval_cons, eval_cons, eval_nil, zero_gmul, UInt8.zero_xor, gmul_inv _ hx, UInt8.xor_self]
      rw [this, gmul_zero]
    · rw [ih p hp hx, zero_gmul]
theorem fitR_length (l : List UInt8) (n : Nat) : (fitR l n).length = n + 1 := by
  unfold fitR
  rw [List.length_take, List.length_append, List.length_replicate]
  omega
theorem co_fitR (l : List UInt8) (n i : Nat) (h : ∀ i, n < i → co l i = 0) : co (fitR l n) i = co l i := by
  unfold fitR
  rw [co_take]
  rcases Nat.lt_or_ge i (n + 1) with h1 | h1
  · rw [if_pos h1, co_padR]
  · rw [if_neg (by omega), h i (by omega)]
def rootAt (sg : List UInt8) (n p : Nat) : Bool := Po.eval sg (ginv (loc n p)) == 0
theorem ginv_inj {a b : UInt8} (ha : a ≠ 0) (hb : b ≠ 0) (h : ginv a = ginv b) : a = b := by
  have e1 := gmul_inv a ha
  have e2 := ginv_mul b hb
  rw [h] at e1
  have : gmul (gmul a (ginv b)) b = b := by rw [e1, one_gmul]
  rw [gmul_assoc, e2, gmul_one] at this
  exact this
theorem nodup_roots {n : Nat} (hn : n ≤ 255) {P : List Nat} (hP : P.Nodup) (hlt : ∀ p ∈ P, p < n) : (P.map fun p => ginv (loc n p)).Nodup := by
  rw [List.Nodup, List.pairwise_map]
  refine List.Pairwise.imp_of_mem ?_ hP
  intro a b ha hb hab e
  exact hab (loc_inj hn (hlt a ha) (hlt b hb) (ginv_inj (loc_ne _ _) (loc_ne _ _) e))
/-- a polynomial with the value 1 at 0 has no more roots than its degree -/
theorem root_count {n : Nat} (hn : n ≤ 255) {sg : List UInt8} {L : Nat} (hl : sg.length = L + 1) (hL : L ≤ 254) (h1 : co sg 0 = 1) {P : List Nat} (hP : P.Nodup) (hlt : ∀ p ∈ P, p < n) (hr : ∀ p ∈ P, rootAt sg n p = true) : P.length ≤ L := by
  have hpos : 0 < (trim sg).length := by
    rcases Nat.eq_zero_or_pos (trim sg).length with h | h
    · have := co_trim sg 0
      rw [co_big _ 0 (by omega), h1] at this
      exact absurd this.symm one_ne
    · exact h
  have hle : (trim sg).length ≤ L + 1 := by rw [trim_length, hl]; exact tl_le _ _
  have := roots_lt _ (trim sg) (P.map fun p => ginv (loc n p)) rfl (trim_vld _ (by omega)) hpos (nodup_roots hn hP hlt) (fun r hr' => by
    obtain ⟨p, hp, rfl⟩ := List.mem_map.1 hr'
    rw [eval_ext _ _ (co_trim sg)]
    simpa [rootAt] using hr p hp)
  rw [List.length_map] at this
  omega
theorem shortest_ok (U : List UInt8) : (shortest U).length = (bm U U.length).len + 1 ∧ (∀ i, co (shortest U) i = co (bm U U.length).now i) ∧ co (shortest U) 0 = 1 := by
  have h := bi_all U U.length
  have e : ∀ i, co (shortest U) i = co (bm U U.length).now i := fun i => co_fitR _ _ i h.deg
  exact ⟨fitR_length _ _, e, by rw [e, h.one]⟩
theorem shortest_le (U : List UInt8) : (shortest U).length ≤ U.length + 1 := by
  have := (bi_all U U.length).le
  rw [(shortest_ok U).1]
  omega
/-- the shortest recursion of the sums has just the places as roots -/
theorem shortest_roots {n M : Nat} (hn : n ≤ 255) {U : List UInt8} (hM : U.length = M) {f : Nat → UInt8} {T : List Nat} (hT : T.Nodup) (hlt : ∀ p ∈ T, p < n) (hf : ∀ p ∈ T, f p ≠ 0) (hU : ∀ k, k < M → wd U k = ls (fun t => gmul (f t) (gpow (loc n t) k)) T) (h2 : 2 * T.length ≤ M) (hM2 : M ≤ 254) :
    (shortest U).length = T.length + 1 ∧ ∀ p, p < n → (rootAt (shortest U) n p = true ↔ p ∈ T) := by
  have hB := bi_all U U.length
  obtain ⟨s1, s2, s3⟩ := shortest_ok U
  have hU' : ∀ k, k < M → co U k = ls (fun t => gmul (f t) (gpow (loc n t) k)) T := hU
  have hmin : (bm U U.length).len ≤ T.length := by
    refine bm_min U (lam (loc n) T) T.length M (lam_zero _ _) (fun i hi => co_big _ _ (by rw [lam_len]; omega)) (fun j h3 h4 => ?_) U.length (by omega)
    rw [cv_rv (L := T.length) (fun i hi => co_big _ _ (by rw [lam_len]; omega)) hU' h3 h4]
    refine ls_zero fun t ht => ?_
    rw [rv_eval (by rw [lam_len]; exact Nat.le_refl _) (loc_ne n t), lam_root (loc n) T t ht (loc_ne n t), gmul_zero, gmul_zero, zero_gmul]
  generalize hL : (bm U U.length).len = L at *
  have hroots : ∀ t ∈ T, rootAt (shortest U) n t = true := by
    have hv := vand (loc n) T (fun t => gmul (f t) (rv (shortest U) L (loc n t))) (List.Pairwise.imp_of_mem (fun {a b} ha hb hab e => hab (loc_inj hn (hlt a ha) (hlt b hb) e)) hT) (fun k hk => by
      have e := cv_rv (C := shortest U) (L := L) (fun i hi => by rw [s2, hB.deg i (by omega)]) hU' (j := L + k) (by omega) (by omega)
      rw [Nat.add_sub_cancel_left] at e
      rw [← e, cv_congr s2 (fun _ => rfl)]
      exact hB.gen (L + k) (by omega) (by omega))
    intro t ht
    rcases (gmul_eq_zero _ _).1 (hv t ht) with h | h
    · exact absurd h (hf t ht)
    · rw [rv_eval (by omega) (loc_ne n t)] at h
      rcases (gmul_eq_zero _ _).1 h with h | h
      · exact absurd h (gpow_ne _ (loc_ne n t) _)
      · unfold rootAt; rw [h]; rfl
  have hle := root_count hn s1 (by omega) s3 hT hlt hroots
  have hLT : L = T.length := by omega
  refine ⟨by rw [s1, hLT], fun p hp => ⟨fun h => ?_, hroots p⟩⟩
  by_cases hm : p ∈ T
  · exact hm
  · exfalso
    have := root_count hn s1 (by omega) s3 (P := p :: T) (List.nodup_cons.2 ⟨hm, hT⟩) (fun q hq => by
      rcases List.mem_cons.1 hq with rfl | hq
      · exact hp
      · exact hlt q hq) (fun q hq => by
      rcases List.mem_cons.1 hq with rfl | hq
      · exact h
      · exact hroots q hq)
    simp at this
    omega
end Sy
end Go.Proofs.YtdjfbbfbdgiblaaGreatDoor

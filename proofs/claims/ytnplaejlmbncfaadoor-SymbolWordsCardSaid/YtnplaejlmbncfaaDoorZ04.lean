/- NatA Np NatD NatE NatF NatS NatH NatJ NatT RegInv NatM Om Ox -/
import Derived.Test.YtnplaejlmbncfaaDoorZ01
import Derived.Test.YtnplaejlmbncfaaDoorZ03
import Derived.Test.YtnplaejlmbncfaaDoorChecked
import Derived.Outline
import Derived.RangeFuncNested
import Derived.RangeFuncBound
import Derived.RangeFuncCalls
import Derived.RangeFuncLeaves
import Derived.RangeFuncBox
import Derived.RangeFuncWrites
import Derived.Shelf.Abstract
import Derived.Shelf.RegionOpen
import Derived.WalkKit
import Derived.OwnWalkIn
import Derived.TacticsInMore
import Derived.LoopNIn
import Derived.LoopIn
import Derived.StillTailTactics
import Derived.Deep.QuietTactic
import Derived.BigQuiet
import Derived.Deep.Cut
import Derived.RegionIn
import Derived.Lib.IndexBytes
import Derived.Lib.BufferRead
import Derived.RegionTactic
import Derived.ChangeAlike
import Derived.Deep.RegionWith
import Derived.StillTail
import Derived.Lib.QuietBelow
namespace Go.Proofs.YtnplaejlmbncfaaDoor
open Go.RowKit
set_option linter.unusedVariables false
set_option maxRecDepth 100000

/-- limbs as values -/
def encN (n : Nat) : Value := .int .i64 (n : Int)
def nats (l : List Nat) : List Value := l.map encN
theorem nats_length (l : List Nat) : (nats l).length = l.length := List.length_map _
theorem nats_one (l : List Nat) : ∀ u ∈ nats l, u.oneCell' = true := by
  intro u hu
  obtain ⟨b, _, rfl⟩ := List.mem_map.1 hu
  rfl
theorem nats_snoc (l : List Nat) (b : Nat) : nats l ++ [.int .i64 (b : Int)] = nats (l ++ [b]) := by simp [nats, encN]
theorem nats_set (l : List Nat) (k b : Nat) : (nats l).set k (.int .i64 (b : Int)) = nats (l.set k b) := by unfold nats; rw [List.map_set]; rfl
theorem get_lt {α : Type} {l : List α} {k : Nat} {b : α} (hk : l[k]? = some b) : k < l.length := by
  rcases Nat.lt_or_ge k l.length with h | h
  · exact h
  · rw [List.getElem?_eq_none h] at hk; cases hk
theorem infoI : (Tryd.prog.info? 3).map (fun i => (i.zero, i.size, i.bytes)) = some (some (.int .i64 0), 1, 8) := by kernel_rfl
/-- what a call leaves that hands back limbs alone -/
def FreshN (w : World) (l : List Nat) (en : Ending) (w' : World) : Prop :=
  ∃ (A : Option Addr) (n c : Nat), en = .returned (.slice A n c) ∧ l.length = n ∧ w'.ownsRow w.heap.size 3 1 (.slice A n c) n (nats l) ∧ Below w.heap.size w w'
namespace Na
theorem vld_nil : vld [] = true := by rfl
end Na
theorem own_box1 (w : World) (o : Obj) : Below w.heap.size w (w.alloc o) := (Below.refl _ _).alloc (Nat.le_refl _) _
def resE (x : Nat) : Int := if x < Na.top then 0 else 3
theorem grown_set (w : World) (a : Addr) (v : Value) : w.grownBy (w.setCell a v) (some a.block) := ⟨rfl, rfl, rfl, by simp [World.setCell], fun i hi hne => Below.heap_setCell _ _ _ _ (fun e => hne (by rw [e]))⟩
theorem cell_of_set {w : World} {a : Addr} {u : Value} (v : Value) (h : w.cell? a = some u) : (w.setCell a v).cell? a = some v := World.cell?_setCell_same' _ _ _ (by rw [h]; rfl)
end Go.Proofs.YtnplaejlmbncfaaDoor

namespace Go.Proofs.YtnplaejlmbncfaaDoor
set_option linter.unusedVariables false
namespace Na
/-- limb k, 0 behind the last one -/
def at0 (l : List Nat) (k : Nat) : Nat := l[k]?.getD 0
end Na
end Go.Proofs.YtnplaejlmbncfaaDoor

namespace Go.Proofs.YtnplaejlmbncfaaDoor
set_option linter.unusedVariables false
namespace Na
end Na
end Go.Proofs.YtnplaejlmbncfaaDoor

namespace Go.Proofs.YtnplaejlmbncfaaDoor
set_option linter.unusedVariables false
namespace De
/-- the number of some digits -/
def val : List Nat → Nat
  | [] => 0
  | a :: l => a + 10 * val l
/-- digits are small -/
def Lim (l : List Nat) : Prop := ∀ a ∈ l, a < 10
theorem Lim.tail {a : Nat} {l : List Nat} (h : Lim (a :: l)) : Lim l := fun b hb => h b (List.mem_cons_of_mem _ hb)
theorem Lim.head {a : Nat} {l : List Nat} (h : Lim (a :: l)) : a < 10 := h a (List.mem_cons_self ..)
theorem Lim.at {l : List Nat} (h : Lim l) {k a : Nat} (hk : l[k]? = some a) : a < 10 := h a (List.mem_of_getElem? hk)
theorem Lim.nil : Lim [] := fun a h => by cases h
theorem Lim.cons {a : Nat} {l : List Nat} (h : a < 10) (hl : Lim l) : Lim (a :: l) := fun b hb => by
  rcases List.mem_cons.1 hb with rfl | hb
  · exact h
  · exact hl b hb
theorem Lim.append {l m : List Nat} (h : Lim l) (hm : Lim m) : Lim (l ++ m) := fun b hb => by
  rcases List.mem_append.1 hb with hb | hb
  · exact h b hb
  · exact hm b hb
theorem Lim.one {a : Nat} (h : a < 10) : Lim [a] := Lim.cons h Lim.nil
theorem Lim.take {l : List Nat} (h : Lim l) (k : Nat) : Lim (l.take k) := fun b hb => h b (List.mem_of_mem_take hb)
theorem Lim.drop {l : List Nat} (h : Lim l) (k : Nat) : Lim (l.drop k) := fun b hb => h b (List.mem_of_mem_drop hb)
theorem Lim.set {l : List Nat} (h : Lim l) (k : Nat) {a : Nat} (ha : a < 10) : Lim (l.set k a) := fun b hb => by
  rcases List.mem_or_eq_of_mem_set hb with hb | rfl
  · exact h b hb
  · exact ha
theorem Lim.zeros (n : Nat) : Lim (List.replicate n 0) := fun b hb => by
  have := List.eq_of_mem_replicate hb
  omega
/-- the length without zeros at the end -/
def tl (l : List Nat) : Nat → Nat
  | 0 => 0
  | n + 1 => if l[n]? = some 0 then tl l n else n + 1
theorem tl_le (l : List Nat) : ∀ n, tl l n ≤ n := by
  intro n
  induction n with
  | zero => exact Nat.le_refl _
  | succ n ih =>
    unfold tl
    split
    · omega
    · exact Nat.le_refl _
theorem tl_zero (l : List Nat) (n : Nat) (h : l[n]? = some 0) : tl l (n + 1) = tl l n := by rw [tl, if_pos h]
theorem tl_stop (l : List Nat) (n : Nat) (h : l[n]? ≠ some 0) : tl l (n + 1) = n + 1 := by rw [tl, if_neg h]
theorem tl_last (l : List Nat) : ∀ n, tl l n = 0 ∨ l[tl l n - 1]? ≠ some 0 := by
  intro n
  induction n with
  | zero => exact .inl rfl
  | succ n ih =>
    by_cases h : l[n]? = some 0
    · rw [tl_zero l n h]
      exact ih
    · rw [tl_stop l n h]
      exact .inr h
def trim (l : List Nat) : List Nat := l.take (tl l l.length)
theorem trim_length (l : List Nat) : (trim l).length = tl l l.length := by
  unfold trim
  rw [List.length_take]
  have := tl_le l l.length
  omega
/-- a digit as a letter -/
def asc (d : Nat) : UInt8 := UInt8.ofNat (48 + d)
/-- without zeros in front -/
def strip : List UInt8 → List UInt8
  | [] => []
  | c :: l => if c = 48 then strip l else c :: l
end De
end Go.Proofs.YtnplaejlmbncfaaDoor

namespace Go.Proofs.YtnplaejlmbncfaaDoor
open Go.RowKit
set_option linter.unusedVariables false
set_option maxRecDepth 100000
theorem nclone_any (A : Option Addr) (n c B : Nat) (l : List Nat) (w : World) (hn : l.length = n) (hs : Sl w B A (nats l)) (hB : B ≤ w.heap.size) (hl : n ≤ 17592186044416) :
    Calls Tryd.prog 47 #[.slice A n c] w (FreshN w l) := by
  obtain ⟨i0, hi, hz0, hz1, hz2⟩ := info_parts infoI
  cases A with
  | none =>
    have h0 : n = 0 := by
      rcases Nat.eq_zero_or_pos n with h | h
      · exact h
      · obtain ⟨ad, h, _⟩ := hs (by rw [nats_length]; omega)
        cases h
    subst h0
    have hl0 : l = [] := List.eq_nil_of_length_eq_zero hn
    subst hl0
    have heq := fun w => Lib.run_eql_slice_nil (P := Tryd.prog) w 22 3 none 0 c 0 0 Tryd.underlying22
    clear hs hn
    go_enter Tryd.func47, Tryd.ntmps47
    go_wp2_with fail
    go_ret
    exact ⟨none, 0, 0, rfl, rfl, World.ownsRow_nil _ _ _ _, Below.refl _ _⟩
  | some ad =>
    have heq := fun w => Lib.run_eql_slice_nil (P := Tryd.prog) w 22 3 (some ad) n c 0 0 Tryd.underlying22
    have HN := Lib.hid ((nats_length l).trans hn)
    have HN2 := Lib.hid hn
    have hbw := (Below.refl w.heap.size w).alloc (Nat.le_refl _) (.cells #[] 3)
    have HS : Hid (Sl (w.alloc (.cells #[] 3)) B (some ad) (nats l)) := hs.alloc hB _
    have HO := Lib.hid (own_empty w 3)
    clear hn hs
    go_enter Tryd.func47, Tryd.ntmps47
    go_wp2_with (at_builtin; refine wpList_append_sl _ rfl (.tmp 5) (.tmp 6) 22 rfl w.heap.size 3 i0 (.int .i64 0) 8 Tryd.underlying22 hi hz0 hz1 hz2 rfl _ _ _ _ rfl HO.out B _ _ _ _ rfl HN.out HS.out (nats_one l) (by unfold maxLen; omega) (by omega) (by simp) ?_; intro A' c' w1 hown hgrow hblk)
    go_ret
    rw [Nat.zero_add] at hown
    exact ⟨_, _, _, rfl, HN2.out, hown, hbw.grown hgrow (by simp) (fun g hg => by cases hg; exact Nat.le_refl _)⟩
/-- what a sum of two lists is -/
def num (zs : List Int) : Nat := Na.val (zs.map Int.toNat)
end Go.Proofs.YtnplaejlmbncfaaDoor

namespace Go.Proofs.YtnplaejlmbncfaaDoor
open Go.RowKit
set_option linter.unusedVariables false
set_option maxRecDepth 100000
theorem own_put {W : World} {base n c g : Nat} {e : TypeId} {xs : List Value} (h : W.ownsRow base e 1 (.slice (some ⟨g, 0, none⟩) n c) n xs) (k : Nat) (v : Value) : (W.setCell ⟨g, k, none⟩ v).ownsRow base e 1 (.slice (some ⟨g, 0, none⟩) n c) n (xs.set k v) := (h.stored k v).1

end Go.Proofs.YtnplaejlmbncfaaDoor

namespace Go.Proofs.YtnplaejlmbncfaaDoor
open Go.RowKit
set_option linter.unusedVariables false
set_option maxRecDepth 100000
def mulE (zs ys : List Int) : Int := if Na.vld zs && Na.vld ys then resE (num zs * num ys) else 1
end Go.Proofs.YtnplaejlmbncfaaDoor

namespace Go.Proofs.YtnplaejlmbncfaaDoor
open Go.RowKit Go.Shelf
attribute [local go_sem] Oper.semAt_some
set_option linter.unusedVariables false
set_option maxRecDepth 100000
namespace Na
end Na
theorem add_zero (b j : Nat) : (⟨b, 0, none⟩ : Addr).add j = ⟨b, j, none⟩ := by
  unfold Addr.add
  split
  · rename_i h
    rw [h]
  · simp
end Go.Proofs.YtnplaejlmbncfaaDoor

namespace Go.Proofs.YtnplaejlmbncfaaDoor
open Go.RowKit
set_option linter.unusedVariables false
set_option maxRecDepth 100000
namespace De
/-- so many places at both ends exchanged -/
def rv (l : List UInt8) (k : Nat) : List UInt8 := (l.reverse.take k) ++ ((l.drop k).take (l.length - 2 * k)) ++ (l.reverse.drop (l.length - k))
theorem rv_length (l : List UInt8) (k : Nat) (h : 2 * k ≤ l.length) : (rv l k).length = l.length := by
  unfold rv
  simp
  omega
theorem rv_get (l : List UInt8) (k i : Nat) (h : 2 * k ≤ l.length) (hi : i < l.length) : (rv l k)[i]? = if i < k ∨ l.length - k ≤ i then l[l.length - 1 - i]? else l[i]? := by
  unfold rv
  rcases Nat.lt_or_ge i k with h1 | h1
  · rw [if_pos (.inl h1), List.getElem?_append_left (by simp; omega), List.getElem?_append_left (by simp; omega), List.getElem?_take, if_pos h1, List.getElem?_reverse hi]
  · rcases Nat.lt_or_ge i (l.length - k) with h2 | h2
    · rw [if_neg (by omega), List.getElem?_append_left (by simp; omega), List.getElem?_append_right (by simp; omega), List.getElem?_take, if_pos (by simp; omega), List.getElem?_drop]
      congr 1
      simp
      omega
    · rw [if_pos (.inr h2), List.getElem?_append_right (by simp; omega), List.getElem?_drop, List.getElem?_reverse (by simp; omega)]
      congr 1
      simp
      omega
theorem rv_zero (l : List UInt8) : rv l 0 = l := by unfold rv; simp
theorem rv_next (l : List UInt8) (k : Nat) (a b : UInt8) (h : 2 * (k + 1) ≤ l.length) (ha : l[k]? = some a) (hb : l[l.length - 1 - k]? = some b) : ((rv l k).set k b).set (l.length - 1 - k) a = rv l (k + 1) := by
  apply List.ext_getElem?
  intro i
  rcases Nat.lt_or_ge i l.length with hi | hi
  · rw [rv_get l (k + 1) i h hi]
    by_cases h1 : i = l.length - 1 - k
    · subst h1
      rw [List.getElem?_set_self (by rw [List.length_set, rv_length l k (by omega)]; omega), if_pos (.inr (by omega)), show l.length - 1 - (l.length - 1 - k) = k by omega, ha]
    · rw [List.getElem?_set_ne (fun e => h1 e.symm)]
      by_cases h2 : i = k
      · subst h2
        rw [List.getElem?_set_self (by rw [rv_length l i (by omega)]; omega), if_pos (.inl (by omega)), hb]
      · rw [List.getElem?_set_ne (fun e => h2 e.symm), rv_get l k i (by omega) hi]
        by_cases h3 : i < k ∨ l.length - k ≤ i
        · rw [if_pos h3, if_pos (by omega)]
        · rw [if_neg h3, if_neg (by omega)]
  · rw [List.getElem?_eq_none (by rw [List.length_set, List.length_set, rv_length l k (by omega)]; exact hi), List.getElem?_eq_none (by rw [rv_length l (k + 1) h]; exact hi)]
theorem rv_end (l : List UInt8) (k : Nat) (h : 2 * k ≤ l.length) (h2 : l.length ≤ 2 * k + 1) : rv l k = l.reverse := by
  apply List.ext_getElem?
  intro i
  rcases Nat.lt_or_ge i l.length with hi | hi
  · rw [rv_get l k i h hi, List.getElem?_reverse hi]
    by_cases h3 : i < k ∨ l.length - k ≤ i
    · rw [if_pos h3]
    · rw [if_neg h3, show l.length - 1 - i = i by omega]
  · rw [List.getElem?_eq_none (by rw [rv_length l k h]; exact hi), List.getElem?_eq_none (by simp; exact hi)]
end De
theorem bys_set (l : List UInt8) (k : Nat) (b : UInt8) : (bys l).set k (.int .u8 (b.toNat : Int)) = bys (l.set k b) := by unfold bys; rw [List.map_set]; rfl
set_option maxHeartbeats 2000000 in
theorem reverse_any (A : Option Addr) (n c base : Nat) (l : List UInt8) (w : World) (hn : l.length = n) (ho : w.ownsRow base 5 1 (.slice A n c) n (bys l)) (hl : n ≤ 140737488355328) (hbase : base ≤ w.heap.size) :
    Calls Tryd.prog 21 #[.slice A n c] w fun e w' => e = .returned (.tuple #[]) ∧ w'.ownsRow base 5 1 (.slice A n c) n (bys l.reverse) ∧ Below base w w' := by
  have HN := Lib.hid hn
  have HO0 := Lib.hid ho
  clear hn ho
  go_enter Tryd.func21, Tryd.ntmps21
  go_wp2_with fail
  go_loopw [2, 3] (fun i j wr => ∃ k : Nat, 2 * k ≤ n ∧ i = .int .i64 (k : Int) ∧ j = .int .i64 ((n : Int) - 1 - k) ∧ wr.ownsRow base 5 1 (.slice A n c) n (bys (De.rv l k)) ∧ Below base w wr ∧ base ≤ wr.heap.size) (fun i _ _ => n - (intOf i).toNat)
  case atStart => exact ⟨0, Nat.zero_le _, rfl, by simp, by rw [De.rv_zero]; exact HO0.out, Below.refl _ _, hbase⟩
  case round =>
    clear HO0 hbase
    obtain ⟨k, hk, rfl, rfl, ho, hb, hbs⟩ := hrel
    have HB := Lib.hid hb
    have HBS := Lib.hid hbs
    rcases Nat.lt_or_ge (2 * k + 1) n with hlt | hge
    · obtain ⟨g, rfl, hgb, hgw⟩ := own_form ho (by omega)
      obtain ⟨j, hj⟩ : ∃ j, n - 1 - k = j := ⟨_, rfl⟩
      have hj1 : (n : Int) - 1 - (k : Int) = (j : Int) := by omega
      obtain ⟨a, ha⟩ := byte_at l k (by rw [HN.out]; omega)
      obtain ⟨b, hbb⟩ := byte_at l j (by rw [HN.out]; omega)
      have hca := own_byte ho (k := k) (b := a) (by rw [De.rv_get l k k (by rw [HN.out]; omega) (by rw [HN.out]; omega), if_neg (by rw [HN.out]; omega)]; exact ha)
      have hcb := own_byte ho (k := j) (b := b) (by rw [De.rv_get l k j (by rw [HN.out]; omega) (by rw [HN.out]; omega), if_neg (by rw [HN.out]; omega)]; exact hbb)
      have hf1 := ho.frozenAt k
      have hf2 := ho.frozenAt j
      have HNx := Lib.hid (De.rv_next l k a b (by rw [HN.out]; omega) ha (by rw [HN.out, hj]; exact hbb))
      rw [HN.out, hj] at HNx
      have HO := Lib.hid ho
      have hkn : (k : Int) < (n : Int) := by omega
      have hjn : (j : Int) < (n : Int) := by omega
      have hkj : k < j := by omega
      have hkj1 : (k : Int) < (j : Int) := by omega
      have HJ := Lib.hid hj
      rw [hj1]
      clear ho hb hbs ha hbb hj hj1
      go_wp2_with fail
      go_region
      all_goals
        go_wp2_with fail
        go_roundw
        case rel =>
          have o1 := own_put (own_put HO.out k (.int .u8 (b.toNat : Int))) j (.int .u8 (a.toNat : Int))
          rw [bys_set, bys_set, HNx.out] at o1
          have b1 := (HB.out.setCell (p := ⟨g, k, none⟩) hgb (.int .u8 (b.toNat : Int))).setCell (p := ⟨g, j, none⟩) hgb (.int .u8 (a.toNat : Int))
          have hj := HJ.out
          exact ⟨k + 1, by omega, by go_num, int_eqv (by omega), o1.drew, b1.drew, by simpa [World.setCell] using HBS.out⟩
        case measure => simp [intOf]; omega
    · have hjk : (n : Int) - 1 - (k : Int) ≤ (k : Int) := by omega
      have HEnd := Lib.hid (De.rv_end l k (by rw [HN.out]; omega) (by rw [HN.out]; omega))
      have HO := Lib.hid ho
      clear ho hb hbs
      go_wp2_with fail
      go_end0
      exact ⟨rfl, by rw [← HEnd.out]; exact HO.out, HB.out⟩
end Go.Proofs.YtnplaejlmbncfaaDoor

namespace Go.Proofs.YtnplaejlmbncfaaDoor
open Go.RowKit
set_option linter.unusedVariables false
set_option maxRecDepth 100000
namespace De
end De
def Apart (a b : Value) : Prop := a.ownBlock = none ∨ a.ownBlock ≠ b.ownBlock
theorem Apart.symm {a b : Value} (h : Apart a b) : Apart b a := by
  rcases h with h | h
  · by_cases hb : b.ownBlock = none
    · exact .inl hb
    · exact .inr (by rw [h]; exact hb)
  · exact .inr (fun e => h e.symm)
/-- an append leaves its row apart from another one -/
theorem Apart.next {w : World} {base n c n1 c1 n2 c2 : Nat} {e : TypeId} {A B B' : Option Addr} {xs : List Value} (h : Apart (.slice A n c) (.slice B n1 c1)) (ho : w.ownsRow base e 1 (.slice A n c) n xs) (hb : (Value.slice B' n2 c2).ownBlock = (Value.slice B n1 c1).ownBlock ∨ (Value.slice B' n2 c2).ownBlock = some w.heap.size) : Apart (.slice A n c) (.slice B' n2 c2) := by
  rcases hb with hb | hb
  · rcases h with h | h
    · exact .inl h
    · exact .inr (by rw [hb]; exact h)
  · by_cases ha : (Value.slice A n c).ownBlock = none
    · exact .inl ha
    · refine .inr fun e1 => ?_
      rw [hb] at e1
      have := (ho.lt _ e1).2
      omega
end Go.Proofs.YtnplaejlmbncfaaDoor

namespace Go.Proofs.YtnplaejlmbncfaaDoor
open Go.RowKit
set_option linter.unusedVariables false
set_option maxRecDepth 100000
structure Ob where
  A : Option Addr
  n : Nat
  c : Nat
  vs : List Value
/-- what is held: dice in block g, variables of one cell, lists that can be read -/
structure St (w0 w : World) (g : Option Nat) (M : List (Nat × Value)) (L : List Ob) : Prop where
  below : Below w0.heap.size w0 w
  lt : ∀ x, g = some x → x < w.heap.size ∧ w0.heap.size ≤ x
  box : ∀ (i b : Nat) (v : Value), M[i]? = some (b, v) → b < w.heap.size ∧ w0.heap.size ≤ b ∧ w.cell? ⟨b, 0, none⟩ = some v ∧ w.frozen? ⟨b, 0, none⟩ = false ∧ g ≠ some b
  one : ∀ (i j b : Nat) (u v : Value), M[i]? = some (b, u) → M[j]? = some (b, v) → i = j
  held : ∀ o ∈ L, o.vs.length = o.n ∧ o.n ≤ o.c ∧ o.n ≤ 1000 ∧ ∃ B, B ≤ w.heap.size ∧ Sl w B o.A o.vs ∧ (∀ ad, o.A = some ad → 0 < o.n → g ≠ some ad.block ∧ ∀ (i b : Nat) (v : Value), M[i]? = some (b, v) → ad.block ≠ b)
theorem St.refl (w : World) : St w w none [] [] := ⟨Below.refl _ _, fun x e => (by cases e), fun i b v h => (by simp at h), fun i j b u v h => (by simp at h), fun o h => (by cases h)⟩
section
variable {w0 w w' : World} {g : Option Nat} {M : List (Nat × Value)} {L : List Ob}
theorem St.size (h : St w0 w g M L) : w0.heap.size ≤ w.heap.size := h.below.size
theorem St.go (h : St w0 w g M L) (hb : Below w.heap.size w w') : St w0 w' g M L :=
  ⟨h.below.trans (hb.mono h.size), fun x e => ⟨Nat.lt_of_lt_of_le (h.lt x e).1 hb.size, (h.lt x e).2⟩, fun i b v hi => by
    obtain ⟨h1, h2, h3, h4, h5⟩ := h.box i b v hi
    exact ⟨Nat.lt_of_lt_of_le h1 hb.size, h2, (hb.cell (p := ⟨b, 0, none⟩) h1).trans h3, (hb.frozen (p := ⟨b, 0, none⟩) h1).trans h4, h5⟩, h.one, fun o ho => by
    obtain ⟨h1, h2, h3, B, hB, hs, hne⟩ := h.held o ho
    exact ⟨h1, h2, h3, B, Nat.le_trans hB hb.size, hs.below (hb.mono hB), hne⟩⟩
theorem St.add (h : St w0 w g M L) {A : Option Addr} {n c B : Nat} {vs : List Value} (hs : Sl w B A vs) (hB : B ≤ w.heap.size) (hn : vs.length = n) (hc : n ≤ c) (hl : n ≤ 1000)
    (hne : ∀ ad, A = some ad → 0 < n → g ≠ some ad.block ∧ ∀ (i b : Nat) (v : Value), M[i]? = some (b, v) → ad.block ≠ b) : St w0 w g M (L ++ [⟨A, n, c, vs⟩]) :=
  ⟨h.below, h.lt, h.box, h.one, fun o ho => by
    rcases List.mem_append.1 ho with h1 | h1
    · exact h.held o h1
    · rw [List.mem_singleton] at h1
      subst h1
      exact ⟨hn, hc, hl, B, hB, hs, hne⟩⟩
/-- a list that lay before everything of the call's own -/
theorem St.old (h : St w0 w g M L) {A : Option Addr} {n c : Nat} {vs : List Value} (hs : Sl w0 w0.heap.size A vs) (hn : vs.length = n) (hc : n ≤ c) (hl : n ≤ 1000) : St w0 w g M (L ++ [⟨A, n, c, vs⟩]) := by
  refine h.add ((hs.below h.below)) h.size hn hc hl fun ad e h0 => ?_
  obtain ⟨ad', e', hb, _⟩ := hs (by omega)
  rw [e] at e'
  obtain rfl := Option.some.inj e'
  exact ⟨fun e2 => by have := (h.lt _ e2).2; omega, fun i b v hi e2 => by have := (h.box i b v hi).2.1; omega⟩
theorem St.push (h : St w0 w g M L) {A : Option Addr} {n c : Nat} {vs : List Value} {e : TypeId} (ho : w'.ownsRow w.heap.size e 1 (.slice A n c) n vs) (hl : n ≤ 1000) (hb : Below w.heap.size w w') : St w0 w' g M (L ++ [⟨A, n, c, vs⟩]) := by
  refine (h.go hb).add (Sl.of_own ho) (Nat.le_refl _) (own_len ho) (own_cap ho).1 hl fun ad e h0 => ?_
  obtain ⟨g', hg', h1, _⟩ := own_form ho h0
  rw [e] at hg'
  obtain rfl := Option.some.inj hg'
  exact ⟨fun e2 => by have := (h.lt _ e2).1; simp only at this; omega, fun i b v hi e2 => by have := (h.box i b v hi).1; simp only at e2; omega⟩
theorem St.roll {x : Nat} (h : St w0 w (some x) M L) (hg : w.grownBy w' (some x)) : St w0 w' (some x) M L := by
  have hx := h.lt x rfl
  refine ⟨h.below.trans (below_only hg h.size hx.2), fun y e => ⟨Nat.lt_of_lt_of_le (h.lt y e).1 hg.size, (h.lt y e).2⟩, fun i b v hi => ?_, h.one, fun o ho => ?_⟩
  · obtain ⟨h1, h2, h3, h4, h5⟩ := h.box i b v hi
    have e1 := hg.block b h1 (fun e => h5 e.symm)
    exact ⟨Nat.lt_of_lt_of_le h1 hg.size, h2, (World.cell?_of_block (a := ⟨b, 0, none⟩) e1).trans h3, (World.frozen?_of_block (a := ⟨b, 0, none⟩) e1).trans h4, h5⟩
  · obtain ⟨h1, h2, h3, B, hB, hs, hne⟩ := h.held o ho
    refine ⟨h1, h2, h3, B, Nat.le_trans hB hg.size, fun hn => ?_, hne⟩
    obtain ⟨ad, hA, hbk, hcell⟩ := hs hn
    refine ⟨ad, hA, hbk, fun k u hu => ?_⟩
    rw [World.cell?_of_block (hg.block _ (by rw [add_block]; omega) (by rw [add_block]; intro e; exact (hne ad hA (by omega)).1 e.symm))]
    exact hcell k u hu
/-- a new variable -/
theorem St.boxed (h : St w0 w g M L) (v : Value) (t : TypeId) : St w0 (w.alloc (.cells #[v] t)) g (M ++ [(w.heap.size, v)]) L := by
  have hb : Below w.heap.size w (w.alloc (.cells #[v] t)) := (Below.refl _ _).alloc (Nat.le_refl _) _
  have h' := h.go hb
  have bV := Boxed.new w t v
  have key : ∀ (i b : Nat) (u : Value), (M ++ [(w.heap.size, v)])[i]? = some (b, u) → M[i]? = some (b, u) ∨ (i = M.length ∧ b = w.heap.size ∧ u = v) := fun i b u hi => by
    rcases Nat.lt_or_ge i M.length with h1 | h1
    · rw [List.getElem?_append_left h1] at hi
      exact .inl hi
    · rw [List.getElem?_append_right h1] at hi
      have h2 : i - M.length = 0 := by
        have := get_lt hi
        simp at this
        omega
      rw [h2] at hi
      simp at hi
      exact .inr ⟨by omega, hi.1.symm, hi.2.symm⟩
  refine ⟨h'.below, h'.lt, fun i b u hi => ?_, fun i j b u x hi hj => ?_, fun o ho => ?_⟩
  · rcases key i b u hi with h1 | ⟨_, rfl, rfl⟩
    · exact h'.box i b u h1
    · exact ⟨by simp, h.size, bV.cell, bV.frozen, fun e => by have := (h.lt _ e).1; omega⟩
  · rcases key i b u hi with h1 | ⟨h1, h2, _⟩ <;> rcases key j b x hj with k1 | ⟨k1, k2, _⟩
    · exact h.one i j b u x h1 k1
    · have := (h.box i b u h1).1; omega
    · have := (h.box j b x k1).1; omega
    · omega
  · obtain ⟨h1, h2, h3, B, hB, hs, hne⟩ := h.held o ho
    refine ⟨h1, h2, h3, B, Nat.le_trans hB hb.size, hs.below (hb.mono hB), fun ad e h0 => ⟨(hne ad e h0).1, fun i b u hi => ?_⟩⟩
    rcases key i b u hi with k1 | ⟨_, rfl, _⟩
    · exact (hne ad e h0).2 i b u k1
    · obtain ⟨ad', e', hbk, _⟩ := hs (by omega)
      rw [e] at e'
      obtain rfl := Option.some.inj e'
      omega
/-- a variable gets another value -/
theorem St.put (h : St w0 w g M L) (i : Nat) {b : Nat} {v : Value} (hi : M[i]? = some (b, v)) (u : Value) : St w0 (w.setCell ⟨b, 0, none⟩ u) g (M.set i (b, u)) L := by
  obtain ⟨h1, h2, h3, h4, h5⟩ := h.box i b v hi
  have key : ∀ (j c : Nat) (x : Value), (M.set i (b, u))[j]? = some (c, x) → (j = i ∧ c = b ∧ x = u) ∨ (j ≠ i ∧ M[j]? = some (c, x)) := fun j c x hj => by
    by_cases e : j = i
    · subst e
      rw [List.getElem?_set_self (get_lt hi)] at hj
      simp at hj
      exact .inl ⟨rfl, hj.1.symm, hj.2.symm⟩
    · rw [List.getElem?_set_ne (fun e' => e e'.symm)] at hj
      exact .inr ⟨e, hj⟩
  have hsz : (w.setCell ⟨b, 0, none⟩ u).heap.size = w.heap.size := by simp [World.setCell]
  refine ⟨h.below.setCell (p := ⟨b, 0, none⟩) h2 _, fun x e => by rw [hsz]; exact h.lt x e, fun j c x hj => ?_, fun j k c x y hj hk => ?_, fun o ho => ?_⟩
  · rcases key j c x hj with ⟨_, rfl, rfl⟩ | ⟨hne, hj'⟩
    · exact ⟨by rw [hsz]; exact h1, h2, cell_of_set _ h3, by rw [World.frozen?_setCell]; exact h4, h5⟩
    · obtain ⟨k1, k2, k3, k4, k5⟩ := h.box j c x hj'
      have hcb : c ≠ b := fun e => by subst e; exact hne (h.one j i c x v hj' hi)
      exact ⟨by rw [hsz]; exact k1, k2, by rw [World.cell?_setCell_other _ _ _ _ (fun e => hcb (congrArg Addr.block e).symm)]; exact k3, by rw [World.frozen?_setCell]; exact k4, k5⟩
  · rcases key j c x hj with ⟨e1, rfl, rfl⟩ | ⟨hne, hj'⟩ <;> rcases key k _ y hk with ⟨e2, e3, _⟩ | ⟨hne2, hk'⟩
    · omega
    · exact absurd (h.one k i _ y v hk' hi) hne2
    · subst e3; exact absurd (h.one j i _ x v hj' hi) hne
    · exact h.one j k c x y hj' hk'
  · obtain ⟨k1, k2, k3, B, hB, hs, hne⟩ := h.held o ho
    refine ⟨k1, k2, k3, B, by rw [hsz]; exact hB, fun hn => ?_, fun ad e h0 => ⟨(hne ad e h0).1, fun j c x hj => ?_⟩⟩
    · obtain ⟨ad, hA, hbk, hcell⟩ := hs hn
      refine ⟨ad, hA, hbk, fun k x hx => ?_⟩
      rw [World.cell?_of_block (Below.heap_setCell _ _ _ _ (by rw [add_block]; exact (hne ad hA (by omega)).2 i b v hi))]
      exact hcell k x hx
    · rcases key j c x hj with ⟨_, rfl, _⟩ | ⟨_, hj'⟩
      · exact (hne ad e h0).2 i c v hi
      · exact (hne ad e h0).2 j c x hj'
theorem St.sl (h : St w0 w g M L) {i : Nat} {A : Option Addr} {n c : Nat} {vs : List Value} (hi : L[i]? = some ⟨A, n, c, vs⟩) : vs.length = n ∧ n ≤ c ∧ n ≤ 1000 ∧ Sl w w.heap.size A vs := by
  obtain ⟨h1, h2, h3, B, hB, hs, _⟩ := h.held _ (List.mem_of_getElem? hi)
  exact ⟨h1, h2, h3, hs.more hB⟩
theorem St.cell (h : St w0 w g M L) (i : Nat) {b : Nat} {v : Value} (hi : M[i]? = some (b, v)) : w.cell? ⟨b, 0, none⟩ = some v := (h.box i b v hi).2.2.1
theorem St.drewN (h : St w0 w g M L) (k : Nat) : St w0 (w.drewN k) g M L := h.go (below_drewN (Below.refl _ _) k)
end
end Go.Proofs.YtnplaejlmbncfaaDoor

namespace Go.Proofs.YtnplaejlmbncfaaDoor
set_option linter.unusedVariables false
set_option maxRecDepth 100000
section
variable {P : Program} {md : Region.Mode} {ops : Array Oper} {Q : Exit → Act → World → Prop}
/-- which operations are done -/
def dset (L : Nat → Bool) (j : Nat) : Nat → Bool := fun i => if i = j then true else L i
/-- every edge leads back -/
def backward (ops : Array Oper) : Bool := (List.range ops.size).all fun i => ((ops[i]?).map fun o => o.after.all fun e => decide (e.on < i)).getD true
theorem mem_ready {l : Array Bool} {j : Nat} (h : j ∈ Region.ready md ops l) : j < ops.size ∧ l.getD j true = false ∧ ∀ o, ops[j]? = some o → ∀ e ∈ o.after, Region.binds md e = true → l.getD e.on false = true := by
  unfold Region.ready at h
  rw [List.mem_filter] at h
  obtain ⟨h1, h2⟩ := h
  rw [List.mem_range] at h1
  rw [Bool.and_eq_true] at h2
  refine ⟨h1, by simpa using h2.1, fun o ho e he hb => ?_⟩
  have h3 := h2.2
  rw [ho] at h3
  have h3' : (o.after.all fun e => !Region.binds md e || l.getD e.on false) = true := h3
  have h4 := Array.all_eq_true_iff_forall_mem.1 h3' e he
  rw [hb] at h4
  exact h4
/-- the operations that must be done before -/
def preds (md : Region.Mode) (ops : Array Oper) (j : Nat) : List Nat := ((ops[j]?).map fun o => (o.after.toList.filter (Region.binds md ·)).map (·.on)).getD []
theorem mem_preds {o : Oper} {j : Nat} {L : Nat → Bool} (ho : ops[j]? = some o) (h : ∀ e ∈ o.after, Region.binds md e = true → L e.on = true) : ∀ i, (preds md ops j).elem i = true → L i = true := fun i hi => by
  have hi := List.mem_of_elem_eq_true hi
  unfold preds at hi
  rw [ho] at hi
  have hi' : i ∈ (o.after.toList.filter (Region.binds md ·)).map (·.on) := hi
  obtain ⟨e, he, rfl⟩ := List.mem_map.1 hi'
  rw [List.mem_filter] at he
  exact h e (Array.mem_toList_iff.1 he.1) he.2
/-- the done operations are closed backward -/
def Closed (ops : Array Oper) (L : Nat → Bool) : Prop := ∀ j i, L j = true → (preds .any ops j).elem i = true → L i = true
end
end Go.Proofs.YtnplaejlmbncfaaDoor

namespace Go.Proofs.YtnplaejlmbncfaaDoor
open Go.RowKit
set_option linter.unusedVariables false
set_option maxRecDepth 100000
section
variable {w0 w w' : World} {g : Option Nat} {M : List (Nat × Value)} {L : List Ob}
theorem St.sub (h : St w0 w g M L) {M' : List (Nat × Value)} {L' : List Ob} (hM : ∀ x ∈ M', x ∈ M) (h1 : ∀ (i j b : Nat) (u v : Value), M'[i]? = some (b, u) → M'[j]? = some (b, v) → i = j) (hL : ∀ o ∈ L', o ∈ L) : St w0 w g M' L' := by
  have key : ∀ (i : Nat) (x : Nat × Value), M'[i]? = some x → ∃ j, M[j]? = some x := fun i x hi => List.mem_iff_getElem?.1 (hM x (List.mem_of_getElem? hi))
  refine ⟨h.below, h.lt, fun i b v hi => ?_, h1, fun o ho => ?_⟩
  · obtain ⟨j, hj⟩ := key i _ hi
    exact h.box j b v hj
  · obtain ⟨k1, k2, k3, B, hB, hs, hne⟩ := h.held o (hL o ho)
    refine ⟨k1, k2, k3, B, hB, hs, fun ad e h0 => ⟨(hne ad e h0).1, fun i b v hi => ?_⟩⟩
    obtain ⟨j, hj⟩ := key i _ hi
    exact (hne ad e h0).2 j b v hj
end
end Go.Proofs.YtnplaejlmbncfaaDoor

namespace Go.Proofs.YtnplaejlmbncfaaDoor
open Go.RowKit
set_option linter.unusedVariables false
set_option maxRecDepth 100000
structure Rw where
  A : Option Addr
  n : Nat
  c : Nat
  e : TypeId
  vs : List Value
def Rw.blk (r : Rw) : Option Nat := (Value.slice r.A r.n r.c).ownBlock
theorem blk_some (A : Option Addr) (n c : Nat) : (Value.slice A n c).ownBlock = A.map Addr.block := by cases A <;> rfl
/-- what is held, and owned lists in blocks of their own -/
structure Ow (w0 w : World) (g : Option Nat) (M : List (Nat × Value)) (L : List Ob) (O : List Rw) : Prop where
  st : St w0 w g M L
  own : ∀ (i : Nat) (r : Rw), O[i]? = some r → w.ownsRow w0.heap.size r.e 1 (.slice r.A r.n r.c) r.n r.vs
  ap : ∀ (i : Nat) (r : Rw), O[i]? = some r → ∀ b, r.blk = some b → g ≠ some b ∧ (∀ (j k : Nat) (v : Value), M[j]? = some (k, v) → b ≠ k) ∧ (∀ o ∈ L, ∀ ad, o.A = some ad → 0 < o.n → b ≠ ad.block)
  two : ∀ (i j : Nat) (r s : Rw), O[i]? = some r → O[j]? = some s → i ≠ j → ∀ b, r.blk = some b → s.blk ≠ some b
section
variable {w0 w w' : World} {g : Option Nat} {M : List (Nat × Value)} {L : List Ob} {O : List Rw}
theorem Ow.of (h : St w0 w g M L) : Ow w0 w g M L [] := ⟨h, fun i r e => by simp at e, fun i r e => by simp at e, fun i j r s e => by simp at e⟩
theorem Ow.lt (h : Ow w0 w g M L O) {i : Nat} {r : Rw} (hi : O[i]? = some r) {b : Nat} (hb : r.blk = some b) : b < w.heap.size ∧ w0.heap.size ≤ b := by
  have := (h.own i r hi).lt b hb
  exact ⟨this.2, this.1⟩
theorem Ow.go (h : Ow w0 w g M L O) (hb : Below w.heap.size w w') : Ow w0 w' g M L O :=
  ⟨h.st.go hb, fun i r hi => own_below (h.own i r hi) hb, h.ap, h.two⟩
theorem Ow.size (h : Ow w0 w g M L O) : w0.heap.size ≤ w.heap.size := h.st.size
theorem Ow.below (h : Ow w0 w g M L O) : Below w0.heap.size w0 w := h.st.below
theorem Ow.cell (h : Ow w0 w g M L O) (i : Nat) {b : Nat} {v : Value} (hi : M[i]? = some (b, v)) : w.cell? ⟨b, 0, none⟩ = some v := h.st.cell i hi
theorem Ow.sl (h : Ow w0 w g M L O) {i : Nat} {A : Option Addr} {n c : Nat} {vs : List Value} (hi : L[i]? = some ⟨A, n, c, vs⟩) : vs.length = n ∧ n ≤ c ∧ n ≤ 1000 ∧ Sl w w.heap.size A vs := h.st.sl hi
theorem Ow.row (h : Ow w0 w g M L O) (i : Nat) {A : Option Addr} {n c : Nat} {e : TypeId} {vs : List Value} (hi : O[i]? = some ⟨A, n, c, e, vs⟩) : w.ownsRow w0.heap.size e 1 (.slice A n c) n vs := h.own i _ hi
/-- a new list of one's own -/
theorem Ow.add (h : Ow w0 w g M L O) {A : Option Addr} {n c : Nat} {e : TypeId} {vs : List Value} (ho : w'.ownsRow w.heap.size e 1 (.slice A n c) n vs) (hb : Below w.heap.size w w') : Ow w0 w' g M L (O ++ [⟨A, n, c, e, vs⟩]) := by
  have h' := h.go hb
  have key : ∀ (i : Nat) (r : Rw), (O ++ [⟨A, n, c, e, vs⟩])[i]? = some r → O[i]? = some r ∨ (O.length = i ∧ r = ⟨A, n, c, e, vs⟩) := fun i r hi => by
    rcases Nat.lt_or_ge i O.length with h1 | h1
    · rw [List.getElem?_append_left h1] at hi
      exact .inl hi
    · rw [List.getElem?_append_right h1] at hi
      have h2 : i - O.length = 0 := by have := get_lt hi; simp at this; omega
      rw [h2] at hi
      simp at hi
      exact .inr ⟨by omega, hi.symm⟩
  have new : ∀ b, (⟨A, n, c, e, vs⟩ : Rw).blk = some b → w.heap.size ≤ b := fun b hb' => (ho.lt b hb').1
  refine ⟨h'.st, fun i r hi => ?_, fun i r hi b hb' => ?_, fun i j r s hi hj hij b hb' e2 => ?_⟩
  · rcases key i r hi with h1 | ⟨_, rfl⟩
    · exact h'.own i r h1
    · exact own_more ho h.size
  · rcases key i r hi with h1 | ⟨_, rfl⟩
    · exact h'.ap i r h1 b hb'
    · have h3 := new b hb'
      refine ⟨fun e => by have := (h.st.lt b e).1; omega, fun j k v hj e => by have := (h.st.box j k v hj).1; omega, fun o ho' ad ha h0 e => ?_⟩
      obtain ⟨h4, _, _, B, hB, hs, _⟩ := h.st.held o ho'
      obtain ⟨ad', ha', hlt, _⟩ := hs (by omega)
      rw [ha] at ha'
      obtain rfl := Option.some.inj ha'
      omega
  · rcases key i r hi with h1 | ⟨h1, rfl⟩ <;> rcases key j s hj with h2 | ⟨h2, rfl⟩
    · exact h.two i j r s h1 h2 hij b hb' e2
    · have := (h.lt h1 hb').1; have := new b e2; omega
    · have := (h.lt h2 e2).1; have := new b hb'; omega
    · omega
/-- an owned list is turned: nothing else is -/
theorem Ow.turn (h : Ow w0 w g M L O) (i : Nat) {r r' : Rw} (hi : O[i]? = some r) (hg : w.grownBy w' r.blk) (ho : w'.ownsRow w0.heap.size r'.e 1 (.slice r'.A r'.n r'.c) r'.n r'.vs) (hb : r'.blk = r.blk ∨ r'.blk = some w.heap.size) : Ow w0 w' g M L (O.set i r') := by
  have key : ∀ (j : Nat) (x : Rw), (O.set i r')[j]? = some x → (j = i ∧ x = r') ∨ (j ≠ i ∧ O[j]? = some x) := fun j x hj => by
    by_cases e : j = i
    · subst e
      rw [List.getElem?_set_self (get_lt hi)] at hj
      simp at hj
      exact .inl ⟨rfl, hj.symm⟩
    · rw [List.getElem?_set_ne (fun e' => e e'.symm)] at hj
      exact .inr ⟨e, hj⟩
  have low : ∀ b, r.blk = some b → w0.heap.size ≤ b := fun b hb' => (h.lt hi hb').2
  have hbel : Below w0.heap.size w0 w' := h.below.trans ((Below.refl _ _).grown hg h.size low)
  have cellk : ∀ b, b < w.heap.size → r.blk ≠ some b → w'.heap[b]? = w.heap[b]? := fun b h1 h2 => hg.block b h1 (fun e => h2 e.symm)
  refine ⟨⟨hbel, fun x e => ⟨Nat.lt_of_lt_of_le (h.st.lt x e).1 hg.size, (h.st.lt x e).2⟩, fun j b v hj => ?_, h.st.one, fun o ho' => ?_⟩, fun j x hj => ?_, fun j x hj b hb' => ?_, fun j k x y hj hk hjk b hb' e2 => ?_⟩
  · obtain ⟨h1, h2, h3, h4, h5⟩ := h.st.box j b v hj
    have e1 := cellk b h1 (fun e => (h.ap i r hi b e).2.1 j b v hj rfl)
    exact ⟨Nat.lt_of_lt_of_le h1 hg.size, h2, (World.cell?_of_block (a := ⟨b, 0, none⟩) e1).trans h3, (World.frozen?_of_block (a := ⟨b, 0, none⟩) e1).trans h4, h5⟩
  · obtain ⟨h1, h2, h3, B, hB, hs, hne⟩ := h.st.held o ho'
    refine ⟨h1, h2, h3, B, Nat.le_trans hB hg.size, fun hn => ?_, hne⟩
    obtain ⟨ad, hA, hbk, hcell⟩ := hs hn
    refine ⟨ad, hA, hbk, fun k u hu => ?_⟩
    rw [World.cell?_of_block (cellk _ (by rw [add_block]; omega) (by rw [add_block]; intro e; exact (h.ap i r hi _ e).2.2 o ho' ad hA (by omega) rfl))]
    exact hcell k u hu
  · rcases key j x hj with ⟨_, rfl⟩ | ⟨hne, hj'⟩
    · exact ho
    · refine own_keep (h.own j x hj') hg ?_
      by_cases e : (Value.slice x.A x.n x.c).ownBlock = none
      · exact .inl e
      · refine .inr fun e2 => ?_
        obtain ⟨b, hb'⟩ := Option.ne_none_iff_exists'.1 e
        exact h.two j i x r hj' hi hne b hb' (by rw [← e2]; exact hb')
  · have old : ∀ b, r'.blk = some b → (∃ b', r.blk = some b' ∧ b = b') ∨ b = w.heap.size := fun b e => by
      rcases hb with e1 | e1
      · exact .inl ⟨b, by rw [← e1]; exact e, rfl⟩
      · rw [e] at e1; exact .inr (Option.some.inj e1)
    rcases key j x hj with ⟨_, rfl⟩ | ⟨hne, hj'⟩
    · rcases old b hb' with ⟨b', e1, rfl⟩ | rfl
      · exact h.ap i r hi b e1
      · refine ⟨fun e => by have := (h.st.lt _ e).1; omega, fun j k v hj e => by have := (h.st.box j k v hj).1; omega, fun o ho' ad ha h0 e => ?_⟩
        obtain ⟨h4, _, _, B, hB, hs, _⟩ := h.st.held o ho'
        obtain ⟨ad', ha', hlt, _⟩ := hs (by omega)
        rw [ha] at ha'
        obtain rfl := Option.some.inj ha'
        omega
    · exact h.ap j x hj' b hb'
  · have old : ∀ b, r'.blk = some b → r.blk = some b ∨ b = w.heap.size := fun b e => by
      rcases hb with e1 | e1
      · exact .inl (by rw [← e1]; exact e)
      · rw [e] at e1; exact .inr (Option.some.inj e1)
    rcases key j x hj with ⟨a1, rfl⟩ | ⟨hne, hj'⟩ <;> rcases key k y hk with ⟨a2, rfl⟩ | ⟨hne2, hk'⟩
    · omega
    · rcases old b hb' with e1 | rfl
      · exact h.two i k r y hi hk' (fun e => hne2 e.symm) b e1 e2
      · have := (h.lt hk' e2).1; omega
    · rcases old b e2 with e1 | rfl
      · exact h.two j i x r hj' hi hne b hb' e1
      · have := (h.lt hj' hb').1; omega
    · exact h.two j k x y hj' hk' hjk b hb' e2
/-- a store into an owned list -/
theorem Ow.put (h : Ow w0 w g M L O) (i : Nat) {gb n c : Nat} {e : TypeId} {vs : List Value} (hi : O[i]? = some ⟨some ⟨gb, 0, none⟩, n, c, e, vs⟩) (k : Nat) (v : Value) : Ow w0 (w.setCell ⟨gb, k, none⟩ v) g M L (O.set i ⟨some ⟨gb, 0, none⟩, n, c, e, vs.set k v⟩) :=
  h.turn i hi (r' := ⟨some ⟨gb, 0, none⟩, n, c, e, vs.set k v⟩) (grown_set _ _ _) (own_put (h.own i _ hi) k v) (.inl rfl)
/-- a shorter piece from the head on -/
theorem Ow.cut (h : Ow w0 w g M L O) (i : Nat) {A : Option Addr} {n c : Nat} {e : TypeId} {vs : List Value} (hi : O[i]? = some ⟨A, n, c, e, vs⟩) {k : Nat} (hk : k ≤ n) : Ow w0 w g M L (O.set i ⟨A, k, c, e, vs.take k⟩) :=
  h.turn i hi (r' := ⟨A, k, c, e, vs.take k⟩) (World.grownBy.refl w _) (own_take (h.own i _ hi) hk) (.inl (by show (Value.slice A k c).ownBlock = (Value.slice A n c).ownBlock; rw [blk_some, blk_some]))
/-- an owned list seen as another list of the same values -/
theorem Ow.same (h : Ow w0 w g M L O) (i : Nat) {A : Option Addr} {n c : Nat} {e : TypeId} {vs vs' : List Value} (hi : O[i]? = some ⟨A, n, c, e, vs⟩) (hv : vs = vs') : Ow w0 w g M L (O.set i ⟨A, n, c, e, vs'⟩) := by
  subst hv
  exact h.turn i hi (r' := ⟨A, n, c, e, vs⟩) (World.grownBy.refl w _) (h.own i _ hi) (.inl rfl)
/-- an owned list is only read from now on -/
theorem Ow.keep (h : Ow w0 w g M L O) (i : Nat) {A : Option Addr} {n c : Nat} {e : TypeId} {vs : List Value} (hi : O[i]? = some ⟨A, n, c, e, vs⟩) (hl : n ≤ 1000) : Ow w0 w g M (L ++ [⟨A, n, c, vs⟩]) (O.set i ⟨none, 0, 0, e, []⟩) := by
  have h1 := h.turn i hi (r' := ⟨A, n, c, e, vs⟩) (World.grownBy.refl w _) (h.own i _ hi) (.inl rfl)
  have key : ∀ (j : Nat) (x : Rw), (O.set i ⟨none, 0, 0, e, []⟩)[j]? = some x → (j = i ∧ x = ⟨none, 0, 0, e, []⟩) ∨ (j ≠ i ∧ O[j]? = some x) := fun j x hj => by
    by_cases e : j = i
    · subst e
      rw [List.getElem?_set_self (get_lt hi)] at hj
      simp at hj
      exact .inl ⟨rfl, hj.symm⟩
    · rw [List.getElem?_set_ne (fun e' => e e'.symm)] at hj
      exact .inr ⟨e, hj⟩
  have ho := h.own i _ hi
  refine ⟨h.st.add (Sl.of_own ho) (Nat.le_refl _) (own_len ho) (own_cap ho).1 hl fun ad ea h0 => ?_, fun j x hj => ?_, fun j x hj b hb => ?_, fun j k x y hj hk hjk b hb e2 => ?_⟩
  · have hb : (⟨A, n, c, e, vs⟩ : Rw).blk = some ad.block := by show (Value.slice A n c).ownBlock = _; rw [ea]; rfl
    have := h.ap i _ hi _ hb
    exact ⟨this.1, this.2.1⟩
  · rcases key j x hj with ⟨_, rfl⟩ | ⟨hne, hj'⟩
    · exact World.ownsRow_nil _ _ _ _
    · exact h.own j x hj'
  · rcases key j x hj with ⟨_, rfl⟩ | ⟨hne, hj'⟩
    · cases hb
    · obtain ⟨a1, a2, a3⟩ := h.ap j x hj' b hb
      refine ⟨a1, a2, fun o ho' ad ea h0 => ?_⟩
      rcases List.mem_append.1 ho' with h2 | h2
      · exact a3 o h2 ad ea h0
      · rw [List.mem_singleton] at h2
        subst h2
        intro e3
        have hb2 : (⟨A, n, c, e, vs⟩ : Rw).blk = some b := by show (Value.slice A n c).ownBlock = _; rw [show A = some ad from ea, e3]; rfl
        exact h.two j i x _ hj' hi hne b hb hb2
  · rcases key j x hj with ⟨a1, rfl⟩ | ⟨hne, hj'⟩ <;> rcases key k y hk with ⟨a2, rfl⟩ | ⟨hne2, hk'⟩
    · omega
    · cases hb
    · cases e2
    · exact h.two j k x y hj' hk' hjk b hb e2
/-- a new variable -/
theorem Ow.boxed (h : Ow w0 w g M L O) (v : Value) (t : TypeId) : Ow w0 (w.alloc (.cells #[v] t)) g (M ++ [(w.heap.size, v)]) L O := by
  have hb : Below w.heap.size w (w.alloc (.cells #[v] t)) := (Below.refl _ _).alloc (Nat.le_refl _) _
  have h' := h.go hb
  refine ⟨h.st.boxed v t, h'.own, fun i r hi b hb' => ?_, h.two⟩
  obtain ⟨a1, a2, a3⟩ := h.ap i r hi b hb'
  refine ⟨a1, fun j k u hj e => ?_, a3⟩
  rcases Nat.lt_or_ge j M.length with h1 | h1
  · rw [List.getElem?_append_left h1] at hj
    exact a2 j k u hj e
  · rw [List.getElem?_append_right h1] at hj
    have h2 : j - M.length = 0 := by have := get_lt hj; simp at this; omega
    rw [h2] at hj
    simp at hj
    have := (h.lt hi hb').1
    omega
/-- a list that lay before everything of the call's own -/
theorem Ow.old (h : Ow w0 w g M L O) {A : Option Addr} {n c : Nat} {vs : List Value} (hs : Sl w0 w0.heap.size A vs) (hn : vs.length = n) (hc : n ≤ c) (hl : n ≤ 1000) : Ow w0 w g M (L ++ [⟨A, n, c, vs⟩]) O := by
  refine ⟨h.st.old hs hn hc hl, h.own, fun i r hi b hb => ?_, h.two⟩
  obtain ⟨a1, a2, a3⟩ := h.ap i r hi b hb
  refine ⟨a1, a2, fun o ho ad ea h0 => ?_⟩
  rcases List.mem_append.1 ho with h1 | h1
  · exact a3 o h1 ad ea h0
  · rw [List.mem_singleton] at h1
    subst h1
    obtain ⟨ad', e', hbk, _⟩ := hs (by show 0 < vs.length; rw [hn]; exact h0)
    rw [show A = some ad from ea] at e'
    obtain rfl := Option.some.inj e'
    have := (h.lt hi hb).2
    omega
/-- the list of a call, only to be read -/
theorem Ow.push (h : Ow w0 w g M L O) {A : Option Addr} {n c : Nat} {vs : List Value} {e : TypeId} (ho : w'.ownsRow w.heap.size e 1 (.slice A n c) n vs) (hl : n ≤ 1000) (hb : Below w.heap.size w w') : Ow w0 w' g M (L ++ [⟨A, n, c, vs⟩]) O := by
  have h1 := (h.add ho hb).keep O.length (A := A) (n := n) (c := c) (e := e) (vs := vs) (by rw [List.getElem?_append_right (Nat.le_refl _), Nat.sub_self]; rfl) hl
  have cut : ∀ (i : Nat) (r : Rw), O[i]? = some r → ((O ++ [(⟨A, n, c, e, vs⟩ : Rw)]).set O.length (⟨none, 0, 0, e, []⟩ : Rw))[i]? = some r := fun i r hi => by
    have := get_lt hi
    rw [List.getElem?_set_ne (by omega), List.getElem?_append_left this]
    exact hi
  exact ⟨h1.st, fun i r hi => h1.own i r (cut i r hi), fun i r hi => h1.ap i r (cut i r hi), fun i j r s hi hj => h1.two i j r s (cut i r hi) (cut j s hj)⟩
theorem Ow.drewN (h : Ow w0 w g M L O) (k : Nat) : Ow w0 (w.drewN k) g M L O := h.go (below_drewN (Below.refl _ _) k)
end
end Go.Proofs.YtnplaejlmbncfaaDoor

namespace Go.Proofs.YtnplaejlmbncfaaDoor
open Go.RowKit
set_option linter.unusedVariables false
set_option maxRecDepth 100000
/-- what a list's element type is: one cell -/
def Elem (P : Program) (t e : TypeId) (z : Value) (bytes : Nat) : Prop := P.underlying t = some (.slice e) ∧ z.cells = #[z] ∧ ∃ i, P.info? e = some i ∧ i.zero = some z ∧ i.size = 1 ∧ i.bytes = bytes
section
variable {P : Program} {w0 w : World} {g : Option Nat} {M : List (Nat × Value)} {L : List Ob} {O : List Rw} {t e : TypeId} {z : Value} {bytes : Nat}
theorem Ow.nil (h : Ow w0 w g M L O) (e : TypeId) : Ow w0 w g M L (O ++ [⟨none, 0, 0, e, []⟩]) := h.add (World.ownsRow_nil _ _ _ _) (Below.refl _ _)
theorem Ow.made (h : Ow w0 w g M L O) (e : TypeId) (z : Value) (n c : Nat) (hz : z.cells = #[z]) (hnc : n ≤ c) (hc : c ≤ maxLen) :
    Ow w0 (w.alloc (.cells (madeCells #[z] c) e)) g M L (O ++ [⟨some ⟨w.heap.size, 0, none⟩, n, c, e, List.replicate n z⟩]) := by
  have h1 := own_made w e z n c hz hnc hc
  rw [hz] at h1
  exact h.add h1 (own_box1 _ _)
theorem Elem.make (h : Elem P t e z bytes) (kl kc : IntKind) (a b : Int) (n c : Nat) (ha : a = (n : Int)) (hb : b = (c : Int)) (hnc : n ≤ c) (hbytes : bytes * c ≤ 281474976710656) (h63 : c ≤ 9223372036854775807) (w : World) :
    (Instr.makeSlice t (.int kl a) (.int kc b)).run P w = .ok (.slice (some ⟨w.heap.size, 0, none⟩) n c) (w.alloc (.cells (madeCells #[z] c) e)) := by
  obtain ⟨ht, hzc, i, hi, hz, hs, hby⟩ := h
  rw [← hzc]
  exact run_make_one t e i z ht hi hz hs kl kc a b n c ha hb hnc (by rw [hby]; exact hbytes) h63 w
/-- 'append' of a list that can be read -/
theorem ow_append {ops : Array Oper} {rest : List Oper} {o : Oper} {a : Act} {Q : Exit → Act → World → Prop} (hE : Elem P t e z bytes) (h : Ow w0 w g M L O) (i : Nat) (s x : Operand) {A : Option Addr} {n c : Nat} {xs : List Value} (hi : O[i]? = some ⟨A, n, c, e, xs⟩)
    {B : Nat} {A2 : Option Addr} {m c2 : Nat} {news : List Value} (hm : news.length = m) (hr : Sl w B A2 news) (h1 : ∀ u ∈ news, u.oneCell' = true) (h63 : n + m ≤ maxLen) (hbytes : (n + m) * bytes ≤ 140737488355328)
    (hgd : o.guard = none) (ho : o.op = .call { callee := .builtin .append, args := #[s, x], argTypes := #[t, t] }) (hs : a.eval s = .slice A n c) (hx : a.eval x = .slice A2 m c2)
    (hk : ∀ A' c' w', Ow w0 w' g M L (O.set i ⟨A', n + m, c', e, xs ++ news⟩) → wpList P ops Q rest (a.put o.dst (.slice A' (n + m) c')) w') : wpList P ops Q (o :: rest) a w := by
  obtain ⟨ht, hzc, inf, hi0, hz, hsz, hby⟩ := hE
  exact wpList_append_sl w hgd s x t ho w0.heap.size e inf z bytes ht hi0 hz hsz hby (by rw [hzc]; rfl) A n c xs hs (h.own i _ hi) B A2 m c2 news hx hm hr h1 h63 hbytes h.size fun A' c' w' h2 h3 h4 =>
    hk A' c' w' (h.turn i hi (r' := ⟨A', n + m, c', e, xs ++ news⟩) h3 h2 h4)
/-- 'append' of one element, laid as a list of one -/
theorem ow_append1 {ops : Array Oper} {rest : List Oper} {o : Oper} {a : Act} {Q : Exit → Act → World → Prop} (hE : Elem P t e z bytes) (h : Ow w0 w g M L O) (i : Nat) (s x : Operand) (v : Value) (tt : TypeId) {A : Option Addr} {n c : Nat} {xs : List Value} (hi : O[i]? = some ⟨A, n, c, e, xs⟩)
    (h1 : v.oneCell' = true) (h63 : n + 1 ≤ maxLen) (hbytes : (n + 1) * bytes ≤ 140737488355328)
    (hgd : o.guard = none) (ho : o.op = .call { callee := .builtin .append, args := #[s, x], argTypes := #[t, t] }) (hs : a.eval s = .slice A n c) (hx : a.eval x = .slice (some ⟨w.heap.size, 0, none⟩) 1 1)
    (hk : ∀ A' c' w', Ow w0 w' g M L (O.set i ⟨A', n + 1, c', e, xs ++ [v]⟩) → wpList P ops Q rest (a.put o.dst (.slice A' (n + 1) c')) w') : wpList P ops Q (o :: rest) a (w.alloc (.cells #[v] tt)) :=
  ow_append hE (h.go (own_box1 w _)) i s x hi (m := 1) (news := [v]) rfl (sl_new1 w tt v) (fun u hu => by rw [List.mem_singleton] at hu; subst hu; exact h1) h63 hbytes hgd ho hs hx hk
end
theorem elemI : Elem Tryd.prog 22 3 (.int .i64 0) 8 := by
  obtain ⟨i0, hi, hz0, hz1, hz2⟩ := info_parts infoI
  exact ⟨Tryd.underlying22, rfl, i0, hi, hz0, hz1, hz2⟩
namespace Na
end Na
end Go.Proofs.YtnplaejlmbncfaaDoor

namespace Go.Proofs.YtnplaejlmbncfaaDoor
open Go.Sort
set_option linter.unusedVariables false
set_option maxRecDepth 100000
section
variable {P : Program} {md : Region.Mode} {ops : Array Oper} {C : World → Prop}
/-- every edge leads back -/
def backs (ops : Array Oper) : Bool := (List.range ops.size).all fun i => ((ops[i]?).map fun o => o.after.all fun e => decide (e.on < i)).getD true
theorem backs_spec (h : backs ops = true) {j : Nat} {o : Oper} (ho : ops[j]? = some o) : ∀ e ∈ o.after, e.on < j := fun e he => by
  have hj : j < ops.size := (Array.getElem?_eq_some_iff.1 ho).1
  have h1 := List.all_eq_true.1 h j (List.mem_range.2 hj)
  rw [ho] at h1
  exact of_decide_eq_true (Array.all_eq_true_iff_forall_mem.1 (show (o.after.all fun e => decide (e.on < j)) = true from h1) e he)
/-- the same head, the tail marked as done -/
structure Twin (ops : Array Oper) (n : Nat) (l l' : Array Bool) : Prop where
  size : l'.size = ops.size
  head : ∀ i, i < n → l'.getD i false = l.getD i false
  tail : ∀ i, n ≤ i → i < ops.size → l'.getD i false = true
theorem getD_tf {l : Array Bool} {i : Nat} (hi : i < l.size) : l.getD i true = l.getD i false := by
  rw [Array.getD_eq_getD_getElem?, Array.getD_eq_getD_getElem?, Array.getElem?_eq_getElem hi]; rfl
theorem Twin.set {n i : Nat} {l l' : Array Bool} (h : Twin ops n l l') (hs : l.size = ops.size) (hi : i < n) (hn : n ≤ ops.size) : Twin ops n (l.setIfInBounds i true) (l'.setIfInBounds i true) := by
  refine ⟨by rw [Array.size_setIfInBounds]; exact h.size, fun j hj => ?_, fun j h1 h2 => ?_⟩
  · by_cases e : i = j
    · subst e
      rw [Array.getD_eq_getD_getElem?, Array.getD_eq_getD_getElem?, Array.getElem?_setIfInBounds_self_of_lt (by rw [h.size]; omega), Array.getElem?_setIfInBounds_self_of_lt (by rw [hs]; omega)]
    · have := h.head j hj
      rw [Array.getD_eq_getD_getElem?, Array.getD_eq_getD_getElem?] at this ⊢
      rw [Array.getElem?_setIfInBounds_ne e, Array.getElem?_setIfInBounds_ne e]
      exact this
  · have := h.tail j h1 h2
    rw [Array.getD_eq_getD_getElem?] at this ⊢
    rw [Array.getElem?_setIfInBounds_ne (by omega)]
    exact this
theorem Twin.ready {n i : Nat} {l l' : Array Bool} (h : Twin ops n l l') (hl : l.size = ops.size) (hb : backs ops = true) (hi : i < n) (hn : n ≤ ops.size) : i ∈ Region.ready md ops l ↔ i ∈ Region.ready md ops l' := by
  rw [Go.mem_ready, Go.mem_ready]
  have e1 : l'.getD i true = l.getD i true := by rw [getD_tf (by rw [h.size]; omega), getD_tf (by rw [hl]; omega), h.head i hi]
  rw [e1]
  refine and_congr_right fun _ => ⟨fun ⟨o, ho, hd⟩ => ⟨o, ho, fun e he hbd => ?_⟩, fun ⟨o, ho, hd⟩ => ⟨o, ho, fun e he hbd => ?_⟩⟩
  · have := backs_spec hb ho e he
    rw [h.head _ (by omega)]
    exact hd e he hbd
  · have := backs_spec hb ho e he
    rw [← h.head _ (by omega)]
    exact hd e he hbd
end
end Go.Proofs.YtnplaejlmbncfaaDoor

namespace Go.Proofs.YtnplaejlmbncfaaDoor
open Go.RowKit
set_option linter.unusedVariables false
set_option maxRecDepth 100000
section
variable {P : Program} {w0 w w' : World} {g : Option Nat} {M : List (Nat × Value)} {L : List Ob} {O : List Rw} {t e : TypeId} {z : Value} {bytes : Nat}
theorem Ow.drew (h : Ow w0 w g M L O) : Ow w0 w.drew g M L O := h.go (Below.refl _ _).drew
/-- fewer owned lists -/
theorem Ow.few (h : Ow w0 w g M L O) (k : Nat) : Ow w0 w g M L (O.take k) := by
  have key : ∀ (i : Nat) (r : Rw), (O.take k)[i]? = some r → O[i]? = some r := fun i r hi => by
    rw [List.getElem?_take] at hi
    split at hi
    · exact hi
    · cases hi
  exact ⟨h.st, fun i r hi => h.own i r (key i r hi), fun i r hi => h.ap i r (key i r hi), fun i j r s hi hj => h.two i j r s (key i r hi) (key j s hj)⟩
theorem owp_append {o : Oper} {a : Act} {K : Act → World → Prop} {Q : Exit → Act → World → Prop} (hE : Elem P t e z bytes) (h : Ow w0 w g M L O) (i : Nat) (s x : Operand) {A : Option Addr} {n c : Nat} {xs : List Value} (hi : O[i]? = some ⟨A, n, c, e, xs⟩)
    {B : Nat} {A2 : Option Addr} {m c2 : Nat} {news : List Value} (hm : news.length = m) (hr : Sl w B A2 news) (h1 : ∀ u ∈ news, u.oneCell' = true) (h63 : n + m ≤ maxLen) (hbytes : (n + m) * bytes ≤ 140737488355328)
    (ho : o.op = .call { callee := .builtin .append, args := #[s, x], argTypes := #[t, t] }) (hs : a.eval s = .slice A n c) (hx : a.eval x = .slice A2 m c2)
    (hk : ∀ A' c' w', Ow w0 w' g M L (O.set i ⟨A', n + m, c', e, xs ++ news⟩) → K (a.put o.dst (.slice A' (n + m) c')) w') : o.wp P a w K Q := by
  obtain ⟨ht, hzc, inf, hi0, hz, hsz, hby⟩ := hE
  exact wp_append_sl w s x t ho w0.heap.size e inf z bytes ht hi0 hz hsz hby (by rw [hzc]; rfl) A n c xs hs (h.own i _ hi) B A2 m c2 news hx hm hr h1 h63 hbytes h.size fun A' c' w' h2 h3 h4 =>
    hk A' c' w' (h.turn i hi (r' := ⟨A', n + m, c', e, xs ++ news⟩) h3 h2 h4)
/-- fewer lists are looked at -/
theorem Ow.less (h : Ow w0 w g M L O) {L' : List Ob} (hL : ∀ o ∈ L', o ∈ L) : Ow w0 w g M L' O :=
  ⟨h.st.sub (fun _ h => h) h.st.one hL, h.own, fun i r hi b hb => ⟨(h.ap i r hi b hb).1, (h.ap i r hi b hb).2.1, fun o ho => (h.ap i r hi b hb).2.2 o (hL o ho)⟩, h.two⟩
/-- fewer variables and lists are looked at -/
theorem Ow.few2 (h : Ow w0 w g M L O) {M' : List (Nat × Value)} {L' : List Ob} (hM : M' = M.take M'.length) (hL : ∀ o ∈ L', o ∈ L) : Ow w0 w g M' L' O := by
  have key : ∀ (i : Nat) (p : Nat × Value), M'[i]? = some p → M[i]? = some p := fun i p hp => by
    rw [hM, List.getElem?_take] at hp
    split at hp
    · exact hp
    · cases hp
  exact ⟨h.st.sub (fun p hp => by
      obtain ⟨i, hi⟩ := List.mem_iff_getElem?.1 hp
      exact List.mem_of_getElem? (key i p hi)) (fun i j b u v hi hj => h.st.one i j b u v (key i _ hi) (key j _ hj)) hL, h.own, fun i r hi b hb => ⟨(h.ap i r hi b hb).1, fun j k v hj => (h.ap i r hi b hb).2.1 j k v (key j _ hj), fun o ho => (h.ap i r hi b hb).2.2 o (hL o ho)⟩, h.two⟩
/-- without the first owned list -/
theorem Ow.tail {r : Rw} (h : Ow w0 w g M L (r :: O)) : Ow w0 w g M L O :=
  ⟨h.st, fun i r hi => h.own (i + 1) r hi, fun i r hi => h.ap (i + 1) r hi, fun i j r s hi hj hij => h.two (i + 1) (j + 1) r s hi hj (by omega)⟩
theorem Ow.fewM {l : List (Nat × Value)} (h : Ow w0 w g (M ++ l) L O) : Ow w0 w g M L O := h.few2 (by rw [List.take_left]) (fun _ h => h)
theorem Ow.arr (h : Ow w0 w g M L O) (xs : Array Value) (k : Nat) (hx : xs.size = k) (hk : k ≤ 1000) (T : TypeId) : Ow w0 (w.alloc (.cells xs T)) g M L (O ++ [⟨some ⟨w.heap.size, 0, none⟩, k, k, T, xs.toList⟩]) :=
  h.add (World.ownsRow_lit (base := w.heap.size) (e := T) (size := 1) w xs k (Nat.le_refl _) (by unfold maxLen; omega) (by omega)) (own_box1 _ _)
/-- owned lists in another order, or fewer -/
theorem Ow.re (h : Ow w0 w g M L O) {O' : List Rw} (f : Nat → Nat) (hf : ∀ i j, i < O'.length → j < O'.length → f i = f j → i = j) (hO : ∀ (i : Nat) (r : Rw), O'[i]? = some r → O[f i]? = some r) : Ow w0 w g M L O' :=
  ⟨h.st, fun i r hi => h.own (f i) r (hO i r hi), fun i r hi => h.ap (f i) r (hO i r hi), fun i j r s hi hj hij => h.two (f i) (f j) r s (hO i r hi) (hO j s hj) fun e => hij (hf i j (get_lt hi) (get_lt hj) e)⟩
end
end Go.Proofs.YtnplaejlmbncfaaDoor

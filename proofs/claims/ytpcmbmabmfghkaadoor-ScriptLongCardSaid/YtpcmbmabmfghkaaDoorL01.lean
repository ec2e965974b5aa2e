/- Kit Mem Nat Mod Dice NatA Np NatE NatS NatH NatJ NatT RegInv Om ScA RegB Ox Xa ScB ScC ScD ScE -/
import Derived.WalkKit
import Derived.WalkLawsBesides
import Derived.WalkSpells
import Derived.Lib.Hide
import Derived.Laws.BitsAllLaws
import Derived.Deep.QuietTactic
import Derived.BigQuiet
import Derived.Below
import Derived.OwnWalk
import Derived.Laws.OwnMore
import Derived.Laws.Rows
import Derived.Deep.AppendLies
import Derived.Maps.AppendAt
import Derived.Test.YtpcmbmabmfghkaaDoorChecked
import Derived.StillTailTactics
import Derived.Outline
import Derived.RangeFuncNested
import Derived.RangeFuncBound
import Derived.RangeFuncCalls
import Derived.RangeFuncLeaves
import Derived.RangeFuncBox
import Derived.RangeFuncWrites
import Derived.Shelf.Abstract
import Derived.Shelf.RegionOpen
import Derived.OwnWalkIn
import Derived.TacticsInMore
import Derived.LoopNIn
import Derived.LoopIn
import Derived.Deep.Cut
import Derived.RegionIn
import Derived.Lib.IndexBytes
import Derived.Lib.BufferRead
import Derived.RegionTactic
import Derived.ChangeAlike
import Derived.Deep.RegionWith
import Derived.StillTail
import Derived.Lib.QuietBelow
import Derived.Lib.Builder
import Derived.Lib.AppendStr
import Derived.Shelf.Strings.Builder1
import Derived.Deep.RegionHeld3
namespace Go.Proofs.YtpcmbmabmfghkaaDoor
open Go.RowKit

theorem below_drewN {B : Nat} {a w : World} (h : Below B a w) (n : Nat) : Below B a (w.drewN n) := ⟨h.os, h.tape, h.output, h.size, h.block⟩
end Go.Proofs.YtpcmbmabmfghkaaDoor

namespace Go.Proofs.YtpcmbmabmfghkaaDoor
open Go.RowKit

/-- The slice at A holds the values xs, in blocks below B. -/
def Sl (w : World) (B : Nat) (A : Option Addr) (xs : List Value) : Prop :=
  0 < xs.length → ∃ ad, A = some ad ∧ ad.block < B ∧ ∀ j u, xs[j]? = some u → w.cell? (ad.add j) = some u

theorem add_block (a : Addr) (n : Nat) : (a.add n).block = a.block := by unfold Addr.add; split <;> rfl
section
variable {w w' : World} {B B' : Nat} {A : Option Addr} {xs : List Value}
theorem Sl.nil (w : World) (B : Nat) (A : Option Addr) : Sl w B A [] := fun h => absurd h (by simp)
theorem Sl.keep (h : Sl w B A xs) (hk : ∀ p : Addr, p.block < B → w'.cell? p = w.cell? p) : Sl w' B A xs := fun hn => by
  obtain ⟨ad, e, hb, hc⟩ := h hn
  exact ⟨ad, e, hb, fun j u hu => (hk _ (by rw [add_block]; exact hb)).trans (hc j u hu)⟩
theorem Sl.more (h : Sl w B A xs) (hB : B ≤ B') : Sl w B' A xs := fun hn => by
  obtain ⟨ad, e, hb, hc⟩ := h hn
  exact ⟨ad, e, by omega, hc⟩
theorem Sl.below (h : Sl w B A xs) (hb : Below B w w') : Sl w' B A xs := h.keep fun _ hp => hb.cell hp
theorem Sl.drewN (h : Sl w B A xs) (k : Nat) : Sl (w.drewN k) B A xs := h
theorem Sl.alloc (h : Sl w B A xs) (hB : B ≤ w.heap.size) (o : Obj) : Sl (w.alloc o) B A xs := h.below ((Below.refl B w).alloc hB o)
theorem Sl.grown (h : Sl w B A xs) {row : Option Nat} (hg : w.grownBy w' row) (hB : B ≤ w.heap.size) (hr : ∀ g, row = some g → B ≤ g) : Sl w' B A xs :=
  h.keep fun p hp => World.cell?_of_block (hg.block p.block (by omega) (fun e => by have := hr _ e.symm; omega))
theorem Sl.take (h : Sl w B A xs) (k : Nat) : Sl w B A (xs.take k) := fun hn => by
  obtain ⟨ad, e, hb, hc⟩ := h (by rw [List.length_take] at hn; omega)
  refine ⟨ad, e, hb, fun j u hu => hc j u ?_⟩
  rw [List.getElem?_take] at hu
  split at hu
  · exact hu
  · cases hu
theorem Sl.of_own {base : Nat} {e : TypeId} {n c : Nat} (h : w.ownsRow base e 1 (.slice A n c) n xs) : Sl w w.heap.size A xs := fun hn => by
  have hl : 0 < n := by have := h.1; omega
  obtain ⟨g, cap, hv, _, hlt⟩ := h.form hl
  have hA : A = some ⟨g, 0, none⟩ := by injection hv
  subst hA
  exact ⟨_, rfl, hlt, h.cells (g := g) rfl⟩
end

section
variable {w w' : World} {base n c : Nat} {e : TypeId} {A : Option Addr} {xs : List Value}
theorem own_len (h : w.ownsRow base e 1 (.slice A n c) n xs) : xs.length = n := by have := h.1; omega
theorem own_form (h : w.ownsRow base e 1 (.slice A n c) n xs) (hn : 0 < n) : ∃ g, A = some ⟨g, 0, none⟩ ∧ base ≤ g ∧ g < w.heap.size := by
  obtain ⟨g, cap, hv, hb, hlt⟩ := h.form hn
  injection hv with h1 h2 h3
  exact ⟨g, h1, hb, hlt⟩
theorem own_cap (h : w.ownsRow base e 1 (.slice A n c) n xs) : n ≤ c ∧ c ≤ maxLen := by
  rcases h.2 with ⟨h', h0⟩ | ⟨g', cap', cur, h', hb, hg, hnc, hcm, hcs, htake⟩
  · injection h' with h1 h2 h3
    subst h0 h3
    exact ⟨Nat.le_refl _, by unfold maxLen; omega⟩
  · injection h' with h1 h2 h3
    subst h3
    exact ⟨hnc, hcm⟩
/-- a shorter piece from the head on -/
theorem own_take (h : w.ownsRow base e 1 (.slice A n c) n xs) {k : Nat} (hk : k ≤ n) : w.ownsRow base e 1 (.slice A k c) k (xs.take k) := by
  have hl := own_len h
  refine ⟨by rw [List.length_take, hl]; omega, ?_⟩
  rcases h.2 with ⟨h', h0⟩ | ⟨g', cap', cur, h', hb, hg, hnc, hcm, hcs, htake⟩
  · injection h' with h1 h2 h3
    subst h0 h1 h3
    left
    have : k = 0 := by omega
    subst this
    exact ⟨rfl, rfl⟩
  · injection h' with h1 h2 h3
    subst h1 h3
    right
    refine ⟨g', c, cur, rfl, hb, hg, by omega, hcm, hcs, ?_⟩
    rw [← htake, List.take_take]
    congr 1
    omega
theorem own_more {base' : Nat} (h : w.ownsRow base e 1 (.slice A n c) n xs) (hb : base' ≤ base) : w.ownsRow base' e 1 (.slice A n c) n xs := by
  refine ⟨h.1, ?_⟩
  rcases h.2 with h' | ⟨g', cap', cur, h', hb', r⟩
  · exact .inl h'
  · exact .inr ⟨g', cap', cur, h', by omega, r⟩
/-- a nil or fresh row is not touched by what turns another block -/
theorem own_keep (h : w.ownsRow base e 1 (.slice A n c) n xs) {row : Option Nat} (hg : w.grownBy w' row) (hne : (Value.slice A n c).ownBlock = none ∨ (Value.slice A n c).ownBlock ≠ row) : w'.ownsRow base e 1 (.slice A n c) n xs := h.kept hg hne
theorem own_below (h : w.ownsRow base e 1 (.slice A n c) n xs) (hb : Below w.heap.size w w') : w'.ownsRow base e 1 (.slice A n c) n xs :=
  h.kept (row := none) ⟨hb.os, hb.tape, hb.output, hb.size, fun k hk _ => hb.block k hk⟩ (by
    by_cases he : (Value.slice A n c).ownBlock = none
    · exact .inl he
    · exact .inr he)
end

section
variable {P : Program} (w : World)
theorem run_append_sl (base : Nat) (t ty e : TypeId) (i : TypeInfo) (z : Value) (bytes : Nat) (ht : P.underlying t = some (.slice e)) (hi : P.info? e = some i) (hz : i.zero = some z)
    (hsize : i.size = 1) (hby : i.bytes = bytes) (hzs : z.cells.size = 1)
    (A : Option Addr) (n c : Nat) (xs : List Value) (hown : w.ownsRow base e 1 (.slice A n c) n xs)
    (B : Nat) (A2 : Option Addr) (m c2 : Nat) (news : List Value) (hm : news.length = m) (hr : Sl w B A2 news) (h1 : ∀ u ∈ news, u.oneCell' = true)
    (h63 : n + m ≤ maxLen) (hbytes : (n + m) * bytes ≤ 140737488355328) (hbase : base ≤ w.heap.size) :
    ∃ A' c' w', (Builtin.append_ #[t, t] ty #[.slice A n c, .slice A2 m c2]).run P w = .ok (.slice A' (n + m) c') w' ∧ w'.ownsRow base e 1 (.slice A' (n + m) c') (n + m) (xs ++ news) ∧ w.grownBy w' (Value.slice A n c).ownBlock ∧
      ((Value.slice A' (n + m) c').ownBlock = (Value.slice A n c).ownBlock ∨ (Value.slice A' (n + m) c').ownBlock = some w.heap.size) := by
  rcases A2 with _ | ad
  · have h0 : m = 0 := by
      rcases Nat.eq_zero_or_pos m with h0 | h0
      · exact h0
      · obtain ⟨ad, h, _⟩ := hr (by omega)
        cases h
    subst h0
    have hn : news = [] := List.eq_nil_of_length_eq_zero hm
    subst hn
    refine ⟨A, c, w, ?_, by simpa using hown, World.grownBy.refl w _, .inl rfl⟩
    rcases hown.2 with ⟨h', h0⟩ | ⟨g, cap, cur, h', _, _, hnc, _⟩
    · injection h' with a1 a2 a3
      subst a1 a2 a3
      simp [Builtin.append_, run_underlying ht, sizeOf, typeInfo, hi, Builtin.lenOf, Builtin.firstCells]
    · injection h' with a1 a2 a3
      subst a1 a3
      simp [Builtin.append_, run_underlying ht, sizeOf, typeInfo, hi, Builtin.lenOf, Builtin.firstCells, hnc, storeCells]
  · have hc : ∀ j u, news[j]? = some u → w.cell? (ad.add j) = some u := by
      rcases Nat.eq_zero_or_pos m with h0 | h0
      · have hn : news = [] := List.eq_nil_of_length_eq_zero (hm.trans h0)
        subst hn
        intro j u hu
        simp at hu
      · obtain ⟨ad', h, _, hc⟩ := hr (by omega)
        injection h with h
        subst h
        exact hc
    obtain ⟨v', w', hrun, h2, h3, _, h5⟩ := run_append_own_at (P := P) w base t ty e i z 1 bytes ht hi hz hsize hby hzs (by omega) _ n xs hown ad m c2 news (by omega) hc h1 h63 hbytes hbase
    have hf : ∃ A' c', v' = .slice A' (n + m) c' := by
      rcases h2.2 with ⟨h', h0⟩ | ⟨g, cap, cur, h', _⟩
      · exact ⟨none, 0, by rw [h', h0]⟩
      · exact ⟨_, _, h'⟩
    obtain ⟨A', c', rfl⟩ := hf
    exact ⟨_, _, w', hrun, h2, h3, h5⟩

theorem wp_append_sl {o : Oper} {a : Act} {K : Act → World → Prop} {Q : Exit → Act → World → Prop} (s x : Operand) (t : TypeId)
    (ho : o.op = .call { callee := .builtin .append, args := #[s, x], argTypes := #[t, t] })
    (base : Nat) (e : TypeId) (i : TypeInfo) (z : Value) (bytes : Nat) (ht : P.underlying t = some (.slice e)) (hi : P.info? e = some i) (hz : i.zero = some z)
    (hsize : i.size = 1) (hby : i.bytes = bytes) (hzs : z.cells.size = 1)
    (A : Option Addr) (n c : Nat) (xs : List Value) (hs : a.eval s = .slice A n c) (hown : w.ownsRow base e 1 (.slice A n c) n xs)
    (B : Nat) (A2 : Option Addr) (m c2 : Nat) (news : List Value) (hx : a.eval x = .slice A2 m c2) (hm : news.length = m) (hr : Sl w B A2 news) (h1 : ∀ u ∈ news, u.oneCell' = true)
    (h63 : n + m ≤ maxLen) (hbytes : (n + m) * bytes ≤ 140737488355328) (hbase : base ≤ w.heap.size)
    (h : ∀ A' c' w', w'.ownsRow base e 1 (.slice A' (n + m) c') (n + m) (xs ++ news) → w.grownBy w' (Value.slice A n c).ownBlock → ((Value.slice A' (n + m) c').ownBlock = (Value.slice A n c).ownBlock ∨ (Value.slice A' (n + m) c').ownBlock = some w.heap.size) → K (a.put o.dst (.slice A' (n + m) c')) w') : o.wp P a w K Q := by
  obtain ⟨A', c', w', hrun, h2, h3, h4⟩ := run_append_sl (P := P) w base t o.type e i z bytes ht hi hz hsize hby hzs A n c xs hown B A2 m c2 news hm hr h1 h63 hbytes hbase
  unfold Oper.wp execOp
  simp only [ho, resolve, invoke, builtin, Sem.run_bind, Sem.run_pure, Result.andThen_ok, List.map_toArray, List.map_cons, List.map_nil, hs, hx, hrun]
  exact h A' c' w' h2 h3 h4

theorem wpList_append_sl {ops : Array Oper} {rest : List Oper} {o : Oper} {a : Act} {Q : Exit → Act → World → Prop} (hgd : o.guard = none) (s x : Operand) (t : TypeId)
    (ho : o.op = .call { callee := .builtin .append, args := #[s, x], argTypes := #[t, t] })
    (base : Nat) (e : TypeId) (i : TypeInfo) (z : Value) (bytes : Nat) (ht : P.underlying t = some (.slice e)) (hi : P.info? e = some i) (hz : i.zero = some z)
    (hsize : i.size = 1) (hby : i.bytes = bytes) (hzs : z.cells.size = 1)
    (A : Option Addr) (n c : Nat) (xs : List Value) (hs : a.eval s = .slice A n c) (hown : w.ownsRow base e 1 (.slice A n c) n xs)
    (B : Nat) (A2 : Option Addr) (m c2 : Nat) (news : List Value) (hx : a.eval x = .slice A2 m c2) (hm : news.length = m) (hr : Sl w B A2 news) (h1 : ∀ u ∈ news, u.oneCell' = true)
    (h63 : n + m ≤ maxLen) (hbytes : (n + m) * bytes ≤ 140737488355328) (hbase : base ≤ w.heap.size)
    (h : ∀ A' c' w', w'.ownsRow base e 1 (.slice A' (n + m) c') (n + m) (xs ++ news) → w.grownBy w' (Value.slice A n c).ownBlock → ((Value.slice A' (n + m) c').ownBlock = (Value.slice A n c).ownBlock ∨ (Value.slice A' (n + m) c').ownBlock = some w.heap.size) → wpList P ops Q rest (a.put o.dst (.slice A' (n + m) c')) w') :
    wpList P ops Q (o :: rest) a w :=
  wpList_plain hgd fun _ hK => wp_append_sl w s x t ho base e i z bytes ht hi hz hsize hby hzs A n c xs hs hown B A2 m c2 news hx hm hr h1 h63 hbytes hbase fun A' c' w' h2 h3 h4 => hK _ _ (h A' c' w' h2 h3 h4)
end

/-- bytes as values -/
def encB (b : UInt8) : Value := .int .u8 (b.toNat : Int)
def bys (l : List UInt8) : List Value := l.map encB
theorem bys_length (l : List UInt8) : (bys l).length = l.length := List.length_map _
theorem Sl.byte {w : World} {B : Nat} {A : Option Addr} {l : List UInt8} (h : Sl w B A (bys l)) {k : Nat} {b : UInt8} (hk : l[k]? = some b) : ∃ ad, A = some ad ∧ ad.block < B ∧ w.cell? (ad.add k) = some (.int .u8 (b.toNat : Int)) := by
  have hlt : k < l.length := by
    rcases Nat.lt_or_ge k l.length with h | h
    · exact h
    · rw [List.getElem?_eq_none h] at hk; cases hk
  obtain ⟨ad, e, hb, hc⟩ := h (by rw [bys_length]; omega)
  exact ⟨ad, e, hb, hc k _ (by unfold bys; rw [List.getElem?_map, hk]; rfl)⟩
theorem sl_new1 (w : World) (e : TypeId) (u : Value) : Sl (w.alloc (.cells #[u] e)) (w.heap.size + 1) (some ⟨w.heap.size, 0, none⟩) [u] := fun _ =>
  ⟨_, rfl, Nat.lt_succ_self _, cell_one_new _ _ _⟩
end Go.Proofs.YtpcmbmabmfghkaaDoor

namespace Go.Proofs.YtpcmbmabmfghkaaDoor
set_option linter.unusedVariables false
namespace Na
/-- the number of some limbs -/
def val : List Nat → Nat
  | [] => 0
  | a :: l => a + 16777216 * val l
/-- limbs are small -/
def Lim (l : List Nat) : Prop := ∀ a ∈ l, a < 16777216
theorem Lim.tail {a : Nat} {l : List Nat} (h : Lim (a :: l)) : Lim l := fun b hb => h b (List.mem_cons_of_mem _ hb)
theorem Lim.head {a : Nat} {l : List Nat} (h : Lim (a :: l)) : a < 16777216 := h a (List.mem_cons_self ..)
theorem Lim.at {l : List Nat} (h : Lim l) {k a : Nat} (hk : l[k]? = some a) : a < 16777216 := h a (List.mem_of_getElem? hk)
theorem Lim.nil : Lim [] := fun a h => by cases h
theorem Lim.cons {a : Nat} {l : List Nat} (h : a < 16777216) (hl : Lim l) : Lim (a :: l) := fun b hb => by
  rcases List.mem_cons.1 hb with rfl | hb
  · exact h
  · exact hl b hb
theorem Lim.append {l m : List Nat} (h : Lim l) (hm : Lim m) : Lim (l ++ m) := fun b hb => by
  rcases List.mem_append.1 hb with hb | hb
  · exact h b hb
  · exact hm b hb
theorem Lim.one {a : Nat} (h : a < 16777216) : Lim [a] := Lim.cons h Lim.nil
theorem Lim.take {l : List Nat} (h : Lim l) (k : Nat) : Lim (l.take k) := fun b hb => h b (List.mem_of_mem_take hb)
theorem Lim.set {l : List Nat} (h : Lim l) (k : Nat) {a : Nat} (ha : a < 16777216) : Lim (l.set k a) := fun b hb => by
  rcases List.mem_or_eq_of_mem_set hb with hb | rfl
  · exact h b hb
  · exact ha
end Na
end Go.Proofs.YtpcmbmabmfghkaaDoor

namespace Go.Proofs.YtpcmbmabmfghkaaDoor
open Go.RowKit
set_option linter.unusedVariables false
set_option maxRecDepth 100000
theorem ret_int {k : IntKind} {a b : Int} (h : a = b) : Ending.returned (.int k a) = .returned (.int k b) := by rw [h]

theorem mod_num (n m : Int) (h : 1 ≤ m) (h' : n.tmod m < 0) : n.tmod m + m = n % m := by
  have h1 := Int.tmod_eq_emod (a := n) (b := m)
  have h2 := Int.emod_nonneg n (show m ≠ 0 by omega)
  have h3 := Int.emod_lt_of_pos n (show 0 < m by omega)
  split at h1 <;> omega
theorem mod_num' (n m : Int) (h : 1 ≤ m) (h' : 0 ≤ n.tmod m) : n.tmod m = n % m := by
  have h1 := Int.tmod_eq_emod (a := n) (b := m)
  have h2 := Int.emod_nonneg n (show m ≠ 0 by omega)
  have h3 := Int.emod_lt_of_pos n (show 0 < m by omega)
  split at h1
  · omega
  · rename_i h4
    have : (m.natAbs : Int) = m := by omega
    omega
theorem tmod_lt (n m : Int) (h : 1 ≤ m) : - m < n.tmod m ∧ n.tmod m < m := by
  have h1 := Int.tmod_eq_emod (a := n) (b := m)
  have h2 := Int.emod_nonneg n (show m ≠ 0 by omega)
  have h3 := Int.emod_lt_of_pos n (show 0 < m by omega)
  have h5 : (m.natAbs : Int) = m := by omega
  split at h1
  · omega
  · rename_i h4
    rw [Int.dvd_iff_emod_eq_zero] at h4
    omega
/-- 'Mod(n, m)' for an m from 1 on. -/
theorem mod_any (n m : Int) (w : World) (h1 : 1 ≤ m) (h2 : m ≤ 9223372036854775807) : Calls Tryd.prog 5 #[.int .i64 n, .int .i64 m] w fun e w' => e = .returned (.int .i64 (n % m)) ∧ w = w' := by
  obtain ⟨hb, hb'⟩ := tmod_lt n m h1
  rcases Int.lt_or_le (n.tmod m) 0 with hn | hn
  · have H := Lib.hid (mod_num n m h1 hn)
    go_enter Tryd.func5, Tryd.ntmps5
    go_wp2_with fail
    go_ret
    exact ⟨ret_int H.out, rfl⟩
  · have H := Lib.hid (mod_num' n m h1 hn)
    go_enter Tryd.func5, Tryd.ntmps5
    go_wp2_with fail
    go_ret
    exact ⟨ret_int H.out, rfl⟩

end Go.Proofs.YtpcmbmabmfghkaaDoor

namespace Go.Proofs.YtpcmbmabmfghkaaDoor
open Go.RowKit
set_option linter.unusedVariables false
set_option maxRecDepth 100000

/-- ints as values -/
def encI (n : Int) : Value := .int .i64 n
def ints (l : List Int) : List Value := l.map encI
theorem ints_length (l : List Int) : (ints l).length = l.length := List.length_map _
theorem Sl.int {w : World} {B : Nat} {A : Option Addr} {l : List Int} (h : Sl w B A (ints l)) {k : Nat} {b : Int} (hk : l[k]? = some b) : ∃ ad, A = some ad ∧ ad.block < B ∧ w.cell? (ad.add k) = some (.int .i64 b) := by
  have hlt : k < l.length := by
    rcases Nat.lt_or_ge k l.length with h | h
    · exact h
    · rw [List.getElem?_eq_none h] at hk; cases hk
  obtain ⟨ad, e, hb, hc⟩ := h (by rw [ints_length]; omega)
  exact ⟨ad, e, hb, hc k _ (by unfold ints; rw [List.getElem?_map, hk]; rfl)⟩
end Go.Proofs.YtpcmbmabmfghkaaDoor

namespace Go.Proofs.YtpcmbmabmfghkaaDoor
open Go.RowKit
set_option linter.unusedVariables false
set_option maxRecDepth 100000

theorem get_lt {α : Type} {l : List α} {k : Nat} {b : α} (hk : l[k]? = some b) : k < l.length := by
  rcases Nat.lt_or_ge k l.length with h | h
  · exact h
  · rw [List.getElem?_eq_none h] at hk; cases hk
theorem infoI : (Tryd.prog.info? 3).map (fun i => (i.zero, i.size, i.bytes)) = some (some (.int .i64 0), 1, 8) := by kernel_rfl
namespace Na
end Na
theorem own_box1 (w : World) (o : Obj) : Below w.heap.size w (w.alloc o) := (Below.refl _ _).alloc (Nat.le_refl _) _
theorem grown_set (w : World) (a : Addr) (v : Value) : w.grownBy (w.setCell a v) (some a.block) := ⟨rfl, rfl, rfl, by simp [World.setCell], fun i hi hne => Below.heap_setCell _ _ _ _ (fun e => hne (by rw [e]))⟩
theorem cell_of_set {w : World} {a : Addr} {u : Value} (v : Value) (h : w.cell? a = some u) : (w.setCell a v).cell? a = some v := World.cell?_setCell_same' _ _ _ (by rw [h]; rfl)
end Go.Proofs.YtpcmbmabmfghkaaDoor

namespace Go.Proofs.YtpcmbmabmfghkaaDoor
set_option linter.unusedVariables false
namespace Na
end Na
end Go.Proofs.YtpcmbmabmfghkaaDoor

namespace Go.Proofs.YtpcmbmabmfghkaaDoor
set_option linter.unusedVariables false
namespace Na
end Na
end Go.Proofs.YtpcmbmabmfghkaaDoor

namespace Go.Proofs.YtpcmbmabmfghkaaDoor
set_option linter.unusedVariables false
namespace De
/-- the number of some digits -/
def val : List Nat → Nat
  | [] => 0
  | a :: l => a + 10 * val l
/-- digits are small -/
def Lim (l : List Nat) : Prop := ∀ a ∈ l, a < 10
theorem Lim.tail {a : Nat} {l : List Nat} (h : Lim (a :: l)) : Lim l := fun b hb => h b (List.mem_cons_of_mem _ hb)
theorem Lim.head {a : Nat} {l : List Nat} (h : Lim (a :: l)) : a < 10 := h a (List.mem_cons_self ..)
theorem Lim.at {l : List Nat} (h : Lim l) {k a : Nat} (hk : l[k]? = some a) : a < 10 := h a (List.mem_of_getElem? hk)
theorem Lim.nil : Lim [] := fun a h => by cases h
theorem Lim.cons {a : Nat} {l : List Nat} (h : a < 10) (hl : Lim l) : Lim (a :: l) := fun b hb => by
  rcases List.mem_cons.1 hb with rfl | hb
  · exact h
  · exact hl b hb
theorem Lim.append {l m : List Nat} (h : Lim l) (hm : Lim m) : Lim (l ++ m) := fun b hb => by
  rcases List.mem_append.1 hb with hb | hb
  · exact h b hb
  · exact hm b hb
theorem Lim.one {a : Nat} (h : a < 10) : Lim [a] := Lim.cons h Lim.nil
theorem Lim.take {l : List Nat} (h : Lim l) (k : Nat) : Lim (l.take k) := fun b hb => h b (List.mem_of_mem_take hb)
theorem Lim.set {l : List Nat} (h : Lim l) (k : Nat) {a : Nat} (ha : a < 10) : Lim (l.set k a) := fun b hb => by
  rcases List.mem_or_eq_of_mem_set hb with hb | rfl
  · exact h b hb
  · exact ha
end De
end Go.Proofs.YtpcmbmabmfghkaaDoor

namespace Go.Proofs.YtpcmbmabmfghkaaDoor
open Go.RowKit
set_option linter.unusedVariables false
set_option maxRecDepth 100000
theorem own_put {W : World} {base n c g : Nat} {e : TypeId} {xs : List Value} (h : W.ownsRow base e 1 (.slice (some ⟨g, 0, none⟩) n c) n xs) (k : Nat) (v : Value) : (W.setCell ⟨g, k, none⟩ v).ownsRow base e 1 (.slice (some ⟨g, 0, none⟩) n c) n (xs.set k v) := (h.stored k v).1

end Go.Proofs.YtpcmbmabmfghkaaDoor

namespace Go.Proofs.YtpcmbmabmfghkaaDoor
open Go.RowKit Go.Shelf
attribute [local go_sem] Oper.semAt_some
set_option linter.unusedVariables false
set_option maxRecDepth 100000
namespace Na
end Na
theorem add_zero (b j : Nat) : (⟨b, 0, none⟩ : Addr).add j = ⟨b, j, none⟩ := by
  unfold Addr.add
  split
  · rename_i h
    rw [h]
  · simp
end Go.Proofs.YtpcmbmabmfghkaaDoor

namespace Go.Proofs.YtpcmbmabmfghkaaDoor
open Go.RowKit
set_option linter.unusedVariables false
set_option maxRecDepth 100000
/-- a list of bytes as a string -/
def str (l : List UInt8) : ByteArray := ⟨l.toArray⟩
theorem str_list (l : List UInt8) : (str l).data.toList = l := by unfold str; simp
theorem str_toList (l : List UInt8) : (str l).toList = l := by rw [ByteArray.toList_eq, str_list]
namespace De
end De
end Go.Proofs.YtpcmbmabmfghkaaDoor

namespace Go.Proofs.YtpcmbmabmfghkaaDoor
open Go.RowKit
set_option linter.unusedVariables false
set_option maxRecDepth 100000
namespace De
end De
def Apart (a b : Value) : Prop := a.ownBlock = none ∨ a.ownBlock ≠ b.ownBlock
theorem Apart.symm {a b : Value} (h : Apart a b) : Apart b a := by
  rcases h with h | h
  · by_cases hb : b.ownBlock = none
    · exact .inl hb
    · exact .inr (by rw [h]; exact hb)
  · exact .inr (fun e => h e.symm)
/-- an append leaves its row apart from another one -/
theorem Apart.next {w : World} {base n c n1 c1 n2 c2 : Nat} {e : TypeId} {A B B' : Option Addr} {xs : List Value} (h : Apart (.slice A n c) (.slice B n1 c1)) (ho : w.ownsRow base e 1 (.slice A n c) n xs) (hb : (Value.slice B' n2 c2).ownBlock = (Value.slice B n1 c1).ownBlock ∨ (Value.slice B' n2 c2).ownBlock = some w.heap.size) : Apart (.slice A n c) (.slice B' n2 c2) := by
  rcases hb with hb | hb
  · rcases h with h | h
    · exact .inl h
    · exact .inr (by rw [hb]; exact h)
  · by_cases ha : (Value.slice A n c).ownBlock = none
    · exact .inl ha
    · refine .inr fun e1 => ?_
      rw [hb] at e1
      have := (ho.lt _ e1).2
      omega
theorem infoB' : (Tryd.prog.info? 5).map (fun i => (i.zero, i.size, i.bytes)) = some (some (.int .u8 0), 1, 1) := by kernel_rfl
end Go.Proofs.YtpcmbmabmfghkaaDoor

namespace Go.Proofs.YtpcmbmabmfghkaaDoor
open Go.RowKit
set_option linter.unusedVariables false
set_option maxRecDepth 100000
structure Ob where
  A : Option Addr
  n : Nat
  c : Nat
  vs : List Value
/-- what is held: dice in block g, variables of one cell, lists that can be read -/
structure St (w0 w : World) (g : Option Nat) (M : List (Nat × Value)) (L : List Ob) : Prop where
  below : Below w0.heap.size w0 w
  lt : ∀ x, g = some x → x < w.heap.size ∧ w0.heap.size ≤ x
  box : ∀ (i b : Nat) (v : Value), M[i]? = some (b, v) → b < w.heap.size ∧ w0.heap.size ≤ b ∧ w.cell? ⟨b, 0, none⟩ = some v ∧ w.frozen? ⟨b, 0, none⟩ = false ∧ g ≠ some b
  one : ∀ (i j b : Nat) (u v : Value), M[i]? = some (b, u) → M[j]? = some (b, v) → i = j
  held : ∀ o ∈ L, o.vs.length = o.n ∧ o.n ≤ o.c ∧ o.n ≤ 1000 ∧ ∃ B, B ≤ w.heap.size ∧ Sl w B o.A o.vs ∧ (∀ ad, o.A = some ad → 0 < o.n → g ≠ some ad.block ∧ ∀ (i b : Nat) (v : Value), M[i]? = some (b, v) → ad.block ≠ b)
theorem St.refl (w : World) : St w w none [] [] := ⟨Below.refl _ _, fun x e => (by cases e), fun i b v h => (by simp at h), fun i j b u v h => (by simp at h), fun o h => (by cases h)⟩
section
variable {w0 w w' : World} {g : Option Nat} {M : List (Nat × Value)} {L : List Ob}
theorem St.size (h : St w0 w g M L) : w0.heap.size ≤ w.heap.size := h.below.size
theorem St.go (h : St w0 w g M L) (hb : Below w.heap.size w w') : St w0 w' g M L :=
  ⟨h.below.trans (hb.mono h.size), fun x e => ⟨Nat.lt_of_lt_of_le (h.lt x e).1 hb.size, (h.lt x e).2⟩, fun i b v hi => by
    obtain ⟨h1, h2, h3, h4, h5⟩ := h.box i b v hi
    exact ⟨Nat.lt_of_lt_of_le h1 hb.size, h2, (hb.cell (p := ⟨b, 0, none⟩) h1).trans h3, (hb.frozen (p := ⟨b, 0, none⟩) h1).trans h4, h5⟩, h.one, fun o ho => by
    obtain ⟨h1, h2, h3, B, hB, hs, hne⟩ := h.held o ho
    exact ⟨h1, h2, h3, B, Nat.le_trans hB hb.size, hs.below (hb.mono hB), hne⟩⟩
theorem St.add (h : St w0 w g M L) {A : Option Addr} {n c B : Nat} {vs : List Value} (hs : Sl w B A vs) (hB : B ≤ w.heap.size) (hn : vs.length = n) (hc : n ≤ c) (hl : n ≤ 1000)
    (hne : ∀ ad, A = some ad → 0 < n → g ≠ some ad.block ∧ ∀ (i b : Nat) (v : Value), M[i]? = some (b, v) → ad.block ≠ b) : St w0 w g M (L ++ [⟨A, n, c, vs⟩]) :=
  ⟨h.below, h.lt, h.box, h.one, fun o ho => by
    rcases List.mem_append.1 ho with h1 | h1
    · exact h.held o h1
    · rw [List.mem_singleton] at h1
      subst h1
      exact ⟨hn, hc, hl, B, hB, hs, hne⟩⟩
/-- a list that lay before everything of the call's own -/
theorem St.old (h : St w0 w g M L) {A : Option Addr} {n c : Nat} {vs : List Value} (hs : Sl w0 w0.heap.size A vs) (hn : vs.length = n) (hc : n ≤ c) (hl : n ≤ 1000) : St w0 w g M (L ++ [⟨A, n, c, vs⟩]) := by
  refine h.add ((hs.below h.below)) h.size hn hc hl fun ad e h0 => ?_
  obtain ⟨ad', e', hb, _⟩ := hs (by omega)
  rw [e] at e'
  obtain rfl := Option.some.inj e'
  exact ⟨fun e2 => by have := (h.lt _ e2).2; omega, fun i b v hi e2 => by have := (h.box i b v hi).2.1; omega⟩
theorem St.push (h : St w0 w g M L) {A : Option Addr} {n c : Nat} {vs : List Value} {e : TypeId} (ho : w'.ownsRow w.heap.size e 1 (.slice A n c) n vs) (hl : n ≤ 1000) (hb : Below w.heap.size w w') : St w0 w' g M (L ++ [⟨A, n, c, vs⟩]) := by
  refine (h.go hb).add (Sl.of_own ho) (Nat.le_refl _) (own_len ho) (own_cap ho).1 hl fun ad e h0 => ?_
  obtain ⟨g', hg', h1, _⟩ := own_form ho h0
  rw [e] at hg'
  obtain rfl := Option.some.inj hg'
  exact ⟨fun e2 => by have := (h.lt _ e2).1; simp only at this; omega, fun i b v hi e2 => by have := (h.box i b v hi).1; simp only at e2; omega⟩
/-- a variable gets another value -/
theorem St.put (h : St w0 w g M L) (i : Nat) {b : Nat} {v : Value} (hi : M[i]? = some (b, v)) (u : Value) : St w0 (w.setCell ⟨b, 0, none⟩ u) g (M.set i (b, u)) L := by
  obtain ⟨h1, h2, h3, h4, h5⟩ := h.box i b v hi
  have key : ∀ (j c : Nat) (x : Value), (M.set i (b, u))[j]? = some (c, x) → (j = i ∧ c = b ∧ x = u) ∨ (j ≠ i ∧ M[j]? = some (c, x)) := fun j c x hj => by
    by_cases e : j = i
    · subst e
      rw [List.getElem?_set_self (get_lt hi)] at hj
      simp at hj
      exact .inl ⟨rfl, hj.1.symm, hj.2.symm⟩
    · rw [List.getElem?_set_ne (fun e' => e e'.symm)] at hj
      exact .inr ⟨e, hj⟩
  have hsz : (w.setCell ⟨b, 0, none⟩ u).heap.size = w.heap.size := by simp [World.setCell]
  refine ⟨h.below.setCell (p := ⟨b, 0, none⟩) h2 _, fun x e => by rw [hsz]; exact h.lt x e, fun j c x hj => ?_, fun j k c x y hj hk => ?_, fun o ho => ?_⟩
  · rcases key j c x hj with ⟨_, rfl, rfl⟩ | ⟨hne, hj'⟩
    · exact ⟨by rw [hsz]; exact h1, h2, cell_of_set _ h3, by rw [World.frozen?_setCell]; exact h4, h5⟩
    · obtain ⟨k1, k2, k3, k4, k5⟩ := h.box j c x hj'
      have hcb : c ≠ b := fun e => by subst e; exact hne (h.one j i c x v hj' hi)
      exact ⟨by rw [hsz]; exact k1, k2, by rw [World.cell?_setCell_other _ _ _ _ (fun e => hcb (congrArg Addr.block e).symm)]; exact k3, by rw [World.frozen?_setCell]; exact k4, k5⟩
  · rcases key j c x hj with ⟨e1, rfl, rfl⟩ | ⟨hne, hj'⟩ <;> rcases key k _ y hk with ⟨e2, e3, _⟩ | ⟨hne2, hk'⟩
    · omega
    · exact absurd (h.one k i _ y v hk' hi) hne2
    · subst e3; exact absurd (h.one j i _ x v hj' hi) hne
    · exact h.one j k c x y hj' hk'
  · obtain ⟨k1, k2, k3, B, hB, hs, hne⟩ := h.held o ho
    refine ⟨k1, k2, k3, B, by rw [hsz]; exact hB, fun hn => ?_, fun ad e h0 => ⟨(hne ad e h0).1, fun j c x hj => ?_⟩⟩
    · obtain ⟨ad, hA, hbk, hcell⟩ := hs hn
      refine ⟨ad, hA, hbk, fun k x hx => ?_⟩
      rw [World.cell?_of_block (Below.heap_setCell _ _ _ _ (by rw [add_block]; exact (hne ad hA (by omega)).2 i b v hi))]
      exact hcell k x hx
    · rcases key j c x hj with ⟨_, rfl, _⟩ | ⟨_, hj'⟩
      · exact (hne ad e h0).2 i c v hi
      · exact (hne ad e h0).2 j c x hj'
theorem St.sl (h : St w0 w g M L) {i : Nat} {A : Option Addr} {n c : Nat} {vs : List Value} (hi : L[i]? = some ⟨A, n, c, vs⟩) : vs.length = n ∧ n ≤ c ∧ n ≤ 1000 ∧ Sl w w.heap.size A vs := by
  obtain ⟨h1, h2, h3, B, hB, hs, _⟩ := h.held _ (List.mem_of_getElem? hi)
  exact ⟨h1, h2, h3, hs.more hB⟩
theorem St.cell (h : St w0 w g M L) (i : Nat) {b : Nat} {v : Value} (hi : M[i]? = some (b, v)) : w.cell? ⟨b, 0, none⟩ = some v := (h.box i b v hi).2.2.1
theorem St.drewN (h : St w0 w g M L) (k : Nat) : St w0 (w.drewN k) g M L := h.go (below_drewN (Below.refl _ _) k)
end
end Go.Proofs.YtpcmbmabmfghkaaDoor

namespace Go.Proofs.YtpcmbmabmfghkaaDoor
set_option linter.unusedVariables false
set_option maxRecDepth 100000
section
variable {P : Program} {md : Region.Mode} {ops : Array Oper} {Q : Exit → Act → World → Prop}
/-- which operations are done -/
def dset (L : Nat → Bool) (j : Nat) : Nat → Bool := fun i => if i = j then true else L i
/-- every edge leads back -/
def backward (ops : Array Oper) : Bool := (List.range ops.size).all fun i => ((ops[i]?).map fun o => o.after.all fun e => decide (e.on < i)).getD true
theorem mem_ready {l : Array Bool} {j : Nat} (h : j ∈ Region.ready md ops l) : j < ops.size ∧ l.getD j true = false ∧ ∀ o, ops[j]? = some o → ∀ e ∈ o.after, Region.binds md e = true → l.getD e.on false = true := by
  unfold Region.ready at h
  rw [List.mem_filter] at h
  obtain ⟨h1, h2⟩ := h
  rw [List.mem_range] at h1
  rw [Bool.and_eq_true] at h2
  refine ⟨h1, by simpa using h2.1, fun o ho e he hb => ?_⟩
  have h3 := h2.2
  rw [ho] at h3
  have h3' : (o.after.all fun e => !Region.binds md e || l.getD e.on false) = true := h3
  have h4 := Array.all_eq_true_iff_forall_mem.1 h3' e he
  rw [hb] at h4
  exact h4
/-- the operations that must be done before -/
def preds (md : Region.Mode) (ops : Array Oper) (j : Nat) : List Nat := ((ops[j]?).map fun o => (o.after.toList.filter (Region.binds md ·)).map (·.on)).getD []
theorem mem_preds {o : Oper} {j : Nat} {L : Nat → Bool} (ho : ops[j]? = some o) (h : ∀ e ∈ o.after, Region.binds md e = true → L e.on = true) : ∀ i, (preds md ops j).elem i = true → L i = true := fun i hi => by
  have hi := List.mem_of_elem_eq_true hi
  unfold preds at hi
  rw [ho] at hi
  have hi' : i ∈ (o.after.toList.filter (Region.binds md ·)).map (·.on) := hi
  obtain ⟨e, he, rfl⟩ := List.mem_map.1 hi'
  rw [List.mem_filter] at he
  exact h e (Array.mem_toList_iff.1 he.1) he.2
/-- the done operations are closed backward -/
def Closed (ops : Array Oper) (L : Nat → Bool) : Prop := ∀ j i, L j = true → (preds .any ops j).elem i = true → L i = true
end
end Go.Proofs.YtpcmbmabmfghkaaDoor

namespace Go.Proofs.YtpcmbmabmfghkaaDoor
open Go.RowKit
set_option linter.unusedVariables false
set_option maxRecDepth 100000
structure Rw where
  A : Option Addr
  n : Nat
  c : Nat
  e : TypeId
  vs : List Value
def Rw.blk (r : Rw) : Option Nat := (Value.slice r.A r.n r.c).ownBlock
theorem blk_some (A : Option Addr) (n c : Nat) : (Value.slice A n c).ownBlock = A.map Addr.block := by cases A <;> rfl
/-- what is held, and owned lists in blocks of their own -/
structure Ow (w0 w : World) (g : Option Nat) (M : List (Nat × Value)) (L : List Ob) (O : List Rw) : Prop where
  st : St w0 w g M L
  own : ∀ (i : Nat) (r : Rw), O[i]? = some r → w.ownsRow w0.heap.size r.e 1 (.slice r.A r.n r.c) r.n r.vs
  ap : ∀ (i : Nat) (r : Rw), O[i]? = some r → ∀ b, r.blk = some b → g ≠ some b ∧ (∀ (j k : Nat) (v : Value), M[j]? = some (k, v) → b ≠ k) ∧ (∀ o ∈ L, ∀ ad, o.A = some ad → 0 < o.n → b ≠ ad.block)
  two : ∀ (i j : Nat) (r s : Rw), O[i]? = some r → O[j]? = some s → i ≠ j → ∀ b, r.blk = some b → s.blk ≠ some b
section
variable {w0 w w' : World} {g : Option Nat} {M : List (Nat × Value)} {L : List Ob} {O : List Rw}
theorem Ow.of (h : St w0 w g M L) : Ow w0 w g M L [] := ⟨h, fun i r e => by simp at e, fun i r e => by simp at e, fun i j r s e => by simp at e⟩
theorem Ow.lt (h : Ow w0 w g M L O) {i : Nat} {r : Rw} (hi : O[i]? = some r) {b : Nat} (hb : r.blk = some b) : b < w.heap.size ∧ w0.heap.size ≤ b := by
  have := (h.own i r hi).lt b hb
  exact ⟨this.2, this.1⟩
theorem Ow.go (h : Ow w0 w g M L O) (hb : Below w.heap.size w w') : Ow w0 w' g M L O :=
  ⟨h.st.go hb, fun i r hi => own_below (h.own i r hi) hb, h.ap, h.two⟩
theorem Ow.size (h : Ow w0 w g M L O) : w0.heap.size ≤ w.heap.size := h.st.size
theorem Ow.below (h : Ow w0 w g M L O) : Below w0.heap.size w0 w := h.st.below
theorem Ow.cell (h : Ow w0 w g M L O) (i : Nat) {b : Nat} {v : Value} (hi : M[i]? = some (b, v)) : w.cell? ⟨b, 0, none⟩ = some v := h.st.cell i hi
theorem Ow.sl (h : Ow w0 w g M L O) {i : Nat} {A : Option Addr} {n c : Nat} {vs : List Value} (hi : L[i]? = some ⟨A, n, c, vs⟩) : vs.length = n ∧ n ≤ c ∧ n ≤ 1000 ∧ Sl w w.heap.size A vs := h.st.sl hi
theorem Ow.row (h : Ow w0 w g M L O) (i : Nat) {A : Option Addr} {n c : Nat} {e : TypeId} {vs : List Value} (hi : O[i]? = some ⟨A, n, c, e, vs⟩) : w.ownsRow w0.heap.size e 1 (.slice A n c) n vs := h.own i _ hi
/-- a new list of one's own -/
theorem Ow.add (h : Ow w0 w g M L O) {A : Option Addr} {n c : Nat} {e : TypeId} {vs : List Value} (ho : w'.ownsRow w.heap.size e 1 (.slice A n c) n vs) (hb : Below w.heap.size w w') : Ow w0 w' g M L (O ++ [⟨A, n, c, e, vs⟩]) := by
  have h' := h.go hb
  have key : ∀ (i : Nat) (r : Rw), (O ++ [⟨A, n, c, e, vs⟩])[i]? = some r → O[i]? = some r ∨ (O.length = i ∧ r = ⟨A, n, c, e, vs⟩) := fun i r hi => by
    rcases Nat.lt_or_ge i O.length with h1 | h1
    · rw [List.getElem?_append_left h1] at hi
      exact .inl hi
    · rw [List.getElem?_append_right h1] at hi
      have h2 : i - O.length = 0 := by have := get_lt hi; simp at this; omega
      rw [h2] at hi
      simp at hi
      exact .inr ⟨by omega, hi.symm⟩
  have new : ∀ b, (⟨A, n, c, e, vs⟩ : Rw).blk = some b → w.heap.size ≤ b := fun b hb' => (ho.lt b hb').1
  refine ⟨h'.st, fun i r hi => ?_, fun i r hi b hb' => ?_, fun i j r s hi hj hij b hb' e2 => ?_⟩
  · rcases key i r hi with h1 | ⟨_, rfl⟩
    · exact h'.own i r h1
    · exact own_more ho h.size
  · rcases key i r hi with h1 | ⟨_, rfl⟩
    · exact h'.ap i r h1 b hb'
    · have h3 := new b hb'
      refine ⟨fun e => by have := (h.st.lt b e).1; omega, fun j k v hj e => by have := (h.st.box j k v hj).1; omega, fun o ho' ad ha h0 e => ?_⟩
      obtain ⟨h4, _, _, B, hB, hs, _⟩ := h.st.held o ho'
      obtain ⟨ad', ha', hlt, _⟩ := hs (by omega)
      rw [ha] at ha'
      obtain rfl := Option.some.inj ha'
      omega
  · rcases key i r hi with h1 | ⟨h1, rfl⟩ <;> rcases key j s hj with h2 | ⟨h2, rfl⟩
    · exact h.two i j r s h1 h2 hij b hb' e2
    · have := (h.lt h1 hb').1; have := new b e2; omega
    · have := (h.lt h2 e2).1; have := new b hb'; omega
    · omega
/-- an owned list is turned: nothing else is -/
theorem Ow.turn (h : Ow w0 w g M L O) (i : Nat) {r r' : Rw} (hi : O[i]? = some r) (hg : w.grownBy w' r.blk) (ho : w'.ownsRow w0.heap.size r'.e 1 (.slice r'.A r'.n r'.c) r'.n r'.vs) (hb : r'.blk = r.blk ∨ r'.blk = some w.heap.size) : Ow w0 w' g M L (O.set i r') := by
  have key : ∀ (j : Nat) (x : Rw), (O.set i r')[j]? = some x → (j = i ∧ x = r') ∨ (j ≠ i ∧ O[j]? = some x) := fun j x hj => by
    by_cases e : j = i
    · subst e
      rw [List.getElem?_set_self (get_lt hi)] at hj
      simp at hj
      exact .inl ⟨rfl, hj.symm⟩
    · rw [List.getElem?_set_ne (fun e' => e e'.symm)] at hj
      exact .inr ⟨e, hj⟩
  have low : ∀ b, r.blk = some b → w0.heap.size ≤ b := fun b hb' => (h.lt hi hb').2
  have hbel : Below w0.heap.size w0 w' := h.below.trans ((Below.refl _ _).grown hg h.size low)
  have cellk : ∀ b, b < w.heap.size → r.blk ≠ some b → w'.heap[b]? = w.heap[b]? := fun b h1 h2 => hg.block b h1 (fun e => h2 e.symm)
  refine ⟨⟨hbel, fun x e => ⟨Nat.lt_of_lt_of_le (h.st.lt x e).1 hg.size, (h.st.lt x e).2⟩, fun j b v hj => ?_, h.st.one, fun o ho' => ?_⟩, fun j x hj => ?_, fun j x hj b hb' => ?_, fun j k x y hj hk hjk b hb' e2 => ?_⟩
  · obtain ⟨h1, h2, h3, h4, h5⟩ := h.st.box j b v hj
    have e1 := cellk b h1 (fun e => (h.ap i r hi b e).2.1 j b v hj rfl)
    exact ⟨Nat.lt_of_lt_of_le h1 hg.size, h2, (World.cell?_of_block (a := ⟨b, 0, none⟩) e1).trans h3, (World.frozen?_of_block (a := ⟨b, 0, none⟩) e1).trans h4, h5⟩
  · obtain ⟨h1, h2, h3, B, hB, hs, hne⟩ := h.st.held o ho'
    refine ⟨h1, h2, h3, B, Nat.le_trans hB hg.size, fun hn => ?_, hne⟩
    obtain ⟨ad, hA, hbk, hcell⟩ := hs hn
    refine ⟨ad, hA, hbk, fun k u hu => ?_⟩
    rw [World.cell?_of_block (cellk _ (by rw [add_block]; omega) (by rw [add_block]; intro e; exact (h.ap i r hi _ e).2.2 o ho' ad hA (by omega) rfl))]
    exact hcell k u hu
  · rcases key j x hj with ⟨_, rfl⟩ | ⟨hne, hj'⟩
    · exact ho
    · refine own_keep (h.own j x hj') hg ?_
      by_cases e : (Value.slice x.A x.n x.c).ownBlock = none
      · exact .inl e
      · refine .inr fun e2 => ?_
        obtain ⟨b, hb'⟩ := Option.ne_none_iff_exists'.1 e
        exact h.two j i x r hj' hi hne b hb' (by rw [← e2]; exact hb')
  · have old : ∀ b, r'.blk = some b → (∃ b', r.blk = some b' ∧ b = b') ∨ b = w.heap.size := fun b e => by
      rcases hb with e1 | e1
      · exact .inl ⟨b, by rw [← e1]; exact e, rfl⟩
      · rw [e] at e1; exact .inr (Option.some.inj e1)
    rcases key j x hj with ⟨_, rfl⟩ | ⟨hne, hj'⟩
    · rcases old b hb' with ⟨b', e1, rfl⟩ | rfl
      · exact h.ap i r hi b e1
      · refine ⟨fun e => by have := (h.st.lt _ e).1; omega, fun j k v hj e => by have := (h.st.box j k v hj).1; omega, fun o ho' ad ha h0 e => ?_⟩
        obtain ⟨h4, _, _, B, hB, hs, _⟩ := h.st.held o ho'
        obtain ⟨ad', ha', hlt, _⟩ := hs (by omega)
        rw [ha] at ha'
        obtain rfl := Option.some.inj ha'
        omega
    · exact h.ap j x hj' b hb'
  · have old : ∀ b, r'.blk = some b → r.blk = some b ∨ b = w.heap.size := fun b e => by
      rcases hb with e1 | e1
      · exact .inl (by rw [← e1]; exact e)
      · rw [e] at e1; exact .inr (Option.some.inj e1)
    rcases key j x hj with ⟨a1, rfl⟩ | ⟨hne, hj'⟩ <;> rcases key k y hk with ⟨a2, rfl⟩ | ⟨hne2, hk'⟩
    · omega
    · rcases old b hb' with e1 | rfl
      · exact h.two i k r y hi hk' (fun e => hne2 e.symm) b e1 e2
      · have := (h.lt hk' e2).1; omega
    · rcases old b e2 with e1 | rfl
      · exact h.two j i x r hj' hi hne b hb' e1
      · have := (h.lt hj' hb').1; omega
    · exact h.two j k x y hj' hk' hjk b hb' e2
/-- a store into an owned list -/
theorem Ow.put (h : Ow w0 w g M L O) (i : Nat) {gb n c : Nat} {e : TypeId} {vs : List Value} (hi : O[i]? = some ⟨some ⟨gb, 0, none⟩, n, c, e, vs⟩) (k : Nat) (v : Value) : Ow w0 (w.setCell ⟨gb, k, none⟩ v) g M L (O.set i ⟨some ⟨gb, 0, none⟩, n, c, e, vs.set k v⟩) :=
  h.turn i hi (r' := ⟨some ⟨gb, 0, none⟩, n, c, e, vs.set k v⟩) (grown_set _ _ _) (own_put (h.own i _ hi) k v) (.inl rfl)
/-- a shorter piece from the head on -/
theorem Ow.cut (h : Ow w0 w g M L O) (i : Nat) {A : Option Addr} {n c : Nat} {e : TypeId} {vs : List Value} (hi : O[i]? = some ⟨A, n, c, e, vs⟩) {k : Nat} (hk : k ≤ n) : Ow w0 w g M L (O.set i ⟨A, k, c, e, vs.take k⟩) :=
  h.turn i hi (r' := ⟨A, k, c, e, vs.take k⟩) (World.grownBy.refl w _) (own_take (h.own i _ hi) hk) (.inl (by show (Value.slice A k c).ownBlock = (Value.slice A n c).ownBlock; rw [blk_some, blk_some]))
/-- an owned list seen as another list of the same values -/
theorem Ow.same (h : Ow w0 w g M L O) (i : Nat) {A : Option Addr} {n c : Nat} {e : TypeId} {vs vs' : List Value} (hi : O[i]? = some ⟨A, n, c, e, vs⟩) (hv : vs = vs') : Ow w0 w g M L (O.set i ⟨A, n, c, e, vs'⟩) := by
  subst hv
  exact h.turn i hi (r' := ⟨A, n, c, e, vs⟩) (World.grownBy.refl w _) (h.own i _ hi) (.inl rfl)
/-- an owned list is only read from now on -/
theorem Ow.keep (h : Ow w0 w g M L O) (i : Nat) {A : Option Addr} {n c : Nat} {e : TypeId} {vs : List Value} (hi : O[i]? = some ⟨A, n, c, e, vs⟩) (hl : n ≤ 1000) : Ow w0 w g M (L ++ [⟨A, n, c, vs⟩]) (O.set i ⟨none, 0, 0, e, []⟩) := by
  have h1 := h.turn i hi (r' := ⟨A, n, c, e, vs⟩) (World.grownBy.refl w _) (h.own i _ hi) (.inl rfl)
  have key : ∀ (j : Nat) (x : Rw), (O.set i ⟨none, 0, 0, e, []⟩)[j]? = some x → (j = i ∧ x = ⟨none, 0, 0, e, []⟩) ∨ (j ≠ i ∧ O[j]? = some x) := fun j x hj => by
    by_cases e : j = i
    · subst e
      rw [List.getElem?_set_self (get_lt hi)] at hj
      simp at hj
      exact .inl ⟨rfl, hj.symm⟩
    · rw [List.getElem?_set_ne (fun e' => e e'.symm)] at hj
      exact .inr ⟨e, hj⟩
  have ho := h.own i _ hi
  refine ⟨h.st.add (Sl.of_own ho) (Nat.le_refl _) (own_len ho) (own_cap ho).1 hl fun ad ea h0 => ?_, fun j x hj => ?_, fun j x hj b hb => ?_, fun j k x y hj hk hjk b hb e2 => ?_⟩
  · have hb : (⟨A, n, c, e, vs⟩ : Rw).blk = some ad.block := by show (Value.slice A n c).ownBlock = _; rw [ea]; rfl
    have := h.ap i _ hi _ hb
    exact ⟨this.1, this.2.1⟩
  · rcases key j x hj with ⟨_, rfl⟩ | ⟨hne, hj'⟩
    · exact World.ownsRow_nil _ _ _ _
    · exact h.own j x hj'
  · rcases key j x hj with ⟨_, rfl⟩ | ⟨hne, hj'⟩
    · cases hb
    · obtain ⟨a1, a2, a3⟩ := h.ap j x hj' b hb
      refine ⟨a1, a2, fun o ho' ad ea h0 => ?_⟩
      rcases List.mem_append.1 ho' with h2 | h2
      · exact a3 o h2 ad ea h0
      · rw [List.mem_singleton] at h2
        subst h2
        intro e3
        have hb2 : (⟨A, n, c, e, vs⟩ : Rw).blk = some b := by show (Value.slice A n c).ownBlock = _; rw [show A = some ad from ea, e3]; rfl
        exact h.two j i x _ hj' hi hne b hb hb2
  · rcases key j x hj with ⟨a1, rfl⟩ | ⟨hne, hj'⟩ <;> rcases key k y hk with ⟨a2, rfl⟩ | ⟨hne2, hk'⟩
    · omega
    · cases hb
    · cases e2
    · exact h.two j k x y hj' hk' hjk b hb e2
/-- a list that lay before everything of the call's own -/
theorem Ow.old (h : Ow w0 w g M L O) {A : Option Addr} {n c : Nat} {vs : List Value} (hs : Sl w0 w0.heap.size A vs) (hn : vs.length = n) (hc : n ≤ c) (hl : n ≤ 1000) : Ow w0 w g M (L ++ [⟨A, n, c, vs⟩]) O := by
  refine ⟨h.st.old hs hn hc hl, h.own, fun i r hi b hb => ?_, h.two⟩
  obtain ⟨a1, a2, a3⟩ := h.ap i r hi b hb
  refine ⟨a1, a2, fun o ho ad ea h0 => ?_⟩
  rcases List.mem_append.1 ho with h1 | h1
  · exact a3 o h1 ad ea h0
  · rw [List.mem_singleton] at h1
    subst h1
    obtain ⟨ad', e', hbk, _⟩ := hs (by show 0 < vs.length; rw [hn]; exact h0)
    rw [show A = some ad from ea] at e'
    obtain rfl := Option.some.inj e'
    have := (h.lt hi hb).2
    omega
/-- the list of a call, only to be read -/
theorem Ow.push (h : Ow w0 w g M L O) {A : Option Addr} {n c : Nat} {vs : List Value} {e : TypeId} (ho : w'.ownsRow w.heap.size e 1 (.slice A n c) n vs) (hl : n ≤ 1000) (hb : Below w.heap.size w w') : Ow w0 w' g M (L ++ [⟨A, n, c, vs⟩]) O := by
  have h1 := (h.add ho hb).keep O.length (A := A) (n := n) (c := c) (e := e) (vs := vs) (by rw [List.getElem?_append_right (Nat.le_refl _), Nat.sub_self]; rfl) hl
  have cut : ∀ (i : Nat) (r : Rw), O[i]? = some r → ((O ++ [(⟨A, n, c, e, vs⟩ : Rw)]).set O.length (⟨none, 0, 0, e, []⟩ : Rw))[i]? = some r := fun i r hi => by
    have := get_lt hi
    rw [List.getElem?_set_ne (by omega), List.getElem?_append_left this]
    exact hi
  exact ⟨h1.st, fun i r hi => h1.own i r (cut i r hi), fun i r hi => h1.ap i r (cut i r hi), fun i j r s hi hj => h1.two i j r s (cut i r hi) (cut j s hj)⟩
theorem Ow.drewN (h : Ow w0 w g M L O) (k : Nat) : Ow w0 (w.drewN k) g M L O := h.go (below_drewN (Below.refl _ _) k)
end
end Go.Proofs.YtpcmbmabmfghkaaDoor

namespace Go.Proofs.YtpcmbmabmfghkaaDoor
open Go.RowKit
set_option linter.unusedVariables false
set_option maxRecDepth 100000
/-- what a list's element type is: one cell -/
def Elem (P : Program) (t e : TypeId) (z : Value) (bytes : Nat) : Prop := P.underlying t = some (.slice e) ∧ z.cells = #[z] ∧ ∃ i, P.info? e = some i ∧ i.zero = some z ∧ i.size = 1 ∧ i.bytes = bytes
section
variable {P : Program} {w0 w : World} {g : Option Nat} {M : List (Nat × Value)} {L : List Ob} {O : List Rw} {t e : TypeId} {z : Value} {bytes : Nat}
theorem Ow.nil (h : Ow w0 w g M L O) (e : TypeId) : Ow w0 w g M L (O ++ [⟨none, 0, 0, e, []⟩]) := h.add (World.ownsRow_nil _ _ _ _) (Below.refl _ _)
/-- 'append' of a list that can be read -/
theorem ow_append {ops : Array Oper} {rest : List Oper} {o : Oper} {a : Act} {Q : Exit → Act → World → Prop} (hE : Elem P t e z bytes) (h : Ow w0 w g M L O) (i : Nat) (s x : Operand) {A : Option Addr} {n c : Nat} {xs : List Value} (hi : O[i]? = some ⟨A, n, c, e, xs⟩)
    {B : Nat} {A2 : Option Addr} {m c2 : Nat} {news : List Value} (hm : news.length = m) (hr : Sl w B A2 news) (h1 : ∀ u ∈ news, u.oneCell' = true) (h63 : n + m ≤ maxLen) (hbytes : (n + m) * bytes ≤ 140737488355328)
    (hgd : o.guard = none) (ho : o.op = .call { callee := .builtin .append, args := #[s, x], argTypes := #[t, t] }) (hs : a.eval s = .slice A n c) (hx : a.eval x = .slice A2 m c2)
    (hk : ∀ A' c' w', Ow w0 w' g M L (O.set i ⟨A', n + m, c', e, xs ++ news⟩) → wpList P ops Q rest (a.put o.dst (.slice A' (n + m) c')) w') : wpList P ops Q (o :: rest) a w := by
  obtain ⟨ht, hzc, inf, hi0, hz, hsz, hby⟩ := hE
  exact wpList_append_sl w hgd s x t ho w0.heap.size e inf z bytes ht hi0 hz hsz hby (by rw [hzc]; rfl) A n c xs hs (h.own i _ hi) B A2 m c2 news hx hm hr h1 h63 hbytes h.size fun A' c' w' h2 h3 h4 =>
    hk A' c' w' (h.turn i hi (r' := ⟨A', n + m, c', e, xs ++ news⟩) h3 h2 h4)
/-- 'append' of one element, laid as a list of one -/
theorem ow_append1 {ops : Array Oper} {rest : List Oper} {o : Oper} {a : Act} {Q : Exit → Act → World → Prop} (hE : Elem P t e z bytes) (h : Ow w0 w g M L O) (i : Nat) (s x : Operand) (v : Value) (tt : TypeId) {A : Option Addr} {n c : Nat} {xs : List Value} (hi : O[i]? = some ⟨A, n, c, e, xs⟩)
    (h1 : v.oneCell' = true) (h63 : n + 1 ≤ maxLen) (hbytes : (n + 1) * bytes ≤ 140737488355328)
    (hgd : o.guard = none) (ho : o.op = .call { callee := .builtin .append, args := #[s, x], argTypes := #[t, t] }) (hs : a.eval s = .slice A n c) (hx : a.eval x = .slice (some ⟨w.heap.size, 0, none⟩) 1 1)
    (hk : ∀ A' c' w', Ow w0 w' g M L (O.set i ⟨A', n + 1, c', e, xs ++ [v]⟩) → wpList P ops Q rest (a.put o.dst (.slice A' (n + 1) c')) w') : wpList P ops Q (o :: rest) a (w.alloc (.cells #[v] tt)) :=
  ow_append hE (h.go (own_box1 w _)) i s x hi (m := 1) (news := [v]) rfl (sl_new1 w tt v) (fun u hu => by rw [List.mem_singleton] at hu; subst hu; exact h1) h63 hbytes hgd ho hs hx hk
end
theorem elemI : Elem Tryd.prog 23 3 (.int .i64 0) 8 := by
  obtain ⟨i0, hi, hz0, hz1, hz2⟩ := info_parts infoI
  exact ⟨Tryd.underlying23, rfl, i0, hi, hz0, hz1, hz2⟩
namespace Na
end Na
end Go.Proofs.YtpcmbmabmfghkaaDoor

namespace Go.Proofs.YtpcmbmabmfghkaaDoor
open Go.Sort
set_option linter.unusedVariables false
set_option maxRecDepth 100000
section
variable {P : Program} {md : Region.Mode} {ops : Array Oper} {C : World → Prop}
/-- every edge leads back -/
def backs (ops : Array Oper) : Bool := (List.range ops.size).all fun i => ((ops[i]?).map fun o => o.after.all fun e => decide (e.on < i)).getD true
theorem backs_spec (h : backs ops = true) {j : Nat} {o : Oper} (ho : ops[j]? = some o) : ∀ e ∈ o.after, e.on < j := fun e he => by
  have hj : j < ops.size := (Array.getElem?_eq_some_iff.1 ho).1
  have h1 := List.all_eq_true.1 h j (List.mem_range.2 hj)
  rw [ho] at h1
  exact of_decide_eq_true (Array.all_eq_true_iff_forall_mem.1 (show (o.after.all fun e => decide (e.on < j)) = true from h1) e he)
/-- the same head, the tail marked as done -/
structure Twin (ops : Array Oper) (n : Nat) (l l' : Array Bool) : Prop where
  size : l'.size = ops.size
  head : ∀ i, i < n → l'.getD i false = l.getD i false
  tail : ∀ i, n ≤ i → i < ops.size → l'.getD i false = true
theorem getD_tf {l : Array Bool} {i : Nat} (hi : i < l.size) : l.getD i true = l.getD i false := by
  rw [Array.getD_eq_getD_getElem?, Array.getD_eq_getD_getElem?, Array.getElem?_eq_getElem hi]; rfl
theorem Twin.set {n i : Nat} {l l' : Array Bool} (h : Twin ops n l l') (hs : l.size = ops.size) (hi : i < n) (hn : n ≤ ops.size) : Twin ops n (l.setIfInBounds i true) (l'.setIfInBounds i true) := by
  refine ⟨by rw [Array.size_setIfInBounds]; exact h.size, fun j hj => ?_, fun j h1 h2 => ?_⟩
  · by_cases e : i = j
    · subst e
      rw [Array.getD_eq_getD_getElem?, Array.getD_eq_getD_getElem?, Array.getElem?_setIfInBounds_self_of_lt (by rw [h.size]; omega), Array.getElem?_setIfInBounds_self_of_lt (by rw [hs]; omega)]
    · have := h.head j hj
      rw [Array.getD_eq_getD_getElem?, Array.getD_eq_getD_getElem?] at this ⊢
      rw [Array.getElem?_setIfInBounds_ne e, Array.getElem?_setIfInBounds_ne e]
      exact this
  · have := h.tail j h1 h2
    rw [Array.getD_eq_getD_getElem?] at this ⊢
    rw [Array.getElem?_setIfInBounds_ne (by omega)]
    exact this
theorem Twin.ready {n i : Nat} {l l' : Array Bool} (h : Twin ops n l l') (hl : l.size = ops.size) (hb : backs ops = true) (hi : i < n) (hn : n ≤ ops.size) : i ∈ Region.ready md ops l ↔ i ∈ Region.ready md ops l' := by
  rw [Go.mem_ready, Go.mem_ready]
  have e1 : l'.getD i true = l.getD i true := by rw [getD_tf (by rw [h.size]; omega), getD_tf (by rw [hl]; omega), h.head i hi]
  rw [e1]
  refine and_congr_right fun _ => ⟨fun ⟨o, ho, hd⟩ => ⟨o, ho, fun e he hbd => ?_⟩, fun ⟨o, ho, hd⟩ => ⟨o, ho, fun e he hbd => ?_⟩⟩
  · have := backs_spec hb ho e he
    rw [h.head _ (by omega)]
    exact hd e he hbd
  · have := backs_spec hb ho e he
    rw [← h.head _ (by omega)]
    exact hd e he hbd
end
end Go.Proofs.YtpcmbmabmfghkaaDoor

namespace Go.Proofs.YtpcmbmabmfghkaaDoor
open Go.RowKit
set_option linter.unusedVariables false
set_option maxRecDepth 100000
theorem sizeBd : (Tryd.prog.info? 48).map (·.size) = some 2 := by kernel_rfl
theorem liesBd : liesAt Tryd.prog Tryd.prog.depth 48 (2 / Tryd.prog.cellsOf 48) 0 48 1 = true := by kernel_rfl
theorem infoU8 : (Tryd.prog.info? 5).map (fun i => (i.zero, i.size, i.bytes)) = some (some (.int .u8 0), 1, 1) := by kernel_rfl
set_option maxHeartbeats 1000000 in
theorem bcheck_used (b : Nat) (w : World) (h0 : w.cell? ⟨b, 0, none⟩ = some (.pointer (some ⟨b, 0, none⟩))) :
    Calls Tryd.prog 25 #[.pointer (some ⟨b, 0, none⟩)] w fun e w' => e = .returned (.tuple #[]) ∧ w' = w := by
  obtain ⟨j, hj, _⟩ := Option.map_eq_some_iff.1 sizeBd
  go_enter Tryd.func25, Tryd.ntmps25
  go_wp2_with fail
  rw [Lib.run_neq_ptr_same w _ Tryd.underlying46 hj]
  go_wp2_with fail
  go_end0
  exact ⟨rfl, rfl⟩
set_option maxHeartbeats 1000000 in
theorem bcheck_fresh (b : Nat) (w : World) (h0 : w.cell? ⟨b, 0, none⟩ = some (.pointer none)) (hsh : w.shape? b = some (48, 2)) (hfz : w.frozen? ⟨b, 0, none⟩ = false) :
    Calls Tryd.prog 25 #[.pointer (some ⟨b, 0, none⟩)] w fun e w' => e = .returned (.tuple #[]) ∧ w' = w.setCell ⟨b, 0, none⟩ (.pointer (some ⟨b, 0, none⟩)) := by
  obtain ⟨j, hj, hjs⟩ := Option.map_eq_some_iff.1 sizeBd
  go_enter Tryd.func25, Tryd.ntmps25
  go_wp2_with fail
  rw [Lib.run_to_unsafe w ⟨b, 0, none⟩ Tryd.underlying46 Tryd.underlying92 hj (by rw [hjs]; decide) hsh (Nat.zero_lt_succ 1)]
  simp only [Result.andThen]
  rw [Oper.upon_value]
  go_wp2_with fail
  rw [run_callFunc_extern Tryd.func45 (by kernel_rfl) (by kernel_rfl) (by kernel_rfl) (e := Extern.AbiNoEscape.same) (by kernel_rfl)]
  rw [Lib.run_noEscape]
  simp only [Result.andThen]
  rw [Oper.upon_value]
  go_wp2_with fail
  rw [Lib.run_from_unsafe w ⟨b, 0, none⟩ Tryd.underlying92 Tryd.underlying46 hj hsh liesBd]
  simp only [Result.andThen]
  rw [Oper.upon_value]
  go_wp2_with fail
  go_end0
  exact ⟨rfl, rfl⟩
theorem bcheck_any (B b : Nat) (bs : List Value) (w : World) (h : Lib.IsBuilder 48 5 B b bs w) :
    Calls Tryd.prog 25 #[.pointer (some ⟨b, 0, none⟩)] w fun e w' => e = .returned (.tuple #[]) ∧ (Lib.BuilderAt 48 5 B b (.pointer (some ⟨b, 0, none⟩)) bs w' ∧ Below B w w') := by
  rcases h with h | h
  · refine (bcheck_fresh b w h.cell0 h.shape h.frozen0).mono ?_
    rintro e w' ⟨rfl, rfl⟩
    exact ⟨rfl, h.used _, (Below.refl B w).setCell (p := ⟨b, 0, none⟩) h.1 _⟩
  · refine (bcheck_used b w h.cell0).mono ?_
    rintro e w' ⟨rfl, rfl⟩
    exact ⟨rfl, h, Below.refl B _⟩
set_option maxHeartbeats 1000000 in
theorem bwrite_any (B b : Nat) (bs : List Value) (s : ByteArray) (w : World) (h : Lib.IsBuilder 48 5 B b bs w) (hlen : bs.length + s.size ≤ 140737488355328) (hBw : B ≤ w.heap.size) :
    Calls Tryd.prog 13 #[.pointer (some ⟨b, 0, none⟩), .string s] w fun e w' => e = .returned (.tuple #[.int .i64 s.size, .nilIface]) ∧ (Lib.IsBuilder 48 5 B b (bs ++ Lib.strCells s) w' ∧ Below B w w') := by
  obtain ⟨i0, hi, hz0, hz1, hz2⟩ := info_parts infoU8
  have HC := Lib.hid (bcheck_any B b bs w h)
  go_enter Tryd.func13, Tryd.ntmps13
  go_wp2_with fail
  refine HC.out.mono ?_
  rintro e w1 ⟨rfl, h1, hb1⟩
  obtain ⟨hB, v, hbk, hown, hne⟩ := h1
  have c0 : w1.cell? ⟨b, 0, none⟩ = some (.pointer (some ⟨b, 0, none⟩)) := by rw [Lib.cell_of_heap hbk]; rfl
  have c1 : w1.cell? ⟨b, 1, none⟩ = some v := by rw [Lib.cell_of_heap hbk]; rfl
  go_wp2_with (at_builtin; refine Lib.wpList_append_own_string _ rfl _ _ 27 9 rfl B 5 i0 Tryd.underlying27 Tryd.underlying9 hi hz0 hz1 hz2 _ _ _ rfl hown s rfl ?c3 ?c4 ?c5 ?_)
  case c3 => unfold maxLen; omega
  case c4 => omega
  case c5 => have := hb1.size; omega
  intro v' w2 hown' hgrow _
  have hlt : b < w1.heap.size := by
    rcases Nat.lt_or_ge b w1.heap.size with h' | h'
    · exact h'
    · simp [Array.getElem?_eq_none h'] at hbk
  have hb2 : w2.heap[b]? = some (.cells #[.pointer (some ⟨b, 0, none⟩), v] 48 (0, 0)) := by
    rw [hgrow.block b hlt (fun e => hne e.symm)]
    exact hbk
  have d0 : w2.cell? ⟨b, 0, none⟩ = some (.pointer (some ⟨b, 0, none⟩)) := by rw [Lib.cell_of_heap hb2]; rfl
  have d1 : w2.cell? ⟨b, 1, none⟩ = some v := by rw [Lib.cell_of_heap hb2]; rfl
  have f1 : w2.frozen? ⟨b, 1, none⟩ = false := Lib.frozen_of_heap hb2 1
  obtain ⟨ao, n', cap, rfl⟩ : ∃ ao n' cap, v' = .slice ao n' cap := by
    rcases hown'.2 with ⟨hv, _⟩ | ⟨g, cap, cur, hv, _⟩
    · exact ⟨_, _, _, hv⟩
    · exact ⟨_, _, _, hv⟩
  clear c0 c1 HC
  go_wp2_with fail
  go_ret2
  refine ⟨rfl, .inr ?_, ?_⟩
  · exact Lib.BuilderAt.put (T := 48) (e := 5) hB hb2 (bs' := bs ++ Lib.strCells s) (by simpa [Lib.strCells_length] using hown') (by decide)
  · exact (hb1.grown hgrow (by have := hb1.size; omega) (fun k hk => (hown.lt k hk).1)).setCell (p := ⟨b, 1, none⟩) hB _
end Go.Proofs.YtpcmbmabmfghkaaDoor

namespace Go.Proofs.YtpcmbmabmfghkaaDoor
set_option linter.unusedVariables false
set_option maxRecDepth 100000
section
variable {P : Program} {md : Region.Mode} {ops : Array Oper} {Q : Exit → Act → World → Prop}
/-- every edge that binds leads back -/
def backE (md : Region.Mode) (ops : Array Oper) : Bool := (List.range ops.size).all fun i => ((ops[i]?).map fun o => o.after.all fun e => !Region.binds md e || decide (e.on < i)).getD true
theorem ready_none4 {l : Array Bool} (hb : backE md ops = true) (h : Region.ready md ops l = []) : ∀ j, j < ops.size → l.getD j true = true := by
  intro j
  induction j using Nat.strongRecOn with
  | _ j ih =>
    intro hj
    cases hl : l.getD j true with
    | true => rfl
    | false =>
      exfalso
      have : j ∈ Region.ready md ops l := by
        unfold Region.ready
        rw [List.mem_filter]
        refine ⟨List.mem_range.2 hj, ?_⟩
        rw [hl]
        have ho : ops[j]? = some ops[j] := Array.getElem?_eq_getElem hj
        have hbj := List.all_eq_true.1 hb j (List.mem_range.2 hj)
        rw [ho] at hbj
        have hbj' : (ops[j].after.all fun e => !Region.binds md e || decide (e.on < j)) = true := hbj
        rw [ho]
        show (!false && (ops[j].after.all fun e => !Region.binds md e || l.getD e.on false)) = true
        rw [Bool.not_false, Bool.true_and, Array.all_eq_true_iff_forall_mem]
        intro e he
        have h50 := Array.all_eq_true_iff_forall_mem.1 hbj' e he
        cases hbi : Region.binds md e with
        | false => rfl
        | true =>
        rw [hbi] at h50
        have h5 : e.on < j := of_decide_eq_true h50
        have h6 := ih e.on h5 (by omega)
        have h7 : l.getD e.on false = true := by
          rw [Array.getD_eq_getD_getElem?] at h6 ⊢
          rcases Nat.lt_or_ge e.on l.size with h8 | h8
          · rw [Array.getElem?_eq_getElem h8] at h6 ⊢; exact h6
          · exfalso
            have h9 : l.size ≤ j := by omega
            rw [Array.getD_eq_getD_getElem?, Array.getElem?_eq_none h9] at hl
            cases hl
        rw [h7, Bool.or_true]
      rw [h] at this
      cases this
theorem reg_inv_go4 (Inv : (Nat → Bool) → Act → World → Prop) (hb : backE md ops = true)
    (hstep : ∀ j L a w, j < ops.size → L j = false → (∀ o, ops[j]? = some o → ∀ e ∈ o.after, Region.binds md e = true → L e.on = true) → Inv L a w → wpOp P ops Q j (Inv (dset L j)) a w)
    (hend : ∀ L a w, (∀ i, i < ops.size → L i = true) → Inv L a w → Q .normal a w) : ∀ (n : Nat) (l : Array Bool) (a : Act) (w : World), l.size = ops.size → (l.toList.countP (· == false)) ≤ n →
      Inv (fun i => l.getD i false) a w → wpAny P md ops Q n l a w := by
  intro n
  have fin : ∀ (l : Array Bool) (a : Act) (w : World), l.size = ops.size → Inv (fun i => l.getD i false) a w → Region.ready md ops l = [] → Q .normal a w := fun l a w hs hi hr => by
    refine hend _ a w (fun i hi => ?_) hi
    have h1 := ready_none4 hb hr i hi
    rw [Array.getD_eq_getD_getElem?] at h1 ⊢
    rw [Array.getElem?_eq_getElem (by omega)] at h1 ⊢
    exact h1
  induction n with
  | zero =>
    intro l a w hs hc hi
    have hr : Region.ready md ops l = [] := by
      cases e : Region.ready md ops l with
      | nil => rfl
      | cons j r =>
        exfalso
        obtain ⟨h1, h2, _⟩ := mem_ready (md := md) (ops := ops) (l := l) (j := j) (by rw [e]; exact List.mem_cons_self)
        have h3 : l.toList.countP (· == false) = 0 := by omega
        rw [List.countP_eq_zero] at h3
        rw [Array.getD_eq_getD_getElem?, Array.getElem?_eq_getElem (by omega)] at h2
        have h4 : j < l.size := by omega
        exact h3 _ (Array.mem_toList_iff.2 (Array.getElem_mem h4)) (by simpa using h2)
    exact ⟨hr, fin l a w hs hi hr⟩
  | succ n ih =>
    intro l a w hs hc hi
    refine ⟨fin l a w hs hi, fun j hj => ?_⟩
    obtain ⟨h1, h2, h3⟩ := mem_ready hj
    have hjl : j < l.size := by omega
    have h2' : l[j] = false := by rw [Array.getD_eq_getD_getElem?, Array.getElem?_eq_getElem hjl] at h2; exact h2
    have e1 : (fun i => (l.setIfInBounds j true).getD i false) = dset (fun i => l.getD i false) j := by
      funext i
      unfold dset
      by_cases e : i = j
      · subst e
        rw [if_pos rfl, Array.getD_eq_getD_getElem?, Array.getElem?_setIfInBounds_self_of_lt hjl]; rfl
      · rw [if_neg e, Array.getD_eq_getD_getElem?, Array.getElem?_setIfInBounds_ne (fun e' => e e'.symm)]
        exact (Array.getD_eq_getD_getElem? ..).symm
    refine wpOp_mono (fun a' w' h => ih _ a' w' (by rw [Array.size_setIfInBounds]; exact hs) ?_ (by rw [e1]; exact h)) (hstep j _ a w h1 (by show l.getD j false = false; rw [Array.getD_eq_getD_getElem?, Array.getElem?_eq_getElem hjl]; exact h2') h3 hi)
    have h5 : (l.setIfInBounds j true).toList = l.toList.set j true := by simp
    rw [h5]
    have key : ∀ (xs : List Bool) (j : Nat), xs[j]? = some false → (xs.set j true).countP (· == false) + 1 = xs.countP (· == false) := by
      intro xs
      induction xs with
      | nil => intro j h; simp at h
      | cons x xs ih2 =>
        intro j h
        cases j with
        | zero =>
          simp at h
          subst h
          simp
        | succ j =>
          simp at h
          have := ih2 j h
          simp only [List.set_cons_succ, List.countP_cons]
          omega
    have := key l.toList j (by rw [Array.getElem?_toList, Array.getElem?_eq_getElem hjl, h2'])
    omega
/-- the rule: an invariant of the region, over the set of operations that are done -/
theorem reg_inv4 {id : Nat} {a : Act} {w : World} (Inv : (Nat → Bool) → Act → World → Prop) (hm : P.follows .mixedOrders = true) (hb : backE .any ops = true)
    (h0 : Inv (fun _ => false) a w.drew)
    (hstep : ∀ j L a w, j < ops.size → L j = false → (∀ o, ops[j]? = some o → ∀ e ∈ o.after, Region.binds .any e = true → L e.on = true) → Inv L a w → wpOp P ops Q j (Inv (dset L j)) a w)
    (hend : ∀ L a w, (∀ i, i < ops.size → L i = true) → Inv L a w → Q .normal a w) : (Code.region id ops true).wp P Q a w := by
  refine wp_region_any hm (reg_inv_go4 Inv hb hstep hend _ _ _ _ (by simp) ?_ ?_)
  · refine Nat.le_trans List.countP_le_length ?_
    simp
  · have : (fun i => (Array.replicate ops.size false).getD i false) = fun _ => false := by
      funext i
      rw [Array.getD_eq_getD_getElem?]
      rcases Nat.lt_or_ge i ops.size with h | h
      · rw [Array.getElem?_eq_getElem (by simpa using h)]; simp
      · rw [Array.getElem?_eq_none (by simpa using h)]; rfl
    rw [this]
    exact h0
/-- the rule, the region's first frame named -/
theorem reg_inv24 {id : Nat} {a : Act} {w : World} (I : Act → (Nat → Bool) → Act → World → Prop) (hm : P.follows .mixedOrders = true) (hb : backE .any ops = true)
    (h0 : I a (fun _ => false) a w.drew)
    (hstep : ∀ j L b v, j < ops.size → L j = false → (∀ i, (preds .any ops j).elem i = true → L i = true) → I a L b v → wpOp P ops Q j (I a (dset L j)) b v)
    (hend : ∀ L b v, (∀ i, i < ops.size → L i = true) → I a L b v → Q .normal b v) : (Code.region id ops true).wp P Q a w :=
  reg_inv4 (I a) hm hb h0 (fun j L b v hj hf hd hi => hstep j L b v hj hf (mem_preds (Array.getElem?_eq_getElem hj) (fun e he hb => hd _ (Array.getElem?_eq_getElem hj) e he hb)) hi) hend
/-- the rule, with closedness at hand -/
theorem reg_inv34 {id : Nat} {a : Act} {w : World} (I : Act → (Nat → Bool) → Act → World → Prop) (hm : P.follows .mixedOrders = true) (hb : backE .any ops = true)
    (h0 : I a (fun _ => false) a w.drew)
    (hstep : ∀ j L b v, j < ops.size → L j = false → Closed ops L → (∀ i, (preds .any ops j).elem i = true → L i = true) → I a L b v → wpOp P ops Q j (I a (dset L j)) b v)
    (hend : ∀ L b v, (∀ i, i < ops.size → L i = true) → I a L b v → Q .normal b v) : (Code.region id ops true).wp P Q a w := by
  refine reg_inv24 (fun a L b v => Closed ops L ∧ I a L b v) hm hb ⟨(fun j i h => nomatch h), h0⟩ (fun j L b v hj hf hp hi => ?_) (fun L b v hl hi => hend L b v hl hi.2)
  refine wpOp_mono (fun a' w' h => ⟨fun j' i' h1 h2 => ?_, h⟩) (hstep j L b v hj hf hi.1 hp hi.2)
  unfold dset at h1 ⊢
  by_cases e : i' = j
  · rw [if_pos e]
  · rw [if_neg e]
    by_cases e2 : j' = j
    · subst e2
      exact hp i' h2
    · rw [if_neg e2] at h1
      exact hi.1 j' i' h1 h2
end
end Go.Proofs.YtpcmbmabmfghkaaDoor

namespace Go.Proofs.YtpcmbmabmfghkaaDoor
open Go.RowKit
set_option linter.unusedVariables false
set_option maxRecDepth 100000
section
variable {P : Program} {w0 w w' : World} {g : Option Nat} {M : List (Nat × Value)} {L : List Ob} {O : List Rw} {t e : TypeId} {z : Value} {bytes : Nat}
theorem Ow.drew (h : Ow w0 w g M L O) : Ow w0 w.drew g M L O := h.go (Below.refl _ _).drew
/-- fewer owned lists -/
theorem Ow.few (h : Ow w0 w g M L O) (k : Nat) : Ow w0 w g M L (O.take k) := by
  have key : ∀ (i : Nat) (r : Rw), (O.take k)[i]? = some r → O[i]? = some r := fun i r hi => by
    rw [List.getElem?_take] at hi
    split at hi
    · exact hi
    · cases hi
  exact ⟨h.st, fun i r hi => h.own i r (key i r hi), fun i r hi => h.ap i r (key i r hi), fun i j r s hi hj => h.two i j r s (key i r hi) (key j s hj)⟩
theorem owp_append {o : Oper} {a : Act} {K : Act → World → Prop} {Q : Exit → Act → World → Prop} (hE : Elem P t e z bytes) (h : Ow w0 w g M L O) (i : Nat) (s x : Operand) {A : Option Addr} {n c : Nat} {xs : List Value} (hi : O[i]? = some ⟨A, n, c, e, xs⟩)
    {B : Nat} {A2 : Option Addr} {m c2 : Nat} {news : List Value} (hm : news.length = m) (hr : Sl w B A2 news) (h1 : ∀ u ∈ news, u.oneCell' = true) (h63 : n + m ≤ maxLen) (hbytes : (n + m) * bytes ≤ 140737488355328)
    (ho : o.op = .call { callee := .builtin .append, args := #[s, x], argTypes := #[t, t] }) (hs : a.eval s = .slice A n c) (hx : a.eval x = .slice A2 m c2)
    (hk : ∀ A' c' w', Ow w0 w' g M L (O.set i ⟨A', n + m, c', e, xs ++ news⟩) → K (a.put o.dst (.slice A' (n + m) c')) w') : o.wp P a w K Q := by
  obtain ⟨ht, hzc, inf, hi0, hz, hsz, hby⟩ := hE
  exact wp_append_sl w s x t ho w0.heap.size e inf z bytes ht hi0 hz hsz hby (by rw [hzc]; rfl) A n c xs hs (h.own i _ hi) B A2 m c2 news hx hm hr h1 h63 hbytes h.size fun A' c' w' h2 h3 h4 =>
    hk A' c' w' (h.turn i hi (r' := ⟨A', n + m, c', e, xs ++ news⟩) h3 h2 h4)
/-- without the first owned list -/
theorem Ow.tail {r : Rw} (h : Ow w0 w g M L (r :: O)) : Ow w0 w g M L O :=
  ⟨h.st, fun i r hi => h.own (i + 1) r hi, fun i r hi => h.ap (i + 1) r hi, fun i j r s hi hj hij => h.two (i + 1) (j + 1) r s hi hj (by omega)⟩
theorem Ow.fewO {l : List Rw} (h : Ow w0 w g M L (O ++ l)) : Ow w0 w g M L O := by
  have := h.few O.length
  rwa [List.take_left] at this
theorem get_r {α : Type} (M l : List α) (j : Nat) : (M ++ l)[M.length + j]? = l[j]? := by rw [List.getElem?_append_right (by omega)]; congr 1; omega
theorem set_r {α : Type} (M l : List α) (j : Nat) (x : α) : (M ++ l).set (M.length + j) x = M ++ l.set j x := by rw [List.set_append_right _ _ (by omega)]; congr 2; omega
theorem set_l {α : Type} (M l : List α) {k : Nat} (hk : k < M.length) (x : α) : (M ++ l).set k x = M.set k x ++ l := List.set_append_left _ _ hk
theorem get_l {α : Type} (M l : List α) {k : Nat} (hk : k < M.length) : (M ++ l)[k]? = M[k]? := List.getElem?_append_left hk
theorem Ow.arr (h : Ow w0 w g M L O) (xs : Array Value) (k : Nat) (hx : xs.size = k) (hk : k ≤ 1000) (T : TypeId) : Ow w0 (w.alloc (.cells xs T)) g M L (O ++ [⟨some ⟨w.heap.size, 0, none⟩, k, k, T, xs.toList⟩]) :=
  h.add (World.ownsRow_lit (base := w.heap.size) (e := T) (size := 1) w xs k (Nat.le_refl _) (by unfold maxLen; omega) (by omega)) (own_box1 _ _)
theorem Ow.rowHeap (h : Ow w0 w g M L O) (i : Nat) {b k : Nat} {T : TypeId} {xs : List Value} (hi : O[i]? = some ⟨some ⟨b, 0, none⟩, k, k, T, xs⟩) : w.heap[b]? = some (.cells xs.toArray T (0, 0)) ∧ xs.length = k := by
  obtain ⟨hl, ⟨h1, _⟩ | ⟨g', cap, cur, e, _, hg, _, _, hs, ht⟩⟩ := h.own i _ hi
  · cases h1
  · have e1 : (⟨b, 0, none⟩ : Addr) = ⟨g', 0, none⟩ ∧ k = cap := by
      injection e with e1 e2 e3
      exact ⟨Option.some.inj e1, e3⟩
    obtain ⟨e2, e3⟩ := e1
    injection e2 with e4
    rw [List.take_of_length_le (by rw [Array.length_toList, hs, ← e3]; exact Nat.le_refl _)] at ht
    have hl' : xs.length = k * 1 := hl
    refine ⟨?_, by omega⟩
    rw [e4, hg]
    show some (Obj.cells cur T (0, 0)) = some (Obj.cells xs.toArray T (0, 0))
    have ht' : cur.toList = xs := ht
    rw [← ht']
theorem Ow.putRow (h : Ow w0 w g M L O) (i : Nat) {b k : Nat} {T : TypeId} {xs : List Value} (hi : O[i]? = some ⟨some ⟨b, 0, none⟩, k, k, T, xs⟩) (ys : Array Value) (hy : ys.size = k) (hk : k ≤ 1000) : Ow w0 (w.setRow b ys) g M L (O.set i ⟨some ⟨b, 0, none⟩, k, k, T, ys.toList⟩) := by
  obtain ⟨h1, h2⟩ := h.rowHeap i hi
  refine h.turn i hi (r' := ⟨some ⟨b, 0, none⟩, k, k, T, ys.toList⟩) ⟨rfl, rfl, rfl, by simp [World.setRow], fun q hq hne => setRow_other _ _ _ _ (fun e => hne (by rw [e]; rfl))⟩ ⟨by show ys.toList.length = k * 1; simp [hy], .inr ⟨b, k, ys, rfl, (h.lt hi rfl).2, setRow_heap w b xs.toArray ys T (0, 0) h1, Nat.le_refl _, by unfold maxLen; omega, by omega, ?_⟩⟩ (.inl rfl)
  exact List.take_of_length_le (by simp [hy])
/-- owned lists in another order, or fewer -/
theorem Ow.re (h : Ow w0 w g M L O) {O' : List Rw} (f : Nat → Nat) (hf : ∀ i j, i < O'.length → j < O'.length → f i = f j → i = j) (hO : ∀ (i : Nat) (r : Rw), O'[i]? = some r → O[f i]? = some r) : Ow w0 w g M L O' :=
  ⟨h.st, fun i r hi => h.own (f i) r (hO i r hi), fun i r hi => h.ap (f i) r (hO i r hi), fun i j r s hi hj hij => h.two (f i) (f j) r s (hO i r hi) (hO j s hj) fun e => hij (hf i j (get_lt hi) (get_lt hj) e)⟩
end
end Go.Proofs.YtpcmbmabmfghkaaDoor

namespace Go.Proofs.YtpcmbmabmfghkaaDoor
open Go.RowKit
set_option linter.unusedVariables false
set_option maxRecDepth 100000
structure Rx where
  A : Option Addr
  n : Nat
  c : Nat
  e : TypeId
  s : Nat
  vs : List Value
def Rx.blk (r : Rx) : Option Nat := (Value.slice r.A r.n r.c).ownBlock
/-- what is held, and owned lists of structs in blocks of their own -/
structure Ox (w0 w : World) (g : Option Nat) (M : List (Nat × Value)) (L : List Ob) (O : List Rw) (X : List Rx) : Prop where
  ow : Ow w0 w g M L O
  own : ∀ (i : Nat) (r : Rx), X[i]? = some r → w.ownsRow w0.heap.size r.e r.s (.slice r.A r.n r.c) r.n r.vs
  ap : ∀ (i : Nat) (r : Rx), X[i]? = some r → ∀ b, r.blk = some b → g ≠ some b ∧ (∀ (j k : Nat) (v : Value), M[j]? = some (k, v) → b ≠ k) ∧ (∀ o ∈ L, ∀ ad, o.A = some ad → 0 < o.n → b ≠ ad.block) ∧ ∀ (j : Nat) (q : Rw), O[j]? = some q → q.blk ≠ some b
  two : ∀ (i j : Nat) (r s : Rx), X[i]? = some r → X[j]? = some s → i ≠ j → ∀ b, r.blk = some b → s.blk ≠ some b
section
variable {w0 w w' : World} {g : Option Nat} {M : List (Nat × Value)} {L : List Ob} {O : List Rw} {X : List Rx}
/-- another block is turned -/
theorem Ow.off {row : Option Nat} (h : Ow w0 w g M L O) (hg : w.grownBy w' row) (hr : ∀ b, row = some b → w0.heap.size ≤ b ∧ g ≠ some b ∧ (∀ (j k : Nat) (v : Value), M[j]? = some (k, v) → b ≠ k) ∧ (∀ o ∈ L, ∀ ad, o.A = some ad → 0 < o.n → b ≠ ad.block) ∧ ∀ (j : Nat) (q : Rw), O[j]? = some q → q.blk ≠ some b) : Ow w0 w' g M L O := by
  have hbel : Below w0.heap.size w0 w' := h.below.trans ((Below.refl _ _).grown hg h.size (fun b e => (hr b e).1))
  have cellk : ∀ b, b < w.heap.size → row ≠ some b → w'.heap[b]? = w.heap[b]? := fun b h1 h2 => hg.block b h1 (fun e => h2 e.symm)
  refine ⟨⟨hbel, fun x e => ⟨Nat.lt_of_lt_of_le (h.st.lt x e).1 hg.size, (h.st.lt x e).2⟩, fun j b v hj => ?_, h.st.one, fun o ho' => ?_⟩, fun j x hj => ?_, h.ap, h.two⟩
  · obtain ⟨h1, h2, h3, h4, h5⟩ := h.st.box j b v hj
    have e1 := cellk b h1 (fun e => (hr b e).2.2.1 j b v hj rfl)
    exact ⟨Nat.lt_of_lt_of_le h1 hg.size, h2, (World.cell?_of_block (a := ⟨b, 0, none⟩) e1).trans h3, (World.frozen?_of_block (a := ⟨b, 0, none⟩) e1).trans h4, h5⟩
  · obtain ⟨h1, h2, h3, B, hB, hs, hne⟩ := h.st.held o ho'
    refine ⟨h1, h2, h3, B, Nat.le_trans hB hg.size, fun hn => ?_, hne⟩
    obtain ⟨ad, hA, hbk, hcell⟩ := hs hn
    refine ⟨ad, hA, hbk, fun k u hu => ?_⟩
    rw [World.cell?_of_block (cellk _ (by rw [add_block]; omega) (by rw [add_block]; intro e; exact (hr _ e).2.2.2.1 o ho' ad hA (by omega) rfl))]
    exact hcell k u hu
  · refine own_keep (h.own j x hj) hg ?_
    by_cases e : (Value.slice x.A x.n x.c).ownBlock = none
    · exact .inl e
    · refine .inr fun e2 => ?_
      obtain ⟨b, hb'⟩ := Option.ne_none_iff_exists'.1 e
      exact (hr b (e2.symm.trans hb')).2.2.2.2 j x hj hb'
theorem Ox.of (h : Ow w0 w g M L O) : Ox w0 w g M L O [] := ⟨h, fun i r e => by simp at e, fun i r e => by simp at e, fun i j r s e => by simp at e⟩
theorem Ox.size (h : Ox w0 w g M L O X) : w0.heap.size ≤ w.heap.size := h.ow.size
theorem Ox.row (h : Ox w0 w g M L O X) (i : Nat) {A : Option Addr} {n c s : Nat} {e : TypeId} {vs : List Value} (hi : X[i]? = some ⟨A, n, c, e, s, vs⟩) : w.ownsRow w0.heap.size e s (.slice A n c) n vs := h.own i _ hi
theorem Ox.lt (h : Ox w0 w g M L O X) {i : Nat} {r : Rx} (hi : X[i]? = some r) {b : Nat} (hb : r.blk = some b) : b < w.heap.size ∧ w0.heap.size ≤ b := by
  have := (h.own i r hi).lt b hb
  exact ⟨this.2, this.1⟩
theorem Ox.go (h : Ox w0 w g M L O X) (hb : Below w.heap.size w w') : Ox w0 w' g M L O X :=
  ⟨h.ow.go hb, fun i r hi => (h.own i r hi).kept (row := none) ⟨hb.os, hb.tape, hb.output, hb.size, fun k hk _ => hb.block k hk⟩ (by
    by_cases he : (Value.slice r.A r.n r.c).ownBlock = none
    · exact .inl he
    · exact .inr he), h.ap, h.two⟩
/-- what every row keeps over a turn of another block -/
theorem Ox.keepRow (h : Ox w0 w g M L O X) {row : Option Nat} (hg : w.grownBy w' row) {i : Nat} {r : Rx} (hi : X[i]? = some r) (hne : ∀ b, r.blk = some b → row ≠ some b) : w'.ownsRow w0.heap.size r.e r.s (.slice r.A r.n r.c) r.n r.vs := by
  refine (h.own i r hi).kept hg ?_
  by_cases e : (Value.slice r.A r.n r.c).ownBlock = none
  · exact .inl e
  · refine .inr fun e2 => ?_
    obtain ⟨b, hb'⟩ := Option.ne_none_iff_exists'.1 e
    exact hne b hb' (e2.symm.trans hb')
/-- a new list of one's own -/
theorem Ox.addX (h : Ox w0 w g M L O X) {A : Option Addr} {n c s : Nat} {e : TypeId} {vs : List Value} (ho : w'.ownsRow w.heap.size e s (.slice A n c) n vs) (hb : Below w.heap.size w w') : Ox w0 w' g M L O (X ++ [⟨A, n, c, e, s, vs⟩]) := by
  have h' := h.go hb
  have key : ∀ (i : Nat) (r : Rx), (X ++ [⟨A, n, c, e, s, vs⟩])[i]? = some r → X[i]? = some r ∨ (X.length = i ∧ r = ⟨A, n, c, e, s, vs⟩) := fun i r hi => by
    rcases Nat.lt_or_ge i X.length with h1 | h1
    · rw [List.getElem?_append_left h1] at hi
      exact .inl hi
    · rw [List.getElem?_append_right h1] at hi
      have h2 : i - X.length = 0 := by have := get_lt hi; simp at this; omega
      rw [h2] at hi
      simp at hi
      exact .inr ⟨by omega, hi.symm⟩
  have new : ∀ b, (⟨A, n, c, e, s, vs⟩ : Rx).blk = some b → w.heap.size ≤ b := fun b hb' => (ho.lt b hb').1
  have more : w'.ownsRow w0.heap.size e s (.slice A n c) n vs := by
    refine ⟨ho.1, ?_⟩
    rcases ho.2 with h' | ⟨g', cap', cur, h', hb', r⟩
    · exact .inl h'
    · exact .inr ⟨g', cap', cur, h', Nat.le_trans h.size hb', r⟩
  refine ⟨h'.ow, fun i r hi => ?_, fun i r hi b hb' => ?_, fun i j r t hi hj hij b hb' e2 => ?_⟩
  · rcases key i r hi with h1 | ⟨_, rfl⟩
    · exact h'.own i r h1
    · exact more
  · rcases key i r hi with h1 | ⟨_, rfl⟩
    · exact h'.ap i r h1 b hb'
    · have h3 := new b hb'
      refine ⟨fun e => by have := (h.ow.st.lt b e).1; omega, fun j k v hj e => by have := (h.ow.st.box j k v hj).1; omega, fun o ho' ad ha h0 e => ?_, fun j q hq e2 => by have := (h.ow.lt hq e2).1; omega⟩
      obtain ⟨h4, _, _, B, hB, hs, _⟩ := h.ow.st.held o ho'
      obtain ⟨ad', ha', hlt, _⟩ := hs (by omega)
      rw [ha] at ha'
      obtain rfl := Option.some.inj ha'
      omega
  · rcases key i r hi with h1 | ⟨h1, rfl⟩ <;> rcases key j t hj with h2 | ⟨h2, rfl⟩
    · exact h.two i j r t h1 h2 hij b hb' e2
    · have := (h.lt h1 hb').1; have := new b e2; omega
    · have := (h.lt h2 e2).1; have := new b hb'; omega
    · omega
/-- an owned list is turned: nothing else is -/
theorem Ox.turnX (h : Ox w0 w g M L O X) (i : Nat) {r r' : Rx} (hi : X[i]? = some r) (hg : w.grownBy w' r.blk) (ho : w'.ownsRow w0.heap.size r'.e r'.s (.slice r'.A r'.n r'.c) r'.n r'.vs) (hb : r'.blk = r.blk ∨ r'.blk = some w.heap.size) : Ox w0 w' g M L O (X.set i r') := by
  have key : ∀ (j : Nat) (x : Rx), (X.set i r')[j]? = some x → (j = i ∧ x = r') ∨ (j ≠ i ∧ X[j]? = some x) := fun j x hj => by
    by_cases e : j = i
    · subst e
      rw [List.getElem?_set_self (get_lt hi)] at hj
      simp at hj
      exact .inl ⟨rfl, hj.symm⟩
    · rw [List.getElem?_set_ne (fun e' => e e'.symm)] at hj
      exact .inr ⟨e, hj⟩
  have how : Ow w0 w' g M L O := h.ow.off hg fun b e => ⟨(h.lt hi e).2, h.ap i r hi b e⟩
  refine ⟨how, fun j x hj => ?_, fun j x hj b hb' => ?_, fun j k x y hj hk hjk b hb' e2 => ?_⟩
  · rcases key j x hj with ⟨_, rfl⟩ | ⟨hne, hj'⟩
    · exact ho
    · exact h.keepRow hg hj' fun b hb' e => h.two j i x r hj' hi hne b hb' e
  · have old : ∀ b, r'.blk = some b → r.blk = some b ∨ b = w.heap.size := fun b e => by
      rcases hb with e1 | e1
      · exact .inl (by rw [← e1]; exact e)
      · rw [e] at e1; exact .inr (Option.some.inj e1)
    rcases key j x hj with ⟨_, rfl⟩ | ⟨hne, hj'⟩
    · rcases old b hb' with e1 | rfl
      · exact h.ap i r hi b e1
      · refine ⟨fun e => by have := (h.ow.st.lt _ e).1; omega, fun j k v hj e => by have := (h.ow.st.box j k v hj).1; omega, fun o ho' ad ha h0 e => ?_, fun j q hq e3 => by have := (h.ow.lt hq e3).1; omega⟩
        obtain ⟨h4, _, _, B, hB, hs, _⟩ := h.ow.st.held o ho'
        obtain ⟨ad', ha', hlt, _⟩ := hs (by omega)
        rw [ha] at ha'
        obtain rfl := Option.some.inj ha'
        omega
    · exact h.ap j x hj' b hb'
  · have old : ∀ b, r'.blk = some b → r.blk = some b ∨ b = w.heap.size := fun b e => by
      rcases hb with e1 | e1
      · exact .inl (by rw [← e1]; exact e)
      · rw [e] at e1; exact .inr (Option.some.inj e1)
    rcases key j x hj with ⟨a1, rfl⟩ | ⟨hne, hj'⟩ <;> rcases key k y hk with ⟨a2, rfl⟩ | ⟨hne2, hk'⟩
    · omega
    · rcases old b hb' with e1 | rfl
      · exact h.two i k r y hi hk' (fun e => hne2 e.symm) b e1 e2
      · have := (h.lt hk' e2).1; omega
    · rcases old b e2 with e1 | rfl
      · exact h.two j i x r hj' hi hne b hb' e1
      · have := (h.lt hj' hb').1; omega
    · exact h.two j k x y hj' hk' hjk b hb' e2
theorem Ox.nilX (h : Ox w0 w g M L O X) (e : TypeId) (s : Nat) : Ox w0 w g M L O (X ++ [⟨none, 0, 0, e, s, []⟩]) := h.addX (World.ownsRow_nil _ _ _ _) (Below.refl _ _)
theorem Ox.drewN (h : Ox w0 w g M L O X) (k : Nat) : Ox w0 (w.drewN k) g M L O X := h.go (below_drewN (Below.refl _ _) k)
/-- a list of a call, only to be read -/
theorem Ox.push (h : Ox w0 w g M L O X) {A : Option Addr} {n c : Nat} {vs : List Value} {e : TypeId} (ho : w'.ownsRow w.heap.size e 1 (.slice A n c) n vs) (hl : n ≤ 1000) (hb : Below w.heap.size w w') : Ox w0 w' g M (L ++ [⟨A, n, c, vs⟩]) O X := by
  have h' := h.go hb
  refine ⟨h.ow.push ho hl hb, h'.own, fun i r hi b hb' => ?_, h.two⟩
  obtain ⟨a1, a2, a3, a4⟩ := h.ap i r hi b hb'
  refine ⟨a1, a2, fun o ho' ad ea h0 => ?_, a4⟩
  rcases List.mem_append.1 ho' with h1 | h1
  · exact a3 o h1 ad ea h0
  · rw [List.mem_singleton] at h1
    subst h1
    obtain ⟨g', hg', k1, _⟩ := own_form ho h0
    rw [show A = some ad from ea] at hg'
    obtain rfl := Option.some.inj hg'
    have := (h.lt hi hb').1
    intro e5
    simp only at e5
    omega
/-- a list that lay before everything of the call's own -/
theorem Ox.old (h : Ox w0 w g M L O X) {A : Option Addr} {n c : Nat} {vs : List Value} (hs : Sl w0 w0.heap.size A vs) (hn : vs.length = n) (hc : n ≤ c) (hl : n ≤ 1000) : Ox w0 w g M (L ++ [⟨A, n, c, vs⟩]) O X := by
  refine ⟨h.ow.old hs hn hc hl, h.own, fun i r hi b hb => ?_, h.two⟩
  obtain ⟨a1, a2, a3, a4⟩ := h.ap i r hi b hb
  refine ⟨a1, a2, fun o ho ad ea h0 => ?_, a4⟩
  rcases List.mem_append.1 ho with h1 | h1
  · exact a3 o h1 ad ea h0
  · rw [List.mem_singleton] at h1
    subst h1
    obtain ⟨ad', e', hbk, _⟩ := hs (by show 0 < vs.length; rw [hn]; exact h0)
    rw [show A = some ad from ea] at e'
    obtain rfl := Option.some.inj e'
    have := (h.lt hi hb).2
    omega
end
section
variable {w w' : World} {base n c s : Nat} {e : TypeId} {A : Option Addr} {xs : List Value}
end
section
variable {w0 w w' : World} {g : Option Nat} {M : List (Nat × Value)} {L : List Ob} {O : List Rw} {X : List Rx}
end
/-- what a list's element type is: several cells -/
def ElemX (P : Program) (t e : TypeId) (s bytes : Nat) : Prop := P.underlying t = some (.slice e) ∧ 0 < s ∧ ∃ i z, P.info? e = some i ∧ i.zero = some z ∧ i.size = s ∧ i.bytes = bytes ∧ z.cells.size = s
section
variable {P : Program} {w0 w : World} {g : Option Nat} {M : List (Nat × Value)} {L : List Ob} {O : List Rw} {X : List Rx} {t e : TypeId} {s bytes : Nat}
/-- 'append' of structs that can be read, at an owned list of structs -/
theorem ox_append {ops : Array Oper} {rest : List Oper} {o : Oper} {a : Act} {Q : Exit → Act → World → Prop} (hE : ElemX P t e s bytes) (h : Ox w0 w g M L O X) (i : Nat) (so x : Operand) {A : Option Addr} {n c : Nat} {xs : List Value} (hi : X[i]? = some ⟨A, n, c, e, s, xs⟩)
    {ad : Addr} {m c2 : Nat} {news : List Value} (hm : news.length = m * s) (hr : ∀ j u, news[j]? = some u → w.cell? (ad.add j) = some u) (h1 : ∀ u ∈ news, u.oneCell' = true) (h63 : n + m ≤ maxLen) (hbytes : (n + m) * bytes ≤ 140737488355328)
    (hgd : o.guard = none) (ho : o.op = .call { callee := .builtin .append, args := #[so, x], argTypes := #[t, t] }) (hs : a.eval so = .slice A n c) (hx : a.eval x = .slice (some ad) m c2)
    (hk : ∀ A' c' w', Ox w0 w' g M L O (X.set i ⟨A', n + m, c', e, s, xs ++ news⟩) → wpList P ops Q rest (a.put o.dst (.slice A' (n + m) c')) w') : wpList P ops Q (o :: rest) a w := by
  obtain ⟨ht, hs0, inf, z, hi0, hz, hsz, hby, hzs⟩ := hE
  refine wpList_append_own_at w hgd so x t ho w0.heap.size e inf z s bytes ht hi0 hz hsz hby hzs hs0 _ n xs hs (h.own i _ hi) ad m c2 news hx hm hr h1 h63 hbytes h.size fun v' w' h2 h3 _ h5 => ?_
  have hf : ∃ A' c', v' = .slice A' (n + m) c' := by
    rcases h2.2 with ⟨h', h0⟩ | ⟨g, cap, cur, h', _⟩
    · exact ⟨none, 0, by rw [h', h0]⟩
    · exact ⟨_, _, h'⟩
  obtain ⟨A', c', rfl⟩ := hf
  exact hk A' c' w' (h.turnX i hi (r' := ⟨A', n + m, c', e, s, xs ++ news⟩) h3 h2 h5)
end
end Go.Proofs.YtpcmbmabmfghkaaDoor

namespace Go.Proofs.YtpcmbmabmfghkaaDoor
open Go.RowKit
open Go.ChangeMaps (setBlock heap_setBlock_same heap_setBlock_other)
set_option linter.unusedVariables false
set_option maxRecDepth 100000
theorem cl_no {ops : Array Oper} {Ld : Nat → Bool} {i j : Nat} (hcl : Closed ops Ld) (h : Ld i = false) (hp : (preds .any ops j).elem i = true) : Ld j = false := by
  cases e : Ld j with
  | false => rfl
  | true =>
    rw [hcl j i e hp] at h
    cases h
theorem sizeWd : (Tryd.prog.info? 69).map (·.size) = some 3 := by kernel_rfl
theorem sizeEv : (Tryd.prog.info? 37).map (·.size) = some 26 := by kernel_rfl
end Go.Proofs.YtpcmbmabmfghkaaDoor

namespace Go.Proofs.YtpcmbmabmfghkaaDoor
open Go.RowKit
set_option linter.unusedVariables false
set_option maxRecDepth 100000
theorem Ow.thaw {w0 w : World} {g : Option Nat} {M : List (Nat × Value)} {L : List Ob} {O : List Rw} (h : Ow w0 w g M L O) (i : Nat) {b k : Nat} {T : TypeId} {xs : List Value} (hi : O[i]? = some ⟨some ⟨b, 0, none⟩, k, k, T, xs⟩) (o : Nat) : w.frozen? ⟨b, o, none⟩ = false := by
  have hg := (h.rowHeap i hi).1
  simp [World.frozen?, hg]
set_option maxHeartbeats 1000000 in
/-- the last word is read -/
theorem next_last {w0 w : World} {g : Option Nat} {M : List (Nat × Value)} {L : List Ob} {O : List Rw} (h : Ow w0 w g M L O) (ri wi rb sb k n c : Nat) (bad : Value) (ws : List Value) (s : ByteArray)
    (hR : O[ri]? = some ⟨some ⟨rb, 0, none⟩, 2, 2, 62, [.slice (some ⟨sb, k, none⟩) 1 1, bad]⟩) (hW : O[wi]? = some ⟨some ⟨sb, 0, none⟩, n, c, 9, ws⟩) (hk : ws[k]? = some (.string s)) :
    Calls Tryd.prog 28 #[.pointer (some ⟨rb, 0, none⟩)] w fun e w' => e = .returned (.string s) ∧ Ow w0 w' g M L (O.set ri ⟨some ⟨rb, 0, none⟩, 2, 2, 62, [.slice (some ⟨sb, k, none⟩) 0 0, bad]⟩) := by
  have y0 : w.cell? ⟨rb, 0, none⟩ = some (.slice (some ⟨sb, k, none⟩) 1 1) := (h.row ri hR).cellAt 0 (by decide)
  have hlen := (h.row wi hW).1
  have yk : w.cell? ⟨sb, k, none⟩ = some (.string s) := ((h.row wi hW).cellAt k (by have := get_lt hk; omega)).trans hk
  have fr := h.thaw ri hR 0
  have ho := Lib.hid (h.put ri hR 0 (.slice (some ⟨sb, k, none⟩) 0 0))
  clear h hR hW hk hlen
  go_enter Tryd.func28, Tryd.ntmps28
  go_wp2_with fail
  go_ret
  exact ⟨rfl, ho.out⟩
set_option maxHeartbeats 1000000 in
/-- a word is read, and more are left -/
theorem next_more {w0 w : World} {g : Option Nat} {M : List (Nat × Value)} {L : List Ob} {O : List Rw} (h : Ow w0 w g M L O) (ri wi rb sb k m n c : Nat) (bad : Value) (ws : List Value) (s : ByteArray)
    (hR : O[ri]? = some ⟨some ⟨rb, 0, none⟩, 2, 2, 62, [.slice (some ⟨sb, k, none⟩) (m + 2) (m + 2), bad]⟩) (hW : O[wi]? = some ⟨some ⟨sb, 0, none⟩, n, c, 9, ws⟩) (hk : ws[k]? = some (.string s)) (hm : m < 100000) :
    Calls Tryd.prog 28 #[.pointer (some ⟨rb, 0, none⟩)] w fun e w' => e = .returned (.string s) ∧ Ow w0 w' g M L (O.set ri ⟨some ⟨rb, 0, none⟩, 2, 2, 62, [.slice (some ⟨sb, k + 1, none⟩) (m + 1) (m + 1), bad]⟩) := by
  have y0 : w.cell? ⟨rb, 0, none⟩ = some (.slice (some ⟨sb, k, none⟩) (m + 2) (m + 2)) := (h.row ri hR).cellAt 0 (by decide)
  have hlen := (h.row wi hW).1
  have yk : w.cell? ⟨sb, k, none⟩ = some (.string s) := ((h.row wi hW).cellAt k (by have := get_lt hk; omega)).trans hk
  have fr := h.thaw ri hR 0
  have ho := Lib.hid (h.put ri hR 0 (.slice (some ⟨sb, k + 1, none⟩) (m + 1) (m + 1)))
  clear h hR hW hk hlen
  go_enter Tryd.func28, Tryd.ntmps28
  go_wp2_with fail
  go_ret
  exact ⟨rfl, ho.out⟩
end Go.Proofs.YtpcmbmabmfghkaaDoor

namespace Go.Proofs.YtpcmbmabmfghkaaDoor
open Go.RowKit
set_option linter.unusedVariables false
set_option maxRecDepth 100000
set_option maxHeartbeats 1000000 in
/-- a number that is written as it should be -/
theorem number_ok {w0 w : World} {g : Option Nat} {M : List (Nat × Value)} {L : List Ob} {O' : List Rw} (rb : Nat) (s : ByteArray) (n : Int) (h0 : 0 ≤ n) (h1 : n ≤ 1099511627776)
    (HN : Calls Tryd.prog 28 #[.pointer (some ⟨rb, 0, none⟩)] w fun e w' => e = .returned (.string s) ∧ Ow w0 w' g M L O')
    (HA : ∀ w, Ow w0 w g M L O' → Calls Tryd.prog 52 #[.string s] w fun e w' => e = .returned (.tuple #[.int .i64 n, .nilIface]) ∧ Below w.heap.size w w')
    (HI : ∀ w, Ow w0 w g M L O' → Calls Tryd.prog 24 #[.int .i64 n] w fun e w' => e = .returned (.string s) ∧ Below w.heap.size w w') :
    Calls Tryd.prog 32 #[.pointer (some ⟨rb, 0, none⟩)] w fun e w' => e = .returned (.int .i64 n) ∧ Ow w0 w' g M L O' := by
  have d0 : decide (n < 0) = false := by simp; omega
  have d1 : decide (1099511627776 < n) = false := by simp; omega
  have HN := Lib.hid HN
  have HA := Lib.hid HA
  have HI := Lib.hid HI
  clear h0 h1
  go_enter Tryd.func32, Tryd.ntmps32
  go_wp2_with fail
  refine HN.out.mono ?_
  rintro e w1 ⟨rfl, ho1⟩
  have HO1 := Lib.hid ho1
  clear ho1
  go_wp2_with fail
  refine (HA.out _ HO1.out).mono ?_
  rintro e w2 ⟨rfl, hb⟩
  have HO2 := Lib.hid (HO1.out.go hb)
  clear hb
  go_wp2_with fail
  all_goals
    refine (HI.out _ HO2.out).mono ?_
    rintro e w3 ⟨rfl, hb⟩
    have HO3 := Lib.hid (HO2.out.go hb)
    clear hb
    go_wp2_with fail
    go_ret
    exact ⟨rfl, HO3.out⟩
end Go.Proofs.YtpcmbmabmfghkaaDoor

namespace Go.Proofs.YtpcmbmabmfghkaaDoor
open Go.RowKit
set_option linter.unusedVariables false
set_option maxRecDepth 100000
theorem sized_any (n : Int) (w : World) :
    Calls Tryd.prog 11 #[.int .i64 n] w fun e w' => e = .returned (.bool (decide (1 ≤ n) && decide (n ≤ 32))) ∧ w' = w := by
  by_cases h1 : 1 ≤ n
  · by_cases h2 : n ≤ 32
    · have d1 : decide (1 ≤ n) = true := by simp; omega
      have d2 : decide (n ≤ 32) = true := by simp; omega
      clear h1 h2
      rw [d1, d2]
      go_enter Tryd.func11, Tryd.ntmps11
      go_wp2_with fail
      go_ret
      exact ⟨rfl, rfl⟩
    · have d1 : decide (1 ≤ n) = true := by simp; omega
      have d2 : decide (n ≤ 32) = false := by simp; omega
      clear h1 h2
      rw [d1, d2]
      go_enter Tryd.func11, Tryd.ntmps11
      go_wp2_with fail
      go_ret
      exact ⟨rfl, rfl⟩
  · have d1 : decide (1 ≤ n) = false := by simp; omega
    clear h1
    rw [d1, Bool.false_and]
    go_enter Tryd.func11, Tryd.ntmps11
    go_wp2_with fail
    go_ret
    exact ⟨rfl, rfl⟩
set_option maxHeartbeats 1000000 in
/-- an operation without fields -/
theorem empty_zero {w0 w : World} {g : Option Nat} {M : List (Nat × Value)} {L : List Ob} {O : List Rw} (h : Ow w0 w g M L O) (c : Nat) (A : Option Addr) :
    Calls Tryd.prog 23 #[.agg #[.int .i64 0, .int .i64 0, .int .i64 0, .int .i64 0, .int .i64 0, .slice A 0 c]] w fun e w' => e = .returned (.bool true) ∧ Ow w0 w' g M L O := by
  have H0 := h.arr #[.int .i64 0, .int .i64 0, .int .i64 0, .int .i64 0, .int .i64 0, .slice A 0 c] 6 rfl (by omega) 29
  have HO := Lib.hid H0.fewO
  clear h H0
  go_enter Tryd.func23, Tryd.ntmps23
  go_wp2_with fail
  go_ret
  exact ⟨rfl, HO.out⟩
end Go.Proofs.YtpcmbmabmfghkaaDoor

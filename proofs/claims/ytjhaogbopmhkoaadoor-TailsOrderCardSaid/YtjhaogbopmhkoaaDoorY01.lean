/- Kit Mem Range Nat Mod Dice -/
import Derived.WalkKit
import Derived.WalkLawsBesides
import Derived.WalkSpells
import Derived.Lib.Hide
import Derived.Laws.BitsAllLaws
import Derived.Deep.QuietTactic
import Derived.BigQuiet
import Derived.Below
import Derived.OwnWalk
import Derived.Laws.OwnMore
import Derived.Laws.Rows
import Derived.Deep.AppendLies
import Derived.Maps.AppendAt
import Derived.RangeFuncNested
import Derived.RangeFuncBound
import Derived.RangeFuncCalls
import Derived.RangeFuncLeaves
import Derived.RangeFuncBox
import Derived.RangeFuncWrites
import Derived.Shelf.Abstract
import Derived.Shelf.RegionOpen
import Derived.OwnWalkIn
import Derived.TacticsInMore
import Derived.LoopNIn
import Derived.LoopIn
import Derived.Test.YtjhaogbopmhkoaaDoorChecked
import Derived.StillTailTactics
import Derived.Outline
namespace Go.Proofs.YtjhaogbopmhkoaaDoor
open Go.RowKit

theorem below_drewN {B : Nat} {a w : World} (h : Below B a w) (n : Nat) : Below B a (w.drewN n) := ⟨h.os, h.tape, h.output, h.size, h.block⟩
end Go.Proofs.YtjhaogbopmhkoaaDoor

namespace Go.Proofs.YtjhaogbopmhkoaaDoor
open Go.RowKit

/-- The slice at A holds the values xs, in blocks below B. -/
def Sl (w : World) (B : Nat) (A : Option Addr) (xs : List Value) : Prop :=
  0 < xs.length → ∃ ad, A = some ad ∧ ad.block < B ∧ ∀ j u, xs[j]? = some u → w.cell? (ad.add j) = some u

theorem add_block (a : Addr) (n : Nat) : (a.add n).block = a.block := by unfold Addr.add; split <;> rfl
theorem add_add (a : Addr) (i j : Nat) : (a.add i).add j = a.add (i + j) := by
  unfold Addr.add
  rcases Nat.eq_zero_or_pos i with rfl | hi
  · simp
  · rcases Nat.eq_zero_or_pos j with rfl | hj
    · simp
    · rw [if_neg (by omega), if_neg (by omega), if_neg (by omega)]
      simp [Nat.add_assoc]

section
variable {w w' : World} {B B' : Nat} {A : Option Addr} {xs : List Value}
theorem Sl.nil (w : World) (B : Nat) (A : Option Addr) : Sl w B A [] := fun h => absurd h (by simp)
theorem Sl.at_ (h : Sl w B A xs) {k : Nat} (hk : k < xs.length) : ∃ ad, A = some ad ∧ ad.block < B ∧ w.cell? (ad.add k) = some xs[k] := by
  obtain ⟨ad, e, hb, hc⟩ := h (by omega)
  exact ⟨ad, e, hb, hc k _ (List.getElem?_eq_getElem hk)⟩
theorem Sl.keep (h : Sl w B A xs) (hk : ∀ p : Addr, p.block < B → w'.cell? p = w.cell? p) : Sl w' B A xs := fun hn => by
  obtain ⟨ad, e, hb, hc⟩ := h hn
  exact ⟨ad, e, hb, fun j u hu => (hk _ (by rw [add_block]; exact hb)).trans (hc j u hu)⟩
theorem Sl.more (h : Sl w B A xs) (hB : B ≤ B') : Sl w B' A xs := fun hn => by
  obtain ⟨ad, e, hb, hc⟩ := h hn
  exact ⟨ad, e, by omega, hc⟩
theorem Sl.below (h : Sl w B A xs) (hb : Below B w w') : Sl w' B A xs := h.keep fun _ hp => hb.cell hp
theorem Sl.drewN (h : Sl w B A xs) (k : Nat) : Sl (w.drewN k) B A xs := h
theorem Sl.alloc (h : Sl w B A xs) (hB : B ≤ w.heap.size) (o : Obj) : Sl (w.alloc o) B A xs := h.below ((Below.refl B w).alloc hB o)
theorem Sl.grown (h : Sl w B A xs) {row : Option Nat} (hg : w.grownBy w' row) (hB : B ≤ w.heap.size) (hr : ∀ g, row = some g → B ≤ g) : Sl w' B A xs :=
  h.keep fun p hp => World.cell?_of_block (hg.block p.block (by omega) (fun e => by have := hr _ e.symm; omega))
theorem Sl.take (h : Sl w B A xs) (k : Nat) : Sl w B A (xs.take k) := fun hn => by
  obtain ⟨ad, e, hb, hc⟩ := h (by rw [List.length_take] at hn; omega)
  refine ⟨ad, e, hb, fun j u hu => hc j u ?_⟩
  rw [List.getElem?_take] at hu
  split at hu
  · exact hu
  · cases hu
theorem Sl.drop (h : Sl w B A xs) (k : Nat) : Sl w B (A.map (·.add k)) (xs.drop k) := fun hn => by
  obtain ⟨ad, e, hb, hc⟩ := h (by rw [List.length_drop] at hn; omega)
  subst e
  refine ⟨ad.add k, rfl, by rw [add_block]; exact hb, fun j u hu => ?_⟩
  rw [add_add]
  exact hc _ u (by rw [← hu, List.getElem?_drop])
theorem Sl.of_own {base : Nat} {e : TypeId} {n c : Nat} (h : w.ownsRow base e 1 (.slice A n c) n xs) : Sl w w.heap.size A xs := fun hn => by
  have hl : 0 < n := by have := h.1; omega
  obtain ⟨g, cap, hv, _, hlt⟩ := h.form hl
  have hA : A = some ⟨g, 0, none⟩ := by injection hv
  subst hA
  exact ⟨_, rfl, hlt, h.cells (g := g) rfl⟩
end

section
variable {w w' : World} {base n c : Nat} {e : TypeId} {A : Option Addr} {xs : List Value}
theorem own_len (h : w.ownsRow base e 1 (.slice A n c) n xs) : xs.length = n := by have := h.1; omega
theorem own_form (h : w.ownsRow base e 1 (.slice A n c) n xs) (hn : 0 < n) : ∃ g, A = some ⟨g, 0, none⟩ ∧ base ≤ g ∧ g < w.heap.size := by
  obtain ⟨g, cap, hv, hb, hlt⟩ := h.form hn
  injection hv with h1 h2 h3
  exact ⟨g, h1, hb, hlt⟩
theorem own_cap (h : w.ownsRow base e 1 (.slice A n c) n xs) : n ≤ c ∧ c ≤ maxLen := by
  rcases h.2 with ⟨h', h0⟩ | ⟨g', cap', cur, h', hb, hg, hnc, hcm, hcs, htake⟩
  · injection h' with h1 h2 h3
    subst h0 h3
    exact ⟨Nat.le_refl _, by unfold maxLen; omega⟩
  · injection h' with h1 h2 h3
    subst h3
    exact ⟨hnc, hcm⟩
theorem own_block (h : w.ownsRow base e 1 (.slice A n c) n xs) : ∀ g, (Value.slice A n c).ownBlock = some g → base ≤ g := fun g hg => (h.lt g hg).1
/-- a shorter piece from the head on -/
theorem own_take (h : w.ownsRow base e 1 (.slice A n c) n xs) {k : Nat} (hk : k ≤ n) : w.ownsRow base e 1 (.slice A k c) k (xs.take k) := by
  have hl := own_len h
  refine ⟨by rw [List.length_take, hl]; omega, ?_⟩
  rcases h.2 with ⟨h', h0⟩ | ⟨g', cap', cur, h', hb, hg, hnc, hcm, hcs, htake⟩
  · injection h' with h1 h2 h3
    subst h0 h1 h3
    left
    have : k = 0 := by omega
    subst this
    exact ⟨rfl, rfl⟩
  · injection h' with h1 h2 h3
    subst h1 h3
    right
    refine ⟨g', c, cur, rfl, hb, hg, by omega, hcm, hcs, ?_⟩
    rw [← htake, List.take_take]
    congr 1
    omega
theorem own_more {base' : Nat} (h : w.ownsRow base e 1 (.slice A n c) n xs) (hb : base' ≤ base) : w.ownsRow base' e 1 (.slice A n c) n xs := by
  refine ⟨h.1, ?_⟩
  rcases h.2 with h' | ⟨g', cap', cur, h', hb', r⟩
  · exact .inl h'
  · exact .inr ⟨g', cap', cur, h', by omega, r⟩
/-- a nil or fresh row is not touched by what turns another block -/
theorem own_keep (h : w.ownsRow base e 1 (.slice A n c) n xs) {row : Option Nat} (hg : w.grownBy w' row) (hne : (Value.slice A n c).ownBlock = none ∨ (Value.slice A n c).ownBlock ≠ row) : w'.ownsRow base e 1 (.slice A n c) n xs := h.kept hg hne
theorem own_below (h : w.ownsRow base e 1 (.slice A n c) n xs) (hb : Below w.heap.size w w') : w'.ownsRow base e 1 (.slice A n c) n xs :=
  h.kept (row := none) ⟨hb.os, hb.tape, hb.output, hb.size, fun k hk _ => hb.block k hk⟩ (by
    by_cases he : (Value.slice A n c).ownBlock = none
    · exact .inl he
    · exact .inr he)
theorem own_drewN (h : w.ownsRow base e 1 (.slice A n c) n xs) (k : Nat) : (w.drewN k).ownsRow base e 1 (.slice A n c) n xs := h
end

section
variable {P : Program} (w : World)
theorem run_append_sl (base : Nat) (t ty e : TypeId) (i : TypeInfo) (z : Value) (bytes : Nat) (ht : P.underlying t = some (.slice e)) (hi : P.info? e = some i) (hz : i.zero = some z)
    (hsize : i.size = 1) (hby : i.bytes = bytes) (hzs : z.cells.size = 1)
    (A : Option Addr) (n c : Nat) (xs : List Value) (hown : w.ownsRow base e 1 (.slice A n c) n xs)
    (B : Nat) (A2 : Option Addr) (m c2 : Nat) (news : List Value) (hm : news.length = m) (hr : Sl w B A2 news) (h1 : ∀ u ∈ news, u.oneCell' = true)
    (h63 : n + m ≤ maxLen) (hbytes : (n + m) * bytes ≤ 140737488355328) (hbase : base ≤ w.heap.size) :
    ∃ A' c' w', (Builtin.append_ #[t, t] ty #[.slice A n c, .slice A2 m c2]).run P w = .ok (.slice A' (n + m) c') w' ∧ w'.ownsRow base e 1 (.slice A' (n + m) c') (n + m) (xs ++ news) ∧ w.grownBy w' (Value.slice A n c).ownBlock ∧
      ((Value.slice A' (n + m) c').ownBlock = (Value.slice A n c).ownBlock ∨ (Value.slice A' (n + m) c').ownBlock = some w.heap.size) := by
  rcases A2 with _ | ad
  · have h0 : m = 0 := by
      rcases Nat.eq_zero_or_pos m with h0 | h0
      · exact h0
      · obtain ⟨ad, h, _⟩ := hr (by omega)
        cases h
    subst h0
    have hn : news = [] := List.eq_nil_of_length_eq_zero hm
    subst hn
    refine ⟨A, c, w, ?_, by simpa using hown, World.grownBy.refl w _, .inl rfl⟩
    rcases hown.2 with ⟨h', h0⟩ | ⟨g, cap, cur, h', _, _, hnc, _⟩
    · injection h' with a1 a2 a3
      subst a1 a2 a3
      simp [Builtin.append_, run_underlying ht, sizeOf, typeInfo, hi, Builtin.lenOf, Builtin.firstCells]
    · injection h' with a1 a2 a3
      subst a1 a3
      simp [Builtin.append_, run_underlying ht, sizeOf, typeInfo, hi, Builtin.lenOf, Builtin.firstCells, hnc, storeCells]
  · have hc : ∀ j u, news[j]? = some u → w.cell? (ad.add j) = some u := by
      rcases Nat.eq_zero_or_pos m with h0 | h0
      · have hn : news = [] := List.eq_nil_of_length_eq_zero (hm.trans h0)
        subst hn
        intro j u hu
        simp at hu
      · obtain ⟨ad', h, _, hc⟩ := hr (by omega)
        injection h with h
        subst h
        exact hc
    obtain ⟨v', w', hrun, h2, h3, _, h5⟩ := run_append_own_at (P := P) w base t ty e i z 1 bytes ht hi hz hsize hby hzs (by omega) _ n xs hown ad m c2 news (by omega) hc h1 h63 hbytes hbase
    have hf : ∃ A' c', v' = .slice A' (n + m) c' := by
      rcases h2.2 with ⟨h', h0⟩ | ⟨g, cap, cur, h', _⟩
      · exact ⟨none, 0, by rw [h', h0]⟩
      · exact ⟨_, _, h'⟩
    obtain ⟨A', c', rfl⟩ := hf
    exact ⟨_, _, w', hrun, h2, h3, h5⟩

theorem wp_append_sl {o : Oper} {a : Act} {K : Act → World → Prop} {Q : Exit → Act → World → Prop} (s x : Operand) (t : TypeId)
    (ho : o.op = .call { callee := .builtin .append, args := #[s, x], argTypes := #[t, t] })
    (base : Nat) (e : TypeId) (i : TypeInfo) (z : Value) (bytes : Nat) (ht : P.underlying t = some (.slice e)) (hi : P.info? e = some i) (hz : i.zero = some z)
    (hsize : i.size = 1) (hby : i.bytes = bytes) (hzs : z.cells.size = 1)
    (A : Option Addr) (n c : Nat) (xs : List Value) (hs : a.eval s = .slice A n c) (hown : w.ownsRow base e 1 (.slice A n c) n xs)
    (B : Nat) (A2 : Option Addr) (m c2 : Nat) (news : List Value) (hx : a.eval x = .slice A2 m c2) (hm : news.length = m) (hr : Sl w B A2 news) (h1 : ∀ u ∈ news, u.oneCell' = true)
    (h63 : n + m ≤ maxLen) (hbytes : (n + m) * bytes ≤ 140737488355328) (hbase : base ≤ w.heap.size)
    (h : ∀ A' c' w', w'.ownsRow base e 1 (.slice A' (n + m) c') (n + m) (xs ++ news) → w.grownBy w' (Value.slice A n c).ownBlock → ((Value.slice A' (n + m) c').ownBlock = (Value.slice A n c).ownBlock ∨ (Value.slice A' (n + m) c').ownBlock = some w.heap.size) → K (a.put o.dst (.slice A' (n + m) c')) w') : o.wp P a w K Q := by
  obtain ⟨A', c', w', hrun, h2, h3, h4⟩ := run_append_sl (P := P) w base t o.type e i z bytes ht hi hz hsize hby hzs A n c xs hown B A2 m c2 news hm hr h1 h63 hbytes hbase
  unfold Oper.wp execOp
  simp only [ho, resolve, invoke, builtin, Sem.run_bind, Sem.run_pure, Result.andThen_ok, List.map_toArray, List.map_cons, List.map_nil, hs, hx, hrun]
  exact h A' c' w' h2 h3 h4

theorem wpList_append_sl {ops : Array Oper} {rest : List Oper} {o : Oper} {a : Act} {Q : Exit → Act → World → Prop} (hgd : o.guard = none) (s x : Operand) (t : TypeId)
    (ho : o.op = .call { callee := .builtin .append, args := #[s, x], argTypes := #[t, t] })
    (base : Nat) (e : TypeId) (i : TypeInfo) (z : Value) (bytes : Nat) (ht : P.underlying t = some (.slice e)) (hi : P.info? e = some i) (hz : i.zero = some z)
    (hsize : i.size = 1) (hby : i.bytes = bytes) (hzs : z.cells.size = 1)
    (A : Option Addr) (n c : Nat) (xs : List Value) (hs : a.eval s = .slice A n c) (hown : w.ownsRow base e 1 (.slice A n c) n xs)
    (B : Nat) (A2 : Option Addr) (m c2 : Nat) (news : List Value) (hx : a.eval x = .slice A2 m c2) (hm : news.length = m) (hr : Sl w B A2 news) (h1 : ∀ u ∈ news, u.oneCell' = true)
    (h63 : n + m ≤ maxLen) (hbytes : (n + m) * bytes ≤ 140737488355328) (hbase : base ≤ w.heap.size)
    (h : ∀ A' c' w', w'.ownsRow base e 1 (.slice A' (n + m) c') (n + m) (xs ++ news) → w.grownBy w' (Value.slice A n c).ownBlock → ((Value.slice A' (n + m) c').ownBlock = (Value.slice A n c).ownBlock ∨ (Value.slice A' (n + m) c').ownBlock = some w.heap.size) → wpList P ops Q rest (a.put o.dst (.slice A' (n + m) c')) w') :
    wpList P ops Q (o :: rest) a w :=
  wpList_plain hgd fun _ hK => wp_append_sl w s x t ho base e i z bytes ht hi hz hsize hby hzs A n c xs hs hown B A2 m c2 news hx hm hr h1 h63 hbytes hbase fun A' c' w' h2 h3 h4 => hK _ _ (h A' c' w' h2 h3 h4)
end

theorem int_eqv {k : IntKind} {a b : Int} (h : a = b) : (Value.int k a) = .int k b := by rw [h]
theorem ret_bool {a b : Bool} (h : a = b) : Ending.returned (.bool a) = .returned (.bool b) := by rw [h]
/-- the length of a slice value -/
def slen : Value → Nat
  | .slice _ n _ => n
  | _ => 0
theorem nat_ne0 {n : Nat} (h : 0 < n) : ((n : Int) == 0) = false := by rw [beq_eq_false_iff_ne]; omega

/-- an empty slice literal -/
theorem own_empty (w : World) (e : TypeId) : (w.alloc (.cells #[] e)).ownsRow w.heap.size e 1 (.slice (some ⟨w.heap.size, 0, none⟩) 0 0) 0 [] :=
  World.ownsRow_made w #[] 0 (Nat.le_refl _) (Nat.zero_le _) (by simp)
theorem below_only {w w' : World} {g : Nat} {B : Nat} (h : w.grownBy w' (some g)) (hB : B ≤ w.heap.size) (hg : B ≤ g) : Below B w w' := (Below.refl B w).grown h hB (fun k e => by cases e; exact hg)
theorem grown_trans {a b c : World} {row : Option Nat} (h : a.grownBy b row) (k : b.grownBy c row) : a.grownBy c row :=
  ⟨k.os.trans h.os, k.tape.trans h.tape, k.output.trans h.output, Nat.le_trans h.size k.size, fun i hi hn => (k.block i (Nat.lt_of_lt_of_le hi h.size) hn).trans (h.block i hi hn)⟩
theorem grown_drew {a b : World} {row : Option Nat} (h : a.grownBy b row) : a.grownBy b.drew row := ⟨h.os, h.tape, h.output, h.size, h.block⟩
theorem grown_far {a b c : World} {g : Option Nat} {row : Option Nat} (h : a.grownBy b g) (k : b.grownBy c row) (hr : ∀ x, row = some x → a.heap.size ≤ x) : a.grownBy c g :=
  ⟨k.os.trans h.os, k.tape.trans h.tape, k.output.trans h.output, Nat.le_trans h.size k.size, fun i hi hn => (k.block i (Nat.lt_of_lt_of_le hi h.size) (fun e => by have := hr i e.symm; omega)).trans (h.block i hi hn)⟩
theorem grown_alloc {a b : World} {g : Option Nat} (h : a.grownBy b g) (o : Obj) : a.grownBy (b.alloc o) g := grown_far h (World.grownBy_alloc b o none) (fun x e => by cases e)
theorem own_alloc {w : World} {base n c : Nat} {e : TypeId} {A : Option Addr} {xs : List Value} (h : w.ownsRow base e 1 (.slice A n c) n xs) (o : Obj) : (w.alloc o).ownsRow base e 1 (.slice A n c) n xs := h.alloc o
theorem own_grown {w w' : World} {base n c g : Nat} {e : TypeId} {A : Option Addr} {xs : List Value} (h : w.ownsRow base e 1 (.slice A n c) n xs) (hg : w.grownBy w' (some g)) (hb : g < base) : w'.ownsRow base e 1 (.slice A n c) n xs :=
  own_keep h hg (.inr (fun e => by have := own_block h _ e; omega))
theorem sl_new1 (w : World) (e : TypeId) (u : Value) : Sl (w.alloc (.cells #[u] e)) (w.heap.size + 1) (some ⟨w.heap.size, 0, none⟩) [u] := fun _ =>
  ⟨_, rfl, Nat.lt_succ_self _, cell_one_new _ _ _⟩
theorem below_of_grown {w w' : World} (h : w.grownBy w' none) : Below w.heap.size w w' := ⟨h.os, h.tape, h.output, h.size, fun k hk => h.block k hk (by simp)⟩
/-- 'make' of one-cell elements, for every world: an equation for a region that draws -/
theorem run_make_one {P : Program} (t e : TypeId) (i : TypeInfo) (z : Value) (ht : P.underlying t = some (.slice e)) (hi : P.info? e = some i) (hz : i.zero = some z) (hsz : i.size = 1)
    (kl kc : IntKind) (L C : Int) (n c : Nat) (hL : L = (n : Int)) (hC : C = (c : Int)) (hnc : n ≤ c) (hbytes : i.bytes * c ≤ 281474976710656) (h63 : c ≤ 9223372036854775807) (w : World) :
    (Instr.makeSlice t (.int kl L) (.int kc C)).run P w = .ok (.slice (some ⟨w.heap.size, 0, none⟩) n c) (w.alloc (.cells (madeCells z.cells c) e)) := by
  subst hL hC
  have hb : (i.bytes : Int) * (c : Int) ≤ 281474976710656 := by
    have h : ((i.bytes * c : Nat) : Int) ≤ 281474976710656 := by omega
    rwa [Int.natCast_mul] at h
  have hr := run_make (P := P) w t e i z ht hi hz kl kc n c (by omega) (by omega) hb (by omega)
  simp only [Int.toNat_natCast, hsz, Nat.mul_one] at hr
  exact hr
theorem own_made (w : World) (e : TypeId) (z : Value) (n c : Nat) (hz : z.cells = #[z]) (hnc : n ≤ c) (hc : c ≤ maxLen) :
    (w.alloc (.cells (madeCells z.cells c) e)).ownsRow w.heap.size e 1 (.slice (some ⟨w.heap.size, 0, none⟩) n c) n (List.replicate n z) := by
  have h := World.ownsRow_lit (base := w.heap.size) (e := e) (size := 1) w (madeCells z.cells c) c (Nat.le_refl _) hc (by rw [size_madeCells, Nat.mul_one])
  have h2 := own_take h hnc
  rw [hz, toList_madeCells_one, List.take_replicate, Nat.min_eq_left hnc] at h2
  rw [hz]
  exact h2
end Go.Proofs.YtjhaogbopmhkoaaDoor

namespace Go.Proofs.YtjhaogbopmhkoaaDoor
open Go.RowKit Go.Shelf
attribute [local go_sem] Oper.semAt_some
set_option linter.unusedVariables false
set_option maxRecDepth 100000
section
variable {F : Fence} {n : Nat} {P : Program}
/-- how a round is left: it goes on, or the function returns -/
def LeftBy (B : Nat) (I X : World → Prop) (W : World) : Exit → Act → World → Prop
  | .normal, _, W' => KeepsFrom B W W' ∧ I W'
  | .ret, _, W' => KeepsFrom B W W' ∧ X W'
  | _, _, _ => False
/-- the iterator's contract, round by round: it hands out what it reads at that time -/
def GivesK (F : Fence) (m : Nat) (P : Program) (gf : Nat) (lb : Array Value) (N : Nat) (enc : Nat → Value → Array Value) (Rd : Nat → Value → World → Prop) (Bx : World → Prop) : Prop :=
  ∀ (l : Nat) (J : Nat → World → Prop) (Jx : World → Prop), (∀ k W, J k W → Bx W) → (∀ k W, J k W → k < N → ∃ v, Rd k v W) →
    (∀ k v W, J k W → k < N → Rd k v W → YieldAt F (m - 1) P l (enc k v) W fun e W' => (e = .returned (.bool true) ∧ J (k + 1) W') ∨ (e = .returned (.bool false) ∧ Jx W')) →
    ∀ W, J 0 W → CallsIn F m P gf (#[.func (.yield l) #[] #[]] ++ lb) W fun e W' => (∃ v, e = .returned v) ∧ (J N W' ∨ Jx W')

theorem range_k {g : Operand} {ps : Array Tmp} {assign body : Code} {Q : Exit → Act → World → Prop} {a : Act} {w : World} (hro : F.round = none) (h1 : 1 ≤ n) {gf : Nat} {lb : Array Value} (hg : a.eval g = .func (.func gf) #[] lb) (hFg : F.fn gf)
    (eg : ∀ args w, (callFunc gf args).run P w = .ok (.enter gf args) w) {N : Nat} {enc : Nat → Value → Array Value} {Rd : Nat → Value → World → Prop} {Bx : World → Prop} (hseq : GivesK F (n - 1) P gf lb N enc Rd Bx) (hps : ∀ k v, (enc k v).size = ps.size)
    (I : Nat → World → Prop) (X : World → Prop) (hI : OwnFrom w.heap.size I) (hX : OwnFrom w.heap.size (fun (_ : Unit) W => X W)) (hRs : ∀ v, OwnFrom w.heap.size (fun k W => Rd k v W)) (hBx : ∀ k W, I k W → Bx W) (hRd : ∀ k W, I k W → k < N → ∃ v, Rd k v W)
    (h0 : I 0 w) (a₁ : Nat → Value → Act)
    (hassign : ∀ (l k : Nat) (v : Value) (W : World) (K : Act → World → Prop), K (a₁ k v) W → assign.wpIn (F.inRound l) (n - 1 - 1) P (Exit.then K (fun _ _ _ => False)) { tmps := (ps.zip (enc k v)).foldl (fun t (p, v) => t.setIfInBounds p v) a.tmps, defers := [] } W)
    (hbody : ∀ (l k : Nat) (v : Value) (W : World), I k W → k < N → Rd k v W → body.wpIn (F.inRound l) (n - 1 - 1) P (LeftBy w.heap.size (I (k + 1)) X W) (a₁ k v) W)
    (hdone : ∀ (D : Nat) (W : World), w.heap.size ≤ D → I N W → W.heap[D]? = some (.deferred (some [])) → Q .normal { a with defers := { target := .collected D, args := #[] } :: a.defers } W)
    (hstop : ∀ (D : Nat) (W : World), w.heap.size ≤ D → X W → W.heap[D]? = some (.deferred (some [])) → Code.ret.wpIn F n P Q { a with defers := { target := .collected D, args := #[] } :: a.defers } W) :
    (Code.rangeFunc g ps assign body).wpIn F n P Q a w := by
  refine wpIn_rangeFunc fun fn hfn => ?_
  rw [hro]
  obtain ⟨L, hL⟩ : ∃ L : LoopState → Option Code → Loop, L = fun st pe => { state := st, pending := pe, fn, tmps := a.tmps, params := ps, assign, body, defers := w.heap.size } := ⟨_, rfl⟩
  have enter := run_enterLoop_outer (P := P) (w := w) fn a.tmps ps assign body
  obtain ⟨Y, hY⟩ : ∃ Y, (w.alloc (.deferred (some []))).alloc (.loop (L .ready none)) = Y := ⟨_, rfl⟩
  have enter2 : (Instr.enterLoop fn a.tmps ps assign body none).run P w = .ok (w.heap.size + 1, [{ target := .collected w.heap.size, args := #[] }]) Y := by
    rw [enter, ← hY, hL]
  have yl : Y.heap[w.heap.size + 1]? = some (.loop (L .ready none)) := by
    rw [← hY]
    have := World.alloc_heap_new (w.alloc (.deferred (some []))) (.loop (L .ready none))
    rwa [World.size_alloc] at this
  have yd : Y.heap[w.heap.size]? = some (.deferred (some [])) := by
    rw [← hY, Below.heap_alloc _ _ _ (by simp)]
    exact World.alloc_heap_new w _
  have yI : I 0 Y := by
    rw [← hY]
    exact hI.alloc _ (hI.alloc _ h0)
  -- the call of the iterator
  refine ⟨w.heap.size + 1, [{ target := .collected w.heap.size, args := #[] }], Y, { target := .fn (.func gf) lb, args := #[.func (.yield (w.heap.size + 1)) #[] #[]] }, Y, gf, #[.func (.yield (w.heap.size + 1)) #[] #[]] ++ lb, Y, enter2, ?_, ?_, ?_, fun _ => h1, ?_⟩
  · simp only [resolve, hg]
    simp [go_sem]
  · intro f' hf'
    simp [Target.leads] at hf'
    subst hf'
    exact hFg
  · simp [invoke, go_sem, eg]
  refine (hseq (w.heap.size + 1) (fun k W => (I k W ∧ W.heap[w.heap.size]? = some (.deferred (some []))) ∧ W.heap[w.heap.size + 1]? = some (.loop (L .ready none)))
    (fun W => (X W ∧ W.heap[w.heap.size]? = some (.deferred (some []))) ∧ W.heap[w.heap.size + 1]? = some (.loop (L .done (some .ret))))
    (fun k W h => hBx k W h.1.1) (fun k W h => hRd k W h.1.1) ?_ Y ⟨⟨yI, yd⟩, yl⟩).mono ?_
  · rintro k v W ⟨⟨hi, hd⟩, hl⟩ hk hr
    have hlt : w.heap.size + 1 < W.heap.size := (Array.getElem?_eq_some_iff.1 hl).1
    have hy := run_yield (P := P) (args := enc k v) hl (by rw [hL]; exact hps k v)
    rw [hL] at hy
    refine ⟨fn, _, assign, body, hy, roundIn_of_wpIn hfn (hassign _ k v W _ ⟨_, run_beginRound hl (by rw [hL]), ?_⟩)⟩
    obtain ⟨B, hB⟩ : ∃ B, (W.putObj (w.heap.size + 1) (.loop { L .ready none with state := .busy })) = B := ⟨_, rfl⟩
    have bl : B.heap[w.heap.size + 1]? = some (.loop { L .ready none with state := .busy }) := by rw [← hB]; exact World.putObj_heap_same hlt
    have bd : B.heap[w.heap.size]? = some (.deferred (some [])) := by rw [← hB, World.putObj_heap_other (by omega)]; exact hd
    have bI : I k B := by rw [← hB]; exact hI.putObj _ hi (by omega) hl rfl
    have bR : Rd k v B := by rw [← hB]; exact (hRs v).putObj (s := k) _ hr (by omega) hl rfl
    rw [hB]
    have out : ∀ (j : Option Code) (W3 : World), KeepsFrom w.heap.size B W3 → ∃ W4, (Instr.endRound (w.heap.size + 1) j).run P W3 = .ok (.bool j.isNone) W4 ∧ W4.heap[w.heap.size]? = some (.deferred (some [])) ∧ W4.heap[w.heap.size + 1]? = some (.loop (L (if j.isNone then .ready else .done) j)) ∧
        (∀ k', I k' W3 → I k' W4) ∧ (X W3 → X W4) := by
      intro j W3 hk3
      have l3 := hk3.same _ _ (by omega) bl rfl
      have e3 := run_endRound (P := P) j l3
      rw [hL] at e3 l3 ⊢
      exact ⟨_, e3, (World.putObj_heap_other (by omega)).trans (hk3.same _ _ (Nat.le_refl _) bd rfl), World.putObj_heap_same (Array.getElem?_eq_some_iff.1 l3).1, fun k' h => hI.putObj _ h (by omega) l3 rfl, fun h => hX.putObj (s := ()) _ h (by omega) l3 rfl⟩
    refine wpIn_mono (hbody _ k v B bI hk bR) ?_
    intro e a3 W3 hp
    cases e with
    | normal =>
      obtain ⟨W4, e4, d4, l4, i4, _⟩ := out none W3 hp.1
      exact ⟨_, _, e4, .inl ⟨rfl, ⟨i4 _ hp.2, d4⟩, l4⟩⟩
    | ret =>
      obtain ⟨W4, e4, d4, l4, _, x4⟩ := out (some .ret) W3 hp.1
      exact ⟨_, _, e4, .inr ⟨rfl, ⟨x4 hp.2, d4⟩, l4⟩⟩
    | exit id => exact hp.elim
    | goto t => exact hp.elim
    | panic ch => exact hp.elim
    | outgrown => exact hp.elim
  · rintro e W2 ⟨⟨v, rfl⟩, (⟨⟨hi, hd⟩, hl⟩ | ⟨⟨hx, hd⟩, hl⟩)⟩
    · have e2 := run_endLoop (P := P) hl (by rw [hL]; simp)
      rw [hL] at e2
      exact ⟨none, _, e2, hdone _ _ (Nat.le_refl _) (hI.putObj _ hi (by omega) hl rfl) ((World.putObj_heap_other (by omega)).trans hd)⟩
    · have e2 := run_endLoop (P := P) hl (by rw [hL]; simp)
      rw [hL] at e2
      exact ⟨some .ret, _, e2, hstop _ _ (Nat.le_refl _) (hX.putObj (s := ()) _ hx (by omega) hl rfl) ((World.putObj_heap_other (by omega)).trans hd)⟩
end
/-- what is read in round k of a walk from the end on -/
def ReadBack (A : Option Addr) (len k : Nat) (v : Value) (W : World) : Prop := ∃ ad, A = some ad ∧ W.cell? (ad.add (len - 1 - k)) = some v
def encBack (len k : Nat) (v : Value) : Array Value := #[.int .i64 ((len - 1 - k : Nat) : Int), v]
theorem readBack_own (B : Nat) (A : Option Addr) (len : Nat) (v : Value) : OwnFrom B (fun k W => ReadBack A len k v W) := fun k W W' row h hg hr => by
  obtain ⟨ad, e, hc⟩ := h
  exact ⟨ad, e, cell_kept hc hg (fun r e => (hr r e).2)⟩
end Go.Proofs.YtjhaogbopmhkoaaDoor

namespace Go.Proofs.YtjhaogbopmhkoaaDoor
set_option linter.unusedVariables false
namespace Na
/-- the limbs of a number, the lowest first -/
def dig (x : Nat) : List Nat := if x = 0 then [] else (x % 16777216) :: dig (x / 16777216)
termination_by x
decreasing_by omega
/-- the number of some limbs -/
def val : List Nat → Nat
  | [] => 0
  | a :: l => a + 16777216 * val l
/-- limbs are small -/
def Lim (l : List Nat) : Prop := ∀ a ∈ l, a < 16777216
theorem dig_zero : dig 0 = [] := by unfold dig; rfl
theorem dig_pos (x : Nat) (h : 0 < x) : dig x = (x % 16777216) :: dig (x / 16777216) := by
  rw [dig, if_neg (by omega)]
theorem dig_small (x : Nat) (h : 0 < x) (h2 : x < 16777216) : dig x = [x] := by
  rw [dig_pos x h, Nat.mod_eq_of_lt h2, Nat.div_eq_of_lt h2, dig_zero]
theorem val_dig (x : Nat) : val (dig x) = x := by
  induction x using Nat.strongRecOn with
  | ind x ih =>
    rcases Nat.eq_zero_or_pos x with rfl | h
    · rw [dig_zero]; rfl
    · rw [dig_pos x h, val, ih _ (by omega)]
      omega
theorem dig_inj {x y : Nat} (h : dig x = dig y) : x = y := by rw [← val_dig x, h, val_dig]
theorem dig_lim (x : Nat) : Lim (dig x) := by
  induction x using Nat.strongRecOn with
  | ind x ih =>
    rcases Nat.eq_zero_or_pos x with rfl | h
    · rw [dig_zero]; intro a ha; cases ha
    · rw [dig_pos x h]
      intro a ha
      rcases List.mem_cons.1 ha with rfl | ha
      · omega
      · exact ih _ (by omega) a ha
theorem Lim.tail {a : Nat} {l : List Nat} (h : Lim (a :: l)) : Lim l := fun b hb => h b (List.mem_cons_of_mem _ hb)
theorem Lim.head {a : Nat} {l : List Nat} (h : Lim (a :: l)) : a < 16777216 := h a (List.mem_cons_self ..)
theorem Lim.at {l : List Nat} (h : Lim l) {k a : Nat} (hk : l[k]? = some a) : a < 16777216 := h a (List.mem_of_getElem? hk)
theorem Lim.nil : Lim [] := fun a h => by cases h
theorem Lim.cons {a : Nat} {l : List Nat} (h : a < 16777216) (hl : Lim l) : Lim (a :: l) := fun b hb => by
  rcases List.mem_cons.1 hb with rfl | hb
  · exact h
  · exact hl b hb
theorem Lim.append {l m : List Nat} (h : Lim l) (hm : Lim m) : Lim (l ++ m) := fun b hb => by
  rcases List.mem_append.1 hb with hb | hb
  · exact h b hb
  · exact hm b hb
theorem Lim.one {a : Nat} (h : a < 16777216) : Lim [a] := Lim.cons h Lim.nil
theorem Lim.take {l : List Nat} (h : Lim l) (k : Nat) : Lim (l.take k) := fun b hb => h b (List.mem_of_mem_take hb)
theorem Lim.drop {l : List Nat} (h : Lim l) (k : Nat) : Lim (l.drop k) := fun b hb => h b (List.mem_of_mem_drop hb)
theorem Lim.set {l : List Nat} (h : Lim l) (k : Nat) {a : Nat} (ha : a < 16777216) : Lim (l.set k a) := fun b hb => by
  rcases List.mem_or_eq_of_mem_set hb with hb | rfl
  · exact h b hb
  · exact ha
theorem Lim.zeros (n : Nat) : Lim (List.replicate n 0) := fun b hb => by
  have := List.eq_of_mem_replicate hb
  omega
theorem val_lt {l : List Nat} (h : Lim l) : val l < 16777216 ^ l.length := by
  induction l with
  | nil => simp [val]
  | cons a l ih =>
    have h1 := ih h.tail
    have h2 := h.head
    rw [val, List.length_cons, Nat.pow_succ]
    omega
theorem val_append (l m : List Nat) : val (l ++ m) = val l + 16777216 ^ l.length * val m := by
  induction l with
  | nil => simp [val]
  | cons a l ih =>
    rw [List.cons_append, val, val, ih, List.length_cons, Nat.pow_succ, Nat.mul_add, ← Nat.mul_assoc, Nat.mul_comm 16777216 (16777216 ^ l.length)]
    omega
theorem val_snoc (l : List Nat) (a : Nat) : val (l ++ [a]) = val l + 16777216 ^ l.length * a := by
  rw [val_append]; simp [val]
theorem val_zeros (n : Nat) : val (List.replicate n 0) = 0 := by
  induction n with
  | zero => rfl
  | succ n ih => rw [List.replicate_succ, val, ih]
theorem val_split (l : List Nat) (k : Nat) (h : k ≤ l.length) : val l = val (l.take k) + 16777216 ^ k * val (l.drop k) := by
  have h1 := val_append (l.take k) (l.drop k)
  rw [List.take_append_drop, List.length_take, Nat.min_eq_left h] at h1
  exact h1
theorem val_take_succ (l : List Nat) (k a : Nat) (h : l[k]? = some a) : val (l.take (k + 1)) = val (l.take k) + 16777216 ^ k * a := by
  have hlt : k < l.length := by
    rcases Nat.lt_or_ge k l.length with h1 | h1
    · exact h1
    · rw [List.getElem?_eq_none h1] at h; cases h
  rw [List.take_add_one, h, Option.toList_some, val_snoc, List.length_take, Nat.min_eq_left (by omega)]
theorem val_drop_cons (l : List Nat) (k a : Nat) (h : l[k]? = some a) : val (l.drop k) = a + 16777216 * val (l.drop (k + 1)) := by
  have hlt : k < l.length := by
    rcases Nat.lt_or_ge k l.length with h1 | h1
    · exact h1
    · rw [List.getElem?_eq_none h1] at h; cases h
  have ha : l[k] = a := by rw [List.getElem?_eq_getElem hlt] at h; exact Option.some.inj h
  rw [List.drop_eq_getElem_cons hlt, val, ha]
theorem val_set (l : List Nat) (k a b : Nat) (h : l[k]? = some a) : val (l.set k b) + 16777216 ^ k * a = val l + 16777216 ^ k * b := by
  induction l generalizing k with
  | nil => simp at h
  | cons c l ih =>
    cases k with
    | zero =>
      have hc : c = a := by simpa using h
      subst hc
      simp [val]
      omega
    | succ k =>
      have h1 := ih k (by simpa using h)
      rw [List.set_cons_succ, val, val, Nat.pow_succ, Nat.mul_comm (16777216 ^ k) 16777216, Nat.mul_assoc, Nat.mul_assoc]
      omega
/-- the length without zeros at the end -/
def tl (l : List Nat) : Nat → Nat
  | 0 => 0
  | n + 1 => if l[n]? = some 0 then tl l n else n + 1
theorem tl_le (l : List Nat) : ∀ n, tl l n ≤ n := by
  intro n
  induction n with
  | zero => exact Nat.le_refl _
  | succ n ih =>
    unfold tl
    split
    · omega
    · exact Nat.le_refl _
theorem tl_zero (l : List Nat) (n : Nat) (h : l[n]? = some 0) : tl l (n + 1) = tl l n := by rw [tl, if_pos h]
theorem tl_stop (l : List Nat) (n : Nat) (h : l[n]? ≠ some 0) : tl l (n + 1) = n + 1 := by rw [tl, if_neg h]
theorem tl_last (l : List Nat) : ∀ n, tl l n = 0 ∨ l[tl l n - 1]? ≠ some 0 := by
  intro n
  induction n with
  | zero => exact .inl rfl
  | succ n ih =>
    by_cases h : l[n]? = some 0
    · rw [tl_zero l n h]
      exact ih
    · rw [tl_stop l n h]
      exact .inr h
theorem val_tl (l : List Nat) : ∀ n, n ≤ l.length → val (l.take (tl l n)) = val (l.take n) := by
  intro n
  induction n with
  | zero => intro _; rfl
  | succ n ih =>
    intro hn
    by_cases h : l[n]? = some 0
    · rw [tl_zero l n h, ih (by omega), val_take_succ l n 0 h, Nat.mul_zero, Nat.add_zero]
    · rw [tl_stop l n h]
def trim (l : List Nat) : List Nat := l.take (tl l l.length)
theorem trim_length (l : List Nat) : (trim l).length = tl l l.length := by
  unfold trim
  rw [List.length_take]
  have := tl_le l l.length
  omega
/-- limbs without a zero at the end are those of their number -/
theorem dig_val {l : List Nat} (h : Lim l) (h0 : l.length = 0 ∨ l[l.length - 1]? ≠ some 0) : dig (val l) = l := by
  induction l with
  | nil => exact dig_zero
  | cons a l ih =>
    have ha := h.head
    rw [val]
    cases l with
    | nil =>
      have : a ≠ 0 := by simpa using h0
      rw [show a + 16777216 * val [] = a from by simp [val]]
      exact dig_small a (by omega) ha
    | cons b l =>
      have h1 : (b :: l).length = 0 ∨ (b :: l)[(b :: l).length - 1]? ≠ some 0 := by
        right
        rcases h0 with h0 | h0
        · simp at h0
        · simpa using h0
      have h2 := ih h.tail h1
      have hv : val (b :: l) ≠ 0 := by
        intro e
        rw [e, dig_zero] at h2
        cases h2
      rw [dig_pos _ (by omega), show (a + 16777216 * val (b :: l)) / 16777216 = val (b :: l) by omega, show (a + 16777216 * val (b :: l)) % 16777216 = a by omega, h2]
theorem dig_last (x : Nat) : (dig x).length = 0 ∨ (dig x)[(dig x).length - 1]? ≠ some 0 := by
  induction x using Nat.strongRecOn with
  | ind x ih =>
    rcases Nat.eq_zero_or_pos x with rfl | h
    · left; rw [dig_zero]; rfl
    · right
      have h1 := ih (x / 16777216) (by omega)
      rw [dig_pos x h]
      rcases h1 with h1 | h1
      · have h2 : dig (x / 16777216) = [] := List.eq_nil_of_length_eq_zero h1
        have h3 : x / 16777216 = 0 := by rw [← val_dig (x / 16777216), h2]; rfl
        rw [h2]
        simp
        omega
      · cases hd : dig (x / 16777216) with
        | nil =>
          have h3 : x / 16777216 = 0 := by rw [← val_dig (x / 16777216), hd]; rfl
          simp
          omega
        | cons b l =>
          rw [hd] at h1
          simpa using h1
theorem trim_dig {l : List Nat} (h : Lim l) : trim l = dig (val l) := by
  have h1 := val_tl l l.length (Nat.le_refl _)
  rw [List.take_length] at h1
  have h2 : (trim l).length = 0 ∨ (trim l)[(trim l).length - 1]? ≠ some 0 := by
    rw [trim_length]
    rcases tl_last l l.length with h2 | h2
    · exact .inl h2
    · rcases Nat.eq_zero_or_pos (tl l l.length) with h3 | h3
      · exact .inl h3
      · right
        unfold trim
        rw [List.getElem?_take, if_pos (by omega)]
        exact h2
  have h3 := dig_val (h.take (tl l l.length)) h2
  have h4 : val (l.take (tl l l.length)) = val l := h1
  rw [h4] at h3
  exact h3.symm
theorem trim_len {l : List Nat} (h : Lim l) : tl l l.length = (dig (val l)).length := by rw [← trim_dig h, trim_length]
theorem dig_len_le {x n : Nat} (h : x < 16777216 ^ n) : (dig x).length ≤ n := by
  induction n generalizing x with
  | zero =>
    have : x = 0 := by simpa using h
    rw [this, dig_zero]
    exact Nat.le_refl _
  | succ n ih =>
    rcases Nat.eq_zero_or_pos x with rfl | h0
    · rw [dig_zero]; exact Nat.zero_le _
    · rw [dig_pos x h0, List.length_cons]
      have := ih (x := x / 16777216) (by rw [Nat.pow_succ] at h; omega)
      omega
theorem dig_len_ge {x n : Nat} (h : 16777216 ^ n ≤ x) : n < (dig x).length := by
  rcases Nat.lt_or_ge n (dig x).length with h1 | h1
  · exact h1
  · have h2 := val_lt (dig_lim x)
    rw [val_dig] at h2
    have h3 := Nat.pow_le_pow_right (show 0 < 16777216 by omega) h1
    omega
theorem dig_len_iff (x n : Nat) : (dig x).length ≤ n ↔ x < 16777216 ^ n := by
  constructor
  · intro h
    rcases Nat.lt_or_ge x (16777216 ^ n) with h1 | h1
    · exact h1
    · have := dig_len_ge h1
      omega
  · exact dig_len_le
theorem dig_len_mono {x y : Nat} (h : x ≤ y) : (dig x).length ≤ (dig y).length :=
  dig_len_le (Nat.lt_of_le_of_lt h (by have := val_lt (dig_lim y); rwa [val_dig] at this))
theorem dig_len0 {x : Nat} : (dig x).length = 0 ↔ x = 0 := by
  constructor
  · intro h
    have h1 : dig x = [] := List.eq_nil_of_length_eq_zero h
    rw [← val_dig x, h1]; rfl
  · rintro rfl; rw [dig_zero]; rfl
theorem dig_low (x k : Nat) (h : k + 1 = (dig x).length) : 16777216 ^ k ≤ x := by
  rcases Nat.lt_or_ge x (16777216 ^ k) with h1 | h1
  · have := dig_len_le h1
    omega
  · exact h1
/-- the limit -/
def top : Nat := 16777216 ^ 200
theorem dig_200 (x : Nat) : (dig x).length ≤ 200 ↔ x < top := dig_len_iff x 200
/-- the order of numbers -/
def sgn (x y : Nat) : Int := if x < y then -1 else if y < x then 1 else 0
theorem sgn_lt {x y : Nat} (h : x < y) : sgn x y = -1 := by unfold sgn; rw [if_pos h]
theorem sgn_gt {x y : Nat} (h : y < x) : sgn x y = 1 := by unfold sgn; rw [if_neg (by omega), if_pos h]
theorem sgn_eq {x y : Nat} (h : x = y) : sgn x y = 0 := by unfold sgn; rw [if_neg (by omega), if_neg (by omega)]
theorem sgn_cases (x y : Nat) : (x < y ∧ sgn x y = -1) ∨ (x = y ∧ sgn x y = 0) ∨ (y < x ∧ sgn x y = 1) := by
  rcases Nat.lt_trichotomy x y with h | h | h
  · exact .inl ⟨h, sgn_lt h⟩
  · exact .inr (.inl ⟨h, sgn_eq h⟩)
  · exact .inr (.inr ⟨h, sgn_gt h⟩)
theorem sgn_len {x y : Nat} (h : (dig x).length < (dig y).length) : x < y := by
  rcases Nat.lt_or_ge x y with h1 | h1
  · exact h1
  · have := dig_len_mono h1
    omega
/-- two lists of equal length that agree behind place i -/
theorem val_cmp {l m : List Nat} (hl : Lim l) (hm : Lim m) (i a b : Nat) (h1 : l[i]? = some a) (h2 : m[i]? = some b) (h3 : l.drop (i + 1) = m.drop (i + 1)) (hab : a < b) : val l < val m := by
  have hlt : i < l.length := by
    rcases Nat.lt_or_ge i l.length with h | h
    · exact h
    · rw [List.getElem?_eq_none h] at h1; cases h1
  have hlt2 : i < m.length := by
    rcases Nat.lt_or_ge i m.length with h | h
    · exact h
    · rw [List.getElem?_eq_none h] at h2; cases h2
  have e1 := val_split l (i + 1) (by omega)
  have e2 := val_split m (i + 1) (by omega)
  rw [val_take_succ l i a h1] at e1
  rw [val_take_succ m i b h2] at e2
  rw [h3] at e1
  have e3 := val_lt (hl.take i)
  rw [List.length_take, Nat.min_eq_left (by omega)] at e3
  have e4 : 16777216 ^ i * (a + 1) ≤ 16777216 ^ i * b := Nat.mul_le_mul_left _ hab
  rw [Nat.mul_add, Nat.mul_one] at e4
  omega
/-- ints as limbs: P1.1 -/
def lim (z : Int) : Bool := decide (0 ≤ z) && decide (z < 16777216)
def vld (zs : List Int) : Bool := zs.all lim && (decide (zs.length ≤ 200) && (zs.getLast? != some 0))
def up (l : List Nat) : List Int := l.map Int.ofNat
theorem up_length (l : List Nat) : (up l).length = l.length := List.length_map _
theorem up_get (l : List Nat) (k : Nat) : (up l)[k]? = (l[k]?).map Int.ofNat := by unfold up; rw [List.getElem?_map]
theorem lim_up {zs : List Int} (h : zs.all lim = true) : ∃ l, zs = up l ∧ Lim l := by
  induction zs with
  | nil => exact ⟨[], rfl, Lim.nil⟩
  | cons z zs ih =>
    rw [List.all_cons, Bool.and_eq_true] at h
    obtain ⟨l, rfl, hl⟩ := ih h.2
    have h1 : 0 ≤ z ∧ z < 16777216 := by
      have := h.1
      unfold lim at this
      simpa using this
    obtain ⟨a, rfl⟩ := Int.eq_ofNat_of_zero_le h1.1
    exact ⟨a :: l, rfl, Lim.cons (by omega) hl⟩
theorem vld_dig {x : Nat} (h : x < top) : vld (up (dig x)) = true := by
  have h1 := dig_last x
  have h2 := (dig_200 x).2 h
  unfold vld
  rw [Bool.and_eq_true, Bool.and_eq_true]
  refine ⟨?_, by rw [up_length]; exact decide_eq_true h2, ?_⟩
  · rw [List.all_eq_true]
    intro z hz
    unfold up at hz
    obtain ⟨a, ha, rfl⟩ := List.mem_map.1 hz
    have := dig_lim x a ha
    unfold lim
    rw [Bool.and_eq_true]
    exact ⟨decide_eq_true (Int.natCast_nonneg a), decide_eq_true (by show (a : Int) < _; omega)⟩
  · rw [bne_iff_ne, List.getLast?_eq_getElem?, up_get, up_length]
    intro e
    rcases h1 with h1 | h1
    · rw [List.getElem?_eq_none (by omega)] at e
      cases e
    · cases hx : (dig x)[(dig x).length - 1]? with
      | none => rw [hx] at e; cases e
      | some a =>
        rw [hx] at e h1
        simp at e
        simp at h1
        exact h1 e
theorem vld_ex {zs : List Int} (h : vld zs = true) : ∃ x, x < top ∧ zs = up (dig x) := by
  unfold vld at h
  rw [Bool.and_eq_true, Bool.and_eq_true] at h
  obtain ⟨h1, h2, h3⟩ := h
  obtain ⟨l, rfl, hl⟩ := lim_up h1
  have h4 : dig (val l) = l := by
    refine dig_val hl ?_
    rcases Nat.eq_zero_or_pos l.length with h | h
    · exact .inl h
    · right
      intro e
      rw [bne_iff_ne, List.getLast?_eq_getElem?, up_get, up_length, e] at h3
      exact h3 rfl
  refine ⟨val l, ?_, by rw [h4]⟩
  rw [← dig_200, h4]
  have := of_decide_eq_true h2
  rwa [up_length] at this
end Na
end Go.Proofs.YtjhaogbopmhkoaaDoor

namespace Go.Proofs.YtjhaogbopmhkoaaDoor
open Go.RowKit
set_option linter.unusedVariables false
set_option maxRecDepth 100000
theorem ret_int {k : IntKind} {a b : Int} (h : a = b) : Ending.returned (.int k a) = .returned (.int k b) := by rw [h]

theorem mod_num (n m : Int) (h : 1 ≤ m) (h' : n.tmod m < 0) : n.tmod m + m = n % m := by
  have h1 := Int.tmod_eq_emod (a := n) (b := m)
  have h2 := Int.emod_nonneg n (show m ≠ 0 by omega)
  have h3 := Int.emod_lt_of_pos n (show 0 < m by omega)
  split at h1 <;> omega
theorem mod_num' (n m : Int) (h : 1 ≤ m) (h' : 0 ≤ n.tmod m) : n.tmod m = n % m := by
  have h1 := Int.tmod_eq_emod (a := n) (b := m)
  have h2 := Int.emod_nonneg n (show m ≠ 0 by omega)
  have h3 := Int.emod_lt_of_pos n (show 0 < m by omega)
  split at h1
  · omega
  · rename_i h4
    have : (m.natAbs : Int) = m := by omega
    omega
theorem tmod_lt (n m : Int) (h : 1 ≤ m) : - m < n.tmod m ∧ n.tmod m < m := by
  have h1 := Int.tmod_eq_emod (a := n) (b := m)
  have h2 := Int.emod_nonneg n (show m ≠ 0 by omega)
  have h3 := Int.emod_lt_of_pos n (show 0 < m by omega)
  have h5 : (m.natAbs : Int) = m := by omega
  split at h1
  · omega
  · rename_i h4
    rw [Int.dvd_iff_emod_eq_zero] at h4
    omega
/-- 'Mod(n, m)' for an m from 1 on. -/
theorem mod_any (n m : Int) (w : World) (h1 : 1 ≤ m) (h2 : m ≤ 9223372036854775807) : Calls Tryd.prog 14 #[.int .i64 n, .int .i64 m] w fun e w' => e = .returned (.int .i64 (n % m)) ∧ w = w' := by
  obtain ⟨hb, hb'⟩ := tmod_lt n m h1
  rcases Int.lt_or_le (n.tmod m) 0 with hn | hn
  · have H := Lib.hid (mod_num n m h1 hn)
    go_enter Tryd.func14, Tryd.ntmps14
    go_wp2_with fail
    go_ret
    exact ⟨ret_int H.out, rfl⟩
  · have H := Lib.hid (mod_num' n m h1 hn)
    go_enter Tryd.func14, Tryd.ntmps14
    go_wp2_with fail
    go_ret
    exact ⟨ret_int H.out, rfl⟩

end Go.Proofs.YtjhaogbopmhkoaaDoor

namespace Go.Proofs.YtjhaogbopmhkoaaDoor
open Go.RowKit
set_option linter.unusedVariables false
set_option maxRecDepth 100000

/-- ints as values -/
def encI (n : Int) : Value := .int .i64 n
def ints (l : List Int) : List Value := l.map encI
theorem ints_length (l : List Int) : (ints l).length = l.length := List.length_map _
theorem Sl.int {w : World} {B : Nat} {A : Option Addr} {l : List Int} (h : Sl w B A (ints l)) {k : Nat} {b : Int} (hk : l[k]? = some b) : ∃ ad, A = some ad ∧ ad.block < B ∧ w.cell? (ad.add k) = some (.int .i64 b) := by
  have hlt : k < l.length := by
    rcases Nat.lt_or_ge k l.length with h | h
    · exact h
    · rw [List.getElem?_eq_none h] at hk; cases hk
  obtain ⟨ad, e, hb, hc⟩ := h (by rw [ints_length]; omega)
  exact ⟨ad, e, hb, hc k _ (by unfold ints; rw [List.getElem?_map, hk]; rfl)⟩
theorem int_at (l : List Int) (k : Nat) (h : k < l.length) : ∃ b : Int, l[k]? = some b := ⟨_, List.getElem?_eq_getElem h⟩

/-- Dice lie in block g: a list of numbers below block B, and how many are given out. -/
def Dice (w : World) (g B : Nat) : Prop :=
  ∃ (A : Option Addr) (n c at_ : Nat) (ts : List Int), w.heap[g]? = some (.cells #[.slice A n c, .int .i64 (at_ : Int)] 89 (0, 0)) ∧ ts.length = n ∧ at_ ≤ n ∧ n ≤ 140737488355328 ∧ Sl w B A (ints ts) ∧ B ≤ g
theorem Dice.lt {w : World} {g B : Nat} (h : Dice w g B) : g < w.heap.size := by
  obtain ⟨A, n, c, at_, ts, hh, _⟩ := h
  rcases Nat.lt_or_ge g w.heap.size with hlt | hge
  · exact hlt
  · rw [Array.getElem?_eq_none hge] at hh; cases hh
theorem Dice.keep {w w' : World} {g B : Nat} (h : Dice w g B) (hk : ∀ b, b ≤ g → w'.heap[b]? = w.heap[b]?) : Dice w' g B := by
  obtain ⟨A, n, c, at_, ts, hh, h1, h2, h3, hs, hB⟩ := h
  exact ⟨A, n, c, at_, ts, (hk g (Nat.le_refl _)).trans hh, h1, h2, h3, hs.keep fun p hp => World.cell?_of_block (hk p.block (by omega)), hB⟩
theorem Dice.below {w w' : World} {g B : Nat} (h : Dice w g B) (hb : Below w.heap.size w w') : Dice w' g B := h.keep fun b hb' => hb.block b (by have := h.lt; omega)
theorem Dice.drewN {w : World} {g B : Nat} (h : Dice w g B) (k : Nat) : Dice (w.drewN k) g B := h
theorem Dice.drew {w : World} {g B : Nat} (h : Dice w g B) : Dice w.drew g B := h
theorem Dice.grown {w w' : World} {g B : Nat} (h : Dice w g B) {row : Option Nat} (hg : w.grownBy w' row) (hr : ∀ k, row = some k → g < k) : Dice w' g B := h.keep fun b hb' => hg.block b (by have := h.lt; omega) (fun e => by have := hr b e.symm; omega)

end Go.Proofs.YtjhaogbopmhkoaaDoor

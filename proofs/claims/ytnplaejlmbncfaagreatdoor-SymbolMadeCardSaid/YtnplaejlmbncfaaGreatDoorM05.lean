/- NatT RegInv NatM Om Ox Sg FieldB FieldC -/
import Derived.Test.YtnplaejlmbncfaaGreatDoorM02
import Derived.Test.YtnplaejlmbncfaaGreatDoorM04
import Derived.RegionTactic
import Derived.Deep.RegionWith
import Derived.StillTail
import Derived.Deep.QuietTactic
import Derived.Lib.QuietBelow
import Derived.Lib.AppendZeros
namespace Go.Proofs.YtnplaejlmbncfaaGreatDoor
open Go.RowKit
set_option linter.unusedVariables false
set_option maxRecDepth 100000
structure Ob where
  A : Option Addr
  n : Nat
  c : Nat
  vs : List Value
/-- what is held: dice in block g, variables of one cell, lists that can be read -/
structure St (w0 w : World) (g : Option Nat) (M : List (Nat × Value)) (L : List Ob) : Prop where
  below : Below w0.heap.size w0 w
  lt : ∀ x, g = some x → x < w.heap.size ∧ w0.heap.size ≤ x
  box : ∀ (i b : Nat) (v : Value), M[i]? = some (b, v) → b < w.heap.size ∧ w0.heap.size ≤ b ∧ w.cell? ⟨b, 0, none⟩ = some v ∧ w.frozen? ⟨b, 0, none⟩ = false ∧ g ≠ some b
  one : ∀ (i j b : Nat) (u v : Value), M[i]? = some (b, u) → M[j]? = some (b, v) → i = j
  held : ∀ o ∈ L, o.vs.length = o.n ∧ o.n ≤ o.c ∧ o.n ≤ 1000 ∧ ∃ B, B ≤ w.heap.size ∧ Sl w B o.A o.vs ∧ (∀ ad, o.A = some ad → 0 < o.n → g ≠ some ad.block ∧ ∀ (i b : Nat) (v : Value), M[i]? = some (b, v) → ad.block ≠ b)
theorem St.refl (w : World) : St w w none [] [] := ⟨Below.refl _ _, fun x e => (by cases e), fun i b v h => (by simp at h), fun i j b u v h => (by simp at h), fun o h => (by cases h)⟩
section
variable {w0 w w' : World} {g : Option Nat} {M : List (Nat × Value)} {L : List Ob}
theorem St.size (h : St w0 w g M L) : w0.heap.size ≤ w.heap.size := h.below.size
theorem St.go (h : St w0 w g M L) (hb : Below w.heap.size w w') : St w0 w' g M L :=
  ⟨h.below.trans (hb.mono h.size), fun x e => ⟨Nat.lt_of_lt_of_le (h.lt x e).1 hb.size, (h.lt x e).2⟩, fun i b v hi => by
    obtain ⟨h1, h2, h3, h4, h5⟩ := h.box i b v hi
    exact ⟨Nat.lt_of_lt_of_le h1 hb.size, h2, (hb.cell (p := ⟨b, 0, none⟩) h1).trans h3, (hb.frozen (p := ⟨b, 0, none⟩) h1).trans h4, h5⟩, h.one, fun o ho => by
    obtain ⟨h1, h2, h3, B, hB, hs, hne⟩ := h.held o ho
    exact ⟨h1, h2, h3, B, Nat.le_trans hB hb.size, hs.below (hb.mono hB), hne⟩⟩
theorem St.add (h : St w0 w g M L) {A : Option Addr} {n c B : Nat} {vs : List Value} (hs : Sl w B A vs) (hB : B ≤ w.heap.size) (hn : vs.length = n) (hc : n ≤ c) (hl : n ≤ 1000)
    (hne : ∀ ad, A = some ad → 0 < n → g ≠ some ad.block ∧ ∀ (i b : Nat) (v : Value), M[i]? = some (b, v) → ad.block ≠ b) : St w0 w g M (L ++ [⟨A, n, c, vs⟩]) :=
  ⟨h.below, h.lt, h.box, h.one, fun o ho => by
    rcases List.mem_append.1 ho with h1 | h1
    · exact h.held o h1
    · rw [List.mem_singleton] at h1
      subst h1
      exact ⟨hn, hc, hl, B, hB, hs, hne⟩⟩
/-- a list that lay before everything of the call's own -/
theorem St.old (h : St w0 w g M L) {A : Option Addr} {n c : Nat} {vs : List Value} (hs : Sl w0 w0.heap.size A vs) (hn : vs.length = n) (hc : n ≤ c) (hl : n ≤ 1000) : St w0 w g M (L ++ [⟨A, n, c, vs⟩]) := by
  refine h.add ((hs.below h.below)) h.size hn hc hl fun ad e h0 => ?_
  obtain ⟨ad', e', hb, _⟩ := hs (by omega)
  rw [e] at e'
  obtain rfl := Option.some.inj e'
  exact ⟨fun e2 => by have := (h.lt _ e2).2; omega, fun i b v hi e2 => by have := (h.box i b v hi).2.1; omega⟩
theorem St.push (h : St w0 w g M L) {A : Option Addr} {n c : Nat} {vs : List Value} {e : TypeId} (ho : w'.ownsRow w.heap.size e 1 (.slice A n c) n vs) (hl : n ≤ 1000) (hb : Below w.heap.size w w') : St w0 w' g M (L ++ [⟨A, n, c, vs⟩]) := by
  refine (h.go hb).add (Sl.of_own ho) (Nat.le_refl _) (own_len ho) (own_cap ho).1 hl fun ad e h0 => ?_
  obtain ⟨g', hg', h1, _⟩ := own_form ho h0
  rw [e] at hg'
  obtain rfl := Option.some.inj hg'
  exact ⟨fun e2 => by have := (h.lt _ e2).1; simp only at this; omega, fun i b v hi e2 => by have := (h.box i b v hi).1; simp only at e2; omega⟩
theorem St.roll {x : Nat} (h : St w0 w (some x) M L) (hg : w.grownBy w' (some x)) : St w0 w' (some x) M L := by
  have hx := h.lt x rfl
  refine ⟨h.below.trans (below_only hg h.size hx.2), fun y e => ⟨Nat.lt_of_lt_of_le (h.lt y e).1 hg.size, (h.lt y e).2⟩, fun i b v hi => ?_, h.one, fun o ho => ?_⟩
  · obtain ⟨h1, h2, h3, h4, h5⟩ := h.box i b v hi
    have e1 := hg.block b h1 (fun e => h5 e.symm)
    exact ⟨Nat.lt_of_lt_of_le h1 hg.size, h2, (World.cell?_of_block (a := ⟨b, 0, none⟩) e1).trans h3, (World.frozen?_of_block (a := ⟨b, 0, none⟩) e1).trans h4, h5⟩
  · obtain ⟨h1, h2, h3, B, hB, hs, hne⟩ := h.held o ho
    refine ⟨h1, h2, h3, B, Nat.le_trans hB hg.size, fun hn => ?_, hne⟩
    obtain ⟨ad, hA, hbk, hcell⟩ := hs hn
    refine ⟨ad, hA, hbk, fun k u hu => ?_⟩
    rw [World.cell?_of_block (hg.block _ (by rw [add_block]; omega) (by rw [add_block]; intro e; exact (hne ad hA (by omega)).1 e.symm))]
    exact hcell k u hu
/-- a new variable -/
theorem St.boxed (h : St w0 w g M L) (v : Value) (t : TypeId) : St w0 (w.alloc (.cells #[v] t)) g (M ++ [(w.heap.size, v)]) L := by
  have hb : Below w.heap.size w (w.alloc (.cells #[v] t)) := (Below.refl _ _).alloc (Nat.le_refl _) _
  have h' := h.go hb
  have bV := Boxed.new w t v
  have key : ∀ (i b : Nat) (u : Value), (M ++ [(w.heap.size, v)])[i]? = some (b, u) → M[i]? = some (b, u) ∨ (i = M.length ∧ b = w.heap.size ∧ u = v) := fun i b u hi => by
    rcases Nat.lt_or_ge i M.length with h1 | h1
    · rw [List.getElem?_append_left h1] at hi
      exact .inl hi
    · rw [List.getElem?_append_right h1] at hi
      have h2 : i - M.length = 0 := by
        have := get_lt hi
        simp at this
        omega
      rw [h2] at hi
      simp at hi
      exact .inr ⟨by omega, hi.1.symm, hi.2.symm⟩
  refine ⟨h'.below, h'.lt, fun i b u hi => ?_, fun i j b u x hi hj => ?_, fun o ho => ?_⟩
  · rcases key i b u hi with h1 | ⟨_, rfl, rfl⟩
    · exact h'.box i b u h1
    · exact ⟨by simp, h.size, bV.cell, bV.frozen, fun e => by have := (h.lt _ e).1; omega⟩
  · rcases key i b u hi with h1 | ⟨h1, h2, _⟩ <;> rcases key j b x hj with k1 | ⟨k1, k2, _⟩
    · exact h.one i j b u x h1 k1
    · have := (h.box i b u h1).1; omega
    · have := (h.box j b x k1).1; omega
    · omega
  · obtain ⟨h1, h2, h3, B, hB, hs, hne⟩ := h.held o ho
    refine ⟨h1, h2, h3, B, Nat.le_trans hB hb.size, hs.below (hb.mono hB), fun ad e h0 => ⟨(hne ad e h0).1, fun i b u hi => ?_⟩⟩
    rcases key i b u hi with k1 | ⟨_, rfl, _⟩
    · exact (hne ad e h0).2 i b u k1
    · obtain ⟨ad', e', hbk, _⟩ := hs (by omega)
      rw [e] at e'
      obtain rfl := Option.some.inj e'
      omega
/-- a variable gets another value -/
theorem St.put (h : St w0 w g M L) (i : Nat) {b : Nat} {v : Value} (hi : M[i]? = some (b, v)) (u : Value) : St w0 (w.setCell ⟨b, 0, none⟩ u) g (M.set i (b, u)) L := by
  obtain ⟨h1, h2, h3, h4, h5⟩ := h.box i b v hi
  have key : ∀ (j c : Nat) (x : Value), (M.set i (b, u))[j]? = some (c, x) → (j = i ∧ c = b ∧ x = u) ∨ (j ≠ i ∧ M[j]? = some (c, x)) := fun j c x hj => by
    by_cases e : j = i
    · subst e
      rw [List.getElem?_set_self (get_lt hi)] at hj
      simp at hj
      exact .inl ⟨rfl, hj.1.symm, hj.2.symm⟩
    · rw [List.getElem?_set_ne (fun e' => e e'.symm)] at hj
      exact .inr ⟨e, hj⟩
  have hsz : (w.setCell ⟨b, 0, none⟩ u).heap.size = w.heap.size := by simp [World.setCell]
  refine ⟨h.below.setCell (p := ⟨b, 0, none⟩) h2 _, fun x e => by rw [hsz]; exact h.lt x e, fun j c x hj => ?_, fun j k c x y hj hk => ?_, fun o ho => ?_⟩
  · rcases key j c x hj with ⟨_, rfl, rfl⟩ | ⟨hne, hj'⟩
    · exact ⟨by rw [hsz]; exact h1, h2, cell_of_set _ h3, by rw [World.frozen?_setCell]; exact h4, h5⟩
    · obtain ⟨k1, k2, k3, k4, k5⟩ := h.box j c x hj'
      have hcb : c ≠ b := fun e => by subst e; exact hne (h.one j i c x v hj' hi)
      exact ⟨by rw [hsz]; exact k1, k2, by rw [World.cell?_setCell_other _ _ _ _ (fun e => hcb (congrArg Addr.block e).symm)]; exact k3, by rw [World.frozen?_setCell]; exact k4, k5⟩
  · rcases key j c x hj with ⟨e1, rfl, rfl⟩ | ⟨hne, hj'⟩ <;> rcases key k _ y hk with ⟨e2, e3, _⟩ | ⟨hne2, hk'⟩
    · omega
    · exact absurd (h.one k i _ y v hk' hi) hne2
    · subst e3; exact absurd (h.one j i _ x v hj' hi) hne
    · exact h.one j k c x y hj' hk'
  · obtain ⟨k1, k2, k3, B, hB, hs, hne⟩ := h.held o ho
    refine ⟨k1, k2, k3, B, by rw [hsz]; exact hB, fun hn => ?_, fun ad e h0 => ⟨(hne ad e h0).1, fun j c x hj => ?_⟩⟩
    · obtain ⟨ad, hA, hbk, hcell⟩ := hs hn
      refine ⟨ad, hA, hbk, fun k x hx => ?_⟩
      rw [World.cell?_of_block (Below.heap_setCell _ _ _ _ (by rw [add_block]; exact (hne ad hA (by omega)).2 i b v hi))]
      exact hcell k x hx
    · rcases key j c x hj with ⟨_, rfl, _⟩ | ⟨_, hj'⟩
      · exact (hne ad e h0).2 i c v hi
      · exact (hne ad e h0).2 j c x hj'
theorem St.sl (h : St w0 w g M L) {i : Nat} {A : Option Addr} {n c : Nat} {vs : List Value} (hi : L[i]? = some ⟨A, n, c, vs⟩) : vs.length = n ∧ n ≤ c ∧ n ≤ 1000 ∧ Sl w w.heap.size A vs := by
  obtain ⟨h1, h2, h3, B, hB, hs, _⟩ := h.held _ (List.mem_of_getElem? hi)
  exact ⟨h1, h2, h3, hs.more hB⟩
theorem St.cell (h : St w0 w g M L) (i : Nat) {b : Nat} {v : Value} (hi : M[i]? = some (b, v)) : w.cell? ⟨b, 0, none⟩ = some v := (h.box i b v hi).2.2.1
theorem St.drewN (h : St w0 w g M L) (k : Nat) : St w0 (w.drewN k) g M L := h.go (below_drewN (Below.refl _ _) k)
end
end Go.Proofs.YtnplaejlmbncfaaGreatDoor

namespace Go.Proofs.YtnplaejlmbncfaaGreatDoor
set_option linter.unusedVariables false
set_option maxRecDepth 100000
section
variable {P : Program} {md : Region.Mode} {ops : Array Oper} {Q : Exit → Act → World → Prop}
/-- which operations are done -/
def dset (L : Nat → Bool) (j : Nat) : Nat → Bool := fun i => if i = j then true else L i
/-- every edge leads back -/
def backward (ops : Array Oper) : Bool := (List.range ops.size).all fun i => ((ops[i]?).map fun o => o.after.all fun e => decide (e.on < i)).getD true
theorem mem_ready {l : Array Bool} {j : Nat} (h : j ∈ Region.ready md ops l) : j < ops.size ∧ l.getD j true = false ∧ ∀ o, ops[j]? = some o → ∀ e ∈ o.after, Region.binds md e = true → l.getD e.on false = true := by
  unfold Region.ready at h
  rw [List.mem_filter] at h
  obtain ⟨h1, h2⟩ := h
  rw [List.mem_range] at h1
  rw [Bool.and_eq_true] at h2
  refine ⟨h1, by simpa using h2.1, fun o ho e he hb => ?_⟩
  have h3 := h2.2
  rw [ho] at h3
  have h3' : (o.after.all fun e => !Region.binds md e || l.getD e.on false) = true := h3
  have h4 := Array.all_eq_true_iff_forall_mem.1 h3' e he
  rw [hb] at h4
  exact h4
/-- the operations that must be done before -/
def preds (md : Region.Mode) (ops : Array Oper) (j : Nat) : List Nat := ((ops[j]?).map fun o => (o.after.toList.filter (Region.binds md ·)).map (·.on)).getD []
theorem mem_preds {o : Oper} {j : Nat} {L : Nat → Bool} (ho : ops[j]? = some o) (h : ∀ e ∈ o.after, Region.binds md e = true → L e.on = true) : ∀ i, (preds md ops j).elem i = true → L i = true := fun i hi => by
  have hi := List.mem_of_elem_eq_true hi
  unfold preds at hi
  rw [ho] at hi
  have hi' : i ∈ (o.after.toList.filter (Region.binds md ·)).map (·.on) := hi
  obtain ⟨e, he, rfl⟩ := List.mem_map.1 hi'
  rw [List.mem_filter] at he
  exact h e (Array.mem_toList_iff.1 he.1) he.2
/-- the done operations are closed backward -/
def Closed (ops : Array Oper) (L : Nat → Bool) : Prop := ∀ j i, L j = true → (preds .any ops j).elem i = true → L i = true
end
end Go.Proofs.YtnplaejlmbncfaaGreatDoor

namespace Go.Proofs.YtnplaejlmbncfaaGreatDoor
open Go.RowKit
set_option linter.unusedVariables false
set_option maxRecDepth 100000
section
variable {w0 w w' : World} {g : Option Nat} {M : List (Nat × Value)} {L : List Ob}
theorem St.sub (h : St w0 w g M L) {M' : List (Nat × Value)} {L' : List Ob} (hM : ∀ x ∈ M', x ∈ M) (h1 : ∀ (i j b : Nat) (u v : Value), M'[i]? = some (b, u) → M'[j]? = some (b, v) → i = j) (hL : ∀ o ∈ L', o ∈ L) : St w0 w g M' L' := by
  have key : ∀ (i : Nat) (x : Nat × Value), M'[i]? = some x → ∃ j, M[j]? = some x := fun i x hi => List.mem_iff_getElem?.1 (hM x (List.mem_of_getElem? hi))
  refine ⟨h.below, h.lt, fun i b v hi => ?_, h1, fun o ho => ?_⟩
  · obtain ⟨j, hj⟩ := key i _ hi
    exact h.box j b v hj
  · obtain ⟨k1, k2, k3, B, hB, hs, hne⟩ := h.held o (hL o ho)
    refine ⟨k1, k2, k3, B, hB, hs, fun ad e h0 => ⟨(hne ad e h0).1, fun i b v hi => ?_⟩⟩
    obtain ⟨j, hj⟩ := key i _ hi
    exact (hne ad e h0).2 j b v hj
end
end Go.Proofs.YtnplaejlmbncfaaGreatDoor

namespace Go.Proofs.YtnplaejlmbncfaaGreatDoor
open Go.RowKit
set_option linter.unusedVariables false
set_option maxRecDepth 100000
structure Rw where
  A : Option Addr
  n : Nat
  c : Nat
  e : TypeId
  vs : List Value
def Rw.blk (r : Rw) : Option Nat := (Value.slice r.A r.n r.c).ownBlock
theorem blk_some (A : Option Addr) (n c : Nat) : (Value.slice A n c).ownBlock = A.map Addr.block := by cases A <;> rfl
/-- what is held, and owned lists in blocks of their own -/
structure Ow (w0 w : World) (g : Option Nat) (M : List (Nat × Value)) (L : List Ob) (O : List Rw) : Prop where
  st : St w0 w g M L
  own : ∀ (i : Nat) (r : Rw), O[i]? = some r → w.ownsRow w0.heap.size r.e 1 (.slice r.A r.n r.c) r.n r.vs
  ap : ∀ (i : Nat) (r : Rw), O[i]? = some r → ∀ b, r.blk = some b → g ≠ some b ∧ (∀ (j k : Nat) (v : Value), M[j]? = some (k, v) → b ≠ k) ∧ (∀ o ∈ L, ∀ ad, o.A = some ad → 0 < o.n → b ≠ ad.block)
  two : ∀ (i j : Nat) (r s : Rw), O[i]? = some r → O[j]? = some s → i ≠ j → ∀ b, r.blk = some b → s.blk ≠ some b
section
variable {w0 w w' : World} {g : Option Nat} {M : List (Nat × Value)} {L : List Ob} {O : List Rw}
theorem Ow.of (h : St w0 w g M L) : Ow w0 w g M L [] := ⟨h, fun i r e => by simp at e, fun i r e => by simp at e, fun i j r s e => by simp at e⟩
theorem Ow.lt (h : Ow w0 w g M L O) {i : Nat} {r : Rw} (hi : O[i]? = some r) {b : Nat} (hb : r.blk = some b) : b < w.heap.size ∧ w0.heap.size ≤ b := by
  have := (h.own i r hi).lt b hb
  exact ⟨this.2, this.1⟩
theorem Ow.go (h : Ow w0 w g M L O) (hb : Below w.heap.size w w') : Ow w0 w' g M L O :=
  ⟨h.st.go hb, fun i r hi => own_below (h.own i r hi) hb, h.ap, h.two⟩
theorem Ow.size (h : Ow w0 w g M L O) : w0.heap.size ≤ w.heap.size := h.st.size
theorem Ow.below (h : Ow w0 w g M L O) : Below w0.heap.size w0 w := h.st.below
theorem Ow.cell (h : Ow w0 w g M L O) (i : Nat) {b : Nat} {v : Value} (hi : M[i]? = some (b, v)) : w.cell? ⟨b, 0, none⟩ = some v := h.st.cell i hi
theorem Ow.sl (h : Ow w0 w g M L O) {i : Nat} {A : Option Addr} {n c : Nat} {vs : List Value} (hi : L[i]? = some ⟨A, n, c, vs⟩) : vs.length = n ∧ n ≤ c ∧ n ≤ 1000 ∧ Sl w w.heap.size A vs := h.st.sl hi
theorem Ow.row (h : Ow w0 w g M L O) (i : Nat) {A : Option Addr} {n c : Nat} {e : TypeId} {vs : List Value} (hi : O[i]? = some ⟨A, n, c, e, vs⟩) : w.ownsRow w0.heap.size e 1 (.slice A n c) n vs := h.own i _ hi
/-- a new list of one's own -/
theorem Ow.add (h : Ow w0 w g M L O) {A : Option Addr} {n c : Nat} {e : TypeId} {vs : List Value} (ho : w'.ownsRow w.heap.size e 1 (.slice A n c) n vs) (hb : Below w.heap.size w w') : Ow w0 w' g M L (O ++ [⟨A, n, c, e, vs⟩]) := by
  have h' := h.go hb
  have key : ∀ (i : Nat) (r : Rw), (O ++ [⟨A, n, c, e, vs⟩])[i]? = some r → O[i]? = some r ∨ (O.length = i ∧ r = ⟨A, n, c, e, vs⟩) := fun i r hi => by
    rcases Nat.lt_or_ge i O.length with h1 | h1
    · rw [List.getElem?_append_left h1] at hi
      exact .inl hi
    · rw [List.getElem?_append_right h1] at hi
      have h2 : i - O.length = 0 := by have := get_lt hi; simp at this; omega
      rw [h2] at hi
      simp at hi
      exact .inr ⟨by omega, hi.symm⟩
  have new : ∀ b, (⟨A, n, c, e, vs⟩ : Rw).blk = some b → w.heap.size ≤ b := fun b hb' => (ho.lt b hb').1
  refine ⟨h'.st, fun i r hi => ?_, fun i r hi b hb' => ?_, fun i j r s hi hj hij b hb' e2 => ?_⟩
  · rcases key i r hi with h1 | ⟨_, rfl⟩
    · exact h'.own i r h1
    · exact own_more ho h.size
  · rcases key i r hi with h1 | ⟨_, rfl⟩
    · exact h'.ap i r h1 b hb'
    · have h3 := new b hb'
      refine ⟨fun e => by have := (h.st.lt b e).1; omega, fun j k v hj e => by have := (h.st.box j k v hj).1; omega, fun o ho' ad ha h0 e => ?_⟩
      obtain ⟨h4, _, _, B, hB, hs, _⟩ := h.st.held o ho'
      obtain ⟨ad', ha', hlt, _⟩ := hs (by omega)
      rw [ha] at ha'
      obtain rfl := Option.some.inj ha'
      omega
  · rcases key i r hi with h1 | ⟨h1, rfl⟩ <;> rcases key j s hj with h2 | ⟨h2, rfl⟩
    · exact h.two i j r s h1 h2 hij b hb' e2
    · have := (h.lt h1 hb').1; have := new b e2; omega
    · have := (h.lt h2 e2).1; have := new b hb'; omega
    · omega
/-- an owned list is turned: nothing else is -/
theorem Ow.turn (h : Ow w0 w g M L O) (i : Nat) {r r' : Rw} (hi : O[i]? = some r) (hg : w.grownBy w' r.blk) (ho : w'.ownsRow w0.heap.size r'.e 1 (.slice r'.A r'.n r'.c) r'.n r'.vs) (hb : r'.blk = r.blk ∨ r'.blk = some w.heap.size) : Ow w0 w' g M L (O.set i r') := by
  have key : ∀ (j : Nat) (x : Rw), (O.set i r')[j]? = some x → (j = i ∧ x = r') ∨ (j ≠ i ∧ O[j]? = some x) := fun j x hj => by
    by_cases e : j = i
    · subst e
      rw [List.getElem?_set_self (get_lt hi)] at hj
      simp at hj
      exact .inl ⟨rfl, hj.symm⟩
    · rw [List.getElem?_set_ne (fun e' => e e'.symm)] at hj
      exact .inr ⟨e, hj⟩
  have low : ∀ b, r.blk = some b → w0.heap.size ≤ b := fun b hb' => (h.lt hi hb').2
  have hbel : Below w0.heap.size w0 w' := h.below.trans ((Below.refl _ _).grown hg h.size low)
  have cellk : ∀ b, b < w.heap.size → r.blk ≠ some b → w'.heap[b]? = w.heap[b]? := fun b h1 h2 => hg.block b h1 (fun e => h2 e.symm)
  refine ⟨⟨hbel, fun x e => ⟨Nat.lt_of_lt_of_le (h.st.lt x e).1 hg.size, (h.st.lt x e).2⟩, fun j b v hj => ?_, h.st.one, fun o ho' => ?_⟩, fun j x hj => ?_, fun j x hj b hb' => ?_, fun j k x y hj hk hjk b hb' e2 => ?_⟩
  · obtain ⟨h1, h2, h3, h4, h5⟩ := h.st.box j b v hj
    have e1 := cellk b h1 (fun e => (h.ap i r hi b e).2.1 j b v hj rfl)
    exact ⟨Nat.lt_of_lt_of_le h1 hg.size, h2, (World.cell?_of_block (a := ⟨b, 0, none⟩) e1).trans h3, (World.frozen?_of_block (a := ⟨b, 0, none⟩) e1).trans h4, h5⟩
  · obtain ⟨h1, h2, h3, B, hB, hs, hne⟩ := h.st.held o ho'
    refine ⟨h1, h2, h3, B, Nat.le_trans hB hg.size, fun hn => ?_, hne⟩
    obtain ⟨ad, hA, hbk, hcell⟩ := hs hn
    refine ⟨ad, hA, hbk, fun k u hu => ?_⟩
    rw [World.cell?_of_block (cellk _ (by rw [add_block]; omega) (by rw [add_block]; intro e; exact (h.ap i r hi _ e).2.2 o ho' ad hA (by omega) rfl))]
    exact hcell k u hu
  · rcases key j x hj with ⟨_, rfl⟩ | ⟨hne, hj'⟩
    · exact ho
    · refine own_keep (h.own j x hj') hg ?_
      by_cases e : (Value.slice x.A x.n x.c).ownBlock = none
      · exact .inl e
      · refine .inr fun e2 => ?_
        obtain ⟨b, hb'⟩ := Option.ne_none_iff_exists'.1 e
        exact h.two j i x r hj' hi hne b hb' (by rw [← e2]; exact hb')
  · have old : ∀ b, r'.blk = some b → (∃ b', r.blk = some b' ∧ b = b') ∨ b = w.heap.size := fun b e => by
      rcases hb with e1 | e1
      · exact .inl ⟨b, by rw [← e1]; exact e, rfl⟩
      · rw [e] at e1; exact .inr (Option.some.inj e1)
    rcases key j x hj with ⟨_, rfl⟩ | ⟨hne, hj'⟩
    · rcases old b hb' with ⟨b', e1, rfl⟩ | rfl
      · exact h.ap i r hi b e1
      · refine ⟨fun e => by have := (h.st.lt _ e).1; omega, fun j k v hj e => by have := (h.st.box j k v hj).1; omega, fun o ho' ad ha h0 e => ?_⟩
        obtain ⟨h4, _, _, B, hB, hs, _⟩ := h.st.held o ho'
        obtain ⟨ad', ha', hlt, _⟩ := hs (by omega)
        rw [ha] at ha'
        obtain rfl := Option.some.inj ha'
        omega
    · exact h.ap j x hj' b hb'
  · have old : ∀ b, r'.blk = some b → r.blk = some b ∨ b = w.heap.size := fun b e => by
      rcases hb with e1 | e1
      · exact .inl (by rw [← e1]; exact e)
      · rw [e] at e1; exact .inr (Option.some.inj e1)
    rcases key j x hj with ⟨a1, rfl⟩ | ⟨hne, hj'⟩ <;> rcases key k y hk with ⟨a2, rfl⟩ | ⟨hne2, hk'⟩
    · omega
    · rcases old b hb' with e1 | rfl
      · exact h.two i k r y hi hk' (fun e => hne2 e.symm) b e1 e2
      · have := (h.lt hk' e2).1; omega
    · rcases old b e2 with e1 | rfl
      · exact h.two j i x r hj' hi hne b hb' e1
      · have := (h.lt hj' hb').1; omega
    · exact h.two j k x y hj' hk' hjk b hb' e2
/-- a store into an owned list -/
theorem Ow.put (h : Ow w0 w g M L O) (i : Nat) {gb n c : Nat} {e : TypeId} {vs : List Value} (hi : O[i]? = some ⟨some ⟨gb, 0, none⟩, n, c, e, vs⟩) (k : Nat) (v : Value) : Ow w0 (w.setCell ⟨gb, k, none⟩ v) g M L (O.set i ⟨some ⟨gb, 0, none⟩, n, c, e, vs.set k v⟩) :=
  h.turn i hi (r' := ⟨some ⟨gb, 0, none⟩, n, c, e, vs.set k v⟩) (grown_set _ _ _) (own_put (h.own i _ hi) k v) (.inl rfl)
/-- a shorter piece from the head on -/
theorem Ow.cut (h : Ow w0 w g M L O) (i : Nat) {A : Option Addr} {n c : Nat} {e : TypeId} {vs : List Value} (hi : O[i]? = some ⟨A, n, c, e, vs⟩) {k : Nat} (hk : k ≤ n) : Ow w0 w g M L (O.set i ⟨A, k, c, e, vs.take k⟩) :=
  h.turn i hi (r' := ⟨A, k, c, e, vs.take k⟩) (World.grownBy.refl w _) (own_take (h.own i _ hi) hk) (.inl (by show (Value.slice A k c).ownBlock = (Value.slice A n c).ownBlock; rw [blk_some, blk_some]))
/-- an owned list seen as another list of the same values -/
theorem Ow.same (h : Ow w0 w g M L O) (i : Nat) {A : Option Addr} {n c : Nat} {e : TypeId} {vs vs' : List Value} (hi : O[i]? = some ⟨A, n, c, e, vs⟩) (hv : vs = vs') : Ow w0 w g M L (O.set i ⟨A, n, c, e, vs'⟩) := by
  subst hv
  exact h.turn i hi (r' := ⟨A, n, c, e, vs⟩) (World.grownBy.refl w _) (h.own i _ hi) (.inl rfl)
/-- an owned list is only read from now on -/
theorem Ow.keep (h : Ow w0 w g M L O) (i : Nat) {A : Option Addr} {n c : Nat} {e : TypeId} {vs : List Value} (hi : O[i]? = some ⟨A, n, c, e, vs⟩) (hl : n ≤ 1000) : Ow w0 w g M (L ++ [⟨A, n, c, vs⟩]) (O.set i ⟨none, 0, 0, e, []⟩) := by
  have h1 := h.turn i hi (r' := ⟨A, n, c, e, vs⟩) (World.grownBy.refl w _) (h.own i _ hi) (.inl rfl)
  have key : ∀ (j : Nat) (x : Rw), (O.set i ⟨none, 0, 0, e, []⟩)[j]? = some x → (j = i ∧ x = ⟨none, 0, 0, e, []⟩) ∨ (j ≠ i ∧ O[j]? = some x) := fun j x hj => by
    by_cases e : j = i
    · subst e
      rw [List.getElem?_set_self (get_lt hi)] at hj
      simp at hj
      exact .inl ⟨rfl, hj.symm⟩
    · rw [List.getElem?_set_ne (fun e' => e e'.symm)] at hj
      exact .inr ⟨e, hj⟩
  have ho := h.own i _ hi
  refine ⟨h.st.add (Sl.of_own ho) (Nat.le_refl _) (own_len ho) (own_cap ho).1 hl fun ad ea h0 => ?_, fun j x hj => ?_, fun j x hj b hb => ?_, fun j k x y hj hk hjk b hb e2 => ?_⟩
  · have hb : (⟨A, n, c, e, vs⟩ : Rw).blk = some ad.block := by show (Value.slice A n c).ownBlock = _; rw [ea]; rfl
    have := h.ap i _ hi _ hb
    exact ⟨this.1, this.2.1⟩
  · rcases key j x hj with ⟨_, rfl⟩ | ⟨hne, hj'⟩
    · exact World.ownsRow_nil _ _ _ _
    · exact h.own j x hj'
  · rcases key j x hj with ⟨_, rfl⟩ | ⟨hne, hj'⟩
    · cases hb
    · obtain ⟨a1, a2, a3⟩ := h.ap j x hj' b hb
      refine ⟨a1, a2, fun o ho' ad ea h0 => ?_⟩
      rcases List.mem_append.1 ho' with h2 | h2
      · exact a3 o h2 ad ea h0
      · rw [List.mem_singleton] at h2
        subst h2
        intro e3
        have hb2 : (⟨A, n, c, e, vs⟩ : Rw).blk = some b := by show (Value.slice A n c).ownBlock = _; rw [show A = some ad from ea, e3]; rfl
        exact h.two j i x _ hj' hi hne b hb hb2
  · rcases key j x hj with ⟨a1, rfl⟩ | ⟨hne, hj'⟩ <;> rcases key k y hk with ⟨a2, rfl⟩ | ⟨hne2, hk'⟩
    · omega
    · cases hb
    · cases e2
    · exact h.two j k x y hj' hk' hjk b hb e2
/-- a new variable -/
theorem Ow.boxed (h : Ow w0 w g M L O) (v : Value) (t : TypeId) : Ow w0 (w.alloc (.cells #[v] t)) g (M ++ [(w.heap.size, v)]) L O := by
  have hb : Below w.heap.size w (w.alloc (.cells #[v] t)) := (Below.refl _ _).alloc (Nat.le_refl _) _
  have h' := h.go hb
  refine ⟨h.st.boxed v t, h'.own, fun i r hi b hb' => ?_, h.two⟩
  obtain ⟨a1, a2, a3⟩ := h.ap i r hi b hb'
  refine ⟨a1, fun j k u hj e => ?_, a3⟩
  rcases Nat.lt_or_ge j M.length with h1 | h1
  · rw [List.getElem?_append_left h1] at hj
    exact a2 j k u hj e
  · rw [List.getElem?_append_right h1] at hj
    have h2 : j - M.length = 0 := by have := get_lt hj; simp at this; omega
    rw [h2] at hj
    simp at hj
    have := (h.lt hi hb').1
    omega
/-- a list that lay before everything of the call's own -/
theorem Ow.old (h : Ow w0 w g M L O) {A : Option Addr} {n c : Nat} {vs : List Value} (hs : Sl w0 w0.heap.size A vs) (hn : vs.length = n) (hc : n ≤ c) (hl : n ≤ 1000) : Ow w0 w g M (L ++ [⟨A, n, c, vs⟩]) O := by
  refine ⟨h.st.old hs hn hc hl, h.own, fun i r hi b hb => ?_, h.two⟩
  obtain ⟨a1, a2, a3⟩ := h.ap i r hi b hb
  refine ⟨a1, a2, fun o ho ad ea h0 => ?_⟩
  rcases List.mem_append.1 ho with h1 | h1
  · exact a3 o h1 ad ea h0
  · rw [List.mem_singleton] at h1
    subst h1
    obtain ⟨ad', e', hbk, _⟩ := hs (by show 0 < vs.length; rw [hn]; exact h0)
    rw [show A = some ad from ea] at e'
    obtain rfl := Option.some.inj e'
    have := (h.lt hi hb).2
    omega
/-- the list of a call, only to be read -/
theorem Ow.push (h : Ow w0 w g M L O) {A : Option Addr} {n c : Nat} {vs : List Value} {e : TypeId} (ho : w'.ownsRow w.heap.size e 1 (.slice A n c) n vs) (hl : n ≤ 1000) (hb : Below w.heap.size w w') : Ow w0 w' g M (L ++ [⟨A, n, c, vs⟩]) O := by
  have h1 := (h.add ho hb).keep O.length (A := A) (n := n) (c := c) (e := e) (vs := vs) (by rw [List.getElem?_append_right (Nat.le_refl _), Nat.sub_self]; rfl) hl
  have cut : ∀ (i : Nat) (r : Rw), O[i]? = some r → ((O ++ [(⟨A, n, c, e, vs⟩ : Rw)]).set O.length (⟨none, 0, 0, e, []⟩ : Rw))[i]? = some r := fun i r hi => by
    have := get_lt hi
    rw [List.getElem?_set_ne (by omega), List.getElem?_append_left this]
    exact hi
  exact ⟨h1.st, fun i r hi => h1.own i r (cut i r hi), fun i r hi => h1.ap i r (cut i r hi), fun i j r s hi hj => h1.two i j r s (cut i r hi) (cut j s hj)⟩
theorem Ow.drewN (h : Ow w0 w g M L O) (k : Nat) : Ow w0 (w.drewN k) g M L O := h.go (below_drewN (Below.refl _ _) k)
end
end Go.Proofs.YtnplaejlmbncfaaGreatDoor

namespace Go.Proofs.YtnplaejlmbncfaaGreatDoor
open Go.RowKit
set_option linter.unusedVariables false
set_option maxRecDepth 100000
/-- what a list's element type is: one cell -/
def Elem (P : Program) (t e : TypeId) (z : Value) (bytes : Nat) : Prop := P.underlying t = some (.slice e) ∧ z.cells = #[z] ∧ ∃ i, P.info? e = some i ∧ i.zero = some z ∧ i.size = 1 ∧ i.bytes = bytes
section
variable {P : Program} {w0 w : World} {g : Option Nat} {M : List (Nat × Value)} {L : List Ob} {O : List Rw} {t e : TypeId} {z : Value} {bytes : Nat}
theorem Ow.nil (h : Ow w0 w g M L O) (e : TypeId) : Ow w0 w g M L (O ++ [⟨none, 0, 0, e, []⟩]) := h.add (World.ownsRow_nil _ _ _ _) (Below.refl _ _)
theorem Ow.made (h : Ow w0 w g M L O) (e : TypeId) (z : Value) (n c : Nat) (hz : z.cells = #[z]) (hnc : n ≤ c) (hc : c ≤ maxLen) :
    Ow w0 (w.alloc (.cells (madeCells #[z] c) e)) g M L (O ++ [⟨some ⟨w.heap.size, 0, none⟩, n, c, e, List.replicate n z⟩]) := by
  have h1 := own_made w e z n c hz hnc hc
  rw [hz] at h1
  exact h.add h1 (own_box1 _ _)
theorem Elem.make (h : Elem P t e z bytes) (kl kc : IntKind) (a b : Int) (n c : Nat) (ha : a = (n : Int)) (hb : b = (c : Int)) (hnc : n ≤ c) (hbytes : bytes * c ≤ 281474976710656) (h63 : c ≤ 9223372036854775807) (w : World) :
    (Instr.makeSlice t (.int kl a) (.int kc b)).run P w = .ok (.slice (some ⟨w.heap.size, 0, none⟩) n c) (w.alloc (.cells (madeCells #[z] c) e)) := by
  obtain ⟨ht, hzc, i, hi, hz, hs, hby⟩ := h
  rw [← hzc]
  exact run_make_one t e i z ht hi hz hs kl kc a b n c ha hb hnc (by rw [hby]; exact hbytes) h63 w
/-- 'append' of a list that can be read -/
theorem ow_append {ops : Array Oper} {rest : List Oper} {o : Oper} {a : Act} {Q : Exit → Act → World → Prop} (hE : Elem P t e z bytes) (h : Ow w0 w g M L O) (i : Nat) (s x : Operand) {A : Option Addr} {n c : Nat} {xs : List Value} (hi : O[i]? = some ⟨A, n, c, e, xs⟩)
    {B : Nat} {A2 : Option Addr} {m c2 : Nat} {news : List Value} (hm : news.length = m) (hr : Sl w B A2 news) (h1 : ∀ u ∈ news, u.oneCell' = true) (h63 : n + m ≤ maxLen) (hbytes : (n + m) * bytes ≤ 140737488355328)
    (hgd : o.guard = none) (ho : o.op = .call { callee := .builtin .append, args := #[s, x], argTypes := #[t, t] }) (hs : a.eval s = .slice A n c) (hx : a.eval x = .slice A2 m c2)
    (hk : ∀ A' c' w', Ow w0 w' g M L (O.set i ⟨A', n + m, c', e, xs ++ news⟩) → wpList P ops Q rest (a.put o.dst (.slice A' (n + m) c')) w') : wpList P ops Q (o :: rest) a w := by
  obtain ⟨ht, hzc, inf, hi0, hz, hsz, hby⟩ := hE
  exact wpList_append_sl w hgd s x t ho w0.heap.size e inf z bytes ht hi0 hz hsz hby (by rw [hzc]; rfl) A n c xs hs (h.own i _ hi) B A2 m c2 news hx hm hr h1 h63 hbytes h.size fun A' c' w' h2 h3 h4 =>
    hk A' c' w' (h.turn i hi (r' := ⟨A', n + m, c', e, xs ++ news⟩) h3 h2 h4)
/-- 'append' of one element, laid as a list of one -/
theorem ow_append1 {ops : Array Oper} {rest : List Oper} {o : Oper} {a : Act} {Q : Exit → Act → World → Prop} (hE : Elem P t e z bytes) (h : Ow w0 w g M L O) (i : Nat) (s x : Operand) (v : Value) (tt : TypeId) {A : Option Addr} {n c : Nat} {xs : List Value} (hi : O[i]? = some ⟨A, n, c, e, xs⟩)
    (h1 : v.oneCell' = true) (h63 : n + 1 ≤ maxLen) (hbytes : (n + 1) * bytes ≤ 140737488355328)
    (hgd : o.guard = none) (ho : o.op = .call { callee := .builtin .append, args := #[s, x], argTypes := #[t, t] }) (hs : a.eval s = .slice A n c) (hx : a.eval x = .slice (some ⟨w.heap.size, 0, none⟩) 1 1)
    (hk : ∀ A' c' w', Ow w0 w' g M L (O.set i ⟨A', n + 1, c', e, xs ++ [v]⟩) → wpList P ops Q rest (a.put o.dst (.slice A' (n + 1) c')) w') : wpList P ops Q (o :: rest) a (w.alloc (.cells #[v] tt)) :=
  ow_append hE (h.go (own_box1 w _)) i s x hi (m := 1) (news := [v]) rfl (sl_new1 w tt v) (fun u hu => by rw [List.mem_singleton] at hu; subst hu; exact h1) h63 hbytes hgd ho hs hx hk
end
theorem elemI : Elem Tryz.prog 22 3 (.int .i64 0) 8 := by
  obtain ⟨i0, hi, hz0, hz1, hz2⟩ := info_parts infoI
  exact ⟨Tryz.underlying22, rfl, i0, hi, hz0, hz1, hz2⟩
namespace Na
end Na
end Go.Proofs.YtnplaejlmbncfaaGreatDoor

namespace Go.Proofs.YtnplaejlmbncfaaGreatDoor
open Go.Sort
set_option linter.unusedVariables false
set_option maxRecDepth 100000
section
variable {P : Program} {md : Region.Mode} {ops : Array Oper} {C : World → Prop}
/-- every edge leads back -/
def backs (ops : Array Oper) : Bool := (List.range ops.size).all fun i => ((ops[i]?).map fun o => o.after.all fun e => decide (e.on < i)).getD true
theorem backs_spec (h : backs ops = true) {j : Nat} {o : Oper} (ho : ops[j]? = some o) : ∀ e ∈ o.after, e.on < j := fun e he => by
  have hj : j < ops.size := (Array.getElem?_eq_some_iff.1 ho).1
  have h1 := List.all_eq_true.1 h j (List.mem_range.2 hj)
  rw [ho] at h1
  exact of_decide_eq_true (Array.all_eq_true_iff_forall_mem.1 (show (o.after.all fun e => decide (e.on < j)) = true from h1) e he)
/-- the same head, the tail marked as done -/
structure Twin (ops : Array Oper) (n : Nat) (l l' : Array Bool) : Prop where
  size : l'.size = ops.size
  head : ∀ i, i < n → l'.getD i false = l.getD i false
  tail : ∀ i, n ≤ i → i < ops.size → l'.getD i false = true
theorem getD_tf {l : Array Bool} {i : Nat} (hi : i < l.size) : l.getD i true = l.getD i false := by
  rw [Array.getD_eq_getD_getElem?, Array.getD_eq_getD_getElem?, Array.getElem?_eq_getElem hi]; rfl
theorem Twin.set {n i : Nat} {l l' : Array Bool} (h : Twin ops n l l') (hs : l.size = ops.size) (hi : i < n) (hn : n ≤ ops.size) : Twin ops n (l.setIfInBounds i true) (l'.setIfInBounds i true) := by
  refine ⟨by rw [Array.size_setIfInBounds]; exact h.size, fun j hj => ?_, fun j h1 h2 => ?_⟩
  · by_cases e : i = j
    · subst e
      rw [Array.getD_eq_getD_getElem?, Array.getD_eq_getD_getElem?, Array.getElem?_setIfInBounds_self_of_lt (by rw [h.size]; omega), Array.getElem?_setIfInBounds_self_of_lt (by rw [hs]; omega)]
    · have := h.head j hj
      rw [Array.getD_eq_getD_getElem?, Array.getD_eq_getD_getElem?] at this ⊢
      rw [Array.getElem?_setIfInBounds_ne e, Array.getElem?_setIfInBounds_ne e]
      exact this
  · have := h.tail j h1 h2
    rw [Array.getD_eq_getD_getElem?] at this ⊢
    rw [Array.getElem?_setIfInBounds_ne (by omega)]
    exact this
theorem Twin.ready {n i : Nat} {l l' : Array Bool} (h : Twin ops n l l') (hl : l.size = ops.size) (hb : backs ops = true) (hi : i < n) (hn : n ≤ ops.size) : i ∈ Region.ready md ops l ↔ i ∈ Region.ready md ops l' := by
  rw [Go.mem_ready, Go.mem_ready]
  have e1 : l'.getD i true = l.getD i true := by rw [getD_tf (by rw [h.size]; omega), getD_tf (by rw [hl]; omega), h.head i hi]
  rw [e1]
  refine and_congr_right fun _ => ⟨fun ⟨o, ho, hd⟩ => ⟨o, ho, fun e he hbd => ?_⟩, fun ⟨o, ho, hd⟩ => ⟨o, ho, fun e he hbd => ?_⟩⟩
  · have := backs_spec hb ho e he
    rw [h.head _ (by omega)]
    exact hd e he hbd
  · have := backs_spec hb ho e he
    rw [← h.head _ (by omega)]
    exact hd e he hbd
end
end Go.Proofs.YtnplaejlmbncfaaGreatDoor

namespace Go.Proofs.YtnplaejlmbncfaaGreatDoor
open Go.RowKit
set_option linter.unusedVariables false
set_option maxRecDepth 100000
section
variable {P : Program} {w0 w w' : World} {g : Option Nat} {M : List (Nat × Value)} {L : List Ob} {O : List Rw} {t e : TypeId} {z : Value} {bytes : Nat}
theorem Ow.drew (h : Ow w0 w g M L O) : Ow w0 w.drew g M L O := h.go (Below.refl _ _).drew
/-- fewer owned lists -/
theorem Ow.few (h : Ow w0 w g M L O) (k : Nat) : Ow w0 w g M L (O.take k) := by
  have key : ∀ (i : Nat) (r : Rw), (O.take k)[i]? = some r → O[i]? = some r := fun i r hi => by
    rw [List.getElem?_take] at hi
    split at hi
    · exact hi
    · cases hi
  exact ⟨h.st, fun i r hi => h.own i r (key i r hi), fun i r hi => h.ap i r (key i r hi), fun i j r s hi hj => h.two i j r s (key i r hi) (key j s hj)⟩
theorem owp_append {o : Oper} {a : Act} {K : Act → World → Prop} {Q : Exit → Act → World → Prop} (hE : Elem P t e z bytes) (h : Ow w0 w g M L O) (i : Nat) (s x : Operand) {A : Option Addr} {n c : Nat} {xs : List Value} (hi : O[i]? = some ⟨A, n, c, e, xs⟩)
    {B : Nat} {A2 : Option Addr} {m c2 : Nat} {news : List Value} (hm : news.length = m) (hr : Sl w B A2 news) (h1 : ∀ u ∈ news, u.oneCell' = true) (h63 : n + m ≤ maxLen) (hbytes : (n + m) * bytes ≤ 140737488355328)
    (ho : o.op = .call { callee := .builtin .append, args := #[s, x], argTypes := #[t, t] }) (hs : a.eval s = .slice A n c) (hx : a.eval x = .slice A2 m c2)
    (hk : ∀ A' c' w', Ow w0 w' g M L (O.set i ⟨A', n + m, c', e, xs ++ news⟩) → K (a.put o.dst (.slice A' (n + m) c')) w') : o.wp P a w K Q := by
  obtain ⟨ht, hzc, inf, hi0, hz, hsz, hby⟩ := hE
  exact wp_append_sl w s x t ho w0.heap.size e inf z bytes ht hi0 hz hsz hby (by rw [hzc]; rfl) A n c xs hs (h.own i _ hi) B A2 m c2 news hx hm hr h1 h63 hbytes h.size fun A' c' w' h2 h3 h4 =>
    hk A' c' w' (h.turn i hi (r' := ⟨A', n + m, c', e, xs ++ news⟩) h3 h2 h4)
/-- fewer lists are looked at -/
theorem Ow.less (h : Ow w0 w g M L O) {L' : List Ob} (hL : ∀ o ∈ L', o ∈ L) : Ow w0 w g M L' O :=
  ⟨h.st.sub (fun _ h => h) h.st.one hL, h.own, fun i r hi b hb => ⟨(h.ap i r hi b hb).1, (h.ap i r hi b hb).2.1, fun o ho => (h.ap i r hi b hb).2.2 o (hL o ho)⟩, h.two⟩
/-- fewer variables and lists are looked at -/
theorem Ow.few2 (h : Ow w0 w g M L O) {M' : List (Nat × Value)} {L' : List Ob} (hM : M' = M.take M'.length) (hL : ∀ o ∈ L', o ∈ L) : Ow w0 w g M' L' O := by
  have key : ∀ (i : Nat) (p : Nat × Value), M'[i]? = some p → M[i]? = some p := fun i p hp => by
    rw [hM, List.getElem?_take] at hp
    split at hp
    · exact hp
    · cases hp
  exact ⟨h.st.sub (fun p hp => by
      obtain ⟨i, hi⟩ := List.mem_iff_getElem?.1 hp
      exact List.mem_of_getElem? (key i p hi)) (fun i j b u v hi hj => h.st.one i j b u v (key i _ hi) (key j _ hj)) hL, h.own, fun i r hi b hb => ⟨(h.ap i r hi b hb).1, fun j k v hj => (h.ap i r hi b hb).2.1 j k v (key j _ hj), fun o ho => (h.ap i r hi b hb).2.2 o (hL o ho)⟩, h.two⟩
/-- without the first owned list -/
theorem Ow.tail {r : Rw} (h : Ow w0 w g M L (r :: O)) : Ow w0 w g M L O :=
  ⟨h.st, fun i r hi => h.own (i + 1) r hi, fun i r hi => h.ap (i + 1) r hi, fun i j r s hi hj hij => h.two (i + 1) (j + 1) r s hi hj (by omega)⟩
theorem Ow.fewM {l : List (Nat × Value)} (h : Ow w0 w g (M ++ l) L O) : Ow w0 w g M L O := h.few2 (by rw [List.take_left]) (fun _ h => h)
theorem Ow.arr (h : Ow w0 w g M L O) (xs : Array Value) (k : Nat) (hx : xs.size = k) (hk : k ≤ 1000) (T : TypeId) : Ow w0 (w.alloc (.cells xs T)) g M L (O ++ [⟨some ⟨w.heap.size, 0, none⟩, k, k, T, xs.toList⟩]) :=
  h.add (World.ownsRow_lit (base := w.heap.size) (e := T) (size := 1) w xs k (Nat.le_refl _) (by unfold maxLen; omega) (by omega)) (own_box1 _ _)
/-- owned lists in another order, or fewer -/
theorem Ow.re (h : Ow w0 w g M L O) {O' : List Rw} (f : Nat → Nat) (hf : ∀ i j, i < O'.length → j < O'.length → f i = f j → i = j) (hO : ∀ (i : Nat) (r : Rw), O'[i]? = some r → O[f i]? = some r) : Ow w0 w g M L O' :=
  ⟨h.st, fun i r hi => h.own (f i) r (hO i r hi), fun i r hi => h.ap (f i) r (hO i r hi), fun i j r s hi hj hij => h.two (f i) (f j) r s (hO i r hi) (hO j s hj) fun e => hij (hf i j (get_lt hi) (get_lt hj) e)⟩
end
end Go.Proofs.YtnplaejlmbncfaaGreatDoor

namespace Go.Proofs.YtnplaejlmbncfaaGreatDoor
open Go.RowKit
set_option linter.unusedVariables false
set_option maxRecDepth 100000
theorem zeroCells_one (z : Value) (m : Nat) : Builtin.zeroCells #[z] m = (List.replicate m z).toArray := by
  apply Array.ext
  · simp [Builtin.zeroCells]
  · intro i h1 h2
    simp [Builtin.zeroCells, Nat.mod_one]
section
variable {P : Program} {w w' : World}
theorem own_fresh_more {w1 : World} {e : TypeId} {xs ys : List Value} {n c : Nat} {cs : Array Value} (hc : cs.size = c) (hn : n ≤ c) (hm : c ≤ maxLen) (ht : cs.toList.take n = xs) :
    (w1.alloc (.cells cs e)).ownsRow w1.heap.size e 1 (.slice (some ⟨w1.heap.size, 0, none⟩) n c) n xs := by
  have h1 := World.ownsRow_lit (base := w1.heap.size) (e := e) (size := 1) w1 cs c (Nat.le_refl _) hm (by omega)
  have h2 := own_take h1 hn
  rw [ht] at h2
  exact h2
theorem grownCap_le (w : World) (need old : Nat) (e : TypeId) (h : need ≤ maxLen) : grownCap w need old e ≤ maxLen := grownCap_le_maxLen w need old e h
theorem run_append_zeros (w : World) (base : Nat) (t tn ty e : TypeId) (i : TypeInfo) (z : Value) (bytes : Nat) (ht : P.underlying t = some (.slice e)) (htn : P.underlying tn = some (.int .i64)) (hi : P.info? e = some i) (hz : i.zero = some z)
    (hsize : i.size = 1) (hby : i.bytes = bytes) (hzc : z.cells = #[z]) (hz1 : z.oneCell' = true) (A : Option Addr) (n c : Nat) (xs : List Value) (hown : w.ownsRow base e 1 (.slice A n c) n xs) (m : Nat)
    (h63 : n + m ≤ maxLen) (hbytes : (n + m) * bytes ≤ 140737488355328) (hbase : base ≤ w.heap.size) :
    ∃ A' c' w', (Builtin.append_ #[t, tn] ty #[.slice A n c, .int .i64 (m : Int)]).run P w = .ok (.slice A' (n + m) c') w' ∧ w'.ownsRow base e 1 (.slice A' (n + m) c') (n + m) (xs ++ List.replicate m z) ∧ w.grownBy w' (Value.slice A n c).ownBlock ∧
      ((Value.slice A' (n + m) c').ownBlock = (Value.slice A n c).ownBlock ∨ (Value.slice A' (n + m) c').ownBlock = some w.heap.size) := by
  have hcap := own_cap hown
  have hlen := own_len hown
  subst hby
  have hmax : (maxLen : Nat) = 9223372036854775807 := rfl
  have hw : IntKind.i64.wrap (m : Int) = m := by rw [IntKind.wrap_i64]; omega
  have hneg : ¬ ((m : Int) < 0) := by omega
  have hmb : m * i.bytes ≤ 140737488355328 := Nat.le_trans (Nat.mul_le_mul_right _ (Nat.le_add_left m n)) hbytes
  have h48i : ¬ (281474976710656 < (m : Int) * (i.bytes : Int)) := by
    rw [← Int.natCast_mul]
    omega
  rcases Nat.eq_zero_or_pos m with h0 | h0
  · subst h0
    refine ⟨A, c, w, ?_, by simpa using hown, World.grownBy.refl w _, .inl rfl⟩
    have hw0 : IntKind.i64.wrap 0 = 0 := by rw [IntKind.wrap_i64]; rfl
    rcases A with _ | ad <;> simp [Builtin.append_, run_underlying ht, run_underlying htn, sizeOf, typeInfo, hi, hw0, asInt, asIntOf, hcap.1, storeCells]
  · rcases A with _ | ad
    · have hn0 : n = 0 ∧ c = 0 := by
        rcases hown.2 with ⟨h', h0'⟩ | ⟨g, cap, cur, h', _⟩
        · injection h' with a1 a2 a3
          exact ⟨a2, a3⟩
        · injection h' with a1
          cases a1
      obtain ⟨rfl, rfl⟩ := hn0
      have hx : xs = [] := List.eq_nil_of_length_eq_zero hlen
      subst hx
      have hr := Lib.run_append_nil_zeros (P := P) w t tn ty e i z .i64 .i64 ht htn hi hz m h0 (by omega) (by omega) (by omega)
      have hge := grownCap_ge w m 0 e
      have hle := grownCap_le w m 0 e (by omega)
      rw [Nat.zero_add]
      refine ⟨_, _, _, hr, ?_, ?_, .inr rfl⟩
      · rw [hzc, zeroCells_one, zeroCells_one]
        exact own_more (own_fresh_more (w1 := w.drew) (ys := []) (by simp; omega) hge hle (by simp)) hbase
      · exact ⟨rfl, rfl, rfl, by simp, fun k hk _ => heap_alloc_old w.drew _ (h := hk)⟩
    · obtain ⟨hl, ⟨h', _⟩ | ⟨g, cap, cur, h', hbg, hg, hnc, hcm, hcs, htake⟩⟩ := hown
      · cases h'
      · injection h' with a1 a2 a3
        obtain rfl := Option.some.inj a1
        subst a3
        have hn : ¬ (m = 0) := by omega
        by_cases hroom : n + m ≤ c
        · have hst := run_storeCells_at P g (n * 1) e (List.replicate m z) 0 cur w hg (by rw [List.length_replicate, hcs]; omega) (fun u hu => by rw [List.eq_of_mem_replicate hu]; exact hz1)
          simp only [Nat.add_zero] at hst
          refine ⟨some ⟨g, 0, none⟩, c, w.setRow g (cur.toList.take (n * 1) ++ List.replicate m z ++ cur.toList.drop (n * 1 + (List.replicate m z).length)).toArray, ?_, ⟨?_, .inr ⟨g, c, _, rfl, hbg, setRow_heap w g cur _ e _ hg, hroom, hcm, ?_, ?_⟩⟩, ⟨rfl, rfl, rfl, by simp [World.setRow], fun q hq hne => setRow_other _ _ _ _ (fun e' => hne (by rw [e']; rfl))⟩, .inl rfl⟩
          · simp only [Nat.mul_one] at hst
            simp [Builtin.append_, run_underlying ht, run_underlying htn, sizeOf, typeInfo, zeroValue, hi, hz, hsize, hw, hneg, h48i, hn, asInt, asIntOf, hroom, hzc, zeroCells_one, Addr.add_lit, hst]
          · rw [List.length_append, List.length_replicate, hlen]; omega
          · simp only [List.size_toArray, List.length_append, List.length_take, List.length_drop, Array.length_toList, List.length_replicate]
            omega
          · rw [htake]
            have e1 : (n + m) * 1 = (xs ++ List.replicate m z).length := by rw [List.length_append, List.length_replicate, hlen]; omega
            rw [e1]
            exact List.take_left
        · have holds : ∀ j v, xs[j]? = some v → w.cell? ((⟨g, 0, none⟩ : Addr).add j) = some v := by
            have ho : w.ownsRow base e 1 (.slice (some ⟨g, 0, none⟩) n c) n xs := ⟨hl, .inr ⟨g, c, cur, rfl, hbg, hg, hnc, hcm, hcs, htake⟩⟩
            exact ho.cells (g := g) rfl
          have hfo := run_firstCells_some (P := P) w.drew 1 n ⟨g, 0, none⟩ n c xs (by omega) (by simpa using holds)
          have h48' : ¬ (281474976710656 < Builtin.nextslicecap (n + m) c * i.bytes) := by
            have := growslice_fits (need := n + m) (old := c) (by omega) hbytes
            omega
          have h63' : ¬ (9223372036854775807 < ((n : Int) + (m : Int))) := by omega
          have hge := grownCap_ge w (n + m) c e
          have hle := grownCap_le w (n + m) c e (by omega)
          refine ⟨some ⟨w.heap.size, 0, none⟩, grownCap w (n + m) c e, w.drew.alloc (.cells (xs ++ List.replicate m z ++ List.replicate (grownCap w (n + m) c e - (n + m)) z).toArray e), ?_, ?_, ⟨rfl, rfl, rfl, by simp, fun k hk _ => heap_alloc_old w.drew _ (h := hk)⟩, .inr rfl⟩
          · simp [Builtin.append_, run_underlying ht, run_underlying htn, sizeOf, typeInfo, zeroValue, hi, hz, hsize, hw, hneg, h48i, hn, asInt, asIntOf, hroom, h63', h48', hzc, zeroCells_one, Question.forced, hfo, newRow, grownCap]
            congr 2
            apply Array.ext'
            simp
          · refine own_more (own_fresh_more (w1 := w.drew) (ys := []) ?_ hge hle ?_) hbase
            · simp; omega
            · rw [List.toList_toArray, List.take_append_of_le_length (by simp; omega)]
              refine List.take_of_length_le ?_
              simp; omega
end
section
variable {P : Program} {w0 w : World} {g : Option Nat} {M : List (Nat × Value)} {L : List Ob} {O : List Rw} {t tn e : TypeId} {z : Value} {bytes : Nat}
theorem owp_append_zeros {o : Oper} {a : Act} {K : Act → World → Prop} {Q : Exit → Act → World → Prop} (hE : Elem P t e z bytes) (htn : P.underlying tn = some (.int .i64)) (hz1 : z.oneCell' = true) (h : Ow w0 w g M L O) (i : Nat) (s x : Operand) {A : Option Addr} {n c : Nat} {xs : List Value} (hi : O[i]? = some ⟨A, n, c, e, xs⟩)
    (m : Nat) (h63 : n + m ≤ maxLen) (hbytes : (n + m) * bytes ≤ 140737488355328) {mv : Int} (hm : mv = (m : Int))
    (ho : o.op = .call { callee := .builtin .append, args := #[s, x], argTypes := #[t, tn] }) (hs : a.eval s = .slice A n c) (hx : a.eval x = .int .i64 mv)
    (hk : ∀ A' c' w', Ow w0 w' g M L (O.set i ⟨A', n + m, c', e, xs ++ List.replicate m z⟩) → K (a.put o.dst (.slice A' (n + m) c')) w') : o.wp P a w K Q := by
  subst hm
  obtain ⟨ht, hzc, inf, hi0, hz, hsz, hby⟩ := hE
  obtain ⟨A', c', w', hrun, h2, h3, h4⟩ := run_append_zeros (P := P) w w0.heap.size t tn o.type e inf z bytes ht htn hi0 hz hsz hby hzc hz1 A n c xs (h.own i _ hi) m h63 hbytes h.size
  exact Lib.wp_append_run w s x t tn ho _ _ hs hx _ w' hrun (hk A' c' w' (h.turn i hi (r' := ⟨A', n + m, c', e, xs ++ List.replicate m z⟩) h3 h2 h4))
theorem ow_append_zeros {ops : Array Oper} {rest : List Oper} {o : Oper} {a : Act} {Q : Exit → Act → World → Prop} (hE : Elem P t e z bytes) (htn : P.underlying tn = some (.int .i64)) (hz1 : z.oneCell' = true) (h : Ow w0 w g M L O) (i : Nat) (s x : Operand) {A : Option Addr} {n c : Nat} {xs : List Value} (hi : O[i]? = some ⟨A, n, c, e, xs⟩)
    (m : Nat) (h63 : n + m ≤ maxLen) (hbytes : (n + m) * bytes ≤ 140737488355328) {mv : Int} (hm : mv = (m : Int)) (hgd : o.guard = none)
    (ho : o.op = .call { callee := .builtin .append, args := #[s, x], argTypes := #[t, tn] }) (hs : a.eval s = .slice A n c) (hx : a.eval x = .int .i64 mv)
    (hk : ∀ A' c' w', Ow w0 w' g M L (O.set i ⟨A', n + m, c', e, xs ++ List.replicate m z⟩) → wpList P ops Q rest (a.put o.dst (.slice A' (n + m) c')) w') : wpList P ops Q (o :: rest) a w :=
  wpList_plain hgd fun _ hK => owp_append_zeros hE htn hz1 h i s x hi m h63 hbytes hm ho hs hx fun A' c' w' how => hK _ _ (hk A' c' w' how)
end
theorem elemB : Elem Tryz.prog 30 5 (.int .u8 0) 1 := by
  obtain ⟨i0, hi, hz0, hz1, hz2⟩ := info_parts infoB
  exact ⟨Tryz.underlying30, rfl, i0, hi, hz0, hz1, hz2⟩
theorem bys_zeros (m : Nat) : List.replicate m (Value.int .u8 0) = bys (List.replicate m 0) := by simp [bys, encB]
theorem bys_app (a b : List UInt8) : bys a ++ bys b = bys (a ++ b) := by simp [bys]
end Go.Proofs.YtnplaejlmbncfaaGreatDoor

namespace Go.Proofs.YtnplaejlmbncfaaGreatDoor
open Go.RowKit
set_option linter.unusedVariables false
set_option maxRecDepth 100000

theorem i64_xor_nat (a b : Nat) (ha : a < 9223372036854775808) (hb : b < 9223372036854775808) : bits .xor .i64 (a : Int) (b : Int) = ((a ^^^ b : Nat) : Int) := by
  have hx : a ^^^ b < 2 ^ 63 := Nat.xor_lt_two_pow (by omega) (by omega)
  show IntKind.i64.wrap ((BitVec.ofInt 64 (a : Int) ^^^ BitVec.ofInt 64 (b : Int)).toNat : Int) = _
  rw [BitVec.toNat_xor, ofInt_i64 a ha, ofInt_i64 b hb, IntKind.wrap_i64]
  omega
theorem i64_xor8 (a c : UInt8) : bits .xor .i64 (a.toNat : Int) (c.toNat : Int) = ((a ^^^ c).toNat : Int) := by
  have h1 := UInt8.toNat_lt a
  have h2 := UInt8.toNat_lt c
  rw [i64_xor_nat _ _ (by omega) (by omega), UInt8.toNat_xor]
theorem u8_bitk (y : UInt8) (k : Nat) : bits .and .u8 ((y.toNat : Int) / 2 ^ k) 1 = if Gf.bit y k then 1 else 0 := by
  have hy := UInt8.toNat_lt y
  have e : ((y.toNat : Int) / 2 ^ k) = ((y.toNat / 2 ^ k : Nat) : Int) := by simp
  have hlt : y.toNat / 2 ^ k < 256 := Nat.lt_of_le_of_lt (Nat.div_le_self _ _) hy
  have := u8_and_nat (y.toNat / 2 ^ k) 1 hlt (by decide)
  rw [show ((1 : Nat) : Int) = 1 from rfl] at this
  rw [e, this]
  unfold Gf.bit
  rw [Nat.and_one_is_mod, Nat.testBit_eq_decide_div_mod_eq]
  by_cases h : y.toNat / 2 ^ k % 2 = 1
  · simp [h]
  · have h0 : y.toNat / 2 ^ k % 2 = 0 := by omega
    simp [h0]
theorem dbl_hi1 : ∀ n : Nat, n < 256 → ¬ n < 128 → bits .xor .i64 ((n : Int) * 2) 285 = ((Gf.dbl (UInt8.ofNat n)).toNat : Int) := by decide +kernel
theorem dbl_hi64 (a : UInt8) (h : ¬ (a.toNat : Int) < 128) : bits .xor .i64 ((a.toNat : Int) * 2) 285 = ((Gf.dbl a).toNat : Int) := by
  have := dbl_hi1 a.toNat (UInt8.toNat_lt a) (by omega)
  rwa [UInt8.ofNat_toNat] at this

def RefMulRel (a0 c0 : UInt8) (v x k : Value) : Prop := ∃ (j : Nat) (y z : UInt8), j ≤ 8 ∧ k = .int .i64 (j : Int) ∧ x = .int .i64 (y.toNat : Int) ∧ v = .int .i64 (z.toNat : Int) ∧ y = Gf.dblN j a0 ∧ z = Gf.gpart j a0 c0
theorem refmul_step {a0 c0 : UInt8} {k : Nat} {bit : Bool} {y z y' z' : UInt8} (hy : Hid (y = Gf.dblN k a0)) (hz : Hid (z = Gf.gpart k a0 c0)) (hb : Hid (Gf.bit c0 k = bit)) (hy' : Hid (y' = Gf.dbl y)) (hz' : Hid (z' = if bit then z ^^^ y else z)) :
    y' = Gf.dblN (k + 1) a0 ∧ z' = Gf.gpart (k + 1) a0 c0 := by
  unfold Hid at *
  subst hy hz hy' hz'
  refine ⟨rfl, ?_⟩
  show _ = Gf.gpart k a0 c0 ^^^ Gf.sel (Gf.bit c0 k) (Gf.dblN k a0)
  rw [hb]
  cases bit <;> simp [Gf.sel]
theorem dbl_ex_lo (y : UInt8) (h : (y.toNat : Int) < 128) : ∃ y' : UInt8, Hid ((y.toNat : Int) * 2 = (y'.toNat : Int)) ∧ Hid (y' = Gf.dbl y) := ⟨_, dbl_lo y h, rfl⟩
theorem dbl_ex_hi (y : UInt8) (h : ¬ (y.toNat : Int) < 128) : ∃ y' : UInt8, bits .xor .i64 ((y.toNat : Int) * 2) 285 = (y'.toNat : Int) ∧ Hid (y' = Gf.dbl y) := ⟨_, dbl_hi64 y h, rfl⟩
set_option maxHeartbeats 1000000 in
theorem refmul_any (a0 c0 : UInt8) (w : World) : Calls Tryz.prog 98 #[.int .u8 (a0.toNat : Int), .int .u8 (c0.toNat : Int)] w fun e w' => e = .returned (.int .u8 ((Gf.gmul a0 c0).toNat : Int)) ∧ w = w' := by
  have ha := u8_lt a0
  have hc := u8_lt c0
  go_enter Tryz.func98, Tryz.ntmps98
  go_wp2_with fail
  go_loop [5, 6, 7] (fun v x k => RefMulRel a0 c0 v x k) (fun _ _ k => 8 - (intOf k).toNat)
  case atStart => exact ⟨0, a0, 0, by omega, rfl, rfl, rfl, rfl, rfl⟩
  case round =>
    obtain ⟨k, y, z, hk, rfl, rfl, rfl, hy, hz⟩ := hrel
    have HY := Lib.hid hy
    have HZ := Lib.hid hz
    clear hy hz
    have hx := u8_lt y
    have hz := u8_lt z
    rcases Nat.lt_or_ge k 8 with hk8 | hk8
    · obtain ⟨z', hxor, hz'⟩ : ∃ z' : UInt8, bits .xor .i64 (z.toNat : Int) (y.toNat : Int) = (z'.toNat : Int) ∧ Hid (z' = if true then z ^^^ y else z) := ⟨_, i64_xor8 z y, rfl⟩
      have hsh := u8_bitk c0 k
      cases hbit : Gf.bit c0 k <;> rw [hbit] at hsh
      · have HB := Lib.hid hbit
        replace hsh : bits .and .u8 ((c0.toNat : Int) / 2 ^ k) 1 = 0 := hsh
        clear hbit hxor
        have hzz : Hid (z = if false then z ^^^ y else z) := rfl
        rcases Int.lt_or_le (y.toNat : Int) 128 with hlo | hlo
        · obtain ⟨y', HD, hy'⟩ := dbl_ex_lo y hlo
          go_wp2_with fail
          go_round
          case rel => exact ⟨k + 1, y', z, by omega, by go_num, int_eq HD.out, rfl, refmul_step HY HZ HB hy' hzz⟩
          case measure => simp [intOf]; omega
        · obtain ⟨y', HD, hy'⟩ := dbl_ex_hi y (by omega)
          go_wp2_with fail
          go_round
          case rel => exact ⟨k + 1, y', z, by omega, by go_num, rfl, rfl, refmul_step HY HZ HB hy' hzz⟩
          case measure => simp [intOf]; omega
      · have HB := Lib.hid hbit
        replace hsh : bits .and .u8 ((c0.toNat : Int) / 2 ^ k) 1 = 1 := hsh
        clear hbit
        rcases Int.lt_or_le (y.toNat : Int) 128 with hlo | hlo
        · obtain ⟨y', HD, hy'⟩ := dbl_ex_lo y hlo
          go_wp2_with fail
          go_round
          case rel => exact ⟨k + 1, y', z', by omega, by go_num, int_eq HD.out, rfl, refmul_step HY HZ HB hy' hz'⟩
          case measure => simp [intOf]; omega
        · obtain ⟨y', HD, hy'⟩ := dbl_ex_hi y (by omega)
          go_wp2_with fail
          go_round
          case rel => exact ⟨k + 1, y', z', by omega, by go_num, rfl, rfl, refmul_step HY HZ HB hy' hz'⟩
          case measure => simp [intOf]; omega
    · have e8 : z = Gf.gmul a0 c0 := by
        rw [HZ.out, ← Gf.gpart_all]
        congr 1
        omega
      have HE := Lib.hid e8
      clear e8
      go_wp2_with fail
      go_ret
      exact ⟨ret_u8 HE.out, rfl⟩
end Go.Proofs.YtnplaejlmbncfaaGreatDoor

namespace Go.Proofs.YtnplaejlmbncfaaGreatDoor
open Go.RowKit
set_option linter.unusedVariables false
set_option maxRecDepth 100000

namespace Gf
/-- the error of a division by a: ErrZero, or none -/
def ez (a : UInt8) : Int := if a = 0 then 4 else 0
theorem ez_ne (a : UInt8) (h : a ≠ 0) : ez a = 0 := if_neg h
/-- a power as the packages give it -/
def pw (a : UInt8) (n : Int) : UInt8 := if a = 0 then (if n = 0 then 1 else 0) else zpow a n
def epw (a : UInt8) (n : Int) : Int := if a = 0 ∧ n < 0 then 4 else 0
end Gf

theorem ret2_eq {k l : IntKind} {a b c d : Int} (h : a = b) (h' : c = d) : Ending.returned (.tuple #[.int k a, .int l c]) = .returned (.tuple #[.int k b, .int l d]) := by rw [h, h']
theorem zero_or (a : UInt8) : a = 0 ∨ (a ≠ 0 ∧ ((a.toNat : Int) == 0) = false) := by
  by_cases h : a = 0
  · exact .inl h
  · exact .inr ⟨h, by have := u8_pos h; rw [beq_eq_false_iff_ne]; omega⟩

theorem inverse_any (a : UInt8) (w : World) : Calls Tryz.prog 142 #[.int .u8 (a.toNat : Int)] w fun e w' => e = .returned (.tuple #[.int .u8 ((Gf.ginv a).toNat : Int), .int .i64 (Gf.ez a)]) ∧ w = w' := by
  rcases zero_or a with rfl | ⟨h, h1⟩
  · go_enter Tryz.func142, Tryz.ntmps142
    go_wp2_with fail
    go_ret2
    exact ⟨ret2_eq (by rw [Gf.ginv_zero]; rfl) rfl, rfl⟩
  · have H := Lib.hid (Gf.ez_ne a h)
    clear h
    have hl := u8_lt a
    go_enter Tryz.func142, Tryz.ntmps142
    go_wp2_with (go_at_call 169; refine (raise_any _ _ (by omega) (by omega) _).mono ?_; rintro e w' ⟨rfl, rfl⟩)
    go_ret2
    exact ⟨ret2_eq rfl H.out.symm, rfl⟩

theorem divide_any (a c : UInt8) (w : World) : Calls Tryz.prog 173 #[.int .u8 (a.toNat : Int), .int .u8 (c.toNat : Int)] w fun e w' => e = .returned (.tuple #[.int .u8 ((Gf.gmul a (Gf.ginv c)).toNat : Int), .int .i64 (Gf.ez c)]) ∧ w = w' := by
  have hl := u8_lt a
  go_enter Tryz.func173, Tryz.ntmps173
  go_wp2_with (first | (go_at_call 142; refine (inverse_any _ _).mono ?_; rintro e w' ⟨rfl, rfl⟩) | (go_at_call 136; refine (mul_any _ _ _).mono ?_; rintro e w' ⟨rfl, rfl⟩))
  go_ret2
  exact ⟨rfl, rfl⟩

theorem exp_any (n : Int) (w : World) : Calls Tryz.prog 135 #[.int .i64 n] w fun e w' => e = .returned (.int .u8 ((Gf.zpow 2 n).toNat : Int)) ∧ w = w' := by
  have hl := Gf.emod_lt n
  have H : Hid (Gf.gpow 2 (Gf.emod n) = Gf.zpow 2 n) := rfl
  go_enter Tryz.func135, Tryz.ntmps135
  go_wp2_with (go_at_call 170; refine (turn_any _ _).mono ?_; rintro e w' ⟨rfl, rfl⟩)
  refine (raise_any 2 _ (by omega) (by omega) _).mono ?_; rintro e w' ⟨rfl, rfl⟩
  go_wp2_with fail
  go_ret
  exact ⟨ret_u8 H.out, rfl⟩

theorem power_any (a : UInt8) (n : Int) (w : World) : Calls Tryz.prog 146 #[.int .u8 (a.toNat : Int), .int .i64 n] w fun e w' => e = .returned (.tuple #[.int .u8 ((Gf.pw a n).toNat : Int), .int .i64 (Gf.epw a n)]) ∧ w = w' := by
  rcases Int.lt_trichotomy n 0 with hn | hn | hn
  · rcases zero_or a with rfl | ⟨h, h1⟩
    · have H1 : Hid (Gf.pw 0 n = 0) := by unfold Hid Gf.pw; rw [if_pos rfl, if_neg (by omega)]
      have H2 : Hid (Gf.epw 0 n = 4) := by unfold Hid Gf.epw; rw [if_pos ⟨rfl, hn⟩]
      go_enter Tryz.func146, Tryz.ntmps146
      go_wp2_with fail
      go_ret2
      exact ⟨ret2_eq (by rw [H1.out]; rfl) H2.out.symm, rfl⟩
    · have hl := Gf.emod_lt n
      have H1 : Hid (Gf.pw a n = Gf.gpow a (Gf.emod n)) := by unfold Hid Gf.pw; rw [if_neg h]; rfl
      have H2 : Hid (Gf.epw a n = 0) := by unfold Hid Gf.epw; rw [if_neg (fun x => h x.1)]
      clear h
      go_enter Tryz.func146, Tryz.ntmps146
      go_wp2_with (first | (go_at_call 170; refine (turn_any _ _).mono ?_; rintro e w' ⟨rfl, rfl⟩) | (go_at_call 169; refine (raise_any _ _ (by omega) (by omega) _).mono ?_; rintro e w' ⟨rfl, rfl⟩))
      go_ret2
      exact ⟨ret2_eq (by rw [H1.out]) H2.out.symm, rfl⟩
  · subst hn
    have H1 : Hid (Gf.pw a 0 = 1) := by
      unfold Hid Gf.pw
      split <;> rfl
    have H2 : Hid (Gf.epw a 0 = 0) := by unfold Hid Gf.epw; rw [if_neg (fun x => by omega)]
    go_enter Tryz.func146, Tryz.ntmps146
    go_wp2_with fail
    go_ret2
    exact ⟨ret2_eq (by rw [H1.out]; rfl) H2.out.symm, rfl⟩
  · rcases zero_or a with rfl | ⟨h, h1⟩
    · have H1 : Hid (Gf.pw 0 n = 0) := by unfold Hid Gf.pw; rw [if_pos rfl, if_neg (by omega)]
      have H2 : Hid (Gf.epw 0 n = 0) := by unfold Hid Gf.epw; rw [if_neg (fun x => by omega)]
      have hn' : 0 ≤ n := by omega
      go_enter Tryz.func146, Tryz.ntmps146
      go_wp2_with fail
      go_ret2
      exact ⟨ret2_eq (by rw [H1.out]; rfl) H2.out.symm, rfl⟩
    · have hl := Gf.emod_lt n
      have H1 : Hid (Gf.pw a n = Gf.gpow a (Gf.emod n)) := by unfold Hid Gf.pw; rw [if_neg h]; rfl
      have H2 : Hid (Gf.epw a n = 0) := by unfold Hid Gf.epw; rw [if_neg (fun x => h x.1)]
      clear h
      go_enter Tryz.func146, Tryz.ntmps146
      go_wp2_with (first | (go_at_call 170; refine (turn_any _ _).mono ?_; rintro e w' ⟨rfl, rfl⟩) | (go_at_call 169; refine (raise_any _ _ (by omega) (by omega) _).mono ?_; rintro e w' ⟨rfl, rfl⟩))
      go_ret2
      exact ⟨ret2_eq (by rw [H1.out]) H2.out.symm, rfl⟩

theorem refinverse_any (a : UInt8) (w : World) : Calls Tryz.prog 100 #[.int .u8 (a.toNat : Int)] w fun e w' => e = .returned (.tuple #[.int .u8 ((Gf.ginv a).toNat : Int), .int .i64 (Gf.ez a)]) ∧ w = w' := by
  rcases zero_or a with rfl | ⟨h, h1⟩
  · go_enter Tryz.func100, Tryz.ntmps100
    go_wp2_with fail
    go_ret2
    exact ⟨ret2_eq (by rw [Gf.ginv_zero]; rfl) rfl, rfl⟩
  · have H := Lib.hid (Gf.ez_ne a h)
    clear h
    have hl := u8_lt a
    go_enter Tryz.func100, Tryz.ntmps100
    go_wp2_with fail
    go_loop [4, 5] (fun v i => ∃ (k : Nat) (y : UInt8), k ≤ 254 ∧ i = .int .i64 (k : Int) ∧ v = .int .u8 (y.toNat : Int) ∧ Hid (y = Gf.gpow a k)) (fun _ i => 254 - (intOf i).toNat)
    case atStart => exact ⟨0, 1, by omega, rfl, rfl, rfl⟩
    case round =>
      obtain ⟨k, y, hk, rfl, rfl, HF⟩ := hrel
      have hy := u8_lt y
      rcases Nat.lt_or_ge k 254 with hk2 | hk2
      · go_wp2_with (go_at_call 98; refine (refmul_any _ _ _).mono ?_; rintro e w' ⟨rfl, rfl⟩)
        go_round
        case rel => exact ⟨k + 1, Gf.gmul y a, by omega, by go_num, rfl, by unfold Hid; rw [HF.out]; rfl⟩
        case measure => simp [intOf]; omega
      · go_wp2_with fail
        go_ret2
        exact ⟨ret2_eq (by rw [HF.out, show k = 254 from by omega]; rfl) H.out.symm, rfl⟩

end Go.Proofs.YtnplaejlmbncfaaGreatDoor

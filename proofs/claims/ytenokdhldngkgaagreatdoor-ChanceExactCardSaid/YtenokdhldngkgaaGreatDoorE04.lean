/- NatT RegInv NatM Om Ox -/
import Derived.Test.YtenokdhldngkgaaGreatDoorE02
import Derived.Test.YtenokdhldngkgaaGreatDoorE03
import Derived.RegionTactic
import Derived.Deep.RegionWith
import Derived.StillTail
import Derived.Deep.QuietTactic
import Derived.Lib.QuietBelow
namespace Go.Proofs.YtenokdhldngkgaaGreatDoor
open Go.RowKit
set_option linter.unusedVariables false
set_option maxRecDepth 100000
structure Ob where
 A : Option Addr
 n : Nat
 c : Nat
 vs : List Value
structure St (w0 w : World) (g : Option Nat) (M : List (Nat × Value)) (L : List Ob) : Prop where
 below : Below w0.heap.size w0 w
 lt : ∀ x, g = some x → x < w.heap.size ∧ w0.heap.size ≤ x
 box : ∀ (i b : Nat) (v : Value), M[i]? = some (b, v) → b < w.heap.size ∧ w0.heap.size ≤ b ∧ w.cell? ⟨b, 0, none⟩ = some v ∧ w.frozen? ⟨b, 0, none⟩ = false ∧ g ≠ some b
 one : ∀ (i j b : Nat) (u v : Value), M[i]? = some (b, u) → M[j]? = some (b, v) → i = j
 held : ∀ o ∈ L, o.vs.length = o.n ∧ o.n ≤ o.c ∧ o.n ≤ 1000 ∧ ∃ B, B ≤ w.heap.size ∧ Sl w B o.A o.vs ∧ (∀ ad, o.A = some ad → 0 < o.n → g ≠ some ad.block ∧ ∀ (i b : Nat) (v : Value), M[i]? = some (b, v) → ad.block ≠ b)
theorem St.refl (w : World) : St w w none [] [] := ⟨Below.refl _ _, fun x e => (by cases e), fun i b v h => (by simp at h), fun i j b u v h => (by simp at h), fun o h => (by cases h)⟩
section
variable {w0 w w' : World} {g : Option Nat} {M : List (Nat × Value)} {L : List Ob}
theorem St.size (h : St w0 w g M L) : w0.heap.size ≤ w.heap.size := h.below.size
theorem St.go (h : St w0 w g M L) (hb : Below w.heap.size w w') : St w0 w' g M L :=
 ⟨h.below.trans (hb.mono h.size), fun x e => ⟨Nat.lt_of_lt_of_le (h.lt x e).1 hb.size, (h.lt x e).2⟩, fun i b v hi => by
  obtain ⟨h1, h2, h3, h4, h5⟩ := h.box i b v hi
  exact ⟨Nat.lt_of_lt_of_le h1 hb.size, h2, (hb.cell (p := ⟨b, 0, none⟩) h1).trans h3, (hb.frozen (p := ⟨b, 0, none⟩) h1).trans h4, h5⟩, h.one, fun o ho => by
  obtain ⟨h1, h2, h3, B, hB, hs, hne⟩ := h.held o ho
  exact ⟨h1, h2, h3, B, Nat.le_trans hB hb.size, hs.below (hb.mono hB), hne⟩⟩
theorem St.add (h : St w0 w g M L) {A : Option Addr} {n c B : Nat} {vs : List Value} (hs : Sl w B A vs) (hB : B ≤ w.heap.size) (hn : vs.length = n) (hc : n ≤ c) (hl : n ≤ 1000)
  (hne : ∀ ad, A = some ad → 0 < n → g ≠ some ad.block ∧ ∀ (i b : Nat) (v : Value), M[i]? = some (b, v) → ad.block ≠ b) : St w0 w g M (L ++ [⟨A, n, c, vs⟩]) :=
 ⟨h.below, h.lt, h.box, h.one, fun o ho => by
  rcases List.mem_append.1 ho with h1 | h1
  ·exact h.held o h1
  ·rw [List.mem_singleton] at h1
   subst h1
   exact ⟨hn, hc, hl, B, hB, hs, hne⟩⟩
theorem St.old (h : St w0 w g M L) {A : Option Addr} {n c : Nat} {vs : List Value} (hs : Sl w0 w0.heap.size A vs) (hn : vs.length = n) (hc : n ≤ c) (hl : n ≤ 1000) : St w0 w g M (L ++ [⟨A, n, c, vs⟩]) := by
 refine h.add ((hs.below h.below)) h.size hn hc hl fun ad e h0 => ?_
 obtain ⟨ad', e', hb, _⟩ := hs (by omega)
 rw [e] at e'
 obtain rfl := Option.some.inj e'
 exact ⟨fun e2 => by have := (h.lt _ e2).2; omega, fun i b v hi e2 => by have := (h.box i b v hi).2.1; omega⟩
theorem St.push (h : St w0 w g M L) {A : Option Addr} {n c : Nat} {vs : List Value} {e : TypeId} (ho : w'.ownsRow w.heap.size e 1 (.slice A n c) n vs) (hl : n ≤ 1000) (hb : Below w.heap.size w w') : St w0 w' g M (L ++ [⟨A, n, c, vs⟩]) := by
 refine (h.go hb).add (Sl.of_own ho) (Nat.le_refl _) (own_len ho) (own_cap ho).1 hl fun ad e h0 => ?_
 obtain ⟨g', hg', h1, _⟩ := own_form ho h0
 rw [e] at hg'
 obtain rfl := Option.some.inj hg'
 exact ⟨fun e2 => by have := (h.lt _ e2).1; simp only at this; omega, fun i b v hi e2 => by have := (h.box i b v hi).1; simp only at e2; omega⟩
theorem St.roll {x : Nat} (h : St w0 w (some x) M L) (hg : w.grownBy w' (some x)) : St w0 w' (some x) M L := by
 have hx := h.lt x rfl
 refine ⟨h.below.trans (below_only hg h.size hx.2), fun y e => ⟨Nat.lt_of_lt_of_le (h.lt y e).1 hg.size, (h.lt y e).2⟩, fun i b v hi => ?_, h.one, fun o ho => ?_⟩
 ·obtain ⟨h1, h2, h3, h4, h5⟩ := h.box i b v hi
  have e1 := hg.block b h1 (fun e => h5 e.symm)
  exact ⟨Nat.lt_of_lt_of_le h1 hg.size, h2, (World.cell?_of_block (a := ⟨b, 0, none⟩) e1).trans h3, (World.frozen?_of_block (a := ⟨b, 0, none⟩) e1).trans h4, h5⟩
 ·obtain ⟨h1, h2, h3, B, hB, hs, hne⟩ := h.held o ho
  refine ⟨h1, h2, h3, B, Nat.le_trans hB hg.size, fun hn => ?_, hne⟩
  obtain ⟨ad, hA, hbk, hcell⟩ := hs hn
  refine ⟨ad, hA, hbk, fun k u hu => ?_⟩
  rw [World.cell?_of_block (hg.block _ (by rw [add_block]; omega) (by rw [add_block]; intro e; exact (hne ad hA (by omega)).1 e.symm))]
  exact hcell k u hu
theorem St.boxed (h : St w0 w g M L) (v : Value) (t : TypeId) : St w0 (w.alloc (.cells #[v] t)) g (M ++ [(w.heap.size, v)]) L := by
 have hb : Below w.heap.size w (w.alloc (.cells #[v] t)) := (Below.refl _ _).alloc (Nat.le_refl _) _
 have h' := h.go hb
 have bV := Boxed.new w t v
 have key : ∀ (i b : Nat) (u : Value), (M ++ [(w.heap.size, v)])[i]? = some (b, u) → M[i]? = some (b, u) ∨ (i = M.length ∧ b = w.heap.size ∧ u = v) := fun i b u hi => by
  rcases Nat.lt_or_ge i M.length with h1 | h1
  ·rw [List.getElem?_append_left h1] at hi
   exact .inl hi
  ·rw [List.getElem?_append_right h1] at hi
   have h2 : i - M.length = 0 := by
    have := get_lt hi
    simp at this
    omega
   rw [h2] at hi
   simp at hi
   exact .inr ⟨by omega, hi.1.symm, hi.2.symm⟩
 refine ⟨h'.below, h'.lt, fun i b u hi => ?_, fun i j b u x hi hj => ?_, fun o ho => ?_⟩
 ·rcases key i b u hi with h1 | ⟨_, rfl, rfl⟩
  ·exact h'.box i b u h1
  ·exact ⟨by simp, h.size, bV.cell, bV.frozen, fun e => by have := (h.lt _ e).1; omega⟩
 ·rcases key i b u hi with h1 | ⟨h1, h2, _⟩ <;> rcases key j b x hj with k1 | ⟨k1, k2, _⟩
  ·exact h.one i j b u x h1 k1
  ·have := (h.box i b u h1).1; omega
  ·have := (h.box j b x k1).1; omega
  ·omega
 ·obtain ⟨h1, h2, h3, B, hB, hs, hne⟩ := h.held o ho
  refine ⟨h1, h2, h3, B, Nat.le_trans hB hb.size, hs.below (hb.mono hB), fun ad e h0 => ⟨(hne ad e h0).1, fun i b u hi => ?_⟩⟩
  rcases key i b u hi with k1 | ⟨_, rfl, _⟩
  ·exact (hne ad e h0).2 i b u k1
  ·obtain ⟨ad', e', hbk, _⟩ := hs (by omega)
   rw [e] at e'
   obtain rfl := Option.some.inj e'
   omega
theorem St.put (h : St w0 w g M L) (i : Nat) {b : Nat} {v : Value} (hi : M[i]? = some (b, v)) (u : Value) : St w0 (w.setCell ⟨b, 0, none⟩ u) g (M.set i (b, u)) L := by
 obtain ⟨h1, h2, h3, h4, h5⟩ := h.box i b v hi
 have key : ∀ (j c : Nat) (x : Value), (M.set i (b, u))[j]? = some (c, x) → (j = i ∧ c = b ∧ x = u) ∨ (j ≠ i ∧ M[j]? = some (c, x)) := fun j c x hj => by
  by_cases e : j = i
  ·subst e
   rw [List.getElem?_set_self (get_lt hi)] at hj
   simp at hj
   exact .inl ⟨rfl, hj.1.symm, hj.2.symm⟩
  ·rw [List.getElem?_set_ne (fun e' => e e'.symm)] at hj
   exact .inr ⟨e, hj⟩
 have hsz : (w.setCell ⟨b, 0, none⟩ u).heap.size = w.heap.size := by simp [World.setCell]
 refine ⟨h.below.setCell (p := ⟨b, 0, none⟩) h2 _, fun x e => by rw [hsz]; exact h.lt x e, fun j c x hj => ?_, fun j k c x y hj hk => ?_, fun o ho => ?_⟩
 ·rcases key j c x hj with ⟨_, rfl, rfl⟩ | ⟨hne, hj'⟩
  ·exact ⟨by rw [hsz]; exact h1, h2, cell_of_set _ h3, by rw [World.frozen?_setCell]; exact h4, h5⟩
  ·obtain ⟨k1, k2, k3, k4, k5⟩ := h.box j c x hj'
   have hcb : c ≠ b := fun e => by subst e; exact hne (h.one j i c x v hj' hi)
   exact ⟨by rw [hsz]; exact k1, k2, by rw [World.cell?_setCell_other _ _ _ _ (fun e => hcb (congrArg Addr.block e).symm)]; exact k3, by rw [World.frozen?_setCell]; exact k4, k5⟩
 ·rcases key j c x hj with ⟨e1, rfl, rfl⟩ | ⟨hne, hj'⟩ <;> rcases key k _ y hk with ⟨e2, e3, _⟩ | ⟨hne2, hk'⟩
  ·omega
  ·exact absurd (h.one k i _ y v hk' hi) hne2
  ·subst e3; exact absurd (h.one j i _ x v hj' hi) hne
  ·exact h.one j k c x y hj' hk'
 ·obtain ⟨k1, k2, k3, B, hB, hs, hne⟩ := h.held o ho
  refine ⟨k1, k2, k3, B, by rw [hsz]; exact hB, fun hn => ?_, fun ad e h0 => ⟨(hne ad e h0).1, fun j c x hj => ?_⟩⟩
  ·obtain ⟨ad, hA, hbk, hcell⟩ := hs hn
   refine ⟨ad, hA, hbk, fun k x hx => ?_⟩
   rw [World.cell?_of_block (Below.heap_setCell _ _ _ _ (by rw [add_block]; exact (hne ad hA (by omega)).2 i b v hi))]
   exact hcell k x hx
  ·rcases key j c x hj with ⟨_, rfl, _⟩ | ⟨_, hj'⟩
   ·exact (hne ad e h0).2 i c v hi
   ·exact (hne ad e h0).2 j c x hj'
theorem St.sl (h : St w0 w g M L) {i : Nat} {A : Option Addr} {n c : Nat} {vs : List Value} (hi : L[i]? = some ⟨A, n, c, vs⟩) : vs.length = n ∧ n ≤ c ∧ n ≤ 1000 ∧ Sl w w.heap.size A vs := by
 obtain ⟨h1, h2, h3, B, hB, hs, _⟩ := h.held _ (List.mem_of_getElem? hi)
 exact ⟨h1, h2, h3, hs.more hB⟩
theorem St.cell (h : St w0 w g M L) (i : Nat) {b : Nat} {v : Value} (hi : M[i]? = some (b, v)) : w.cell? ⟨b, 0, none⟩ = some v := (h.box i b v hi).2.2.1
theorem St.free (h : St w0 w g M L) (i : Nat) {b : Nat} {v : Value} (hi : M[i]? = some (b, v)) : w.frozen? ⟨b, 0, none⟩ = false := (h.box i b v hi).2.2.2.1
theorem St.drewN (h : St w0 w g M L) (k : Nat) : St w0 (w.drewN k) g M L := h.go (below_drewN (Below.refl _ _) k)
theorem resL_len (x : Nat) : (resL x).length ≤ 200 := by
 unfold resL
 split
 ·rename_i h
  exact (Na.dig_200 x).2 h
 ·exact Nat.zero_le _
end
end Go.Proofs.YtenokdhldngkgaaGreatDoor
namespace Go.Proofs.YtenokdhldngkgaaGreatDoor
set_option linter.unusedVariables false
set_option maxRecDepth 100000
section
variable {P : Program} {md : Region.Mode} {ops : Array Oper} {Q : Exit → Act → World → Prop}
def dset (L : Nat → Bool) (j : Nat) : Nat → Bool := fun i => if i = j then true else L i
def backward (ops : Array Oper) : Bool := (List.range ops.size).all fun i => ((ops[i]?).map fun o => o.after.all fun e => decide (e.on < i)).getD true
theorem mem_ready {l : Array Bool} {j : Nat} (h : j ∈ Region.ready md ops l) : j < ops.size ∧ l.getD j true = false ∧ ∀ o, ops[j]? = some o → ∀ e ∈ o.after, Region.binds md e = true → l.getD e.on false = true := by
 unfold Region.ready at h
 rw [List.mem_filter] at h
 obtain ⟨h1, h2⟩ := h
 rw [List.mem_range] at h1
 rw [Bool.and_eq_true] at h2
 refine ⟨h1, by simpa using h2.1, fun o ho e he hb => ?_⟩
 have h3 := h2.2
 rw [ho] at h3
 have h3' : (o.after.all fun e => !Region.binds md e || l.getD e.on false) = true := h3
 have h4 := Array.all_eq_true_iff_forall_mem.1 h3' e he
 rw [hb] at h4
 exact h4
theorem ready_none {l : Array Bool} (hb : backward ops = true) (h : Region.ready md ops l = []) : ∀ j, j < ops.size → l.getD j true = true := by
 intro j
 induction j using Nat.strongRecOn with
 | _ j ih =>
  intro hj
  cases hl : l.getD j true with
  | true => rfl
  | false =>
   exfalso
   have : j ∈ Region.ready md ops l := by
    unfold Region.ready
    rw [List.mem_filter]
    refine ⟨List.mem_range.2 hj, ?_⟩
    rw [hl]
    have ho : ops[j]? = some ops[j] := Array.getElem?_eq_getElem hj
    have hbj := List.all_eq_true.1 hb j (List.mem_range.2 hj)
    rw [ho] at hbj
    have hbj' : (ops[j].after.all fun e => decide (e.on < j)) = true := hbj
    rw [ho]
    show (!false && (ops[j].after.all fun e => !Region.binds md e || l.getD e.on false)) = true
    rw [Bool.not_false, Bool.true_and, Array.all_eq_true_iff_forall_mem]
    intro e he
    have h5 := of_decide_eq_true (Array.all_eq_true_iff_forall_mem.1 hbj' e he)
    have h6 := ih e.on h5 (by omega)
    have h7 : l.getD e.on false = true := by
     rw [Array.getD_eq_getD_getElem?] at h6 ⊢
     rcases Nat.lt_or_ge e.on l.size with h8 | h8
     ·rw [Array.getElem?_eq_getElem h8] at h6 ⊢; exact h6
     ·exfalso
      have h9 : l.size ≤ j := by omega
      rw [Array.getD_eq_getD_getElem?, Array.getElem?_eq_none h9] at hl
      cases hl
    rw [h7, Bool.or_true]
   rw [h] at this
   cases this
theorem reg_inv_go (Inv : (Nat → Bool) → Act → World → Prop) (hb : backward ops = true)
  (hstep : ∀ j L a w, j < ops.size → L j = false → (∀ o, ops[j]? = some o → ∀ e ∈ o.after, Region.binds md e = true → L e.on = true) → Inv L a w → wpOp P ops Q j (Inv (dset L j)) a w)
  (hend : ∀ L a w, (∀ i, i < ops.size → L i = true) → Inv L a w → Q .normal a w) : ∀ (n : Nat) (l : Array Bool) (a : Act) (w : World), l.size = ops.size → (l.toList.countP (· == false)) ≤ n →
   Inv (fun i => l.getD i false) a w → wpAny P md ops Q n l a w := by
 intro n
 have fin : ∀ (l : Array Bool) (a : Act) (w : World), l.size = ops.size → Inv (fun i => l.getD i false) a w → Region.ready md ops l = [] → Q .normal a w := fun l a w hs hi hr => by
  refine hend _ a w (fun i hi => ?_) hi
  have h1 := ready_none hb hr i hi
  rw [Array.getD_eq_getD_getElem?] at h1 ⊢
  rw [Array.getElem?_eq_getElem (by omega)] at h1 ⊢
  exact h1
 induction n with
 | zero =>
  intro l a w hs hc hi
  have hr : Region.ready md ops l = [] := by
   cases e : Region.ready md ops l with
   | nil => rfl
   | cons j r =>
    exfalso
    obtain ⟨h1, h2, _⟩ := mem_ready (md := md) (ops := ops) (l := l) (j := j) (by rw [e]; exact List.mem_cons_self)
    have h3 : l.toList.countP (· == false) = 0 := by omega
    rw [List.countP_eq_zero] at h3
    rw [Array.getD_eq_getD_getElem?, Array.getElem?_eq_getElem (by omega)] at h2
    have h4 : j < l.size := by omega
    exact h3 _ (Array.mem_toList_iff.2 (Array.getElem_mem h4)) (by simpa using h2)
  exact ⟨hr, fin l a w hs hi hr⟩
 | succ n ih =>
  intro l a w hs hc hi
  refine ⟨fin l a w hs hi, fun j hj => ?_⟩
  obtain ⟨h1, h2, h3⟩ := mem_ready hj
  have hjl : j < l.size := by omega
  have h2' : l[j] = false := by rw [Array.getD_eq_getD_getElem?, Array.getElem?_eq_getElem hjl] at h2; exact h2
  have e1 : (fun i => (l.setIfInBounds j true).getD i false) = dset (fun i => l.getD i false) j := by
   funext i
   unfold dset
   by_cases e : i = j
   ·subst e
    rw [if_pos rfl, Array.getD_eq_getD_getElem?, Array.getElem?_setIfInBounds_self_of_lt hjl]; rfl
   ·rw [if_neg e, Array.getD_eq_getD_getElem?, Array.getElem?_setIfInBounds_ne (fun e' => e e'.symm)]
    exact (Array.getD_eq_getD_getElem? ..).symm
  refine wpOp_mono (fun a' w' h => ih _ a' w' (by rw [Array.size_setIfInBounds]; exact hs) ?_ (by rw [e1]; exact h)) (hstep j _ a w h1 (by show l.getD j false = false; rw [Array.getD_eq_getD_getElem?, Array.getElem?_eq_getElem hjl]; exact h2') h3 hi)
  have h5 : (l.setIfInBounds j true).toList = l.toList.set j true := by simp
  rw [h5]
  have key : ∀ (xs : List Bool) (j : Nat), xs[j]? = some false → (xs.set j true).countP (· == false) + 1 = xs.countP (· == false) := by
   intro xs
   induction xs with
   | nil => intro j h; simp at h
   | cons x xs ih2 =>
    intro j h
    cases j with
    | zero =>
     simp at h
     subst h
     simp
    | succ j =>
     simp at h
     have := ih2 j h
     simp only [List.set_cons_succ, List.countP_cons]
     omega
  have := key l.toList j (by rw [Array.getElem?_toList, Array.getElem?_eq_getElem hjl, h2'])
  omega
theorem reg_inv {id : Nat} {a : Act} {w : World} (Inv : (Nat → Bool) → Act → World → Prop) (hm : P.follows .mixedOrders = true) (hb : backward ops = true)
  (h0 : Inv (fun _ => false) a w.drew)
  (hstep : ∀ j L a w, j < ops.size → L j = false → (∀ o, ops[j]? = some o → ∀ e ∈ o.after, Region.binds .any e = true → L e.on = true) → Inv L a w → wpOp P ops Q j (Inv (dset L j)) a w)
  (hend : ∀ L a w, (∀ i, i < ops.size → L i = true) → Inv L a w → Q .normal a w) : (Code.region id ops true).wp P Q a w := by
 refine wp_region_any hm (reg_inv_go Inv hb hstep hend _ _ _ _ (by simp) ?_ ?_)
 ·refine Nat.le_trans List.countP_le_length ?_
  simp
 ·have : (fun i => (Array.replicate ops.size false).getD i false) = fun _ => false := by
   funext i
   rw [Array.getD_eq_getD_getElem?]
   rcases Nat.lt_or_ge i ops.size with h | h
   ·rw [Array.getElem?_eq_getElem (by simpa using h)]; simp
   ·rw [Array.getElem?_eq_none (by simpa using h)]; rfl
  rw [this]
  exact h0
def preds (md : Region.Mode) (ops : Array Oper) (j : Nat) : List Nat := ((ops[j]?).map fun o => (o.after.toList.filter (Region.binds md ·)).map (·.on)).getD []
theorem mem_preds {o : Oper} {j : Nat} {L : Nat → Bool} (ho : ops[j]? = some o) (h : ∀ e ∈ o.after, Region.binds md e = true → L e.on = true) : ∀ i, (preds md ops j).elem i = true → L i = true := fun i hi => by
 have hi := List.mem_of_elem_eq_true hi
 unfold preds at hi
 rw [ho] at hi
 have hi' : i ∈ (o.after.toList.filter (Region.binds md ·)).map (·.on) := hi
 obtain ⟨e, he, rfl⟩ := List.mem_map.1 hi'
 rw [List.mem_filter] at he
 exact h e (Array.mem_toList_iff.1 he.1) he.2
theorem reg_inv2 {id : Nat} {a : Act} {w : World} (I : Act → (Nat → Bool) → Act → World → Prop) (hm : P.follows .mixedOrders = true) (hb : backward ops = true)
  (h0 : I a (fun _ => false) a w.drew)
  (hstep : ∀ j L b v, j < ops.size → L j = false → (∀ i, (preds .any ops j).elem i = true → L i = true) → I a L b v → wpOp P ops Q j (I a (dset L j)) b v)
  (hend : ∀ L b v, (∀ i, i < ops.size → L i = true) → I a L b v → Q .normal b v) : (Code.region id ops true).wp P Q a w :=
 reg_inv (I a) hm hb h0 (fun j L b v hj hf hd hi => hstep j L b v hj hf (mem_preds (Array.getElem?_eq_getElem hj) (fun e he hb => hd _ (Array.getElem?_eq_getElem hj) e he hb)) hi) hend
def Closed (ops : Array Oper) (L : Nat → Bool) : Prop := ∀ j i, L j = true → (preds .any ops j).elem i = true → L i = true
theorem reg_inv3 {id : Nat} {a : Act} {w : World} (I : Act → (Nat → Bool) → Act → World → Prop) (hm : P.follows .mixedOrders = true) (hb : backward ops = true)
  (h0 : I a (fun _ => false) a w.drew)
  (hstep : ∀ j L b v, j < ops.size → L j = false → Closed ops L → (∀ i, (preds .any ops j).elem i = true → L i = true) → I a L b v → wpOp P ops Q j (I a (dset L j)) b v)
  (hend : ∀ L b v, (∀ i, i < ops.size → L i = true) → I a L b v → Q .normal b v) : (Code.region id ops true).wp P Q a w := by
 refine reg_inv2 (fun a L b v => Closed ops L ∧ I a L b v) hm hb ⟨(fun j i h => nomatch h), h0⟩ (fun j L b v hj hf hp hi => ?_) (fun L b v hl hi => hend L b v hl hi.2)
 refine wpOp_mono (fun a' w' h => ⟨fun j' i' h1 h2 => ?_, h⟩) (hstep j L b v hj hf hi.1 hp hi.2)
 unfold dset at h1 ⊢
 by_cases e : i' = j
 ·rw [if_pos e]
 ·rw [if_neg e]
  by_cases e2 : j' = j
  ·subst e2
   exact hp i' h2
  ·rw [if_neg e2] at h1
   exact hi.1 j' i' h1 h2
end
end Go.Proofs.YtenokdhldngkgaaGreatDoor
namespace Go.Proofs.YtenokdhldngkgaaGreatDoor
open Go.RowKit
set_option linter.unusedVariables false
set_option maxRecDepth 100000
section
variable {w0 w w' : World} {g : Option Nat} {M : List (Nat × Value)} {L : List Ob}
theorem St.sub (h : St w0 w g M L) {M' : List (Nat × Value)} {L' : List Ob} (hM : ∀ x ∈ M', x ∈ M) (h1 : ∀ (i j b : Nat) (u v : Value), M'[i]? = some (b, u) → M'[j]? = some (b, v) → i = j) (hL : ∀ o ∈ L', o ∈ L) : St w0 w g M' L' := by
 have key : ∀ (i : Nat) (x : Nat × Value), M'[i]? = some x → ∃ j, M[j]? = some x := fun i x hi => List.mem_iff_getElem?.1 (hM x (List.mem_of_getElem? hi))
 refine ⟨h.below, h.lt, fun i b v hi => ?_, h1, fun o ho => ?_⟩
 ·obtain ⟨j, hj⟩ := key i _ hi
  exact h.box j b v hj
 ·obtain ⟨k1, k2, k3, B, hB, hs, hne⟩ := h.held o (hL o ho)
  refine ⟨k1, k2, k3, B, hB, hs, fun ad e h0 => ⟨(hne ad e h0).1, fun i b v hi => ?_⟩⟩
  obtain ⟨j, hj⟩ := key i _ hi
  exact (hne ad e h0).2 j b v hj
end
structure Rw where
 A : Option Addr
 n : Nat
 c : Nat
 e : TypeId
 vs : List Value
def Rw.blk (r : Rw) : Option Nat := (Value.slice r.A r.n r.c).ownBlock
theorem blk_some (A : Option Addr) (n c : Nat) : (Value.slice A n c).ownBlock = A.map Addr.block := by cases A <;> rfl
structure Ow (w0 w : World) (g : Option Nat) (M : List (Nat × Value)) (L : List Ob) (O : List Rw) : Prop where
 st : St w0 w g M L
 own : ∀ (i : Nat) (r : Rw), O[i]? = some r → w.ownsRow w0.heap.size r.e 1 (.slice r.A r.n r.c) r.n r.vs
 ap : ∀ (i : Nat) (r : Rw), O[i]? = some r → ∀ b, r.blk = some b → g ≠ some b ∧ (∀ (j k : Nat) (v : Value), M[j]? = some (k, v) → b ≠ k) ∧ (∀ o ∈ L, ∀ ad, o.A = some ad → 0 < o.n → b ≠ ad.block)
 two : ∀ (i j : Nat) (r s : Rw), O[i]? = some r → O[j]? = some s → i ≠ j → ∀ b, r.blk = some b → s.blk ≠ some b
section
variable {w0 w w' : World} {g : Option Nat} {M : List (Nat × Value)} {L : List Ob} {O : List Rw}
theorem Ow.of (h : St w0 w g M L) : Ow w0 w g M L [] := ⟨h, fun i r e => by simp at e, fun i r e => by simp at e, fun i j r s e => by simp at e⟩
theorem Ow.lt (h : Ow w0 w g M L O) {i : Nat} {r : Rw} (hi : O[i]? = some r) {b : Nat} (hb : r.blk = some b) : b < w.heap.size ∧ w0.heap.size ≤ b := by
 have := (h.own i r hi).lt b hb
 exact ⟨this.2, this.1⟩
theorem Ow.go (h : Ow w0 w g M L O) (hb : Below w.heap.size w w') : Ow w0 w' g M L O :=
 ⟨h.st.go hb, fun i r hi => own_below (h.own i r hi) hb, h.ap, h.two⟩
theorem Ow.size (h : Ow w0 w g M L O) : w0.heap.size ≤ w.heap.size := h.st.size
theorem Ow.below (h : Ow w0 w g M L O) : Below w0.heap.size w0 w := h.st.below
theorem Ow.cell (h : Ow w0 w g M L O) (i : Nat) {b : Nat} {v : Value} (hi : M[i]? = some (b, v)) : w.cell? ⟨b, 0, none⟩ = some v := h.st.cell i hi
theorem Ow.free (h : Ow w0 w g M L O) (i : Nat) {b : Nat} {v : Value} (hi : M[i]? = some (b, v)) : w.frozen? ⟨b, 0, none⟩ = false := h.st.free i hi
theorem Ow.sl (h : Ow w0 w g M L O) {i : Nat} {A : Option Addr} {n c : Nat} {vs : List Value} (hi : L[i]? = some ⟨A, n, c, vs⟩) : vs.length = n ∧ n ≤ c ∧ n ≤ 1000 ∧ Sl w w.heap.size A vs := h.st.sl hi
theorem Ow.row (h : Ow w0 w g M L O) (i : Nat) {A : Option Addr} {n c : Nat} {e : TypeId} {vs : List Value} (hi : O[i]? = some ⟨A, n, c, e, vs⟩) : w.ownsRow w0.heap.size e 1 (.slice A n c) n vs := h.own i _ hi
theorem Ow.add (h : Ow w0 w g M L O) {A : Option Addr} {n c : Nat} {e : TypeId} {vs : List Value} (ho : w'.ownsRow w.heap.size e 1 (.slice A n c) n vs) (hb : Below w.heap.size w w') : Ow w0 w' g M L (O ++ [⟨A, n, c, e, vs⟩]) := by
 have h' := h.go hb
 have key : ∀ (i : Nat) (r : Rw), (O ++ [⟨A, n, c, e, vs⟩])[i]? = some r → O[i]? = some r ∨ (O.length = i ∧ r = ⟨A, n, c, e, vs⟩) := fun i r hi => by
  rcases Nat.lt_or_ge i O.length with h1 | h1
  ·rw [List.getElem?_append_left h1] at hi
   exact .inl hi
  ·rw [List.getElem?_append_right h1] at hi
   have h2 : i - O.length = 0 := by have := get_lt hi; simp at this; omega
   rw [h2] at hi
   simp at hi
   exact .inr ⟨by omega, hi.symm⟩
 have new : ∀ b, (⟨A, n, c, e, vs⟩ : Rw).blk = some b → w.heap.size ≤ b := fun b hb' => (ho.lt b hb').1
 refine ⟨h'.st, fun i r hi => ?_, fun i r hi b hb' => ?_, fun i j r s hi hj hij b hb' e2 => ?_⟩
 ·rcases key i r hi with h1 | ⟨_, rfl⟩
  ·exact h'.own i r h1
  ·exact own_more ho h.size
 ·rcases key i r hi with h1 | ⟨_, rfl⟩
  ·exact h'.ap i r h1 b hb'
  ·have h3 := new b hb'
   refine ⟨fun e => by have := (h.st.lt b e).1; omega, fun j k v hj e => by have := (h.st.box j k v hj).1; omega, fun o ho' ad ha h0 e => ?_⟩
   obtain ⟨h4, _, _, B, hB, hs, _⟩ := h.st.held o ho'
   obtain ⟨ad', ha', hlt, _⟩ := hs (by omega)
   rw [ha] at ha'
   obtain rfl := Option.some.inj ha'
   omega
 ·rcases key i r hi with h1 | ⟨h1, rfl⟩ <;> rcases key j s hj with h2 | ⟨h2, rfl⟩
  ·exact h.two i j r s h1 h2 hij b hb' e2
  ·have := (h.lt h1 hb').1; have := new b e2; omega
  ·have := (h.lt h2 e2).1; have := new b hb'; omega
  ·omega
theorem Ow.turn (h : Ow w0 w g M L O) (i : Nat) {r r' : Rw} (hi : O[i]? = some r) (hg : w.grownBy w' r.blk) (ho : w'.ownsRow w0.heap.size r'.e 1 (.slice r'.A r'.n r'.c) r'.n r'.vs) (hb : r'.blk = r.blk ∨ r'.blk = some w.heap.size) : Ow w0 w' g M L (O.set i r') := by
 have key : ∀ (j : Nat) (x : Rw), (O.set i r')[j]? = some x → (j = i ∧ x = r') ∨ (j ≠ i ∧ O[j]? = some x) := fun j x hj => by
  by_cases e : j = i
  ·subst e
   rw [List.getElem?_set_self (get_lt hi)] at hj
   simp at hj
   exact .inl ⟨rfl, hj.symm⟩
  ·rw [List.getElem?_set_ne (fun e' => e e'.symm)] at hj
   exact .inr ⟨e, hj⟩
 have low : ∀ b, r.blk = some b → w0.heap.size ≤ b := fun b hb' => (h.lt hi hb').2
 have hbel : Below w0.heap.size w0 w' := h.below.trans ((Below.refl _ _).grown hg h.size low)
 have cellk : ∀ b, b < w.heap.size → r.blk ≠ some b → w'.heap[b]? = w.heap[b]? := fun b h1 h2 => hg.block b h1 (fun e => h2 e.symm)
 refine ⟨⟨hbel, fun x e => ⟨Nat.lt_of_lt_of_le (h.st.lt x e).1 hg.size, (h.st.lt x e).2⟩, fun j b v hj => ?_, h.st.one, fun o ho' => ?_⟩, fun j x hj => ?_, fun j x hj b hb' => ?_, fun j k x y hj hk hjk b hb' e2 => ?_⟩
 ·obtain ⟨h1, h2, h3, h4, h5⟩ := h.st.box j b v hj
  have e1 := cellk b h1 (fun e => (h.ap i r hi b e).2.1 j b v hj rfl)
  exact ⟨Nat.lt_of_lt_of_le h1 hg.size, h2, (World.cell?_of_block (a := ⟨b, 0, none⟩) e1).trans h3, (World.frozen?_of_block (a := ⟨b, 0, none⟩) e1).trans h4, h5⟩
 ·obtain ⟨h1, h2, h3, B, hB, hs, hne⟩ := h.st.held o ho'
  refine ⟨h1, h2, h3, B, Nat.le_trans hB hg.size, fun hn => ?_, hne⟩
  obtain ⟨ad, hA, hbk, hcell⟩ := hs hn
  refine ⟨ad, hA, hbk, fun k u hu => ?_⟩
  rw [World.cell?_of_block (cellk _ (by rw [add_block]; omega) (by rw [add_block]; intro e; exact (h.ap i r hi _ e).2.2 o ho' ad hA (by omega) rfl))]
  exact hcell k u hu
 ·rcases key j x hj with ⟨_, rfl⟩ | ⟨hne, hj'⟩
  ·exact ho
  ·refine own_keep (h.own j x hj') hg ?_
   by_cases e : (Value.slice x.A x.n x.c).ownBlock = none
   ·exact .inl e
   ·refine .inr fun e2 => ?_
    obtain ⟨b, hb'⟩ := Option.ne_none_iff_exists'.1 e
    exact h.two j i x r hj' hi hne b hb' (by rw [← e2]; exact hb')
 ·have old : ∀ b, r'.blk = some b → (∃ b', r.blk = some b' ∧ b = b') ∨ b = w.heap.size := fun b e => by
   rcases hb with e1 | e1
   ·exact .inl ⟨b, by rw [← e1]; exact e, rfl⟩
   ·rw [e] at e1; exact .inr (Option.some.inj e1)
  rcases key j x hj with ⟨_, rfl⟩ | ⟨hne, hj'⟩
  ·rcases old b hb' with ⟨b', e1, rfl⟩ | rfl
   ·exact h.ap i r hi b e1
   ·refine ⟨fun e => by have := (h.st.lt _ e).1; omega, fun j k v hj e => by have := (h.st.box j k v hj).1; omega, fun o ho' ad ha h0 e => ?_⟩
    obtain ⟨h4, _, _, B, hB, hs, _⟩ := h.st.held o ho'
    obtain ⟨ad', ha', hlt, _⟩ := hs (by omega)
    rw [ha] at ha'
    obtain rfl := Option.some.inj ha'
    omega
  ·exact h.ap j x hj' b hb'
 ·have old : ∀ b, r'.blk = some b → r.blk = some b ∨ b = w.heap.size := fun b e => by
   rcases hb with e1 | e1
   ·exact .inl (by rw [← e1]; exact e)
   ·rw [e] at e1; exact .inr (Option.some.inj e1)
  rcases key j x hj with ⟨a1, rfl⟩ | ⟨hne, hj'⟩ <;> rcases key k y hk with ⟨a2, rfl⟩ | ⟨hne2, hk'⟩
  ·omega
  ·rcases old b hb' with e1 | rfl
   ·exact h.two i k r y hi hk' (fun e => hne2 e.symm) b e1 e2
   ·have := (h.lt hk' e2).1; omega
  ·rcases old b e2 with e1 | rfl
   ·exact h.two j i x r hj' hi hne b hb' e1
   ·have := (h.lt hj' hb').1; omega
  ·exact h.two j k x y hj' hk' hjk b hb' e2
theorem Ow.put (h : Ow w0 w g M L O) (i : Nat) {gb n c : Nat} {e : TypeId} {vs : List Value} (hi : O[i]? = some ⟨some ⟨gb, 0, none⟩, n, c, e, vs⟩) (k : Nat) (v : Value) : Ow w0 (w.setCell ⟨gb, k, none⟩ v) g M L (O.set i ⟨some ⟨gb, 0, none⟩, n, c, e, vs.set k v⟩) :=
 h.turn i hi (r' := ⟨some ⟨gb, 0, none⟩, n, c, e, vs.set k v⟩) (grown_set _ _ _) (own_put (h.own i _ hi) k v) (.inl rfl)
theorem Ow.cut (h : Ow w0 w g M L O) (i : Nat) {A : Option Addr} {n c : Nat} {e : TypeId} {vs : List Value} (hi : O[i]? = some ⟨A, n, c, e, vs⟩) {k : Nat} (hk : k ≤ n) : Ow w0 w g M L (O.set i ⟨A, k, c, e, vs.take k⟩) :=
 h.turn i hi (r' := ⟨A, k, c, e, vs.take k⟩) (World.grownBy.refl w _) (own_take (h.own i _ hi) hk) (.inl (by show (Value.slice A k c).ownBlock = (Value.slice A n c).ownBlock; rw [blk_some, blk_some]))
theorem Ow.same (h : Ow w0 w g M L O) (i : Nat) {A : Option Addr} {n c : Nat} {e : TypeId} {vs vs' : List Value} (hi : O[i]? = some ⟨A, n, c, e, vs⟩) (hv : vs = vs') : Ow w0 w g M L (O.set i ⟨A, n, c, e, vs'⟩) := by
 subst hv
 exact h.turn i hi (r' := ⟨A, n, c, e, vs⟩) (World.grownBy.refl w _) (h.own i _ hi) (.inl rfl)
theorem Ow.keep (h : Ow w0 w g M L O) (i : Nat) {A : Option Addr} {n c : Nat} {e : TypeId} {vs : List Value} (hi : O[i]? = some ⟨A, n, c, e, vs⟩) (hl : n ≤ 1000) : Ow w0 w g M (L ++ [⟨A, n, c, vs⟩]) (O.set i ⟨none, 0, 0, e, []⟩) := by
 have h1 := h.turn i hi (r' := ⟨A, n, c, e, vs⟩) (World.grownBy.refl w _) (h.own i _ hi) (.inl rfl)
 have key : ∀ (j : Nat) (x : Rw), (O.set i ⟨none, 0, 0, e, []⟩)[j]? = some x → (j = i ∧ x = ⟨none, 0, 0, e, []⟩) ∨ (j ≠ i ∧ O[j]? = some x) := fun j x hj => by
  by_cases e : j = i
  ·subst e
   rw [List.getElem?_set_self (get_lt hi)] at hj
   simp at hj
   exact .inl ⟨rfl, hj.symm⟩
  ·rw [List.getElem?_set_ne (fun e' => e e'.symm)] at hj
   exact .inr ⟨e, hj⟩
 have ho := h.own i _ hi
 refine ⟨h.st.add (Sl.of_own ho) (Nat.le_refl _) (own_len ho) (own_cap ho).1 hl fun ad ea h0 => ?_, fun j x hj => ?_, fun j x hj b hb => ?_, fun j k x y hj hk hjk b hb e2 => ?_⟩
 ·have hb : (⟨A, n, c, e, vs⟩ : Rw).blk = some ad.block := by show (Value.slice A n c).ownBlock = _; rw [ea]; rfl
  have := h.ap i _ hi _ hb
  exact ⟨this.1, this.2.1⟩
 ·rcases key j x hj with ⟨_, rfl⟩ | ⟨hne, hj'⟩
  ·exact World.ownsRow_nil _ _ _ _
  ·exact h.own j x hj'
 ·rcases key j x hj with ⟨_, rfl⟩ | ⟨hne, hj'⟩
  ·cases hb
  ·obtain ⟨a1, a2, a3⟩ := h.ap j x hj' b hb
   refine ⟨a1, a2, fun o ho' ad ea h0 => ?_⟩
   rcases List.mem_append.1 ho' with h2 | h2
   ·exact a3 o h2 ad ea h0
   ·rw [List.mem_singleton] at h2
    subst h2
    intro e3
    have hb2 : (⟨A, n, c, e, vs⟩ : Rw).blk = some b := by show (Value.slice A n c).ownBlock = _; rw [show A = some ad from ea, e3]; rfl
    exact h.two j i x _ hj' hi hne b hb hb2
 ·rcases key j x hj with ⟨a1, rfl⟩ | ⟨hne, hj'⟩ <;> rcases key k y hk with ⟨a2, rfl⟩ | ⟨hne2, hk'⟩
  ·omega
  ·cases hb
  ·cases e2
  ·exact h.two j k x y hj' hk' hjk b hb e2
theorem Ow.boxed (h : Ow w0 w g M L O) (v : Value) (t : TypeId) : Ow w0 (w.alloc (.cells #[v] t)) g (M ++ [(w.heap.size, v)]) L O := by
 have hb : Below w.heap.size w (w.alloc (.cells #[v] t)) := (Below.refl _ _).alloc (Nat.le_refl _) _
 have h' := h.go hb
 refine ⟨h.st.boxed v t, h'.own, fun i r hi b hb' => ?_, h.two⟩
 obtain ⟨a1, a2, a3⟩ := h.ap i r hi b hb'
 refine ⟨a1, fun j k u hj e => ?_, a3⟩
 rcases Nat.lt_or_ge j M.length with h1 | h1
 ·rw [List.getElem?_append_left h1] at hj
  exact a2 j k u hj e
 ·rw [List.getElem?_append_right h1] at hj
  have h2 : j - M.length = 0 := by have := get_lt hj; simp at this; omega
  rw [h2] at hj
  simp at hj
  have := (h.lt hi hb').1
  omega
theorem Ow.setv (h : Ow w0 w g M L O) (i : Nat) {b : Nat} {v : Value} (hi : M[i]? = some (b, v)) (u : Value) : Ow w0 (w.setCell ⟨b, 0, none⟩ u) g (M.set i (b, u)) L O := by
 have hg := grown_set w ⟨b, 0, none⟩ u
 have key : ∀ (j c : Nat) (x : Value), (M.set i (b, u))[j]? = some (c, x) → ∃ y, M[j]? = some (c, y) := fun j c x hj => by
  by_cases e : j = i
  ·subst e
   rw [List.getElem?_set_self (get_lt hi)] at hj
   simp at hj
   exact ⟨v, by rw [hi, hj.1]⟩
  ·rw [List.getElem?_set_ne (fun e' => e e'.symm)] at hj
   exact ⟨x, hj⟩
 refine ⟨h.st.put i hi u, fun j r hj => own_keep (h.own j r hj) hg ?_, fun j r hj x hb' => ?_, h.two⟩
 ·by_cases e : (Value.slice r.A r.n r.c).ownBlock = none
  ·exact .inl e
  ·exact .inr fun e2 => (h.ap j r hj b e2).2.1 i b v hi rfl
 ·obtain ⟨a1, a2, a3⟩ := h.ap j r hj x hb'
  refine ⟨a1, fun k c y hk => ?_, a3⟩
  obtain ⟨y', hy⟩ := key k c y hk
  exact a2 k c y' hy
theorem Ow.old (h : Ow w0 w g M L O) {A : Option Addr} {n c : Nat} {vs : List Value} (hs : Sl w0 w0.heap.size A vs) (hn : vs.length = n) (hc : n ≤ c) (hl : n ≤ 1000) : Ow w0 w g M (L ++ [⟨A, n, c, vs⟩]) O := by
 refine ⟨h.st.old hs hn hc hl, h.own, fun i r hi b hb => ?_, h.two⟩
 obtain ⟨a1, a2, a3⟩ := h.ap i r hi b hb
 refine ⟨a1, a2, fun o ho ad ea h0 => ?_⟩
 rcases List.mem_append.1 ho with h1 | h1
 ·exact a3 o h1 ad ea h0
 ·rw [List.mem_singleton] at h1
  subst h1
  obtain ⟨ad', e', hbk, _⟩ := hs (by show 0 < vs.length; rw [hn]; exact h0)
  rw [show A = some ad from ea] at e'
  obtain rfl := Option.some.inj e'
  have := (h.lt hi hb).2
  omega
theorem Ow.push (h : Ow w0 w g M L O) {A : Option Addr} {n c : Nat} {vs : List Value} {e : TypeId} (ho : w'.ownsRow w.heap.size e 1 (.slice A n c) n vs) (hl : n ≤ 1000) (hb : Below w.heap.size w w') : Ow w0 w' g M (L ++ [⟨A, n, c, vs⟩]) O := by
 have h1 := (h.add ho hb).keep O.length (A := A) (n := n) (c := c) (e := e) (vs := vs) (by rw [List.getElem?_append_right (Nat.le_refl _), Nat.sub_self]; rfl) hl
 have cut : ∀ (i : Nat) (r : Rw), O[i]? = some r → ((O ++ [(⟨A, n, c, e, vs⟩ : Rw)]).set O.length (⟨none, 0, 0, e, []⟩ : Rw))[i]? = some r := fun i r hi => by
  have := get_lt hi
  rw [List.getElem?_set_ne (by omega), List.getElem?_append_left this]
  exact hi
 exact ⟨h1.st, fun i r hi => h1.own i r (cut i r hi), fun i r hi => h1.ap i r (cut i r hi), fun i j r s hi hj => h1.two i j r s (cut i r hi) (cut j s hj)⟩
theorem Ow.drewN (h : Ow w0 w g M L O) (k : Nat) : Ow w0 (w.drewN k) g M L O := h.go (below_drewN (Below.refl _ _) k)
end
def Elem (P : Program) (t e : TypeId) (z : Value) (bytes : Nat) : Prop := P.underlying t = some (.slice e) ∧ z.cells = #[z] ∧ ∃ i, P.info? e = some i ∧ i.zero = some z ∧ i.size = 1 ∧ i.bytes = bytes
section
variable {P : Program} {w0 w : World} {g : Option Nat} {M : List (Nat × Value)} {L : List Ob} {O : List Rw} {t e : TypeId} {z : Value} {bytes : Nat}
theorem Ow.nil (h : Ow w0 w g M L O) (e : TypeId) : Ow w0 w g M L (O ++ [⟨none, 0, 0, e, []⟩]) := h.add (World.ownsRow_nil _ _ _ _) (Below.refl _ _)
theorem Ow.made (h : Ow w0 w g M L O) (e : TypeId) (z : Value) (n c : Nat) (hz : z.cells = #[z]) (hnc : n ≤ c) (hc : c ≤ maxLen) :
  Ow w0 (w.alloc (.cells (madeCells #[z] c) e)) g M L (O ++ [⟨some ⟨w.heap.size, 0, none⟩, n, c, e, List.replicate n z⟩]) := by
 have h1 := own_made w e z n c hz hnc hc
 rw [hz] at h1
 exact h.add h1 (own_box1 _ _)
theorem Elem.make (h : Elem P t e z bytes) (kl kc : IntKind) (a b : Int) (n c : Nat) (ha : a = (n : Int)) (hb : b = (c : Int)) (hnc : n ≤ c) (hbytes : bytes * c ≤ 281474976710656) (h63 : c ≤ 9223372036854775807) (w : World) :
  (Instr.makeSlice t (.int kl a) (.int kc b)).run P w = .ok (.slice (some ⟨w.heap.size, 0, none⟩) n c) (w.alloc (.cells (madeCells #[z] c) e)) := by
 obtain ⟨ht, hzc, i, hi, hz, hs, hby⟩ := h
 rw [← hzc]
 exact run_make_one t e i z ht hi hz hs kl kc a b n c ha hb hnc (by rw [hby]; exact hbytes) h63 w
theorem ow_append {ops : Array Oper} {rest : List Oper} {o : Oper} {a : Act} {Q : Exit → Act → World → Prop} (hE : Elem P t e z bytes) (h : Ow w0 w g M L O) (i : Nat) (s x : Operand) {A : Option Addr} {n c : Nat} {xs : List Value} (hi : O[i]? = some ⟨A, n, c, e, xs⟩)
  {B : Nat} {A2 : Option Addr} {m c2 : Nat} {news : List Value} (hm : news.length = m) (hr : Sl w B A2 news) (h1 : ∀ u ∈ news, u.oneCell' = true) (h63 : n + m ≤ maxLen) (hbytes : (n + m) * bytes ≤ 140737488355328)
  (hgd : o.guard = none) (ho : o.op = .call { callee := .builtin .append, args := #[s, x], argTypes := #[t, t] }) (hs : a.eval s = .slice A n c) (hx : a.eval x = .slice A2 m c2)
  (hk : ∀ A' c' w', Ow w0 w' g M L (O.set i ⟨A', n + m, c', e, xs ++ news⟩) → wpList P ops Q rest (a.put o.dst (.slice A' (n + m) c')) w') : wpList P ops Q (o :: rest) a w := by
 obtain ⟨ht, hzc, inf, hi0, hz, hsz, hby⟩ := hE
 exact wpList_append_sl w hgd s x t ho w0.heap.size e inf z bytes ht hi0 hz hsz hby (by rw [hzc]; rfl) A n c xs hs (h.own i _ hi) B A2 m c2 news hx hm hr h1 h63 hbytes h.size fun A' c' w' h2 h3 h4 =>
  hk A' c' w' (h.turn i hi (r' := ⟨A', n + m, c', e, xs ++ news⟩) h3 h2 h4)
theorem ow_append1 {ops : Array Oper} {rest : List Oper} {o : Oper} {a : Act} {Q : Exit → Act → World → Prop} (hE : Elem P t e z bytes) (h : Ow w0 w g M L O) (i : Nat) (s x : Operand) (v : Value) (tt : TypeId) {A : Option Addr} {n c : Nat} {xs : List Value} (hi : O[i]? = some ⟨A, n, c, e, xs⟩)
  (h1 : v.oneCell' = true) (h63 : n + 1 ≤ maxLen) (hbytes : (n + 1) * bytes ≤ 140737488355328)
  (hgd : o.guard = none) (ho : o.op = .call { callee := .builtin .append, args := #[s, x], argTypes := #[t, t] }) (hs : a.eval s = .slice A n c) (hx : a.eval x = .slice (some ⟨w.heap.size, 0, none⟩) 1 1)
  (hk : ∀ A' c' w', Ow w0 w' g M L (O.set i ⟨A', n + 1, c', e, xs ++ [v]⟩) → wpList P ops Q rest (a.put o.dst (.slice A' (n + 1) c')) w') : wpList P ops Q (o :: rest) a (w.alloc (.cells #[v] tt)) :=
 ow_append hE (h.go (own_box1 w _)) i s x hi (m := 1) (news := [v]) rfl (sl_new1 w tt v) (fun u hu => by rw [List.mem_singleton] at hu; subst hu; exact h1) h63 hbytes hgd ho hs hx hk
end
theorem elemI : Elem Tryz.prog 22 3 (.int .i64 0) 8 := by
 obtain ⟨i0, hi, hz0, hz1, hz2⟩ := info_parts infoI
 exact ⟨Tryz.underlying22, rfl, i0, hi, hz0, hz1, hz2⟩
namespace Na
theorem tl_case (l : List Nat) (n k : Nat) (hk : k ≤ l.length) (hT : tl l k = tl l n) : (0 < k ∧ l[k - 1]? = some 0 ∧ tl l (k - 1) = tl l n) ∨ (tl l n = k ∧ (k = 0 ∨ (0 < k ∧ ∃ b, l[k - 1]? = some b ∧ (((b : Int) == 0) = false)))) := by
 rcases Nat.eq_zero_or_pos k with h0 | h0
 ·subst h0; exact .inr ⟨hT.symm, .inl rfl⟩
 ·have hlt : k - 1 < l.length := by omega
  by_cases e : l[k - 1]? = some 0
  ·refine .inl ⟨h0, e, ?_⟩
   rw [← hT, ← tl_zero l (k - 1) e, show k - 1 + 1 = k by omega]
  ·have h2 := tl_stop l (k - 1) e
   rw [show k - 1 + 1 = k by omega] at h2
   refine .inr ⟨hT.symm.trans h2, .inr ⟨h0, l[k - 1], List.getElem?_eq_getElem hlt, ?_⟩⟩
   rw [beq_eq_false_iff_ne]
   intro e2
   exact e (by rw [List.getElem?_eq_getElem hlt]; congr 1; omega)
end Na
end Go.Proofs.YtenokdhldngkgaaGreatDoor
namespace Go.Proofs.YtenokdhldngkgaaGreatDoor
open Go.Sort
set_option linter.unusedVariables false
set_option maxRecDepth 100000
section
variable {P : Program} {md : Region.Mode} {ops : Array Oper} {C : World → Prop}
theorem any_more {Q : Exit → Act → World → Prop} : ∀ (f : Nat) (l : Array Bool) (a : Act) (w : World), wpAny P md ops Q f l a w → wpAny P md ops Q (f + 1) l a w
 | 0, l, a, w, h => ⟨fun _ => h.2, fun i hi => by rw [h.1] at hi; cases hi⟩
 | f + 1, l, a, w, h => ⟨h.1, fun i hi => wpOp_mono (fun a' w' => any_more f _ a' w') (h.2 i hi)⟩
theorem any_add {Q : Exit → Act → World → Prop} (l : Array Bool) (a : Act) (w : World) (g : Nat) (h : wpAny P md ops Q g l a w) : ∀ f : Nat, wpAny P md ops Q (f + g) l a w
 | 0 => by rw [Nat.zero_add]; exact h
 | f + 1 => by rw [Nat.succ_add]; exact any_more _ _ _ _ (any_add l a w g h f)
theorem anyQ_walk {Q : Act → Prop} (hs : Region.noSelect ops = true) : ∀ (l : List Oper) (k : Nat) (listed : Array Bool) (a : Act), (∀ j, j < l.length → l[j]? = ops[k + j]?) →
  Region.lexFrom md ops l.length k listed = true → wpQuiet P ops C Q l a → wpAnyQ P md ops C Q l.length listed a
 | [], _, _, _, _, hB, h => ⟨List.isEmpty_iff.1 hB, h⟩
 | o :: l, k, listed, a, hl, hB, h => by
  have h0 : ops[k]? = some o := (hl 0 (Nat.succ_pos _)).symm
  rw [List.length_cons, Region.lexFrom, Bool.and_eq_true, Bool.and_eq_true] at hB
  have hq : qOp P ops C k (wpQuiet P ops C Q l) a := by unfold qOp; rw [h0]; exact h
  obtain ⟨v, hy, hK⟩ := yieldsIn_of_qOp h0 hq
  refine wpAnyQ_first h0 (Region.noSelect_spec hs) l.length listed a (Region.free_spec h0 hB.1.2) (by simpa using hB.1.1) hy ?_
  refine anyQ_walk hs l (k + 1) _ _ (fun j hj => ?_) hB.2 hK
  have := hl (j + 1) (by simp; omega)
  rw [show k + 1 + j = k + (j + 1) by omega, ← this, List.getElem?_cons_succ]
def backs (ops : Array Oper) : Bool := (List.range ops.size).all fun i => ((ops[i]?).map fun o => o.after.all fun e => decide (e.on < i)).getD true
theorem backs_spec (h : backs ops = true) {j : Nat} {o : Oper} (ho : ops[j]? = some o) : ∀ e ∈ o.after, e.on < j := fun e he => by
 have hj : j < ops.size := (Array.getElem?_eq_some_iff.1 ho).1
 have h1 := List.all_eq_true.1 h j (List.mem_range.2 hj)
 rw [ho] at h1
 exact of_decide_eq_true (Array.all_eq_true_iff_forall_mem.1 (show (o.after.all fun e => decide (e.on < j)) = true from h1) e he)
structure Twin (ops : Array Oper) (n : Nat) (l l' : Array Bool) : Prop where
 size : l'.size = ops.size
 head : ∀ i, i < n → l'.getD i false = l.getD i false
 tail : ∀ i, n ≤ i → i < ops.size → l'.getD i false = true
theorem getD_tf {l : Array Bool} {i : Nat} (hi : i < l.size) : l.getD i true = l.getD i false := by
 rw [Array.getD_eq_getD_getElem?, Array.getD_eq_getD_getElem?, Array.getElem?_eq_getElem hi]; rfl
theorem Twin.set {n i : Nat} {l l' : Array Bool} (h : Twin ops n l l') (hs : l.size = ops.size) (hi : i < n) (hn : n ≤ ops.size) : Twin ops n (l.setIfInBounds i true) (l'.setIfInBounds i true) := by
 refine ⟨by rw [Array.size_setIfInBounds]; exact h.size, fun j hj => ?_, fun j h1 h2 => ?_⟩
 ·by_cases e : i = j
  ·subst e
   rw [Array.getD_eq_getD_getElem?, Array.getD_eq_getD_getElem?, Array.getElem?_setIfInBounds_self_of_lt (by rw [h.size]; omega), Array.getElem?_setIfInBounds_self_of_lt (by rw [hs]; omega)]
  ·have := h.head j hj
   rw [Array.getD_eq_getD_getElem?, Array.getD_eq_getD_getElem?] at this ⊢
   rw [Array.getElem?_setIfInBounds_ne e, Array.getElem?_setIfInBounds_ne e]
   exact this
 ·have := h.tail j h1 h2
  rw [Array.getD_eq_getD_getElem?] at this ⊢
  rw [Array.getElem?_setIfInBounds_ne (by omega)]
  exact this
theorem Twin.ready {n i : Nat} {l l' : Array Bool} (h : Twin ops n l l') (hl : l.size = ops.size) (hb : backs ops = true) (hi : i < n) (hn : n ≤ ops.size) : i ∈ Region.ready md ops l ↔ i ∈ Region.ready md ops l' := by
 rw [Go.mem_ready, Go.mem_ready]
 have e1 : l'.getD i true = l.getD i true := by rw [getD_tf (by rw [h.size]; omega), getD_tf (by rw [hl]; omega), h.head i hi]
 rw [e1]
 refine and_congr_right fun _ => ⟨fun ⟨o, ho, hd⟩ => ⟨o, ho, fun e he hbd => ?_⟩, fun ⟨o, ho, hd⟩ => ⟨o, ho, fun e he hbd => ?_⟩⟩
 ·have := backs_spec hb ho e he
  rw [h.head _ (by omega)]
  exact hd e he hbd
 ·have := backs_spec hb ho e he
  rw [← h.head _ (by omega)]
  exact hd e he hbd
theorem head_done {n : Nat} {l l' : Array Bool} (h : Twin ops n l l') (hb : backs ops = true) (hn : n ≤ ops.size) (hr : Region.ready md ops l' = []) : ∀ j, j < n → l'.getD j false = true := by
 intro j
 induction j using Nat.strongRecOn with
 | _ j ih =>
  intro hj
  cases e : l'.getD j false with
  | true => rfl
  | false =>
   exfalso
   have h1 : j ∈ Region.ready md ops l' := by
    rw [Go.mem_ready, getD_tf (by rw [h.size]; omega), e]
    have ho : ops[j]? = some ops[j] := Array.getElem?_eq_getElem (by omega)
    exact ⟨rfl, _, ho, fun x hx _ => by have := backs_spec hb ho x hx; exact ih _ this (by omega)⟩
   rw [hr] at h1
   cases h1
theorem anyQ_tail {n g : Nat} {Q : Act → Prop} {Q' : Exit → Act → World → Prop} (hs : Region.sinkB md ops n = true) (hc : Region.chainB md ops n = true) (hn : n < ops.size) (hb : backs ops = true)
  (hQ : ∀ listed a w, C w → Q a → HeadInv md ops n listed → (∀ i, i < n → listed.getD i false = true) → wpAny P md ops Q' g listed a w) :
  ∀ (f : Nat) (l l' : Array Bool) (a : Act) (w : World), HeadInv md ops n l → Twin ops n l l' → C w → wpAnyQ P md ops C Q f l' a → wpAny P md ops Q' (f + g) l a w := by
 have fin : ∀ (l l' : Array Bool) (a : Act) (w : World), HeadInv md ops n l → Twin ops n l l' → C w → Q a → Region.ready md ops l' = [] → wpAny P md ops Q' g l a w := fun l l' a w inv ht hw hq hr =>
  hQ l a w hw hq inv fun i hi => by rw [← ht.head i hi]; exact head_done ht hb (by omega) hr i hi
 intro f
 induction f with
 | zero => intro l l' a w inv ht hw h; rw [Nat.zero_add]; exact fin l l' a w inv ht hw h.2 h.1
 | succ f ih =>
  intro l l' a w inv ht hw h
  by_cases hr : Region.ready md ops l' = []
  ·exact any_add _ _ _ _ (fin l l' a w inv ht hw (h.1 hr) hr) _
  ·obtain ⟨i0, hi0⟩ := List.exists_mem_of_ne_nil _ hr
   have hi0n : i0 < n := by
    rcases Nat.lt_or_ge i0 n with h1 | h1
    ·exact h1
    ·obtain ⟨h2, o, ho, _⟩ := Go.mem_ready.1 hi0
     have h3 : i0 < ops.size := (Array.getElem?_eq_some_iff.1 ho).1
     rw [getD_tf (by rw [ht.size]; exact h3), ht.tail i0 h1 h3] at h2
     cases h2
   have hi0l := (ht.ready inv.size hb hi0n (by omega)).2 hi0
   have hwait := tail_waits hs hc hn inv _ i0 rfl hi0n (Go.mem_ready.1 hi0l).1
   rw [Nat.succ_add]
   refine ⟨fun e => (by rw [e] at hi0l; cases hi0l), fun i hi => ?_⟩
   have hin : i < n := by
    rcases Nat.lt_or_ge i n with h1 | h1
    ·exact h1
    ·exact absurd hi (hwait i h1)
   exact wpOp_of_qOp hw (fun a' w' hw' h' => ih _ _ a' w' (inv.set hi hin) (ht.set inv.size hin (by omega)) hw' h') (h.2 i ((ht.ready inv.size hb hin (by omega)).1 hi))
def doneHead (n m : Nat) : Array Bool := (List.replicate n true ++ List.replicate m false).toArray
def undoneHead (n m : Nat) : Array Bool := (List.replicate n false ++ List.replicate m true).toArray
theorem doneHead_of {n : Nat} {l : Array Bool} (inv : HeadInv md ops n l) (hn : n ≤ ops.size) (h : ∀ i, i < n → l.getD i false = true) : l = doneHead n (ops.size - n) := by
 have hs := inv.size
 apply Array.ext
 ·unfold doneHead; simp; omega
 ·intro i h1 h2
  have e1 : l[i] = l.getD i false := by rw [Array.getD_eq_getD_getElem?, Array.getElem?_eq_getElem h1]; rfl
  rw [e1]
  have e2 : (doneHead n (ops.size - n))[i] = (doneHead n (ops.size - n)).getD i false := by rw [Array.getD_eq_getD_getElem?, Array.getElem?_eq_getElem h2]; rfl
  have e3 : (doneHead n (ops.size - n)).getD i false = decide (i < n) := by
   rw [Array.getD_eq_getD_getElem?]
   unfold doneHead
   rw [List.getElem?_toArray]
   rcases Nat.lt_or_ge i n with h3 | h3
   ·rw [List.getElem?_append_left (by simpa using h3), List.getElem?_replicate, if_pos h3, decide_eq_true h3]
    rfl
   ·rw [List.getElem?_append_right (by simpa using h3), List.getElem?_replicate, List.length_replicate, if_pos (by have := inv.size; omega), decide_eq_false (by omega)]
    rfl
  rw [e2, e3]
  rcases Nat.lt_or_ge i n with h3 | h3
  ·rw [h i h3, decide_eq_true h3]
  ·have h4 := inv.tail i h3 (by omega)
   rw [getD_tf h1] at h4
   rw [h4, decide_eq_false (by omega)]
def tailB (ops : Array Oper) (n : Nat) : Bool :=
 Region.noSelect ops && (decide (n < ops.size) && (backs ops && (Region.sinkB .any ops n && (Region.chainB .any ops n && (Region.seqB .any ops (ops.size - n) n (doneHead n (ops.size - n)) && Region.lexFrom .any ops n 0 (undoneHead n (ops.size - n)))))))
theorem region_tail {id : Nat} {Q : Exit → Act → World → Prop} {a : Act} {w : World} {l : List Oper} (n : Nat) (hm : P.follows .mixedOrders = true) (hB : tailB l.toArray n = true) (hC : C { w with drawn := w.drawn + 1 })
  (h : wpQuiet P l.toArray C (fun a' => ∀ w', C w' → wpList P l.toArray Q (l.drop n) a' w') (l.take n) a) : (Code.region id l.toArray true).wp P Q a w := by
 simp only [tailB, Bool.and_eq_true, decide_eq_true_eq] at hB
 obtain ⟨hsel, hn, hbk, hs, hc, hseq, hlex⟩ := hB
 have hn' : n < l.length := by simpa using hn
 have htl : (l.take n).length = n := by simp; omega
 have hdl : (l.drop n).length = l.toArray.size - n := by simp
 have hz : l.toArray.size = l.length := by simp
 have inv0 : HeadInv .any l.toArray n (Array.replicate l.toArray.size false) :=
  ⟨by simp, fun j oj _ hl => (by rw [getD_replicate_false] at hl; cases hl), fun t _ ht => getD_in (by simpa using ht) (getD_replicate_false _ _)⟩
 have tw0 : Twin l.toArray n (Array.replicate l.toArray.size false) (undoneHead n (l.toArray.size - n)) := by
  refine ⟨by unfold undoneHead; simp; omega, fun i hi => ?_, fun i h1 h2 => ?_⟩
  ·rw [getD_replicate_false, Array.getD_eq_getD_getElem?]
   unfold undoneHead
   rw [List.getElem?_toArray, List.getElem?_append_left (by simpa using hi), List.getElem?_replicate, if_pos hi]
   rfl
  ·rw [Array.getD_eq_getD_getElem?]
   unfold undoneHead
   rw [List.getElem?_toArray, List.getElem?_append_right (by simpa using h1), List.getElem?_replicate, List.length_replicate, if_pos (by omega)]
   rfl
 refine wp_region_any hm ?_
 have hA := anyQ_walk (C := C) (md := .any) hsel (l.take n) 0 (undoneHead n (l.toArray.size - n)) a (fun j hj => by
  rw [htl] at hj
  rw [Nat.zero_add, List.getElem?_toArray, List.getElem?_take, if_pos hj]) (by rw [htl]; exact hlex) h
 have hfin := anyQ_tail (P := P) (C := C) (g := l.toArray.size - n) (Q' := Q) hs hc hn hbk (fun listed a' w' hw' hq inv hd => by
  have e := doneHead_of inv (by omega) hd
  subst e
  have := wpAny_of_seq (P := P) (md := .any) (Q' := Q) (l.drop n) n (doneHead n (l.toArray.size - n)) a' w' (fun j => by simp [List.getElem?_drop]) (by rw [hdl]; exact hseq) (hq w' hw')
  rwa [hdl] at this) _ _ _ a _ inv0 tw0 hC hA
 rw [htl, show n + (l.toArray.size - n) = l.toArray.size by omega] at hfin
 exact hfin
theorem region_below_tail {id : Nat} {Q : Exit → Act → World → Prop} {a : Act} {w : World} {l : List Oper} (n : Nat) (hm : P.follows .mixedOrders = true) (hB : tailB l.toArray n = true)
  (h : wpQuiet P l.toArray (fun w' => ∃ p : Regrown, w' = grow (redrawn w p.d) p.os) (fun a' => ∀ w', (∃ p : Regrown, w' = grow (redrawn w p.d) p.os) → wpList P l.toArray Q (l.drop n) a' w') (l.take n) a) : (Code.region id l.toArray true).wp P Q a w :=
 region_tail n hm hB ⟨⟨w.drawn + 1, #[]⟩, by rw [grow_empty]; rfl⟩ h
end
end Go.Proofs.YtenokdhldngkgaaGreatDoor
namespace Go.Proofs.YtenokdhldngkgaaGreatDoor
open Go.RowKit
set_option linter.unusedVariables false
set_option maxRecDepth 100000
section
variable {P : Program} {w0 w w' : World} {g : Option Nat} {M : List (Nat × Value)} {L : List Ob} {O : List Rw} {t e : TypeId} {z : Value} {bytes : Nat}
theorem Ow.drew (h : Ow w0 w g M L O) : Ow w0 w.drew g M L O := h.go (Below.refl _ _).drew
theorem Ow.few (h : Ow w0 w g M L O) (k : Nat) : Ow w0 w g M L (O.take k) := by
 have key : ∀ (i : Nat) (r : Rw), (O.take k)[i]? = some r → O[i]? = some r := fun i r hi => by
  rw [List.getElem?_take] at hi
  split at hi
  ·exact hi
  ·cases hi
 exact ⟨h.st, fun i r hi => h.own i r (key i r hi), fun i r hi => h.ap i r (key i r hi), fun i j r s hi hj => h.two i j r s (key i r hi) (key j s hj)⟩
theorem Ow.lit1 (h : Ow w0 w g M L O) (v : Value) (e : TypeId) : Ow w0 (w.alloc (.cells #[v] e)) g M L (O ++ [⟨some ⟨w.heap.size, 0, none⟩, 1, 1, e, [v]⟩]) :=
 h.add (World.ownsRow_lit (base := w.heap.size) (e := e) (size := 1) w #[v] 1 (Nat.le_refl _) (by unfold maxLen; omega) rfl) (own_box1 _ _)
theorem owp_append {o : Oper} {a : Act} {K : Act → World → Prop} {Q : Exit → Act → World → Prop} (hE : Elem P t e z bytes) (h : Ow w0 w g M L O) (i : Nat) (s x : Operand) {A : Option Addr} {n c : Nat} {xs : List Value} (hi : O[i]? = some ⟨A, n, c, e, xs⟩)
  {B : Nat} {A2 : Option Addr} {m c2 : Nat} {news : List Value} (hm : news.length = m) (hr : Sl w B A2 news) (h1 : ∀ u ∈ news, u.oneCell' = true) (h63 : n + m ≤ maxLen) (hbytes : (n + m) * bytes ≤ 140737488355328)
  (ho : o.op = .call { callee := .builtin .append, args := #[s, x], argTypes := #[t, t] }) (hs : a.eval s = .slice A n c) (hx : a.eval x = .slice A2 m c2)
  (hk : ∀ A' c' w', Ow w0 w' g M L (O.set i ⟨A', n + m, c', e, xs ++ news⟩) → K (a.put o.dst (.slice A' (n + m) c')) w') : o.wp P a w K Q := by
 obtain ⟨ht, hzc, inf, hi0, hz, hsz, hby⟩ := hE
 exact wp_append_sl w s x t ho w0.heap.size e inf z bytes ht hi0 hz hsz hby (by rw [hzc]; rfl) A n c xs hs (h.own i _ hi) B A2 m c2 news hx hm hr h1 h63 hbytes h.size fun A' c' w' h2 h3 h4 =>
  hk A' c' w' (h.turn i hi (r' := ⟨A', n + m, c', e, xs ++ news⟩) h3 h2 h4)
theorem Ow.less (h : Ow w0 w g M L O) {L' : List Ob} (hL : ∀ o ∈ L', o ∈ L) : Ow w0 w g M L' O :=
 ⟨h.st.sub (fun _ h => h) h.st.one hL, h.own, fun i r hi b hb => ⟨(h.ap i r hi b hb).1, (h.ap i r hi b hb).2.1, fun o ho => (h.ap i r hi b hb).2.2 o (hL o ho)⟩, h.two⟩
theorem Ow.few2 (h : Ow w0 w g M L O) {M' : List (Nat × Value)} {L' : List Ob} (hM : M' = M.take M'.length) (hL : ∀ o ∈ L', o ∈ L) : Ow w0 w g M' L' O := by
 have key : ∀ (i : Nat) (p : Nat × Value), M'[i]? = some p → M[i]? = some p := fun i p hp => by
  rw [hM, List.getElem?_take] at hp
  split at hp
  ·exact hp
  ·cases hp
 exact ⟨h.st.sub (fun p hp => by
   obtain ⟨i, hi⟩ := List.mem_iff_getElem?.1 hp
   exact List.mem_of_getElem? (key i p hi)) (fun i j b u v hi hj => h.st.one i j b u v (key i _ hi) (key j _ hj)) hL, h.own, fun i r hi b hb => ⟨(h.ap i r hi b hb).1, fun j k v hj => (h.ap i r hi b hb).2.1 j k v (key j _ hj), fun o ho => (h.ap i r hi b hb).2.2 o (hL o ho)⟩, h.two⟩
theorem Ow.tail {r : Rw} (h : Ow w0 w g M L (r :: O)) : Ow w0 w g M L O :=
 ⟨h.st, fun i r hi => h.own (i + 1) r hi, fun i r hi => h.ap (i + 1) r hi, fun i j r s hi hj hij => h.two (i + 1) (j + 1) r s hi hj (by omega)⟩
theorem Ow.fewM {l : List (Nat × Value)} (h : Ow w0 w g (M ++ l) L O) : Ow w0 w g M L O := h.few2 (by rw [List.take_left]) (fun _ h => h)
theorem Ow.fewO {l : List Rw} (h : Ow w0 w g M L (O ++ l)) : Ow w0 w g M L O := by
 have := h.few O.length
 rwa [List.take_left] at this
theorem get_r {α : Type} (M l : List α) (j : Nat) : (M ++ l)[M.length + j]? = l[j]? := by rw [List.getElem?_append_right (by omega)]; congr 1; omega
theorem Ow.got {w0 w : World} {g : Option Nat} {M : List (Nat × Value)} {L Ls : List Ob} {O : List Rw} {t : Nat} {o : Ob} (h : Ow w0 w g M (L ++ Ls) O) (r : Ls[t]? = some o) : (L ++ Ls)[L.length + t]? = some o := (get_r _ _ _).trans r
theorem set_r {α : Type} (M l : List α) (j : Nat) (x : α) : (M ++ l).set (M.length + j) x = M ++ l.set j x := by rw [List.set_append_right _ _ (by omega)]; congr 2; omega
theorem get_l {α : Type} (M l : List α) {k : Nat} (hk : k < M.length) : (M ++ l)[k]? = M[k]? := List.getElem?_append_left hk
theorem Ow.arr (h : Ow w0 w g M L O) (xs : Array Value) (k : Nat) (hx : xs.size = k) (hk : k ≤ 1000) (T : TypeId) : Ow w0 (w.alloc (.cells xs T)) g M L (O ++ [⟨some ⟨w.heap.size, 0, none⟩, k, k, T, xs.toList⟩]) :=
 h.add (World.ownsRow_lit (base := w.heap.size) (e := T) (size := 1) w xs k (Nat.le_refl _) (by unfold maxLen; omega) (by omega)) (own_box1 _ _)
theorem Ow.rowHeap (h : Ow w0 w g M L O) (i : Nat) {b k : Nat} {T : TypeId} {xs : List Value} (hi : O[i]? = some ⟨some ⟨b, 0, none⟩, k, k, T, xs⟩) : w.heap[b]? = some (.cells xs.toArray T (0, 0)) ∧ xs.length = k := by
 obtain ⟨hl, ⟨h1, _⟩ | ⟨g', cap, cur, e, _, hg, _, _, hs, ht⟩⟩ := h.own i _ hi
 ·cases h1
 ·have e1 : (⟨b, 0, none⟩ : Addr) = ⟨g', 0, none⟩ ∧ k = cap := by
   injection e with e1 e2 e3
   exact ⟨Option.some.inj e1, e3⟩
  obtain ⟨e2, e3⟩ := e1
  injection e2 with e4
  rw [List.take_of_length_le (by rw [Array.length_toList, hs, ← e3]; exact Nat.le_refl _)] at ht
  have hl' : xs.length = k * 1 := hl
  refine ⟨?_, by omega⟩
  rw [e4, hg]
  show some (Obj.cells cur T (0, 0)) = some (Obj.cells xs.toArray T (0, 0))
  have ht' : cur.toList = xs := ht
  rw [← ht']
theorem Ow.putRow (h : Ow w0 w g M L O) (i : Nat) {b k : Nat} {T : TypeId} {xs : List Value} (hi : O[i]? = some ⟨some ⟨b, 0, none⟩, k, k, T, xs⟩) (ys : Array Value) (hy : ys.size = k) (hk : k ≤ 1000) : Ow w0 (w.setRow b ys) g M L (O.set i ⟨some ⟨b, 0, none⟩, k, k, T, ys.toList⟩) := by
 obtain ⟨h1, h2⟩ := h.rowHeap i hi
 refine h.turn i hi (r' := ⟨some ⟨b, 0, none⟩, k, k, T, ys.toList⟩) ⟨rfl, rfl, rfl, by simp [World.setRow], fun q hq hne => setRow_other _ _ _ _ (fun e => hne (by rw [e]; rfl))⟩ ⟨by show ys.toList.length = k * 1; simp [hy], .inr ⟨b, k, ys, rfl, (h.lt hi rfl).2, setRow_heap w b xs.toArray ys T (0, 0) h1, Nat.le_refl _, by unfold maxLen; omega, by omega, ?_⟩⟩ (.inl rfl)
 exact List.take_of_length_le (by simp [hy])
theorem Ow.re (h : Ow w0 w g M L O) {O' : List Rw} (f : Nat → Nat) (hf : ∀ i j, i < O'.length → j < O'.length → f i = f j → i = j) (hO : ∀ (i : Nat) (r : Rw), O'[i]? = some r → O[f i]? = some r) : Ow w0 w g M L O' :=
 ⟨h.st, fun i r hi => h.own (f i) r (hO i r hi), fun i r hi => h.ap (f i) r (hO i r hi), fun i j r s hi hj hij => h.two (f i) (f j) r s (hO i r hi) (hO j s hj) fun e => hij (hf i j (get_lt hi) (get_lt hj) e)⟩
end
end Go.Proofs.YtenokdhldngkgaaGreatDoor

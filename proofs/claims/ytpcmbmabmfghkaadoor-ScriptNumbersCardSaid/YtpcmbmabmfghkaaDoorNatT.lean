/- Numbers and variables that are held while calls go on. -/
import Derived.Test.YtpcmbmabmfghkaaDoorNatJ
namespace Go.Proofs.YtpcmbmabmfghkaaDoor
open Go.RowKit
set_option linter.unusedVariables false
set_option maxRecDepth 100000
structure Ob where
  A : Option Addr
  n : Nat
  c : Nat
  vs : List Value
/-- what is held: dice in block g, variables of one cell, lists that can be read -/
structure St (w0 w : World) (g : Option Nat) (M : List (Nat × Value)) (L : List Ob) : Prop where
  below : Below w0.heap.size w0 w
  lt : ∀ x, g = some x → x < w.heap.size ∧ w0.heap.size ≤ x
  box : ∀ (i b : Nat) (v : Value), M[i]? = some (b, v) → b < w.heap.size ∧ w0.heap.size ≤ b ∧ w.cell? ⟨b, 0, none⟩ = some v ∧ w.frozen? ⟨b, 0, none⟩ = false ∧ g ≠ some b
  one : ∀ (i j b : Nat) (u v : Value), M[i]? = some (b, u) → M[j]? = some (b, v) → i = j
  held : ∀ o ∈ L, o.vs.length = o.n ∧ o.n ≤ o.c ∧ o.n ≤ 1000 ∧ ∃ B, B ≤ w.heap.size ∧ Sl w B o.A o.vs ∧ (∀ ad, o.A = some ad → 0 < o.n → g ≠ some ad.block ∧ ∀ (i b : Nat) (v : Value), M[i]? = some (b, v) → ad.block ≠ b)
theorem St.refl (w : World) : St w w none [] [] := ⟨Below.refl _ _, fun x e => (by cases e), fun i b v h => (by simp at h), fun i j b u v h => (by simp at h), fun o h => (by cases h)⟩
section
variable {w0 w w' : World} {g : Option Nat} {M : List (Nat × Value)} {L : List Ob}
theorem St.size (h : St w0 w g M L) : w0.heap.size ≤ w.heap.size := h.below.size
theorem St.go (h : St w0 w g M L) (hb : Below w.heap.size w w') : St w0 w' g M L :=
  ⟨h.below.trans (hb.mono h.size), fun x e => ⟨Nat.lt_of_lt_of_le (h.lt x e).1 hb.size, (h.lt x e).2⟩, fun i b v hi => by
    obtain ⟨h1, h2, h3, h4, h5⟩ := h.box i b v hi
    exact ⟨Nat.lt_of_lt_of_le h1 hb.size, h2, (hb.cell (p := ⟨b, 0, none⟩) h1).trans h3, (hb.frozen (p := ⟨b, 0, none⟩) h1).trans h4, h5⟩, h.one, fun o ho => by
    obtain ⟨h1, h2, h3, B, hB, hs, hne⟩ := h.held o ho
    exact ⟨h1, h2, h3, B, Nat.le_trans hB hb.size, hs.below (hb.mono hB), hne⟩⟩
theorem St.add (h : St w0 w g M L) {A : Option Addr} {n c B : Nat} {vs : List Value} (hs : Sl w B A vs) (hB : B ≤ w.heap.size) (hn : vs.length = n) (hc : n ≤ c) (hl : n ≤ 1000)
    (hne : ∀ ad, A = some ad → 0 < n → g ≠ some ad.block ∧ ∀ (i b : Nat) (v : Value), M[i]? = some (b, v) → ad.block ≠ b) : St w0 w g M (L ++ [⟨A, n, c, vs⟩]) :=
  ⟨h.below, h.lt, h.box, h.one, fun o ho => by
    rcases List.mem_append.1 ho with h1 | h1
    · exact h.held o h1
    · rw [List.mem_singleton] at h1
      subst h1
      exact ⟨hn, hc, hl, B, hB, hs, hne⟩⟩
/-- a list that lay before everything of the call's own -/
theorem St.old (h : St w0 w g M L) {A : Option Addr} {n c : Nat} {vs : List Value} (hs : Sl w0 w0.heap.size A vs) (hn : vs.length = n) (hc : n ≤ c) (hl : n ≤ 1000) : St w0 w g M (L ++ [⟨A, n, c, vs⟩]) := by
  refine h.add ((hs.below h.below)) h.size hn hc hl fun ad e h0 => ?_
  obtain ⟨ad', e', hb, _⟩ := hs (by omega)
  rw [e] at e'
  obtain rfl := Option.some.inj e'
  exact ⟨fun e2 => by have := (h.lt _ e2).2; omega, fun i b v hi e2 => by have := (h.box i b v hi).2.1; omega⟩
theorem St.push (h : St w0 w g M L) {A : Option Addr} {n c : Nat} {vs : List Value} {e : TypeId} (ho : w'.ownsRow w.heap.size e 1 (.slice A n c) n vs) (hl : n ≤ 1000) (hb : Below w.heap.size w w') : St w0 w' g M (L ++ [⟨A, n, c, vs⟩]) := by
  refine (h.go hb).add (Sl.of_own ho) (Nat.le_refl _) (own_len ho) (own_cap ho).1 hl fun ad e h0 => ?_
  obtain ⟨g', hg', h1, _⟩ := own_form ho h0
  rw [e] at hg'
  obtain rfl := Option.some.inj hg'
  exact ⟨fun e2 => by have := (h.lt _ e2).1; simp only at this; omega, fun i b v hi e2 => by have := (h.box i b v hi).1; simp only at e2; omega⟩
theorem St.roll {x : Nat} (h : St w0 w (some x) M L) (hg : w.grownBy w' (some x)) : St w0 w' (some x) M L := by
  have hx := h.lt x rfl
  refine ⟨h.below.trans (below_only hg h.size hx.2), fun y e => ⟨Nat.lt_of_lt_of_le (h.lt y e).1 hg.size, (h.lt y e).2⟩, fun i b v hi => ?_, h.one, fun o ho => ?_⟩
  · obtain ⟨h1, h2, h3, h4, h5⟩ := h.box i b v hi
    have e1 := hg.block b h1 (fun e => h5 e.symm)
    exact ⟨Nat.lt_of_lt_of_le h1 hg.size, h2, (World.cell?_of_block (a := ⟨b, 0, none⟩) e1).trans h3, (World.frozen?_of_block (a := ⟨b, 0, none⟩) e1).trans h4, h5⟩
  · obtain ⟨h1, h2, h3, B, hB, hs, hne⟩ := h.held o ho
    refine ⟨h1, h2, h3, B, Nat.le_trans hB hg.size, fun hn => ?_, hne⟩
    obtain ⟨ad, hA, hbk, hcell⟩ := hs hn
    refine ⟨ad, hA, hbk, fun k u hu => ?_⟩
    rw [World.cell?_of_block (hg.block _ (by rw [add_block]; omega) (by rw [add_block]; intro e; exact (hne ad hA (by omega)).1 e.symm))]
    exact hcell k u hu
/-- a new variable -/
theorem St.boxed (h : St w0 w g M L) (v : Value) (t : TypeId) : St w0 (w.alloc (.cells #[v] t)) g (M ++ [(w.heap.size, v)]) L := by
  have hb : Below w.heap.size w (w.alloc (.cells #[v] t)) := (Below.refl _ _).alloc (Nat.le_refl _) _
  have h' := h.go hb
  have bV := Boxed.new w t v
  have key : ∀ (i b : Nat) (u : Value), (M ++ [(w.heap.size, v)])[i]? = some (b, u) → M[i]? = some (b, u) ∨ (i = M.length ∧ b = w.heap.size ∧ u = v) := fun i b u hi => by
    rcases Nat.lt_or_ge i M.length with h1 | h1
    · rw [List.getElem?_append_left h1] at hi
      exact .inl hi
    · rw [List.getElem?_append_right h1] at hi
      have h2 : i - M.length = 0 := by
        have := get_lt hi
        simp at this
        omega
      rw [h2] at hi
      simp at hi
      exact .inr ⟨by omega, hi.1.symm, hi.2.symm⟩
  refine ⟨h'.below, h'.lt, fun i b u hi => ?_, fun i j b u x hi hj => ?_, fun o ho => ?_⟩
  · rcases key i b u hi with h1 | ⟨_, rfl, rfl⟩
    · exact h'.box i b u h1
    · exact ⟨by simp, h.size, bV.cell, bV.frozen, fun e => by have := (h.lt _ e).1; omega⟩
  · rcases key i b u hi with h1 | ⟨h1, h2, _⟩ <;> rcases key j b x hj with k1 | ⟨k1, k2, _⟩
    · exact h.one i j b u x h1 k1
    · have := (h.box i b u h1).1; omega
    · have := (h.box j b x k1).1; omega
    · omega
  · obtain ⟨h1, h2, h3, B, hB, hs, hne⟩ := h.held o ho
    refine ⟨h1, h2, h3, B, Nat.le_trans hB hb.size, hs.below (hb.mono hB), fun ad e h0 => ⟨(hne ad e h0).1, fun i b u hi => ?_⟩⟩
    rcases key i b u hi with k1 | ⟨_, rfl, _⟩
    · exact (hne ad e h0).2 i b u k1
    · obtain ⟨ad', e', hbk, _⟩ := hs (by omega)
      rw [e] at e'
      obtain rfl := Option.some.inj e'
      omega
/-- a variable gets another value -/
theorem St.put (h : St w0 w g M L) (i : Nat) {b : Nat} {v : Value} (hi : M[i]? = some (b, v)) (u : Value) : St w0 (w.setCell ⟨b, 0, none⟩ u) g (M.set i (b, u)) L := by
  obtain ⟨h1, h2, h3, h4, h5⟩ := h.box i b v hi
  have key : ∀ (j c : Nat) (x : Value), (M.set i (b, u))[j]? = some (c, x) → (j = i ∧ c = b ∧ x = u) ∨ (j ≠ i ∧ M[j]? = some (c, x)) := fun j c x hj => by
    by_cases e : j = i
    · subst e
      rw [List.getElem?_set_self (get_lt hi)] at hj
      simp at hj
      exact .inl ⟨rfl, hj.1.symm, hj.2.symm⟩
    · rw [List.getElem?_set_ne (fun e' => e e'.symm)] at hj
      exact .inr ⟨e, hj⟩
  have hsz : (w.setCell ⟨b, 0, none⟩ u).heap.size = w.heap.size := by simp [World.setCell]
  refine ⟨h.below.setCell (p := ⟨b, 0, none⟩) h2 _, fun x e => by rw [hsz]; exact h.lt x e, fun j c x hj => ?_, fun j k c x y hj hk => ?_, fun o ho => ?_⟩
  · rcases key j c x hj with ⟨_, rfl, rfl⟩ | ⟨hne, hj'⟩
    · exact ⟨by rw [hsz]; exact h1, h2, cell_of_set _ h3, by rw [World.frozen?_setCell]; exact h4, h5⟩
    · obtain ⟨k1, k2, k3, k4, k5⟩ := h.box j c x hj'
      have hcb : c ≠ b := fun e => by subst e; exact hne (h.one j i c x v hj' hi)
      exact ⟨by rw [hsz]; exact k1, k2, by rw [World.cell?_setCell_other _ _ _ _ (fun e => hcb (congrArg Addr.block e).symm)]; exact k3, by rw [World.frozen?_setCell]; exact k4, k5⟩
  · rcases key j c x hj with ⟨e1, rfl, rfl⟩ | ⟨hne, hj'⟩ <;> rcases key k _ y hk with ⟨e2, e3, _⟩ | ⟨hne2, hk'⟩
    · omega
    · exact absurd (h.one k i _ y v hk' hi) hne2
    · subst e3; exact absurd (h.one j i _ x v hj' hi) hne
    · exact h.one j k c x y hj' hk'
  · obtain ⟨k1, k2, k3, B, hB, hs, hne⟩ := h.held o ho
    refine ⟨k1, k2, k3, B, by rw [hsz]; exact hB, fun hn => ?_, fun ad e h0 => ⟨(hne ad e h0).1, fun j c x hj => ?_⟩⟩
    · obtain ⟨ad, hA, hbk, hcell⟩ := hs hn
      refine ⟨ad, hA, hbk, fun k x hx => ?_⟩
      rw [World.cell?_of_block (Below.heap_setCell _ _ _ _ (by rw [add_block]; exact (hne ad hA (by omega)).2 i b v hi))]
      exact hcell k x hx
    · rcases key j c x hj with ⟨_, rfl, _⟩ | ⟨_, hj'⟩
      · exact (hne ad e h0).2 i c v hi
      · exact (hne ad e h0).2 j c x hj'
theorem St.sl (h : St w0 w g M L) {i : Nat} {A : Option Addr} {n c : Nat} {vs : List Value} (hi : L[i]? = some ⟨A, n, c, vs⟩) : vs.length = n ∧ n ≤ c ∧ n ≤ 1000 ∧ Sl w w.heap.size A vs := by
  obtain ⟨h1, h2, h3, B, hB, hs, _⟩ := h.held _ (List.mem_of_getElem? hi)
  exact ⟨h1, h2, h3, hs.more hB⟩
theorem St.cell (h : St w0 w g M L) (i : Nat) {b : Nat} {v : Value} (hi : M[i]? = some (b, v)) : w.cell? ⟨b, 0, none⟩ = some v := (h.box i b v hi).2.2.1
theorem St.free (h : St w0 w g M L) (i : Nat) {b : Nat} {v : Value} (hi : M[i]? = some (b, v)) : w.frozen? ⟨b, 0, none⟩ = false := (h.box i b v hi).2.2.2.1
theorem St.drewN (h : St w0 w g M L) (k : Nat) : St w0 (w.drewN k) g M L := h.go (below_drewN (Below.refl _ _) k)
/-- what a call leaves: one number more, and an error number -/
def GotN (w0 : World) (g : Option Nat) (M : List (Nat × Value)) (L : List Ob) (l : List Nat) (err : Int) (en : Ending) (w' : World) : Prop :=
  ∃ (A : Option Addr) (n c : Nat), en = .returned (.tuple #[.agg #[.slice A n c], .int .i64 err]) ∧ St w0 w' g M (L ++ [⟨A, n, c, nats l⟩]) ∧ l.length = n
theorem got_res (h : St w0 w g M L) {l l' : List Nat} {e e' : Int} (hl : l = l') (he : e = e') (h3 : l'.length ≤ 1000) {en : Ending} (hr : ResN w l e en w') : GotN w0 g M L l' e' en w' := by
  subst hl he
  obtain ⟨A, n, c, rfl, hn, ho, hb⟩ := hr
  exact ⟨A, n, c, rfl, h.push ho (by omega) hb, hn⟩
theorem resL_len (x : Nat) : (resL x).length ≤ 200 := by
  unfold resL
  split
  · rename_i h
    exact (Na.dig_200 x).2 h
  · exact Nat.zero_le _
end
end Go.Proofs.YtpcmbmabmfghkaaDoor

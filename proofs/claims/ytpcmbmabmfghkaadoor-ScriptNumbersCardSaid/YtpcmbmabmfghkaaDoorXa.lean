/- Owned lists of structs beside what is held: elements of several cells. -/
import Derived.Test.YtpcmbmabmfghkaaDoorOm
import Derived.Test.YtpcmbmabmfghkaaDoorOx
namespace Go.Proofs.YtpcmbmabmfghkaaDoor
open Go.RowKit
set_option linter.unusedVariables false
set_option maxRecDepth 100000
structure Rx where
  A : Option Addr
  n : Nat
  c : Nat
  e : TypeId
  s : Nat
  vs : List Value
def Rx.blk (r : Rx) : Option Nat := (Value.slice r.A r.n r.c).ownBlock
/-- what is held, and owned lists of structs in blocks of their own -/
structure Ox (w0 w : World) (g : Option Nat) (M : List (Nat × Value)) (L : List Ob) (O : List Rw) (X : List Rx) : Prop where
  ow : Ow w0 w g M L O
  own : ∀ (i : Nat) (r : Rx), X[i]? = some r → w.ownsRow w0.heap.size r.e r.s (.slice r.A r.n r.c) r.n r.vs
  ap : ∀ (i : Nat) (r : Rx), X[i]? = some r → ∀ b, r.blk = some b → g ≠ some b ∧ (∀ (j k : Nat) (v : Value), M[j]? = some (k, v) → b ≠ k) ∧ (∀ o ∈ L, ∀ ad, o.A = some ad → 0 < o.n → b ≠ ad.block) ∧ ∀ (j : Nat) (q : Rw), O[j]? = some q → q.blk ≠ some b
  two : ∀ (i j : Nat) (r s : Rx), X[i]? = some r → X[j]? = some s → i ≠ j → ∀ b, r.blk = some b → s.blk ≠ some b
section
variable {w0 w w' : World} {g : Option Nat} {M : List (Nat × Value)} {L : List Ob} {O : List Rw} {X : List Rx}
/-- another block is turned -/
theorem Ow.off {row : Option Nat} (h : Ow w0 w g M L O) (hg : w.grownBy w' row) (hr : ∀ b, row = some b → w0.heap.size ≤ b ∧ g ≠ some b ∧ (∀ (j k : Nat) (v : Value), M[j]? = some (k, v) → b ≠ k) ∧ (∀ o ∈ L, ∀ ad, o.A = some ad → 0 < o.n → b ≠ ad.block) ∧ ∀ (j : Nat) (q : Rw), O[j]? = some q → q.blk ≠ some b) : Ow w0 w' g M L O := by
  have hbel : Below w0.heap.size w0 w' := h.below.trans ((Below.refl _ _).grown hg h.size (fun b e => (hr b e).1))
  have cellk : ∀ b, b < w.heap.size → row ≠ some b → w'.heap[b]? = w.heap[b]? := fun b h1 h2 => hg.block b h1 (fun e => h2 e.symm)
  refine ⟨⟨hbel, fun x e => ⟨Nat.lt_of_lt_of_le (h.st.lt x e).1 hg.size, (h.st.lt x e).2⟩, fun j b v hj => ?_, h.st.one, fun o ho' => ?_⟩, fun j x hj => ?_, h.ap, h.two⟩
  · obtain ⟨h1, h2, h3, h4, h5⟩ := h.st.box j b v hj
    have e1 := cellk b h1 (fun e => (hr b e).2.2.1 j b v hj rfl)
    exact ⟨Nat.lt_of_lt_of_le h1 hg.size, h2, (World.cell?_of_block (a := ⟨b, 0, none⟩) e1).trans h3, (World.frozen?_of_block (a := ⟨b, 0, none⟩) e1).trans h4, h5⟩
  · obtain ⟨h1, h2, h3, B, hB, hs, hne⟩ := h.st.held o ho'
    refine ⟨h1, h2, h3, B, Nat.le_trans hB hg.size, fun hn => ?_, hne⟩
    obtain ⟨ad, hA, hbk, hcell⟩ := hs hn
    refine ⟨ad, hA, hbk, fun k u hu => ?_⟩
    rw [World.cell?_of_block (cellk _ (by rw [add_block]; omega) (by rw [add_block]; intro e; exact (hr _ e).2.2.2.1 o ho' ad hA (by omega) rfl))]
    exact hcell k u hu
  · refine own_keep (h.own j x hj) hg ?_
    by_cases e : (Value.slice x.A x.n x.c).ownBlock = none
    · exact .inl e
    · refine .inr fun e2 => ?_
      obtain ⟨b, hb'⟩ := Option.ne_none_iff_exists'.1 e
      exact (hr b (e2.symm.trans hb')).2.2.2.2 j x hj hb'
theorem Ox.of (h : Ow w0 w g M L O) : Ox w0 w g M L O [] := ⟨h, fun i r e => by simp at e, fun i r e => by simp at e, fun i j r s e => by simp at e⟩
theorem Ox.size (h : Ox w0 w g M L O X) : w0.heap.size ≤ w.heap.size := h.ow.size
theorem Ox.row (h : Ox w0 w g M L O X) (i : Nat) {A : Option Addr} {n c s : Nat} {e : TypeId} {vs : List Value} (hi : X[i]? = some ⟨A, n, c, e, s, vs⟩) : w.ownsRow w0.heap.size e s (.slice A n c) n vs := h.own i _ hi
theorem Ox.lt (h : Ox w0 w g M L O X) {i : Nat} {r : Rx} (hi : X[i]? = some r) {b : Nat} (hb : r.blk = some b) : b < w.heap.size ∧ w0.heap.size ≤ b := by
  have := (h.own i r hi).lt b hb
  exact ⟨this.2, this.1⟩
theorem Ox.go (h : Ox w0 w g M L O X) (hb : Below w.heap.size w w') : Ox w0 w' g M L O X :=
  ⟨h.ow.go hb, fun i r hi => (h.own i r hi).kept (row := none) ⟨hb.os, hb.tape, hb.output, hb.size, fun k hk _ => hb.block k hk⟩ (by
    by_cases he : (Value.slice r.A r.n r.c).ownBlock = none
    · exact .inl he
    · exact .inr he), h.ap, h.two⟩
/-- what every row keeps over a turn of another block -/
theorem Ox.keepRow (h : Ox w0 w g M L O X) {row : Option Nat} (hg : w.grownBy w' row) {i : Nat} {r : Rx} (hi : X[i]? = some r) (hne : ∀ b, r.blk = some b → row ≠ some b) : w'.ownsRow w0.heap.size r.e r.s (.slice r.A r.n r.c) r.n r.vs := by
  refine (h.own i r hi).kept hg ?_
  by_cases e : (Value.slice r.A r.n r.c).ownBlock = none
  · exact .inl e
  · refine .inr fun e2 => ?_
    obtain ⟨b, hb'⟩ := Option.ne_none_iff_exists'.1 e
    exact hne b hb' (e2.symm.trans hb')
/-- the dice are rolled -/
theorem Ox.roll {x : Nat} (h : Ox w0 w (some x) M L O X) (hw : Ow w0 w' (some x) M L O) (hg : w.grownBy w' (some x)) : Ox w0 w' (some x) M L O X :=
  ⟨hw, fun i r hi => h.keepRow hg hi fun b hb e => (h.ap i r hi b hb).1 e, h.ap, h.two⟩
/-- a new variable -/
theorem Ox.boxed (h : Ox w0 w g M L O X) (v : Value) (t : TypeId) : Ox w0 (w.alloc (.cells #[v] t)) g (M ++ [(w.heap.size, v)]) L O X := by
  have h' := h.go ((Below.refl w.heap.size w).alloc (Nat.le_refl _) (.cells #[v] t))
  refine ⟨h.ow.boxed v t, h'.own, fun i r hi b hb' => ?_, h.two⟩
  obtain ⟨a1, a2, a3, a4⟩ := h.ap i r hi b hb'
  refine ⟨a1, fun j k u hj e => ?_, a3, a4⟩
  rcases Nat.lt_or_ge j M.length with h1 | h1
  · rw [List.getElem?_append_left h1] at hj
    exact a2 j k u hj e
  · rw [List.getElem?_append_right h1] at hj
    have h2 : j - M.length = 0 := by have := get_lt hj; simp at this; omega
    rw [h2] at hj
    simp at hj
    have := (h.lt hi hb').1
    omega
/-- a variable gets another value -/
theorem Ox.setv (h : Ox w0 w g M L O X) (i : Nat) {b : Nat} {v : Value} (hi : M[i]? = some (b, v)) (u : Value) : Ox w0 (w.setCell ⟨b, 0, none⟩ u) g (M.set i (b, u)) L O X := by
  have hg := grown_set w ⟨b, 0, none⟩ u
  have key : ∀ (j c : Nat) (x : Value), (M.set i (b, u))[j]? = some (c, x) → ∃ y, M[j]? = some (c, y) := fun j c x hj => by
    by_cases e : j = i
    · subst e
      rw [List.getElem?_set_self (get_lt hi)] at hj
      simp at hj
      exact ⟨v, by rw [hi, hj.1]⟩
    · rw [List.getElem?_set_ne (fun e' => e e'.symm)] at hj
      exact ⟨x, hj⟩
  refine ⟨h.ow.setv i hi u, fun j r hj => h.keepRow hg hj fun b' hb e => ?_, fun j r hj x hb' => ?_, h.two⟩
  · have := (h.ap j r hj b' hb).2.1 i b v hi
    exact this (Option.some.inj e).symm
  · obtain ⟨a1, a2, a3, a4⟩ := h.ap j r hj x hb'
    refine ⟨a1, fun k c y hk => ?_, a3, a4⟩
    obtain ⟨y', hy⟩ := key k c y hk
    exact a2 k c y' hy
/-- a new list of one's own -/
theorem Ox.addX (h : Ox w0 w g M L O X) {A : Option Addr} {n c s : Nat} {e : TypeId} {vs : List Value} (ho : w'.ownsRow w.heap.size e s (.slice A n c) n vs) (hb : Below w.heap.size w w') : Ox w0 w' g M L O (X ++ [⟨A, n, c, e, s, vs⟩]) := by
  have h' := h.go hb
  have key : ∀ (i : Nat) (r : Rx), (X ++ [⟨A, n, c, e, s, vs⟩])[i]? = some r → X[i]? = some r ∨ (X.length = i ∧ r = ⟨A, n, c, e, s, vs⟩) := fun i r hi => by
    rcases Nat.lt_or_ge i X.length with h1 | h1
    · rw [List.getElem?_append_left h1] at hi
      exact .inl hi
    · rw [List.getElem?_append_right h1] at hi
      have h2 : i - X.length = 0 := by have := get_lt hi; simp at this; omega
      rw [h2] at hi
      simp at hi
      exact .inr ⟨by omega, hi.symm⟩
  have new : ∀ b, (⟨A, n, c, e, s, vs⟩ : Rx).blk = some b → w.heap.size ≤ b := fun b hb' => (ho.lt b hb').1
  have more : w'.ownsRow w0.heap.size e s (.slice A n c) n vs := by
    refine ⟨ho.1, ?_⟩
    rcases ho.2 with h' | ⟨g', cap', cur, h', hb', r⟩
    · exact .inl h'
    · exact .inr ⟨g', cap', cur, h', Nat.le_trans h.size hb', r⟩
  refine ⟨h'.ow, fun i r hi => ?_, fun i r hi b hb' => ?_, fun i j r t hi hj hij b hb' e2 => ?_⟩
  · rcases key i r hi with h1 | ⟨_, rfl⟩
    · exact h'.own i r h1
    · exact more
  · rcases key i r hi with h1 | ⟨_, rfl⟩
    · exact h'.ap i r h1 b hb'
    · have h3 := new b hb'
      refine ⟨fun e => by have := (h.ow.st.lt b e).1; omega, fun j k v hj e => by have := (h.ow.st.box j k v hj).1; omega, fun o ho' ad ha h0 e => ?_, fun j q hq e2 => by have := (h.ow.lt hq e2).1; omega⟩
      obtain ⟨h4, _, _, B, hB, hs, _⟩ := h.ow.st.held o ho'
      obtain ⟨ad', ha', hlt, _⟩ := hs (by omega)
      rw [ha] at ha'
      obtain rfl := Option.some.inj ha'
      omega
  · rcases key i r hi with h1 | ⟨h1, rfl⟩ <;> rcases key j t hj with h2 | ⟨h2, rfl⟩
    · exact h.two i j r t h1 h2 hij b hb' e2
    · have := (h.lt h1 hb').1; have := new b e2; omega
    · have := (h.lt h2 e2).1; have := new b hb'; omega
    · omega
/-- an owned list is turned: nothing else is -/
theorem Ox.turnX (h : Ox w0 w g M L O X) (i : Nat) {r r' : Rx} (hi : X[i]? = some r) (hg : w.grownBy w' r.blk) (ho : w'.ownsRow w0.heap.size r'.e r'.s (.slice r'.A r'.n r'.c) r'.n r'.vs) (hb : r'.blk = r.blk ∨ r'.blk = some w.heap.size) : Ox w0 w' g M L O (X.set i r') := by
  have key : ∀ (j : Nat) (x : Rx), (X.set i r')[j]? = some x → (j = i ∧ x = r') ∨ (j ≠ i ∧ X[j]? = some x) := fun j x hj => by
    by_cases e : j = i
    · subst e
      rw [List.getElem?_set_self (get_lt hi)] at hj
      simp at hj
      exact .inl ⟨rfl, hj.symm⟩
    · rw [List.getElem?_set_ne (fun e' => e e'.symm)] at hj
      exact .inr ⟨e, hj⟩
  have how : Ow w0 w' g M L O := h.ow.off hg fun b e => ⟨(h.lt hi e).2, h.ap i r hi b e⟩
  refine ⟨how, fun j x hj => ?_, fun j x hj b hb' => ?_, fun j k x y hj hk hjk b hb' e2 => ?_⟩
  · rcases key j x hj with ⟨_, rfl⟩ | ⟨hne, hj'⟩
    · exact ho
    · exact h.keepRow hg hj' fun b hb' e => h.two j i x r hj' hi hne b hb' e
  · have old : ∀ b, r'.blk = some b → r.blk = some b ∨ b = w.heap.size := fun b e => by
      rcases hb with e1 | e1
      · exact .inl (by rw [← e1]; exact e)
      · rw [e] at e1; exact .inr (Option.some.inj e1)
    rcases key j x hj with ⟨_, rfl⟩ | ⟨hne, hj'⟩
    · rcases old b hb' with e1 | rfl
      · exact h.ap i r hi b e1
      · refine ⟨fun e => by have := (h.ow.st.lt _ e).1; omega, fun j k v hj e => by have := (h.ow.st.box j k v hj).1; omega, fun o ho' ad ha h0 e => ?_, fun j q hq e3 => by have := (h.ow.lt hq e3).1; omega⟩
        obtain ⟨h4, _, _, B, hB, hs, _⟩ := h.ow.st.held o ho'
        obtain ⟨ad', ha', hlt, _⟩ := hs (by omega)
        rw [ha] at ha'
        obtain rfl := Option.some.inj ha'
        omega
    · exact h.ap j x hj' b hb'
  · have old : ∀ b, r'.blk = some b → r.blk = some b ∨ b = w.heap.size := fun b e => by
      rcases hb with e1 | e1
      · exact .inl (by rw [← e1]; exact e)
      · rw [e] at e1; exact .inr (Option.some.inj e1)
    rcases key j x hj with ⟨a1, rfl⟩ | ⟨hne, hj'⟩ <;> rcases key k y hk with ⟨a2, rfl⟩ | ⟨hne2, hk'⟩
    · omega
    · rcases old b hb' with e1 | rfl
      · exact h.two i k r y hi hk' (fun e => hne2 e.symm) b e1 e2
      · have := (h.lt hk' e2).1; omega
    · rcases old b e2 with e1 | rfl
      · exact h.two j i x r hj' hi hne b hb' e1
      · have := (h.lt hj' hb').1; omega
    · exact h.two j k x y hj' hk' hjk b hb' e2
theorem Ox.nilX (h : Ox w0 w g M L O X) (e : TypeId) (s : Nat) : Ox w0 w g M L O (X ++ [⟨none, 0, 0, e, s, []⟩]) := h.addX (World.ownsRow_nil _ _ _ _) (Below.refl _ _)
theorem Ox.drewN (h : Ox w0 w g M L O X) (k : Nat) : Ox w0 (w.drewN k) g M L O X := h.go (below_drewN (Below.refl _ _) k)
/-- a list of a call, only to be read -/
theorem Ox.push (h : Ox w0 w g M L O X) {A : Option Addr} {n c : Nat} {vs : List Value} {e : TypeId} (ho : w'.ownsRow w.heap.size e 1 (.slice A n c) n vs) (hl : n ≤ 1000) (hb : Below w.heap.size w w') : Ox w0 w' g M (L ++ [⟨A, n, c, vs⟩]) O X := by
  have h' := h.go hb
  refine ⟨h.ow.push ho hl hb, h'.own, fun i r hi b hb' => ?_, h.two⟩
  obtain ⟨a1, a2, a3, a4⟩ := h.ap i r hi b hb'
  refine ⟨a1, a2, fun o ho' ad ea h0 => ?_, a4⟩
  rcases List.mem_append.1 ho' with h1 | h1
  · exact a3 o h1 ad ea h0
  · rw [List.mem_singleton] at h1
    subst h1
    obtain ⟨g', hg', k1, _⟩ := own_form ho h0
    rw [show A = some ad from ea] at hg'
    obtain rfl := Option.some.inj hg'
    have := (h.lt hi hb').1
    intro e5
    simp only at e5
    omega
/-- a list that lay before everything of the call's own -/
theorem Ox.old (h : Ox w0 w g M L O X) {A : Option Addr} {n c : Nat} {vs : List Value} (hs : Sl w0 w0.heap.size A vs) (hn : vs.length = n) (hc : n ≤ c) (hl : n ≤ 1000) : Ox w0 w g M (L ++ [⟨A, n, c, vs⟩]) O X := by
  refine ⟨h.ow.old hs hn hc hl, h.own, fun i r hi b hb => ?_, h.two⟩
  obtain ⟨a1, a2, a3, a4⟩ := h.ap i r hi b hb
  refine ⟨a1, a2, fun o ho ad ea h0 => ?_, a4⟩
  rcases List.mem_append.1 ho with h1 | h1
  · exact a3 o h1 ad ea h0
  · rw [List.mem_singleton] at h1
    subst h1
    obtain ⟨ad', e', hbk, _⟩ := hs (by show 0 < vs.length; rw [hn]; exact h0)
    rw [show A = some ad from ea] at e'
    obtain rfl := Option.some.inj e'
    have := (h.lt hi hb).2
    omega
end
section
variable {w w' : World} {base n c s : Nat} {e : TypeId} {A : Option Addr} {xs : List Value}
theorem ownX_sl (h : w.ownsRow base e s (.slice A n c) n xs) (hs0 : 0 < s) : Sl w w.heap.size A xs := fun hn => by
  have hl : 0 < n := by
    have := h.1
    rcases Nat.eq_zero_or_pos n with rfl | h0
    · omega
    · exact h0
  obtain ⟨g, cap, hv, _, hlt⟩ := h.form hl
  have hA : A = some ⟨g, 0, none⟩ := by injection hv
  subst hA
  exact ⟨_, rfl, hlt, h.cells (g := g) rfl⟩
theorem ownX_cap (h : w.ownsRow base e s (.slice A n c) n xs) : n ≤ c ∧ c ≤ maxLen := by
  rcases h.2 with ⟨h', h0⟩ | ⟨g', cap', cur, h', hb, hg, hnc, hcm, hcs, htake⟩
  · injection h' with h1 h2 h3
    subst h0 h3
    exact ⟨Nat.le_refl _, by unfold maxLen; omega⟩
  · injection h' with h1 h2 h3
    subst h3
    exact ⟨hnc, hcm⟩
theorem ownX_put (h : w.ownsRow base e s (.slice A n c) n xs) {g : Nat} (hA : A = some ⟨g, 0, none⟩) (k : Nat) (v : Value) : (w.setCell ⟨g, k, none⟩ v).ownsRow base e s (.slice A n c) n (xs.set k v) := by
  subst hA
  exact (h.stored k v).1
end
section
variable {w0 w w' : World} {g : Option Nat} {M : List (Nat × Value)} {L : List Ob} {O : List Rw} {X : List Rx}
/-- a store into an owned list of structs: cell k of all -/
theorem Ox.putX (h : Ox w0 w g M L O X) (i : Nat) {gb n c s : Nat} {e : TypeId} {vs : List Value} (hi : X[i]? = some ⟨some ⟨gb, 0, none⟩, n, c, e, s, vs⟩) (k : Nat) (v : Value) : Ox w0 (w.setCell ⟨gb, k, none⟩ v) g M L O (X.set i ⟨some ⟨gb, 0, none⟩, n, c, e, s, vs.set k v⟩) :=
  h.turnX i hi (r' := ⟨some ⟨gb, 0, none⟩, n, c, e, s, vs.set k v⟩) (grown_set _ _ _) (ownX_put (h.own i _ hi) rfl k v) (.inl rfl)
/-- an owned list of structs is only read from now on: its cells -/
theorem Ox.keepX (h : Ox w0 w g M L O X) (i : Nat) {A : Option Addr} {n c s m : Nat} {e : TypeId} {vs : List Value} (hi : X[i]? = some ⟨A, n, c, e, s, vs⟩) (hm : n * s = m) (hl : m ≤ 1000) (hs0 : 0 < s) : Ox w0 w g M (L ++ [⟨A, m, m, vs⟩]) O (X.set i ⟨none, 0, 0, e, s, []⟩) := by
  have key : ∀ (j : Nat) (x : Rx), (X.set i ⟨none, 0, 0, e, s, []⟩)[j]? = some x → (j = i ∧ x = ⟨none, 0, 0, e, s, []⟩) ∨ (j ≠ i ∧ X[j]? = some x) := fun j x hj => by
    by_cases e : j = i
    · subst e
      rw [List.getElem?_set_self (get_lt hi)] at hj
      simp at hj
      exact .inl ⟨rfl, hj.symm⟩
    · rw [List.getElem?_set_ne (fun e' => e e'.symm)] at hj
      exact .inr ⟨e, hj⟩
  have ho := h.own i _ hi
  have blkA : ∀ ad, A = some ad → (⟨A, n, c, e, s, vs⟩ : Rx).blk = some ad.block := fun ad ea => by show (Value.slice A n c).ownBlock = _; rw [ea]; rfl
  have hst : St w0 w g M (L ++ [⟨A, m, m, vs⟩]) := h.ow.st.add (ownX_sl ho hs0) (Nat.le_refl _) (ho.1.trans hm) (Nat.le_refl _) hl fun ad ea h0 => by
    have := h.ap i _ hi _ (blkA ad ea)
    exact ⟨this.1, this.2.1⟩
  have how : Ow w0 w g M (L ++ [⟨A, m, m, vs⟩]) O := ⟨hst, h.ow.own, fun j q hj b hb => by
    obtain ⟨a1, a2, a3⟩ := h.ow.ap j q hj b hb
    refine ⟨a1, a2, fun o ho' ad ea h0 => ?_⟩
    rcases List.mem_append.1 ho' with h1 | h1
    · exact a3 o h1 ad ea h0
    · rw [List.mem_singleton] at h1
      subst h1
      intro e5
      exact (h.ap i _ hi _ (blkA ad ea)).2.2.2 j q hj (by rw [hb, e5]), h.ow.two⟩
  refine ⟨how, fun j x hj => ?_, fun j x hj b hb => ?_, fun j k x y hj hk hjk b hb e2 => ?_⟩
  · rcases key j x hj with ⟨_, rfl⟩ | ⟨hne, hj'⟩
    · exact World.ownsRow_nil _ _ _ _
    · exact h.own j x hj'
  · rcases key j x hj with ⟨_, rfl⟩ | ⟨hne, hj'⟩
    · cases hb
    · obtain ⟨a1, a2, a3, a4⟩ := h.ap j x hj' b hb
      refine ⟨a1, a2, fun o ho' ad ea h0 => ?_, a4⟩
      rcases List.mem_append.1 ho' with h2 | h2
      · exact a3 o h2 ad ea h0
      · rw [List.mem_singleton] at h2
        subst h2
        intro e3
        exact h.two j i x _ hj' hi hne b hb (by rw [blkA ad ea, e3])
  · rcases key j x hj with ⟨a1, rfl⟩ | ⟨hne, hj'⟩ <;> rcases key k y hk with ⟨a2, rfl⟩ | ⟨hne2, hk'⟩
    · omega
    · cases hb
    · cases e2
    · exact h.two j k x y hj' hk' hjk b hb e2
end
/-- what a list's element type is: several cells -/
def ElemX (P : Program) (t e : TypeId) (s bytes : Nat) : Prop := P.underlying t = some (.slice e) ∧ 0 < s ∧ ∃ i z, P.info? e = some i ∧ i.zero = some z ∧ i.size = s ∧ i.bytes = bytes ∧ z.cells.size = s
section
variable {P : Program} {w0 w : World} {g : Option Nat} {M : List (Nat × Value)} {L : List Ob} {O : List Rw} {X : List Rx} {t e : TypeId} {s bytes : Nat}
/-- 'append' of structs that can be read, at an owned list of structs -/
theorem ox_append {ops : Array Oper} {rest : List Oper} {o : Oper} {a : Act} {Q : Exit → Act → World → Prop} (hE : ElemX P t e s bytes) (h : Ox w0 w g M L O X) (i : Nat) (so x : Operand) {A : Option Addr} {n c : Nat} {xs : List Value} (hi : X[i]? = some ⟨A, n, c, e, s, xs⟩)
    {ad : Addr} {m c2 : Nat} {news : List Value} (hm : news.length = m * s) (hr : ∀ j u, news[j]? = some u → w.cell? (ad.add j) = some u) (h1 : ∀ u ∈ news, u.oneCell' = true) (h63 : n + m ≤ maxLen) (hbytes : (n + m) * bytes ≤ 140737488355328)
    (hgd : o.guard = none) (ho : o.op = .call { callee := .builtin .append, args := #[so, x], argTypes := #[t, t] }) (hs : a.eval so = .slice A n c) (hx : a.eval x = .slice (some ad) m c2)
    (hk : ∀ A' c' w', Ox w0 w' g M L O (X.set i ⟨A', n + m, c', e, s, xs ++ news⟩) → wpList P ops Q rest (a.put o.dst (.slice A' (n + m) c')) w') : wpList P ops Q (o :: rest) a w := by
  obtain ⟨ht, hs0, inf, z, hi0, hz, hsz, hby, hzs⟩ := hE
  refine wpList_append_own_at w hgd so x t ho w0.heap.size e inf z s bytes ht hi0 hz hsz hby hzs hs0 _ n xs hs (h.own i _ hi) ad m c2 news hx hm hr h1 h63 hbytes h.size fun v' w' h2 h3 _ h5 => ?_
  have hf : ∃ A' c', v' = .slice A' (n + m) c' := by
    rcases h2.2 with ⟨h', h0⟩ | ⟨g, cap, cur, h', _⟩
    · exact ⟨none, 0, by rw [h', h0]⟩
    · exact ⟨_, _, h'⟩
  obtain ⟨A', c', rfl⟩ := hf
  exact hk A' c' w' (h.turnX i hi (r' := ⟨A', n + m, c', e, s, xs ++ news⟩) h3 h2 h5)
end
end Go.Proofs.YtpcmbmabmfghkaaDoor

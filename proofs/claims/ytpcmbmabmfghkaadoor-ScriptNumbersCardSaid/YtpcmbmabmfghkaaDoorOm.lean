/- XOwn XOwa XRegTail joined. -/
import Derived.Test.YtpcmbmabmfghkaaDoorNatM
import Derived.Test.YtpcmbmabmfghkaaDoorNatE
import Derived.Test.YtpcmbmabmfghkaaDoorNatJ
import Derived.StillTail
import Derived.Deep.QuietTactic
import Derived.Lib.QuietBelow
/- Owned lists beside what is held: each lies in a block of its own. -/
namespace Go.Proofs.YtpcmbmabmfghkaaDoor
open Go.RowKit
set_option linter.unusedVariables false
set_option maxRecDepth 100000
structure Rw where
  A : Option Addr
  n : Nat
  c : Nat
  e : TypeId
  vs : List Value
def Rw.blk (r : Rw) : Option Nat := (Value.slice r.A r.n r.c).ownBlock
theorem blk_some (A : Option Addr) (n c : Nat) : (Value.slice A n c).ownBlock = A.map Addr.block := by cases A <;> rfl
/-- what is held, and owned lists in blocks of their own -/
structure Ow (w0 w : World) (g : Option Nat) (M : List (Nat × Value)) (L : List Ob) (O : List Rw) : Prop where
  st : St w0 w g M L
  own : ∀ (i : Nat) (r : Rw), O[i]? = some r → w.ownsRow w0.heap.size r.e 1 (.slice r.A r.n r.c) r.n r.vs
  ap : ∀ (i : Nat) (r : Rw), O[i]? = some r → ∀ b, r.blk = some b → g ≠ some b ∧ (∀ (j k : Nat) (v : Value), M[j]? = some (k, v) → b ≠ k) ∧ (∀ o ∈ L, ∀ ad, o.A = some ad → 0 < o.n → b ≠ ad.block)
  two : ∀ (i j : Nat) (r s : Rw), O[i]? = some r → O[j]? = some s → i ≠ j → ∀ b, r.blk = some b → s.blk ≠ some b
section
variable {w0 w w' : World} {g : Option Nat} {M : List (Nat × Value)} {L : List Ob} {O : List Rw}
theorem Ow.of (h : St w0 w g M L) : Ow w0 w g M L [] := ⟨h, fun i r e => by simp at e, fun i r e => by simp at e, fun i j r s e => by simp at e⟩
theorem Ow.lt (h : Ow w0 w g M L O) {i : Nat} {r : Rw} (hi : O[i]? = some r) {b : Nat} (hb : r.blk = some b) : b < w.heap.size ∧ w0.heap.size ≤ b := by
  have := (h.own i r hi).lt b hb
  exact ⟨this.2, this.1⟩
theorem Ow.go (h : Ow w0 w g M L O) (hb : Below w.heap.size w w') : Ow w0 w' g M L O :=
  ⟨h.st.go hb, fun i r hi => own_below (h.own i r hi) hb, h.ap, h.two⟩
theorem Ow.size (h : Ow w0 w g M L O) : w0.heap.size ≤ w.heap.size := h.st.size
theorem Ow.below (h : Ow w0 w g M L O) : Below w0.heap.size w0 w := h.st.below
theorem Ow.cell (h : Ow w0 w g M L O) (i : Nat) {b : Nat} {v : Value} (hi : M[i]? = some (b, v)) : w.cell? ⟨b, 0, none⟩ = some v := h.st.cell i hi
theorem Ow.free (h : Ow w0 w g M L O) (i : Nat) {b : Nat} {v : Value} (hi : M[i]? = some (b, v)) : w.frozen? ⟨b, 0, none⟩ = false := h.st.free i hi
theorem Ow.sl (h : Ow w0 w g M L O) {i : Nat} {A : Option Addr} {n c : Nat} {vs : List Value} (hi : L[i]? = some ⟨A, n, c, vs⟩) : vs.length = n ∧ n ≤ c ∧ n ≤ 1000 ∧ Sl w w.heap.size A vs := h.st.sl hi
theorem Ow.row (h : Ow w0 w g M L O) (i : Nat) {A : Option Addr} {n c : Nat} {e : TypeId} {vs : List Value} (hi : O[i]? = some ⟨A, n, c, e, vs⟩) : w.ownsRow w0.heap.size e 1 (.slice A n c) n vs := h.own i _ hi
/-- a new list of one's own -/
theorem Ow.add (h : Ow w0 w g M L O) {A : Option Addr} {n c : Nat} {e : TypeId} {vs : List Value} (ho : w'.ownsRow w.heap.size e 1 (.slice A n c) n vs) (hb : Below w.heap.size w w') : Ow w0 w' g M L (O ++ [⟨A, n, c, e, vs⟩]) := by
  have h' := h.go hb
  have key : ∀ (i : Nat) (r : Rw), (O ++ [⟨A, n, c, e, vs⟩])[i]? = some r → O[i]? = some r ∨ (O.length = i ∧ r = ⟨A, n, c, e, vs⟩) := fun i r hi => by
    rcases Nat.lt_or_ge i O.length with h1 | h1
    · rw [List.getElem?_append_left h1] at hi
      exact .inl hi
    · rw [List.getElem?_append_right h1] at hi
      have h2 : i - O.length = 0 := by have := get_lt hi; simp at this; omega
      rw [h2] at hi
      simp at hi
      exact .inr ⟨by omega, hi.symm⟩
  have new : ∀ b, (⟨A, n, c, e, vs⟩ : Rw).blk = some b → w.heap.size ≤ b := fun b hb' => (ho.lt b hb').1
  refine ⟨h'.st, fun i r hi => ?_, fun i r hi b hb' => ?_, fun i j r s hi hj hij b hb' e2 => ?_⟩
  · rcases key i r hi with h1 | ⟨_, rfl⟩
    · exact h'.own i r h1
    · exact own_more ho h.size
  · rcases key i r hi with h1 | ⟨_, rfl⟩
    · exact h'.ap i r h1 b hb'
    · have h3 := new b hb'
      refine ⟨fun e => by have := (h.st.lt b e).1; omega, fun j k v hj e => by have := (h.st.box j k v hj).1; omega, fun o ho' ad ha h0 e => ?_⟩
      obtain ⟨h4, _, _, B, hB, hs, _⟩ := h.st.held o ho'
      obtain ⟨ad', ha', hlt, _⟩ := hs (by omega)
      rw [ha] at ha'
      obtain rfl := Option.some.inj ha'
      omega
  · rcases key i r hi with h1 | ⟨h1, rfl⟩ <;> rcases key j s hj with h2 | ⟨h2, rfl⟩
    · exact h.two i j r s h1 h2 hij b hb' e2
    · have := (h.lt h1 hb').1; have := new b e2; omega
    · have := (h.lt h2 e2).1; have := new b hb'; omega
    · omega
/-- an owned list is turned: nothing else is -/
theorem Ow.turn (h : Ow w0 w g M L O) (i : Nat) {r r' : Rw} (hi : O[i]? = some r) (hg : w.grownBy w' r.blk) (ho : w'.ownsRow w0.heap.size r'.e 1 (.slice r'.A r'.n r'.c) r'.n r'.vs) (hb : r'.blk = r.blk ∨ r'.blk = some w.heap.size) : Ow w0 w' g M L (O.set i r') := by
  have key : ∀ (j : Nat) (x : Rw), (O.set i r')[j]? = some x → (j = i ∧ x = r') ∨ (j ≠ i ∧ O[j]? = some x) := fun j x hj => by
    by_cases e : j = i
    · subst e
      rw [List.getElem?_set_self (get_lt hi)] at hj
      simp at hj
      exact .inl ⟨rfl, hj.symm⟩
    · rw [List.getElem?_set_ne (fun e' => e e'.symm)] at hj
      exact .inr ⟨e, hj⟩
  have low : ∀ b, r.blk = some b → w0.heap.size ≤ b := fun b hb' => (h.lt hi hb').2
  have hbel : Below w0.heap.size w0 w' := h.below.trans ((Below.refl _ _).grown hg h.size low)
  have cellk : ∀ b, b < w.heap.size → r.blk ≠ some b → w'.heap[b]? = w.heap[b]? := fun b h1 h2 => hg.block b h1 (fun e => h2 e.symm)
  refine ⟨⟨hbel, fun x e => ⟨Nat.lt_of_lt_of_le (h.st.lt x e).1 hg.size, (h.st.lt x e).2⟩, fun j b v hj => ?_, h.st.one, fun o ho' => ?_⟩, fun j x hj => ?_, fun j x hj b hb' => ?_, fun j k x y hj hk hjk b hb' e2 => ?_⟩
  · obtain ⟨h1, h2, h3, h4, h5⟩ := h.st.box j b v hj
    have e1 := cellk b h1 (fun e => (h.ap i r hi b e).2.1 j b v hj rfl)
    exact ⟨Nat.lt_of_lt_of_le h1 hg.size, h2, (World.cell?_of_block (a := ⟨b, 0, none⟩) e1).trans h3, (World.frozen?_of_block (a := ⟨b, 0, none⟩) e1).trans h4, h5⟩
  · obtain ⟨h1, h2, h3, B, hB, hs, hne⟩ := h.st.held o ho'
    refine ⟨h1, h2, h3, B, Nat.le_trans hB hg.size, fun hn => ?_, hne⟩
    obtain ⟨ad, hA, hbk, hcell⟩ := hs hn
    refine ⟨ad, hA, hbk, fun k u hu => ?_⟩
    rw [World.cell?_of_block (cellk _ (by rw [add_block]; omega) (by rw [add_block]; intro e; exact (h.ap i r hi _ e).2.2 o ho' ad hA (by omega) rfl))]
    exact hcell k u hu
  · rcases key j x hj with ⟨_, rfl⟩ | ⟨hne, hj'⟩
    · exact ho
    · refine own_keep (h.own j x hj') hg ?_
      by_cases e : (Value.slice x.A x.n x.c).ownBlock = none
      · exact .inl e
      · refine .inr fun e2 => ?_
        obtain ⟨b, hb'⟩ := Option.ne_none_iff_exists'.1 e
        exact h.two j i x r hj' hi hne b hb' (by rw [← e2]; exact hb')
  · have old : ∀ b, r'.blk = some b → (∃ b', r.blk = some b' ∧ b = b') ∨ b = w.heap.size := fun b e => by
      rcases hb with e1 | e1
      · exact .inl ⟨b, by rw [← e1]; exact e, rfl⟩
      · rw [e] at e1; exact .inr (Option.some.inj e1)
    rcases key j x hj with ⟨_, rfl⟩ | ⟨hne, hj'⟩
    · rcases old b hb' with ⟨b', e1, rfl⟩ | rfl
      · exact h.ap i r hi b e1
      · refine ⟨fun e => by have := (h.st.lt _ e).1; omega, fun j k v hj e => by have := (h.st.box j k v hj).1; omega, fun o ho' ad ha h0 e => ?_⟩
        obtain ⟨h4, _, _, B, hB, hs, _⟩ := h.st.held o ho'
        obtain ⟨ad', ha', hlt, _⟩ := hs (by omega)
        rw [ha] at ha'
        obtain rfl := Option.some.inj ha'
        omega
    · exact h.ap j x hj' b hb'
  · have old : ∀ b, r'.blk = some b → r.blk = some b ∨ b = w.heap.size := fun b e => by
      rcases hb with e1 | e1
      · exact .inl (by rw [← e1]; exact e)
      · rw [e] at e1; exact .inr (Option.some.inj e1)
    rcases key j x hj with ⟨a1, rfl⟩ | ⟨hne, hj'⟩ <;> rcases key k y hk with ⟨a2, rfl⟩ | ⟨hne2, hk'⟩
    · omega
    · rcases old b hb' with e1 | rfl
      · exact h.two i k r y hi hk' (fun e => hne2 e.symm) b e1 e2
      · have := (h.lt hk' e2).1; omega
    · rcases old b e2 with e1 | rfl
      · exact h.two j i x r hj' hi hne b hb' e1
      · have := (h.lt hj' hb').1; omega
    · exact h.two j k x y hj' hk' hjk b hb' e2
/-- a store into an owned list -/
theorem Ow.put (h : Ow w0 w g M L O) (i : Nat) {gb n c : Nat} {e : TypeId} {vs : List Value} (hi : O[i]? = some ⟨some ⟨gb, 0, none⟩, n, c, e, vs⟩) (k : Nat) (v : Value) : Ow w0 (w.setCell ⟨gb, k, none⟩ v) g M L (O.set i ⟨some ⟨gb, 0, none⟩, n, c, e, vs.set k v⟩) :=
  h.turn i hi (r' := ⟨some ⟨gb, 0, none⟩, n, c, e, vs.set k v⟩) (grown_set _ _ _) (own_put (h.own i _ hi) k v) (.inl rfl)
/-- a shorter piece from the head on -/
theorem Ow.cut (h : Ow w0 w g M L O) (i : Nat) {A : Option Addr} {n c : Nat} {e : TypeId} {vs : List Value} (hi : O[i]? = some ⟨A, n, c, e, vs⟩) {k : Nat} (hk : k ≤ n) : Ow w0 w g M L (O.set i ⟨A, k, c, e, vs.take k⟩) :=
  h.turn i hi (r' := ⟨A, k, c, e, vs.take k⟩) (World.grownBy.refl w _) (own_take (h.own i _ hi) hk) (.inl (by show (Value.slice A k c).ownBlock = (Value.slice A n c).ownBlock; rw [blk_some, blk_some]))
/-- an owned list seen as another list of the same values -/
theorem Ow.same (h : Ow w0 w g M L O) (i : Nat) {A : Option Addr} {n c : Nat} {e : TypeId} {vs vs' : List Value} (hi : O[i]? = some ⟨A, n, c, e, vs⟩) (hv : vs = vs') : Ow w0 w g M L (O.set i ⟨A, n, c, e, vs'⟩) := by
  subst hv
  exact h.turn i hi (r' := ⟨A, n, c, e, vs⟩) (World.grownBy.refl w _) (h.own i _ hi) (.inl rfl)
/-- an owned list is only read from now on -/
theorem Ow.keep (h : Ow w0 w g M L O) (i : Nat) {A : Option Addr} {n c : Nat} {e : TypeId} {vs : List Value} (hi : O[i]? = some ⟨A, n, c, e, vs⟩) (hl : n ≤ 1000) : Ow w0 w g M (L ++ [⟨A, n, c, vs⟩]) (O.set i ⟨none, 0, 0, e, []⟩) := by
  have h1 := h.turn i hi (r' := ⟨A, n, c, e, vs⟩) (World.grownBy.refl w _) (h.own i _ hi) (.inl rfl)
  have key : ∀ (j : Nat) (x : Rw), (O.set i ⟨none, 0, 0, e, []⟩)[j]? = some x → (j = i ∧ x = ⟨none, 0, 0, e, []⟩) ∨ (j ≠ i ∧ O[j]? = some x) := fun j x hj => by
    by_cases e : j = i
    · subst e
      rw [List.getElem?_set_self (get_lt hi)] at hj
      simp at hj
      exact .inl ⟨rfl, hj.symm⟩
    · rw [List.getElem?_set_ne (fun e' => e e'.symm)] at hj
      exact .inr ⟨e, hj⟩
  have ho := h.own i _ hi
  refine ⟨h.st.add (Sl.of_own ho) (Nat.le_refl _) (own_len ho) (own_cap ho).1 hl fun ad ea h0 => ?_, fun j x hj => ?_, fun j x hj b hb => ?_, fun j k x y hj hk hjk b hb e2 => ?_⟩
  · have hb : (⟨A, n, c, e, vs⟩ : Rw).blk = some ad.block := by show (Value.slice A n c).ownBlock = _; rw [ea]; rfl
    have := h.ap i _ hi _ hb
    exact ⟨this.1, this.2.1⟩
  · rcases key j x hj with ⟨_, rfl⟩ | ⟨hne, hj'⟩
    · exact World.ownsRow_nil _ _ _ _
    · exact h.own j x hj'
  · rcases key j x hj with ⟨_, rfl⟩ | ⟨hne, hj'⟩
    · cases hb
    · obtain ⟨a1, a2, a3⟩ := h.ap j x hj' b hb
      refine ⟨a1, a2, fun o ho' ad ea h0 => ?_⟩
      rcases List.mem_append.1 ho' with h2 | h2
      · exact a3 o h2 ad ea h0
      · rw [List.mem_singleton] at h2
        subst h2
        intro e3
        have hb2 : (⟨A, n, c, e, vs⟩ : Rw).blk = some b := by show (Value.slice A n c).ownBlock = _; rw [show A = some ad from ea, e3]; rfl
        exact h.two j i x _ hj' hi hne b hb hb2
  · rcases key j x hj with ⟨a1, rfl⟩ | ⟨hne, hj'⟩ <;> rcases key k y hk with ⟨a2, rfl⟩ | ⟨hne2, hk'⟩
    · omega
    · cases hb
    · cases e2
    · exact h.two j k x y hj' hk' hjk b hb e2
/-- a new variable -/
theorem Ow.boxed (h : Ow w0 w g M L O) (v : Value) (t : TypeId) : Ow w0 (w.alloc (.cells #[v] t)) g (M ++ [(w.heap.size, v)]) L O := by
  have hb : Below w.heap.size w (w.alloc (.cells #[v] t)) := (Below.refl _ _).alloc (Nat.le_refl _) _
  have h' := h.go hb
  refine ⟨h.st.boxed v t, h'.own, fun i r hi b hb' => ?_, h.two⟩
  obtain ⟨a1, a2, a3⟩ := h.ap i r hi b hb'
  refine ⟨a1, fun j k u hj e => ?_, a3⟩
  rcases Nat.lt_or_ge j M.length with h1 | h1
  · rw [List.getElem?_append_left h1] at hj
    exact a2 j k u hj e
  · rw [List.getElem?_append_right h1] at hj
    have h2 : j - M.length = 0 := by have := get_lt hj; simp at this; omega
    rw [h2] at hj
    simp at hj
    have := (h.lt hi hb').1
    omega
/-- a variable gets another value -/
theorem Ow.setv (h : Ow w0 w g M L O) (i : Nat) {b : Nat} {v : Value} (hi : M[i]? = some (b, v)) (u : Value) : Ow w0 (w.setCell ⟨b, 0, none⟩ u) g (M.set i (b, u)) L O := by
  have hg := grown_set w ⟨b, 0, none⟩ u
  have key : ∀ (j c : Nat) (x : Value), (M.set i (b, u))[j]? = some (c, x) → ∃ y, M[j]? = some (c, y) := fun j c x hj => by
    by_cases e : j = i
    · subst e
      rw [List.getElem?_set_self (get_lt hi)] at hj
      simp at hj
      exact ⟨v, by rw [hi, hj.1]⟩
    · rw [List.getElem?_set_ne (fun e' => e e'.symm)] at hj
      exact ⟨x, hj⟩
  refine ⟨h.st.put i hi u, fun j r hj => own_keep (h.own j r hj) hg ?_, fun j r hj x hb' => ?_, h.two⟩
  · by_cases e : (Value.slice r.A r.n r.c).ownBlock = none
    · exact .inl e
    · exact .inr fun e2 => (h.ap j r hj b e2).2.1 i b v hi rfl
  · obtain ⟨a1, a2, a3⟩ := h.ap j r hj x hb'
    refine ⟨a1, fun k c y hk => ?_, a3⟩
    obtain ⟨y', hy⟩ := key k c y hk
    exact a2 k c y' hy
/-- a list that lay before everything of the call's own -/
theorem Ow.old (h : Ow w0 w g M L O) {A : Option Addr} {n c : Nat} {vs : List Value} (hs : Sl w0 w0.heap.size A vs) (hn : vs.length = n) (hc : n ≤ c) (hl : n ≤ 1000) : Ow w0 w g M (L ++ [⟨A, n, c, vs⟩]) O := by
  refine ⟨h.st.old hs hn hc hl, h.own, fun i r hi b hb => ?_, h.two⟩
  obtain ⟨a1, a2, a3⟩ := h.ap i r hi b hb
  refine ⟨a1, a2, fun o ho ad ea h0 => ?_⟩
  rcases List.mem_append.1 ho with h1 | h1
  · exact a3 o h1 ad ea h0
  · rw [List.mem_singleton] at h1
    subst h1
    obtain ⟨ad', e', hbk, _⟩ := hs (by show 0 < vs.length; rw [hn]; exact h0)
    rw [show A = some ad from ea] at e'
    obtain rfl := Option.some.inj e'
    have := (h.lt hi hb).2
    omega
/-- the list of a call, only to be read -/
theorem Ow.push (h : Ow w0 w g M L O) {A : Option Addr} {n c : Nat} {vs : List Value} {e : TypeId} (ho : w'.ownsRow w.heap.size e 1 (.slice A n c) n vs) (hl : n ≤ 1000) (hb : Below w.heap.size w w') : Ow w0 w' g M (L ++ [⟨A, n, c, vs⟩]) O := by
  have h1 := (h.add ho hb).keep O.length (A := A) (n := n) (c := c) (e := e) (vs := vs) (by rw [List.getElem?_append_right (Nat.le_refl _), Nat.sub_self]; rfl) hl
  have cut : ∀ (i : Nat) (r : Rw), O[i]? = some r → ((O ++ [(⟨A, n, c, e, vs⟩ : Rw)]).set O.length (⟨none, 0, 0, e, []⟩ : Rw))[i]? = some r := fun i r hi => by
    have := get_lt hi
    rw [List.getElem?_set_ne (by omega), List.getElem?_append_left this]
    exact hi
  exact ⟨h1.st, fun i r hi => h1.own i r (cut i r hi), fun i r hi => h1.ap i r (cut i r hi), fun i j r s hi hj => h1.two i j r s (cut i r hi) (cut j s hj)⟩
theorem Ow.drewN (h : Ow w0 w g M L O) (k : Nat) : Ow w0 (w.drewN k) g M L O := h.go (below_drewN (Below.refl _ _) k)
end
end Go.Proofs.YtpcmbmabmfghkaaDoor

/- 'append' and 'make' over owned lists. -/
namespace Go.Proofs.YtpcmbmabmfghkaaDoor
open Go.RowKit
set_option linter.unusedVariables false
set_option maxRecDepth 100000
/-- what a list's element type is: one cell -/
def Elem (P : Program) (t e : TypeId) (z : Value) (bytes : Nat) : Prop := P.underlying t = some (.slice e) ∧ z.cells = #[z] ∧ ∃ i, P.info? e = some i ∧ i.zero = some z ∧ i.size = 1 ∧ i.bytes = bytes
section
variable {P : Program} {w0 w : World} {g : Option Nat} {M : List (Nat × Value)} {L : List Ob} {O : List Rw} {t e : TypeId} {z : Value} {bytes : Nat}
theorem Ow.nil (h : Ow w0 w g M L O) (e : TypeId) : Ow w0 w g M L (O ++ [⟨none, 0, 0, e, []⟩]) := h.add (World.ownsRow_nil _ _ _ _) (Below.refl _ _)
theorem Ow.made (h : Ow w0 w g M L O) (e : TypeId) (z : Value) (n c : Nat) (hz : z.cells = #[z]) (hnc : n ≤ c) (hc : c ≤ maxLen) :
    Ow w0 (w.alloc (.cells (madeCells #[z] c) e)) g M L (O ++ [⟨some ⟨w.heap.size, 0, none⟩, n, c, e, List.replicate n z⟩]) := by
  have h1 := own_made w e z n c hz hnc hc
  rw [hz] at h1
  exact h.add h1 (own_box1 _ _)
theorem Elem.make (h : Elem P t e z bytes) (kl kc : IntKind) (a b : Int) (n c : Nat) (ha : a = (n : Int)) (hb : b = (c : Int)) (hnc : n ≤ c) (hbytes : bytes * c ≤ 281474976710656) (h63 : c ≤ 9223372036854775807) (w : World) :
    (Instr.makeSlice t (.int kl a) (.int kc b)).run P w = .ok (.slice (some ⟨w.heap.size, 0, none⟩) n c) (w.alloc (.cells (madeCells #[z] c) e)) := by
  obtain ⟨ht, hzc, i, hi, hz, hs, hby⟩ := h
  rw [← hzc]
  exact run_make_one t e i z ht hi hz hs kl kc a b n c ha hb hnc (by rw [hby]; exact hbytes) h63 w
/-- 'append' of a list that can be read -/
theorem ow_append {ops : Array Oper} {rest : List Oper} {o : Oper} {a : Act} {Q : Exit → Act → World → Prop} (hE : Elem P t e z bytes) (h : Ow w0 w g M L O) (i : Nat) (s x : Operand) {A : Option Addr} {n c : Nat} {xs : List Value} (hi : O[i]? = some ⟨A, n, c, e, xs⟩)
    {B : Nat} {A2 : Option Addr} {m c2 : Nat} {news : List Value} (hm : news.length = m) (hr : Sl w B A2 news) (h1 : ∀ u ∈ news, u.oneCell' = true) (h63 : n + m ≤ maxLen) (hbytes : (n + m) * bytes ≤ 140737488355328)
    (hgd : o.guard = none) (ho : o.op = .call { callee := .builtin .append, args := #[s, x], argTypes := #[t, t] }) (hs : a.eval s = .slice A n c) (hx : a.eval x = .slice A2 m c2)
    (hk : ∀ A' c' w', Ow w0 w' g M L (O.set i ⟨A', n + m, c', e, xs ++ news⟩) → wpList P ops Q rest (a.put o.dst (.slice A' (n + m) c')) w') : wpList P ops Q (o :: rest) a w := by
  obtain ⟨ht, hzc, inf, hi0, hz, hsz, hby⟩ := hE
  exact wpList_append_sl w hgd s x t ho w0.heap.size e inf z bytes ht hi0 hz hsz hby (by rw [hzc]; rfl) A n c xs hs (h.own i _ hi) B A2 m c2 news hx hm hr h1 h63 hbytes h.size fun A' c' w' h2 h3 h4 =>
    hk A' c' w' (h.turn i hi (r' := ⟨A', n + m, c', e, xs ++ news⟩) h3 h2 h4)
/-- 'append' of one element, laid as a list of one -/
theorem ow_append1 {ops : Array Oper} {rest : List Oper} {o : Oper} {a : Act} {Q : Exit → Act → World → Prop} (hE : Elem P t e z bytes) (h : Ow w0 w g M L O) (i : Nat) (s x : Operand) (v : Value) (tt : TypeId) {A : Option Addr} {n c : Nat} {xs : List Value} (hi : O[i]? = some ⟨A, n, c, e, xs⟩)
    (h1 : v.oneCell' = true) (h63 : n + 1 ≤ maxLen) (hbytes : (n + 1) * bytes ≤ 140737488355328)
    (hgd : o.guard = none) (ho : o.op = .call { callee := .builtin .append, args := #[s, x], argTypes := #[t, t] }) (hs : a.eval s = .slice A n c) (hx : a.eval x = .slice (some ⟨w.heap.size, 0, none⟩) 1 1)
    (hk : ∀ A' c' w', Ow w0 w' g M L (O.set i ⟨A', n + 1, c', e, xs ++ [v]⟩) → wpList P ops Q rest (a.put o.dst (.slice A' (n + 1) c')) w') : wpList P ops Q (o :: rest) a (w.alloc (.cells #[v] tt)) :=
  ow_append hE (h.go (own_box1 w _)) i s x hi (m := 1) (news := [v]) rfl (sl_new1 w tt v) (fun u hu => by rw [List.mem_singleton] at hu; subst hu; exact h1) h63 hbytes hgd ho hs hx hk
end
theorem elemI : Elem Tryd.prog 23 3 (.int .i64 0) 8 := by
  obtain ⟨i0, hi, hz0, hz1, hz2⟩ := info_parts infoI
  exact ⟨Tryd.underlying23, rfl, i0, hi, hz0, hz1, hz2⟩
namespace Na
/-- a round of 'for n > 0 && l[n-1] == 0': it goes on, or stands -/
theorem tl_case (l : List Nat) (n k : Nat) (hk : k ≤ l.length) (hT : tl l k = tl l n) : (0 < k ∧ l[k - 1]? = some 0 ∧ tl l (k - 1) = tl l n) ∨ (tl l n = k ∧ (k = 0 ∨ (0 < k ∧ ∃ b, l[k - 1]? = some b ∧ (((b : Int) == 0) = false)))) := by
  rcases Nat.eq_zero_or_pos k with h0 | h0
  · subst h0; exact .inr ⟨hT.symm, .inl rfl⟩
  · have hlt : k - 1 < l.length := by omega
    by_cases e : l[k - 1]? = some 0
    · refine .inl ⟨h0, e, ?_⟩
      rw [← hT, ← tl_zero l (k - 1) e, show k - 1 + 1 = k by omega]
    · have h2 := tl_stop l (k - 1) e
      rw [show k - 1 + 1 = k by omega] at h2
      refine .inr ⟨hT.symm.trans h2, .inr ⟨h0, l[k - 1], List.getElem?_eq_getElem hlt, ?_⟩⟩
      rw [beq_eq_false_iff_ne]
      intro e2
      exact e (by rw [List.getElem?_eq_getElem hlt]; congr 1; omega)
end Na
end Go.Proofs.YtpcmbmabmfghkaaDoor

/- A region that draws its order and whose last operations are a chain behind all others (a store): one walk of its head in every world of a class, then its tail. -/
namespace Go.Proofs.YtpcmbmabmfghkaaDoor
open Go.Sort
set_option linter.unusedVariables false
set_option maxRecDepth 100000
section
variable {P : Program} {md : Region.Mode} {ops : Array Oper} {C : World → Prop}
theorem any_more {Q : Exit → Act → World → Prop} : ∀ (f : Nat) (l : Array Bool) (a : Act) (w : World), wpAny P md ops Q f l a w → wpAny P md ops Q (f + 1) l a w
  | 0, l, a, w, h => ⟨fun _ => h.2, fun i hi => by rw [h.1] at hi; cases hi⟩
  | f + 1, l, a, w, h => ⟨h.1, fun i hi => wpOp_mono (fun a' w' => any_more f _ a' w') (h.2 i hi)⟩
theorem any_add {Q : Exit → Act → World → Prop} (l : Array Bool) (a : Act) (w : World) (g : Nat) (h : wpAny P md ops Q g l a w) : ∀ f : Nat, wpAny P md ops Q (f + g) l a w
  | 0 => by rw [Nat.zero_add]; exact h
  | f + 1 => by rw [Nat.succ_add]; exact any_more _ _ _ _ (any_add l a w g h f)
theorem anyQ_walk {Q : Act → Prop} (hs : Region.noSelect ops = true) : ∀ (l : List Oper) (k : Nat) (listed : Array Bool) (a : Act), (∀ j, j < l.length → l[j]? = ops[k + j]?) →
    Region.lexFrom md ops l.length k listed = true → wpQuiet P ops C Q l a → wpAnyQ P md ops C Q l.length listed a
  | [], _, _, _, _, hB, h => ⟨List.isEmpty_iff.1 hB, h⟩
  | o :: l, k, listed, a, hl, hB, h => by
    have h0 : ops[k]? = some o := (hl 0 (Nat.succ_pos _)).symm
    rw [List.length_cons, Region.lexFrom, Bool.and_eq_true, Bool.and_eq_true] at hB
    have hq : qOp P ops C k (wpQuiet P ops C Q l) a := by unfold qOp; rw [h0]; exact h
    obtain ⟨v, hy, hK⟩ := yieldsIn_of_qOp h0 hq
    refine wpAnyQ_first h0 (Region.noSelect_spec hs) l.length listed a (Region.free_spec h0 hB.1.2) (by simpa using hB.1.1) hy ?_
    refine anyQ_walk hs l (k + 1) _ _ (fun j hj => ?_) hB.2 hK
    have := hl (j + 1) (by simp; omega)
    rw [show k + 1 + j = k + (j + 1) by omega, ← this, List.getElem?_cons_succ]
/-- every edge leads back -/
def backs (ops : Array Oper) : Bool := (List.range ops.size).all fun i => ((ops[i]?).map fun o => o.after.all fun e => decide (e.on < i)).getD true
theorem backs_spec (h : backs ops = true) {j : Nat} {o : Oper} (ho : ops[j]? = some o) : ∀ e ∈ o.after, e.on < j := fun e he => by
  have hj : j < ops.size := (Array.getElem?_eq_some_iff.1 ho).1
  have h1 := List.all_eq_true.1 h j (List.mem_range.2 hj)
  rw [ho] at h1
  exact of_decide_eq_true (Array.all_eq_true_iff_forall_mem.1 (show (o.after.all fun e => decide (e.on < j)) = true from h1) e he)
/-- the same head, the tail marked as done -/
structure Twin (ops : Array Oper) (n : Nat) (l l' : Array Bool) : Prop where
  size : l'.size = ops.size
  head : ∀ i, i < n → l'.getD i false = l.getD i false
  tail : ∀ i, n ≤ i → i < ops.size → l'.getD i false = true
theorem getD_tf {l : Array Bool} {i : Nat} (hi : i < l.size) : l.getD i true = l.getD i false := by
  rw [Array.getD_eq_getD_getElem?, Array.getD_eq_getD_getElem?, Array.getElem?_eq_getElem hi]; rfl
theorem Twin.set {n i : Nat} {l l' : Array Bool} (h : Twin ops n l l') (hs : l.size = ops.size) (hi : i < n) (hn : n ≤ ops.size) : Twin ops n (l.setIfInBounds i true) (l'.setIfInBounds i true) := by
  refine ⟨by rw [Array.size_setIfInBounds]; exact h.size, fun j hj => ?_, fun j h1 h2 => ?_⟩
  · by_cases e : i = j
    · subst e
      rw [Array.getD_eq_getD_getElem?, Array.getD_eq_getD_getElem?, Array.getElem?_setIfInBounds_self_of_lt (by rw [h.size]; omega), Array.getElem?_setIfInBounds_self_of_lt (by rw [hs]; omega)]
    · have := h.head j hj
      rw [Array.getD_eq_getD_getElem?, Array.getD_eq_getD_getElem?] at this ⊢
      rw [Array.getElem?_setIfInBounds_ne e, Array.getElem?_setIfInBounds_ne e]
      exact this
  · have := h.tail j h1 h2
    rw [Array.getD_eq_getD_getElem?] at this ⊢
    rw [Array.getElem?_setIfInBounds_ne (by omega)]
    exact this
theorem Twin.ready {n i : Nat} {l l' : Array Bool} (h : Twin ops n l l') (hl : l.size = ops.size) (hb : backs ops = true) (hi : i < n) (hn : n ≤ ops.size) : i ∈ Region.ready md ops l ↔ i ∈ Region.ready md ops l' := by
  rw [Go.mem_ready, Go.mem_ready]
  have e1 : l'.getD i true = l.getD i true := by rw [getD_tf (by rw [h.size]; omega), getD_tf (by rw [hl]; omega), h.head i hi]
  rw [e1]
  refine and_congr_right fun _ => ⟨fun ⟨o, ho, hd⟩ => ⟨o, ho, fun e he hbd => ?_⟩, fun ⟨o, ho, hd⟩ => ⟨o, ho, fun e he hbd => ?_⟩⟩
  · have := backs_spec hb ho e he
    rw [h.head _ (by omega)]
    exact hd e he hbd
  · have := backs_spec hb ho e he
    rw [← h.head _ (by omega)]
    exact hd e he hbd
theorem head_done {n : Nat} {l l' : Array Bool} (h : Twin ops n l l') (hb : backs ops = true) (hn : n ≤ ops.size) (hr : Region.ready md ops l' = []) : ∀ j, j < n → l'.getD j false = true := by
  intro j
  induction j using Nat.strongRecOn with
  | _ j ih =>
    intro hj
    cases e : l'.getD j false with
    | true => rfl
    | false =>
      exfalso
      have h1 : j ∈ Region.ready md ops l' := by
        rw [Go.mem_ready, getD_tf (by rw [h.size]; omega), e]
        have ho : ops[j]? = some ops[j] := Array.getElem?_eq_getElem (by omega)
        exact ⟨rfl, _, ho, fun x hx _ => by have := backs_spec hb ho x hx; exact ih _ this (by omega)⟩
      rw [hr] at h1
      cases h1
theorem anyQ_tail {n g : Nat} {Q : Act → Prop} {Q' : Exit → Act → World → Prop} (hs : Region.sinkB md ops n = true) (hc : Region.chainB md ops n = true) (hn : n < ops.size) (hb : backs ops = true)
    (hQ : ∀ listed a w, C w → Q a → HeadInv md ops n listed → (∀ i, i < n → listed.getD i false = true) → wpAny P md ops Q' g listed a w) :
    ∀ (f : Nat) (l l' : Array Bool) (a : Act) (w : World), HeadInv md ops n l → Twin ops n l l' → C w → wpAnyQ P md ops C Q f l' a → wpAny P md ops Q' (f + g) l a w := by
  have fin : ∀ (l l' : Array Bool) (a : Act) (w : World), HeadInv md ops n l → Twin ops n l l' → C w → Q a → Region.ready md ops l' = [] → wpAny P md ops Q' g l a w := fun l l' a w inv ht hw hq hr =>
    hQ l a w hw hq inv fun i hi => by rw [← ht.head i hi]; exact head_done ht hb (by omega) hr i hi
  intro f
  induction f with
  | zero => intro l l' a w inv ht hw h; rw [Nat.zero_add]; exact fin l l' a w inv ht hw h.2 h.1
  | succ f ih =>
    intro l l' a w inv ht hw h
    by_cases hr : Region.ready md ops l' = []
    · exact any_add _ _ _ _ (fin l l' a w inv ht hw (h.1 hr) hr) _
    · obtain ⟨i0, hi0⟩ := List.exists_mem_of_ne_nil _ hr
      have hi0n : i0 < n := by
        rcases Nat.lt_or_ge i0 n with h1 | h1
        · exact h1
        · obtain ⟨h2, o, ho, _⟩ := Go.mem_ready.1 hi0
          have h3 : i0 < ops.size := (Array.getElem?_eq_some_iff.1 ho).1
          rw [getD_tf (by rw [ht.size]; exact h3), ht.tail i0 h1 h3] at h2
          cases h2
      have hi0l := (ht.ready inv.size hb hi0n (by omega)).2 hi0
      have hwait := tail_waits hs hc hn inv _ i0 rfl hi0n (Go.mem_ready.1 hi0l).1
      rw [Nat.succ_add]
      refine ⟨fun e => (by rw [e] at hi0l; cases hi0l), fun i hi => ?_⟩
      have hin : i < n := by
        rcases Nat.lt_or_ge i n with h1 | h1
        · exact h1
        · exact absurd hi (hwait i h1)
      exact wpOp_of_qOp hw (fun a' w' hw' h' => ih _ _ a' w' (inv.set hi hin) (ht.set inv.size hin (by omega)) hw' h') (h.2 i ((ht.ready inv.size hb hin (by omega)).1 hi))
def doneHead (n m : Nat) : Array Bool := (List.replicate n true ++ List.replicate m false).toArray
def undoneHead (n m : Nat) : Array Bool := (List.replicate n false ++ List.replicate m true).toArray
theorem doneHead_of {n : Nat} {l : Array Bool} (inv : HeadInv md ops n l) (hn : n ≤ ops.size) (h : ∀ i, i < n → l.getD i false = true) : l = doneHead n (ops.size - n) := by
  have hs := inv.size
  apply Array.ext
  · unfold doneHead; simp; omega
  · intro i h1 h2
    have e1 : l[i] = l.getD i false := by rw [Array.getD_eq_getD_getElem?, Array.getElem?_eq_getElem h1]; rfl
    rw [e1]
    have e2 : (doneHead n (ops.size - n))[i] = (doneHead n (ops.size - n)).getD i false := by rw [Array.getD_eq_getD_getElem?, Array.getElem?_eq_getElem h2]; rfl
    have e3 : (doneHead n (ops.size - n)).getD i false = decide (i < n) := by
      rw [Array.getD_eq_getD_getElem?]
      unfold doneHead
      rw [List.getElem?_toArray]
      rcases Nat.lt_or_ge i n with h3 | h3
      · rw [List.getElem?_append_left (by simpa using h3), List.getElem?_replicate, if_pos h3, decide_eq_true h3]
        rfl
      · rw [List.getElem?_append_right (by simpa using h3), List.getElem?_replicate, List.length_replicate, if_pos (by have := inv.size; omega), decide_eq_false (by omega)]
        rfl
    rw [e2, e3]
    rcases Nat.lt_or_ge i n with h3 | h3
    · rw [h i h3, decide_eq_true h3]
    · have h4 := inv.tail i h3 (by omega)
      rw [getD_tf h1] at h4
      rw [h4, decide_eq_false (by omega)]
/-- what is asked of the region: read off by the kernel -/
def tailB (ops : Array Oper) (n : Nat) : Bool :=
  Region.noSelect ops && (decide (n < ops.size) && (backs ops && (Region.sinkB .any ops n && (Region.chainB .any ops n && (Region.seqB .any ops (ops.size - n) n (doneHead n (ops.size - n)) && Region.lexFrom .any ops n 0 (undoneHead n (ops.size - n)))))))
theorem region_tail {id : Nat} {Q : Exit → Act → World → Prop} {a : Act} {w : World} {l : List Oper} (n : Nat) (hm : P.follows .mixedOrders = true) (hB : tailB l.toArray n = true) (hC : C { w with drawn := w.drawn + 1 })
    (h : wpQuiet P l.toArray C (fun a' => ∀ w', C w' → wpList P l.toArray Q (l.drop n) a' w') (l.take n) a) : (Code.region id l.toArray true).wp P Q a w := by
  simp only [tailB, Bool.and_eq_true, decide_eq_true_eq] at hB
  obtain ⟨hsel, hn, hbk, hs, hc, hseq, hlex⟩ := hB
  have hn' : n < l.length := by simpa using hn
  have htl : (l.take n).length = n := by simp; omega
  have hdl : (l.drop n).length = l.toArray.size - n := by simp
  have hz : l.toArray.size = l.length := by simp
  have inv0 : HeadInv .any l.toArray n (Array.replicate l.toArray.size false) :=
    ⟨by simp, fun j oj _ hl => (by rw [getD_replicate_false] at hl; cases hl), fun t _ ht => getD_in (by simpa using ht) (getD_replicate_false _ _)⟩
  have tw0 : Twin l.toArray n (Array.replicate l.toArray.size false) (undoneHead n (l.toArray.size - n)) := by
    refine ⟨by unfold undoneHead; simp; omega, fun i hi => ?_, fun i h1 h2 => ?_⟩
    · rw [getD_replicate_false, Array.getD_eq_getD_getElem?]
      unfold undoneHead
      rw [List.getElem?_toArray, List.getElem?_append_left (by simpa using hi), List.getElem?_replicate, if_pos hi]
      rfl
    · rw [Array.getD_eq_getD_getElem?]
      unfold undoneHead
      rw [List.getElem?_toArray, List.getElem?_append_right (by simpa using h1), List.getElem?_replicate, List.length_replicate, if_pos (by omega)]
      rfl
  refine wp_region_any hm ?_
  have hA := anyQ_walk (C := C) (md := .any) hsel (l.take n) 0 (undoneHead n (l.toArray.size - n)) a (fun j hj => by
    rw [htl] at hj
    rw [Nat.zero_add, List.getElem?_toArray, List.getElem?_take, if_pos hj]) (by rw [htl]; exact hlex) h
  have hfin := anyQ_tail (P := P) (C := C) (g := l.toArray.size - n) (Q' := Q) hs hc hn hbk (fun listed a' w' hw' hq inv hd => by
    have e := doneHead_of inv (by omega) hd
    subst e
    have := wpAny_of_seq (P := P) (md := .any) (Q' := Q) (l.drop n) n (doneHead n (l.toArray.size - n)) a' w' (fun j => by simp [List.getElem?_drop]) (by rw [hdl]; exact hseq) (hq w' hw')
    rwa [hdl] at this) _ _ _ a _ inv0 tw0 hC hA
  rw [htl, show n + (l.toArray.size - n) = l.toArray.size by omega] at hfin
  exact hfin
/-- the class 'blocks laid behind, whatever draws' -/
theorem region_below_tail {id : Nat} {Q : Exit → Act → World → Prop} {a : Act} {w : World} {l : List Oper} (n : Nat) (hm : P.follows .mixedOrders = true) (hB : tailB l.toArray n = true)
    (h : wpQuiet P l.toArray (fun w' => ∃ p : Regrown, w' = grow (redrawn w p.d) p.os) (fun a' => ∀ w', (∃ p : Regrown, w' = grow (redrawn w p.d) p.os) → wpList P l.toArray Q (l.drop n) a' w') (l.take n) a) : (Code.region id l.toArray true).wp P Q a w :=
  region_tail n hm hB ⟨⟨w.drawn + 1, #[]⟩, by rw [grow_empty]; rfl⟩ h
end
end Go.Proofs.YtpcmbmabmfghkaaDoor

/- Dice that a law rolls, over what is held; a region that gives several variables their numbers. -/
import Derived.Test.YtnfjnlnphdmdmaaGreatDoorNatU
import Derived.Test.YtnfjnlnphdmdmaaGreatDoorNatM
namespace Go.Proofs.YtnfjnlnphdmdmaaGreatDoor
open Go.RowKit
set_option linter.unusedVariables false
set_option maxRecDepth 100000
theorem cell_lt {W : World} {a : Addr} {v : Value} (h : W.cell? a = some v) : a.block < W.heap.size := by
  rcases Nat.lt_or_ge a.block W.heap.size with h1 | h1
  · exact h1
  · have h2 : W.heap[a.block]? = none := Array.getElem?_eq_none h1
    simp [World.cell?, h2] at h
theorem light_yes (A : Option Addr) (n c : Nat) (w : World) (h : n ≤ 400) : Calls Tryz.prog 7 #[.slice A n c] w fun e w' => e = .returned (.bool true) ∧ w = w' := by
  have := light_any A n c w (by omega)
  rwa [decide_eq_true (show (n : Int) ≤ 400 by omega)] at this
theorem light_no (A : Option Addr) (n c : Nat) (w : World) (h : 400 < n) (hl : n ≤ 9223372036854775807) : Calls Tryz.prog 7 #[.slice A n c] w fun e w' => e = .returned (.bool false) ∧ w = w' := by
  have := light_any A n c w hl
  rwa [decide_eq_false (show ¬ (n : Int) ≤ 400 by omega)] at this
/-- dice that a law rolls: nothing but new blocks -/
theorem roll_st {w0 w : World} {M : List (Nat × Value)} {L : List Ob} (h : St w0 w none M L) (A : Option Addr) (n c : Nat) (ts : List Int) (hn : ts.length = n) (hl : n ≤ 140737488355328) (hs : Sl w w.heap.size A (ints ts)) :
    Calls Tryz.prog 8 #[.slice A n c] w fun e w' => ∃ g, e = .returned (.pointer (some ⟨g, 0, none⟩)) ∧ Dice w' g g ∧ St w0 w' (some g) M L := by
  refine (roll_any A n c ts w hn hl hs).mono ?_
  rintro e w' ⟨he, hd, hz, hb⟩
  have h' := h.go hb
  refine ⟨_, he, hd, ⟨h'.below, fun x e => by cases e; exact ⟨by omega, h.size⟩, fun i b v hi => ?_, h'.one, fun o ho => ?_⟩⟩
  · obtain ⟨h1, h2, h3, h4, _⟩ := h'.box i b v hi
    exact ⟨h1, h2, h3, h4, fun e => by cases e; have := (h.box i _ v hi).1; omega⟩
  · obtain ⟨h1, h2, h3, B, hB, hs2, hne⟩ := h.held o ho
    refine ⟨h1, h2, h3, B, Nat.le_trans hB hb.size, hs2.below (hb.mono hB), fun ad e h0 => ⟨fun e2 => ?_, (hne ad e h0).2⟩⟩
    obtain ⟨ad', e', hbk, _⟩ := hs2 (by omega)
    rw [e] at e'
    obtain rfl := Option.some.inj e'
    have := Option.some.inj e2
    omega
section
variable {w0 w w' : World} {g : Nat} {M : List (Nat × Value)} {L : List Ob}
/-- a list that dice have made -/
theorem St.made (h : St w0 w (some g) M L) {A : Option Addr} {n c : Nat} {vs : List Value} {e : TypeId} (ho : w'.ownsRow w.heap.size e 1 (.slice A n c) n vs) (hg : w.grownBy w' (some g)) (hl : n ≤ 1000) : St w0 w' (some g) M (L ++ [⟨A, n, c, vs⟩]) := by
  refine (h.roll hg).add (Sl.of_own ho) (Nat.le_refl _) (own_len ho) (own_cap ho).1 hl fun ad e h0 => ?_
  obtain ⟨g', hg', h1, _⟩ := own_form ho h0
  rw [e] at hg'
  obtain rfl := Option.some.inj hg'
  exact ⟨fun e2 => by have := (h.lt _ rfl).1; have e3 := Option.some.inj e2; simp only at e3; omega, fun i b v hi e2 => by have := (h.box i b v hi).1; simp only at e2; omega⟩
end
theorem St.drew {w0 w : World} {g : Option Nat} {M : List (Nat × Value)} {L : List Ob} (h : St w0 w g M L) : St w0 w.drew g M L := h.go (Below.refl _ _).drew

/-- where the calls, the new variables and the stores stand among a region's operations -/
structure Lay (k : Nat) (c a s : Nat → Nat) : Prop where
  cc : ∀ i j, i < k → j < k → c i = c j → i = j
  aa : ∀ i j, i < k → j < k → a i = a j → i = j
  ss : ∀ i j, i < k → j < k → s i = s j → i = j
  ca : ∀ i j, i < k → j < k → c i ≠ a j
  cs : ∀ i j, i < k → j < k → c i ≠ s j
  sa : ∀ i j, i < k → j < k → a i ≠ s j
def GotV (P : Nat → Nat → Prop) (i : Nat) (r : Value) (Ls : List Ob) : Prop := ∃ (A : Option Addr) (n c x : Nat), r = .agg #[.slice A n c] ∧ (⟨A, n, c, nats (Na.dig x)⟩ : Ob) ∈ Ls ∧ P i x
theorem dset_same {L : Nat → Bool} {j : Nat} : dset L j j = true := if_pos rfl
theorem dset_ne {L : Nat → Bool} {i j : Nat} (h : i ≠ j) : dset L j i = L i := if_neg h
structure VInv (w0 : World) (g B k : Nat) (c a s : Nat → Nat) (P : Nat → Nat → Prop) (L : Nat → Bool) (res ptr : List Value) (W : World) (M : List (Nat × Value)) (Ls : List Ob) : Prop where
  st : St w0 W (some g) M Ls
  dice : Dice W g B
  low : B ≤ w0.heap.size
  rk : res.length = k
  pk : ptr.length = k
  got : ∀ i r, res[i]? = some r → L (c i) = true → GotV P i r Ls
  var : ∀ i p r, ptr[i]? = some p → res[i]? = some r → L (a i) = true → ∃ b v, p = .pointer (some ⟨b, 0, none⟩) ∧ (b, v) ∈ M ∧ (L (s i) = false → v = .slice none 0 0) ∧ (L (s i) = true → r = .agg #[v])
  ne : ∀ i j p, i ≠ j → ptr[i]? = some p → ptr[j]? = some p → L (a i) = true → L (a j) = true → False
  ord : ∀ i, i < k → L (s i) = true → L (c i) = true ∧ L (a i) = true
section
variable {w0 W W' : World} {g B k : Nat} {c a s : Nat → Nat} {P : Nat → Nat → Prop} {L : Nat → Bool} {res ptr : List Value} {M : List (Nat × Value)} {Ls : List Ob}
/-- an operation that is no call, no variable and no store -/
theorem VInv.other (h : VInv w0 g B k c a s P L res ptr W M Ls) (j : Nat) (hc : ∀ i, i < k → c i ≠ j) (ha : ∀ i, i < k → a i ≠ j) (hs : ∀ i, i < k → s i ≠ j) : VInv w0 g B k c a s P (dset L j) res ptr W M Ls := by
  have l1 : ∀ i r, res[i]? = some r → i < k := fun i r hr => by have := get_lt hr; rw [h.rk] at this; exact this
  have l2 : ∀ i r, ptr[i]? = some r → i < k := fun i r hr => by have := get_lt hr; rw [h.pk] at this; exact this
  refine ⟨h.st, h.dice, h.low, h.rk, h.pk, fun i r hr hl => ?_, fun i p r hp hr hl => ?_, fun i i' p hne hp hp' hl hl' => ?_, fun i hi hl => ?_⟩
  · rw [dset_ne (hc i (l1 i r hr))] at hl; exact h.got i r hr hl
  · rw [dset_ne (ha i (l1 i r hr))] at hl
    rw [dset_ne (hs i (l1 i r hr))]
    exact h.var i p r hp hr hl
  · rw [dset_ne (ha i (l2 i p hp))] at hl
    rw [dset_ne (ha i' (l2 i' p hp'))] at hl'
    exact h.ne i i' p hne hp hp' hl hl'
  · rw [dset_ne (hs i hi)] at hl
    rw [dset_ne (hc i hi), dset_ne (ha i hi)]
    exact h.ord i hi hl
/-- a call that gives a number of the dice's own -/
theorem VInv.call (h : VInv w0 g B k c a s P L res ptr W M Ls) (hl : Lay k c a s) (i : Nat) (hi : i < k) (hf : L (c i) = false) {A : Option Addr} {n cc x : Nat} (hn : (Na.dig x).length = n) (hx : P i x) (h1 : n ≤ 1000)
    (ho : W'.ownsRow W.heap.size 3 1 (.slice A n cc) n (nats (Na.dig x))) (hd : Dice W' g B) (hg : W.grownBy W' (some g)) :
    VInv w0 g B k c a s P (dset L (c i)) (res.set i (.agg #[.slice A n cc])) ptr W' M (Ls ++ [⟨A, n, cc, nats (Na.dig x)⟩]) := by
  have l1 : ∀ i r, res[i]? = some r → i < k := fun i r hr => by have := get_lt hr; rw [h.rk] at this; exact this
  have l2 : ∀ i r, ptr[i]? = some r → i < k := fun i r hr => by have := get_lt hr; rw [h.pk] at this; exact this
  refine ⟨h.st.made ho hg h1, hd, h.low, by rw [List.length_set]; exact h.rk, h.pk, fun j r hr hl' => ?_, fun j p r hp hr hl' => ?_, fun j j' p hne hp hp' hl1 hl2 => ?_, fun j hj hl' => ?_⟩
  · by_cases e : j = i
    · subst e
      rw [List.getElem?_set_self (by rw [h.rk]; exact hi)] at hr
      obtain rfl := Option.some.inj hr
      exact ⟨A, n, cc, x, rfl, List.mem_append_right _ List.mem_cons_self, hx⟩
    · rw [List.getElem?_set_ne (fun e' => e e'.symm)] at hr
      rw [dset_ne (fun e' => e (hl.cc _ _ (l1 _ _ hr) hi e'))] at hl'
      obtain ⟨A', n', c', x', k1, k2, k3⟩ := h.got j r hr hl'
      exact ⟨A', n', c', x', k1, List.mem_append_left _ k2, k3⟩
  · have hjk := l2 j p hp
    rw [dset_ne (fun e' => hl.ca _ _ hi hjk e'.symm)] at hl'
    rw [dset_ne (fun e' => hl.cs _ _ hi hjk e'.symm)]
    by_cases e : j = i
    · subst e
      have hres : j < res.length := by rw [h.rk]; exact hi
      obtain ⟨b, v, k1, k2, k3, k4⟩ := h.var j p res[j] hp (List.getElem?_eq_getElem hres) hl'
      refine ⟨b, v, k1, k2, k3, fun e2 => ?_⟩
      have := (h.ord j hi e2).1
      rw [hf] at this
      cases this
    · rw [List.getElem?_set_ne (fun e' => e e'.symm)] at hr
      exact h.var j p r hp hr hl'
  · rw [dset_ne (fun e' => hl.ca _ _ hi (l2 _ _ hp) e'.symm)] at hl1
    rw [dset_ne (fun e' => hl.ca _ _ hi (l2 _ _ hp') e'.symm)] at hl2
    exact h.ne j j' p hne hp hp' hl1 hl2
  · rw [dset_ne (fun e' => hl.cs _ _ hi hj e'.symm)] at hl'
    rw [dset_ne (i := a j) (fun e' => hl.ca _ _ hi hj e'.symm)]
    by_cases e : j = i
    · subst e; exact ⟨dset_same, (h.ord j hj hl').2⟩
    · rw [dset_ne (fun e' => e (hl.cc _ _ hj hi e'))]; exact h.ord j hj hl'
/-- a new variable -/
theorem VInv.alloc (h : VInv w0 g B k c a s P L res ptr W M Ls) (hl : Lay k c a s) (i : Nat) (hi : i < k) (hf : L (a i) = false) (hs0 : L (s i) = false) (t : TypeId) :
    VInv w0 g B k c a s P (dset L (a i)) res (ptr.set i (.pointer (some ⟨W.heap.size, 0, none⟩))) (W.alloc (.cells #[.slice none 0 0] t)) (M ++ [(W.heap.size, .slice none 0 0)]) Ls := by
  have l1 : ∀ i r, res[i]? = some r → i < k := fun i r hr => by have := get_lt hr; rw [h.rk] at this; exact this
  have l2 : ∀ i r, ptr[i]? = some r → i < k := fun i r hr => by have := get_lt hr; rw [h.pk] at this; exact this
  refine ⟨h.st.boxed _ _, h.dice.grown (row := none) (World.grownBy_alloc W _ none) (fun _ e => by cases e), h.low, h.rk, by rw [List.length_set]; exact h.pk, fun j r hr hl' => ?_, fun j p r hp hr hl' => ?_, fun j j' p hne hp hp' hl1 hl2 => ?_, fun j hj hl' => ?_⟩
  · rw [dset_ne (hl.ca _ _ (l1 _ _ hr) hi)] at hl'
    exact h.got j r hr hl'
  · have hjk := l1 j r hr
    rw [dset_ne (fun e' => hl.sa _ _ hi hjk e'.symm)]
    by_cases e : j = i
    · subst e
      rw [List.getElem?_set_self (by rw [h.pk]; exact hi)] at hp
      obtain rfl := Option.some.inj hp
      exact ⟨_, _, rfl, List.mem_append_right _ List.mem_cons_self, fun _ => rfl, fun e2 => by rw [hs0] at e2; cases e2⟩
    · rw [List.getElem?_set_ne (fun e' => e e'.symm)] at hp
      rw [dset_ne (fun e' => e (hl.aa _ _ hjk hi e'))] at hl'
      obtain ⟨b, v, k1, k2, k3, k4⟩ := h.var j p r hp hr hl'
      exact ⟨b, v, k1, List.mem_append_left _ k2, k3, k4⟩
  · have key : ∀ (j : Nat) (p : Value), ptr[j]? = some p → L (a j) = true → p ≠ .pointer (some ⟨W.heap.size, 0, none⟩) := fun j p hp hlj e => by
      have hres : j < res.length := by rw [h.rk]; exact l2 j p hp
      obtain ⟨b, v, k1, k2, _⟩ := h.var j p res[j] hp (List.getElem?_eq_getElem hres) hlj
      have := (h.st.var k2).2.1
      rw [k1] at e
      injection e with e
      injection e with e
      injection e with e
      omega
    by_cases e : j = i <;> by_cases e' : j' = i
    · omega
    · subst e
      rw [List.getElem?_set_self (by rw [h.pk]; exact hi)] at hp
      obtain rfl := Option.some.inj hp
      rw [List.getElem?_set_ne (fun e2 => e' e2.symm)] at hp'
      rw [dset_ne (fun e2 => e' (hl.aa _ _ (l2 _ _ hp') hi e2))] at hl2
      exact key j' _ hp' hl2 rfl
    · subst e'
      rw [List.getElem?_set_self (by rw [h.pk]; exact hi)] at hp'
      obtain rfl := Option.some.inj hp'
      rw [List.getElem?_set_ne (fun e2 => e e2.symm)] at hp
      rw [dset_ne (fun e2 => e (hl.aa _ _ (l2 _ _ hp) hi e2))] at hl1
      exact key j _ hp hl1 rfl
    · rw [List.getElem?_set_ne (fun e2 => e e2.symm)] at hp
      rw [List.getElem?_set_ne (fun e2 => e' e2.symm)] at hp'
      rw [dset_ne (fun e2 => e (hl.aa _ _ (l2 _ _ hp) hi e2))] at hl1
      rw [dset_ne (fun e2 => e' (hl.aa _ _ (l2 _ _ hp') hi e2))] at hl2
      exact h.ne j j' p hne hp hp' hl1 hl2
  · rw [dset_ne (fun e' => hl.sa _ _ hi hj e'.symm)] at hl'
    rw [dset_ne (hl.ca _ _ hj hi)]
    by_cases e : j = i
    · subst e; exact ⟨(h.ord j hj hl').1, dset_same⟩
    · rw [dset_ne (fun e' => e (hl.aa _ _ hj hi e'))]; exact h.ord j hj hl'
/-- a store into its variable -/
theorem VInv.store (h : VInv w0 g B k c a s P L res ptr W M Ls) (hl : Lay k c a s) (i : Nat) (hi : i < k) (hf : L (s i) = false) (hc : L (c i) = true) (ha : L (a i) = true) {r p : Value} (hr : res[i]? = some r) (hp : ptr[i]? = some p) :
    ∃ b A n cc x, p = .pointer (some ⟨b, 0, none⟩) ∧ r = .agg #[.slice A n cc] ∧ P i x ∧ W.cell? ⟨b, 0, none⟩ = some (.slice none 0 0) ∧ W.frozen? ⟨b, 0, none⟩ = false ∧
      VInv w0 g B k c a s P (dset L (s i)) res ptr (W.setCell ⟨b, 0, none⟩ (.slice A n cc)) (putV M b (.slice A n cc)) Ls := by
  have l1 : ∀ i r, res[i]? = some r → i < k := fun i r hr => by have := get_lt hr; rw [h.rk] at this; exact this
  have l2 : ∀ i r, ptr[i]? = some r → i < k := fun i r hr => by have := get_lt hr; rw [h.pk] at this; exact this
  obtain ⟨b, v, rfl, hm, hv, _⟩ := h.var i p r hp hr ha
  obtain rfl := hv hf
  obtain ⟨A, n, cc, x, rfl, hob, hx⟩ := h.got i r hr hc
  obtain ⟨v1, v2, v3, v4, v5⟩ := h.st.var hm
  have hgb : g ≠ b := fun e => v5 (by rw [e])
  refine ⟨b, A, n, cc, x, rfl, rfl, hx, v3, v4, h.st.putM hm _, ?_, h.low, h.rk, h.pk, fun j r hr' hl' => ?_, fun j p' r' hp' hr' hl' => ?_, fun j j' p hne hp hp' hl1 hl2 => ?_, fun j hj hl' => ?_⟩
  · obtain ⟨A', n', c', at_, ts, hh, q1, q2, q3, q4, q5⟩ := h.dice
    have hlow := h.low
    exact ⟨A', n', c', at_, ts, (Below.heap_setCell _ _ _ _ (fun e => hgb e)).trans hh, q1, q2, q3, q4.keep (fun p hp => World.cell?_of_block (Below.heap_setCell _ _ _ _ (fun e => by simp only at e; omega))), q5⟩
  · rw [dset_ne (hl.cs _ _ (l1 _ _ hr') hi)] at hl'
    exact h.got j r hr' hl'
  · have hjk := l1 j r' hr'
    rw [dset_ne (hl.sa _ _ hjk hi)] at hl'
    by_cases e : j = i
    · subst e
      rw [hp] at hp'
      rw [hr] at hr'
      obtain rfl := Option.some.inj hp'
      obtain rfl := Option.some.inj hr'
      refine ⟨b, .slice A n cc, rfl, mem_putV_same hm, fun e2 => ?_, fun _ => rfl⟩
      rw [dset_same] at e2
      cases e2
    · obtain ⟨b', v', rfl, k2, k3, k4⟩ := h.var j p' r' hp' hr' hl'
      rw [dset_ne (fun e' => e (hl.ss _ _ hjk hi e'))]
      refine ⟨b', v', rfl, mem_putV_other k2 (fun e2 => ?_), k3, k4⟩
      subst e2
      exact h.ne j i _ e hp' hp hl' ha
  · rw [dset_ne (hl.sa _ _ (l2 _ _ hp) hi)] at hl1
    rw [dset_ne (hl.sa _ _ (l2 _ _ hp') hi)] at hl2
    exact h.ne j j' p hne hp hp' hl1 hl2
  · by_cases e : j = i
    · subst e
      rw [dset_ne (hl.cs _ _ hj hi), dset_ne (hl.sa _ _ hj hi)]
      exact ⟨hc, ha⟩
    · rw [dset_ne (fun e' => e (hl.ss _ _ hj hi e'))] at hl'
      rw [dset_ne (hl.cs _ _ hj hi), dset_ne (hl.sa _ _ hj hi)]
      exact h.ord j hj hl'
theorem VInv.start (hs : St w0 W (some g) [] []) (hd : Dice W g B) (hB : B ≤ w0.heap.size) (hr : res.length = k) (hp : ptr.length = k) : VInv w0 g B k c a s P (fun _ => false) res ptr W [] [] :=
  ⟨hs, hd, hB, hr, hp, fun _ _ _ h => (by cases h), fun _ _ _ _ _ h => (by cases h), fun _ _ _ _ _ _ h => (by cases h), fun _ _ h => (by cases h)⟩
/-- what is there behind the region: the variables and their numbers, in order -/
theorem VInv.finish2 (h : VInv w0 g B 2 c a s P L res ptr W M Ls) (hL : ∀ i, i < 2 → L (c i) = true ∧ L (a i) = true ∧ L (s i) = true) : ∃ (A1 A2 : Option Addr) (n1 c1 x1 n2 c2 x2 b1 b2 : Nat),
    ptr = [.pointer (some ⟨b1, 0, none⟩), .pointer (some ⟨b2, 0, none⟩)] ∧ P 0 x1 ∧ P 1 x2 ∧ Dice W g B ∧
    St w0 W (some g) [(b1, .slice A1 n1 c1), (b2, .slice A2 n2 c2)] [⟨A1, n1, c1, nats (Na.dig x1)⟩, ⟨A2, n2, c2, nats (Na.dig x2)⟩] := by
  obtain ⟨r1, r2, rfl⟩ : ∃ r1 r2, res = [r1, r2] := by
    have := h.rk
    match res, this with
    | [r1, r2], _ => exact ⟨r1, r2, rfl⟩
  obtain ⟨p1, p2, rfl⟩ : ∃ r1 r2, ptr = [r1, r2] := by
    have := h.pk
    match ptr, this with
    | [r1, r2], _ => exact ⟨r1, r2, rfl⟩
  obtain ⟨q1, q2, q3⟩ := hL 0 (by omega)
  obtain ⟨q4, q5, q6⟩ := hL 1 (by omega)
  obtain ⟨A1, n1, c1, x1, rfl, g1, g2⟩ := h.got 0 _ rfl q1
  obtain ⟨A2, n2, c2, x2, rfl, g3, g4⟩ := h.got 1 _ rfl q4
  obtain ⟨b1, v1, rfl, m1, _, e1⟩ := h.var 0 _ _ rfl rfl q2
  obtain ⟨b2, v2, rfl, m2, _, e2⟩ := h.var 1 _ _ rfl rfl q5
  have e1' := e1 q3
  have e2' := e2 q6
  injection e1' with e1'
  injection e2' with e2'
  have e1 : v1 = .slice A1 n1 c1 := by simpa using e1'.symm
  have e2 : v2 = .slice A2 n2 c2 := by simpa using e2'.symm
  subst e1 e2
  have hne : b1 ≠ b2 := fun e => by subst e; exact h.ne 0 1 _ (by omega) rfl rfl q2 q5
  refine ⟨A1, A2, n1, c1, x1, n2, c2, x2, b1, b2, rfl, g2, g4, h.dice, h.st.sub (fun x hx => ?_) (one_of (by simp [hne])) (fun o ho => ?_)⟩
  · simp at hx; rcases hx with rfl | rfl <;> assumption
  · simp at ho; rcases ho with rfl | rfl <;> assumption
theorem VInv.finish3 (h : VInv w0 g B 3 c a s P L res ptr W M Ls) (hL : ∀ i, i < 3 → L (c i) = true ∧ L (a i) = true ∧ L (s i) = true) : ∃ (A1 A2 A3 : Option Addr) (n1 c1 x1 n2 c2 x2 n3 c3 x3 b1 b2 b3 : Nat),
    ptr = [.pointer (some ⟨b1, 0, none⟩), .pointer (some ⟨b2, 0, none⟩), .pointer (some ⟨b3, 0, none⟩)] ∧ P 0 x1 ∧ P 1 x2 ∧ P 2 x3 ∧ Dice W g B ∧
    St w0 W (some g) [(b1, .slice A1 n1 c1), (b2, .slice A2 n2 c2), (b3, .slice A3 n3 c3)] [⟨A1, n1, c1, nats (Na.dig x1)⟩, ⟨A2, n2, c2, nats (Na.dig x2)⟩, ⟨A3, n3, c3, nats (Na.dig x3)⟩] := by
  obtain ⟨r1, r2, r3, rfl⟩ : ∃ r1 r2 r3, res = [r1, r2, r3] := by
    have := h.rk
    match res, this with
    | [r1, r2, r3], _ => exact ⟨r1, r2, r3, rfl⟩
  obtain ⟨p1, p2, p3, rfl⟩ : ∃ r1 r2 r3, ptr = [r1, r2, r3] := by
    have := h.pk
    match ptr, this with
    | [r1, r2, r3], _ => exact ⟨r1, r2, r3, rfl⟩
  obtain ⟨q1, q2, q3⟩ := hL 0 (by omega)
  obtain ⟨q4, q5, q6⟩ := hL 1 (by omega)
  obtain ⟨q7, q8, q9⟩ := hL 2 (by omega)
  obtain ⟨A1, n1, c1, x1, rfl, g1, g2⟩ := h.got 0 _ rfl q1
  obtain ⟨A2, n2, c2, x2, rfl, g3, g4⟩ := h.got 1 _ rfl q4
  obtain ⟨A3, n3, c3, x3, rfl, g5, g6⟩ := h.got 2 _ rfl q7
  obtain ⟨b1, v1, rfl, m1, _, e1⟩ := h.var 0 _ _ rfl rfl q2
  obtain ⟨b2, v2, rfl, m2, _, e2⟩ := h.var 1 _ _ rfl rfl q5
  obtain ⟨b3, v3, rfl, m3, _, e3⟩ := h.var 2 _ _ rfl rfl q8
  have e1' := e1 q3
  have e2' := e2 q6
  have e3' := e3 q9
  injection e1' with e1'
  injection e2' with e2'
  injection e3' with e3'
  have e1 : v1 = .slice A1 n1 c1 := by simpa using e1'.symm
  have e2 : v2 = .slice A2 n2 c2 := by simpa using e2'.symm
  have e3 : v3 = .slice A3 n3 c3 := by simpa using e3'.symm
  subst e1 e2 e3
  have hne : b1 ≠ b2 := fun e => by subst e; exact h.ne 0 1 _ (by omega) rfl rfl q2 q5
  have hne2 : b1 ≠ b3 := fun e => by subst e; exact h.ne 0 2 _ (by omega) rfl rfl q2 q8
  have hne3 : b2 ≠ b3 := fun e => by subst e; exact h.ne 1 2 _ (by omega) rfl rfl q5 q8
  refine ⟨A1, A2, A3, n1, c1, x1, n2, c2, x2, n3, c3, x3, b1, b2, b3, rfl, g2, g4, g6, h.dice, h.st.sub (fun x hx => ?_) (one_of (by simp [hne, hne2, hne3])) (fun o ho => ?_)⟩
  · simp at hx; rcases hx with rfl | rfl | rfl <;> assumption
  · simp at ho; rcases ho with rfl | rfl | rfl <;> assumption
end
theorem rollB_any (A : Option Addr) (n c B : Nat) (ts : List Int) (w : World) (hn : ts.length = n) (hl : n ≤ 140737488355328) (hs : Sl w B A (ints ts)) (hB : B ≤ w.heap.size) :
    Calls Tryz.prog 8 #[.slice A n c] w fun e w' => e = .returned (.pointer (some ⟨w.heap.size, 0, none⟩)) ∧ Dice w' w.heap.size B ∧ w'.heap.size = w.heap.size + 1 ∧ Below w.heap.size w w' := by
  have HD : Hid (Dice (w.alloc (.cells #[.slice A n c, .int .i64 0] 48)) w.heap.size B) :=
    ⟨A, n, c, 0, ts, heap_alloc_new w _, hn, Nat.zero_le _, hl, hs.below ((Below.refl _ _).alloc hB _), hB⟩
  clear hn hs
  go_enter Tryz.func8, Tryz.ntmps8
  go_wp2_with fail
  go_ret
  exact ⟨rfl, HD.out, by simp, (Below.refl _ _).alloc (Nat.le_refl _) _⟩
/-- dice over a list that lay there at the beginning -/
theorem roll_at {w0 w : World} {M : List (Nat × Value)} {L : List Ob} (h : St w0 w none M L) (A : Option Addr) (n c B : Nat) (ts : List Int) (hn : ts.length = n) (hl : n ≤ 140737488355328) (hB : B ≤ w0.heap.size) (hs : Sl w B A (ints ts)) :
    Calls Tryz.prog 8 #[.slice A n c] w fun e w' => ∃ g, e = .returned (.pointer (some ⟨g, 0, none⟩)) ∧ Dice w' g B ∧ St w0 w' (some g) M L := by
  refine (rollB_any A n c B ts w hn hl hs (Nat.le_trans hB h.size)).mono ?_
  rintro e w' ⟨he, hd, hz, hb⟩
  have h' := h.go hb
  refine ⟨_, he, hd, ⟨h'.below, fun x e => by cases e; exact ⟨by omega, h.size⟩, fun i b v hi => ?_, h'.one, fun o ho => ?_⟩⟩
  · obtain ⟨h1, h2, h3, h4, _⟩ := h'.box i b v hi
    exact ⟨h1, h2, h3, h4, fun e => by cases e; have := (h.box i _ v hi).1; omega⟩
  · obtain ⟨h1, h2, h3, B, hB, hs2, hne⟩ := h.held o ho
    refine ⟨h1, h2, h3, B, Nat.le_trans hB hb.size, hs2.below (hb.mono hB), fun ad e h0 => ⟨fun e2 => ?_, (hne ad e h0).2⟩⟩
    obtain ⟨ad', e', hbk, _⟩ := hs2 (by omega)
    rw [e] at e'
    obtain rfl := Option.some.inj e'
    have := Option.some.inj e2
    omega
end Go.Proofs.YtnfjnlnphdmdmaaGreatDoor

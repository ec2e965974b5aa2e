/- Owned lists: fewer, in another order, with zeros behind; arrays and structs as owned lists. -/
import Derived.Test.YtpcmbmabmfghkaaDoorOm
namespace Go.Proofs.YtpcmbmabmfghkaaDoor
open Go.RowKit
set_option linter.unusedVariables false
set_option maxRecDepth 100000
section
variable {P : Program} {w0 w w' : World} {g : Option Nat} {M : List (Nat × Value)} {L : List Ob} {O : List Rw} {t e : TypeId} {z : Value} {bytes : Nat}
theorem Ow.drew (h : Ow w0 w g M L O) : Ow w0 w.drew g M L O := h.go (Below.refl _ _).drew
/-- fewer owned lists -/
theorem Ow.few (h : Ow w0 w g M L O) (k : Nat) : Ow w0 w g M L (O.take k) := by
  have key : ∀ (i : Nat) (r : Rw), (O.take k)[i]? = some r → O[i]? = some r := fun i r hi => by
    rw [List.getElem?_take] at hi
    split at hi
    · exact hi
    · cases hi
  exact ⟨h.st, fun i r hi => h.own i r (key i r hi), fun i r hi => h.ap i r (key i r hi), fun i j r s hi hj => h.two i j r s (key i r hi) (key j s hj)⟩
/-- a list literal of one element -/
theorem Ow.lit1 (h : Ow w0 w g M L O) (v : Value) (e : TypeId) : Ow w0 (w.alloc (.cells #[v] e)) g M L (O ++ [⟨some ⟨w.heap.size, 0, none⟩, 1, 1, e, [v]⟩]) :=
  h.add (World.ownsRow_lit (base := w.heap.size) (e := e) (size := 1) w #[v] 1 (Nat.le_refl _) (by unfold maxLen; omega) rfl) (own_box1 _ _)
theorem owp_append {o : Oper} {a : Act} {K : Act → World → Prop} {Q : Exit → Act → World → Prop} (hE : Elem P t e z bytes) (h : Ow w0 w g M L O) (i : Nat) (s x : Operand) {A : Option Addr} {n c : Nat} {xs : List Value} (hi : O[i]? = some ⟨A, n, c, e, xs⟩)
    {B : Nat} {A2 : Option Addr} {m c2 : Nat} {news : List Value} (hm : news.length = m) (hr : Sl w B A2 news) (h1 : ∀ u ∈ news, u.oneCell' = true) (h63 : n + m ≤ maxLen) (hbytes : (n + m) * bytes ≤ 140737488355328)
    (ho : o.op = .call { callee := .builtin .append, args := #[s, x], argTypes := #[t, t] }) (hs : a.eval s = .slice A n c) (hx : a.eval x = .slice A2 m c2)
    (hk : ∀ A' c' w', Ow w0 w' g M L (O.set i ⟨A', n + m, c', e, xs ++ news⟩) → K (a.put o.dst (.slice A' (n + m) c')) w') : o.wp P a w K Q := by
  obtain ⟨ht, hzc, inf, hi0, hz, hsz, hby⟩ := hE
  exact wp_append_sl w s x t ho w0.heap.size e inf z bytes ht hi0 hz hsz hby (by rw [hzc]; rfl) A n c xs hs (h.own i _ hi) B A2 m c2 news hx hm hr h1 h63 hbytes h.size fun A' c' w' h2 h3 h4 =>
    hk A' c' w' (h.turn i hi (r' := ⟨A', n + m, c', e, xs ++ news⟩) h3 h2 h4)
/-- fewer lists are looked at -/
theorem Ow.less (h : Ow w0 w g M L O) {L' : List Ob} (hL : ∀ o ∈ L', o ∈ L) : Ow w0 w g M L' O :=
  ⟨h.st.sub (fun _ h => h) h.st.one hL, h.own, fun i r hi b hb => ⟨(h.ap i r hi b hb).1, (h.ap i r hi b hb).2.1, fun o ho => (h.ap i r hi b hb).2.2 o (hL o ho)⟩, h.two⟩
/-- fewer variables and lists are looked at -/
theorem Ow.few2 (h : Ow w0 w g M L O) {M' : List (Nat × Value)} {L' : List Ob} (hM : M' = M.take M'.length) (hL : ∀ o ∈ L', o ∈ L) : Ow w0 w g M' L' O := by
  have key : ∀ (i : Nat) (p : Nat × Value), M'[i]? = some p → M[i]? = some p := fun i p hp => by
    rw [hM, List.getElem?_take] at hp
    split at hp
    · exact hp
    · cases hp
  exact ⟨h.st.sub (fun p hp => by
      obtain ⟨i, hi⟩ := List.mem_iff_getElem?.1 hp
      exact List.mem_of_getElem? (key i p hi)) (fun i j b u v hi hj => h.st.one i j b u v (key i _ hi) (key j _ hj)) hL, h.own, fun i r hi b hb => ⟨(h.ap i r hi b hb).1, fun j k v hj => (h.ap i r hi b hb).2.1 j k v (key j _ hj), fun o ho => (h.ap i r hi b hb).2.2 o (hL o ho)⟩, h.two⟩
/-- without the first owned list -/
theorem Ow.tail {r : Rw} (h : Ow w0 w g M L (r :: O)) : Ow w0 w g M L O :=
  ⟨h.st, fun i r hi => h.own (i + 1) r hi, fun i r hi => h.ap (i + 1) r hi, fun i j r s hi hj hij => h.two (i + 1) (j + 1) r s hi hj (by omega)⟩
theorem Ow.fewM {l : List (Nat × Value)} (h : Ow w0 w g (M ++ l) L O) : Ow w0 w g M L O := h.few2 (by rw [List.take_left]) (fun _ h => h)
theorem Ow.fewO {l : List Rw} (h : Ow w0 w g M L (O ++ l)) : Ow w0 w g M L O := by
  have := h.few O.length
  rwa [List.take_left] at this
theorem get_r {α : Type} (M l : List α) (j : Nat) : (M ++ l)[M.length + j]? = l[j]? := by rw [List.getElem?_append_right (by omega)]; congr 1; omega
theorem set_r {α : Type} (M l : List α) (j : Nat) (x : α) : (M ++ l).set (M.length + j) x = M ++ l.set j x := by rw [List.set_append_right _ _ (by omega)]; congr 2; omega
theorem set_l {α : Type} (M l : List α) {k : Nat} (hk : k < M.length) (x : α) : (M ++ l).set k x = M.set k x ++ l := List.set_append_left _ _ hk
theorem get_l {α : Type} (M l : List α) {k : Nat} (hk : k < M.length) : (M ++ l)[k]? = M[k]? := List.getElem?_append_left hk
theorem Ow.arr (h : Ow w0 w g M L O) (xs : Array Value) (k : Nat) (hx : xs.size = k) (hk : k ≤ 1000) (T : TypeId) : Ow w0 (w.alloc (.cells xs T)) g M L (O ++ [⟨some ⟨w.heap.size, 0, none⟩, k, k, T, xs.toList⟩]) :=
  h.add (World.ownsRow_lit (base := w.heap.size) (e := T) (size := 1) w xs k (Nat.le_refl _) (by unfold maxLen; omega) (by omega)) (own_box1 _ _)
theorem Ow.rowHeap (h : Ow w0 w g M L O) (i : Nat) {b k : Nat} {T : TypeId} {xs : List Value} (hi : O[i]? = some ⟨some ⟨b, 0, none⟩, k, k, T, xs⟩) : w.heap[b]? = some (.cells xs.toArray T (0, 0)) ∧ xs.length = k := by
  obtain ⟨hl, ⟨h1, _⟩ | ⟨g', cap, cur, e, _, hg, _, _, hs, ht⟩⟩ := h.own i _ hi
  · cases h1
  · have e1 : (⟨b, 0, none⟩ : Addr) = ⟨g', 0, none⟩ ∧ k = cap := by
      injection e with e1 e2 e3
      exact ⟨Option.some.inj e1, e3⟩
    obtain ⟨e2, e3⟩ := e1
    injection e2 with e4
    rw [List.take_of_length_le (by rw [Array.length_toList, hs, ← e3]; exact Nat.le_refl _)] at ht
    have hl' : xs.length = k * 1 := hl
    refine ⟨?_, by omega⟩
    rw [e4, hg]
    show some (Obj.cells cur T (0, 0)) = some (Obj.cells xs.toArray T (0, 0))
    have ht' : cur.toList = xs := ht
    rw [← ht']
theorem Ow.putRow (h : Ow w0 w g M L O) (i : Nat) {b k : Nat} {T : TypeId} {xs : List Value} (hi : O[i]? = some ⟨some ⟨b, 0, none⟩, k, k, T, xs⟩) (ys : Array Value) (hy : ys.size = k) (hk : k ≤ 1000) : Ow w0 (w.setRow b ys) g M L (O.set i ⟨some ⟨b, 0, none⟩, k, k, T, ys.toList⟩) := by
  obtain ⟨h1, h2⟩ := h.rowHeap i hi
  refine h.turn i hi (r' := ⟨some ⟨b, 0, none⟩, k, k, T, ys.toList⟩) ⟨rfl, rfl, rfl, by simp [World.setRow], fun q hq hne => setRow_other _ _ _ _ (fun e => hne (by rw [e]; rfl))⟩ ⟨by show ys.toList.length = k * 1; simp [hy], .inr ⟨b, k, ys, rfl, (h.lt hi rfl).2, setRow_heap w b xs.toArray ys T (0, 0) h1, Nat.le_refl _, by unfold maxLen; omega, by omega, ?_⟩⟩ (.inl rfl)
  exact List.take_of_length_le (by simp [hy])
/-- owned lists in another order, or fewer -/
theorem Ow.re (h : Ow w0 w g M L O) {O' : List Rw} (f : Nat → Nat) (hf : ∀ i j, i < O'.length → j < O'.length → f i = f j → i = j) (hO : ∀ (i : Nat) (r : Rw), O'[i]? = some r → O[f i]? = some r) : Ow w0 w g M L O' :=
  ⟨h.st, fun i r hi => h.own (f i) r (hO i r hi), fun i r hi => h.ap (f i) r (hO i r hi), fun i j r s hi hj hij => h.two (f i) (f j) r s (hO i r hi) (hO j s hj) fun e => hij (hf i j (get_lt hi) (get_lt hj) e)⟩
end
end Go.Proofs.YtpcmbmabmfghkaaDoor

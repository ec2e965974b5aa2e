/- The dice's One and OddNat over what is held. -/
import Derived.Test.YtnfjnlnphdmdmaaGreatDoorRm
import Derived.Test.YtnfjnlnphdmdmaaGreatDoorNatR
import Derived.Test.YtnfjnlnphdmdmaaGreatDoorNatV
namespace Go.Proofs.YtnfjnlnphdmdmaaGreatDoor
open Go.RowKit Go.Sort
set_option linter.unusedVariables false
set_option maxRecDepth 100000
section
variable {w0 w w' : World} {g B : Nat} {M : List (Nat × Value)} {L : List Ob} {O : List Rw} {A : Option Addr} {n c : Nat}
theorem Ow.roll (h : Ow w0 w (some g) M L O) (hg : w.grownBy w' (some g)) : Ow w0 w' (some g) M L O := by
  refine ⟨h.st.roll hg, fun i r hi => own_keep (h.own i r hi) hg ?_, h.ap, h.two⟩
  by_cases e : (Value.slice r.A r.n r.c).ownBlock = none
  · exact .inl e
  · exact .inr fun e2 => (h.ap i r hi g e2).1 rfl
def GotB (w0 : World) (g B : Nat) (M : List (Nat × Value)) (L : List Ob) (O : List Rw) (e : Ending) (w' : World) : Prop := ∃ r : Bool, e = .returned (.bool r) ∧ Dice w' g B ∧ Ow w0 w' (some g) M L O
def GotR (w0 : World) (g B : Nat) (M : List (Nat × Value)) (L : List Ob) (O : List Rw) (m : Nat) (e : Ending) (w' : World) : Prop := ∃ r : Nat, e = .returned (.int .i64 (r : Int)) ∧ r < m ∧ Dice w' g B ∧ Ow w0 w' (some g) M L O
theorem next_ow (h : Ow w0 w (some g) M L O) (hd : Dice w g B) (m : Nat) (hm : 0 < m) (hm2 : m ≤ 9223372036854775807) :
    Calls Tryz.prog 10 #[.pointer (some ⟨g, 0, none⟩), .int .i64 (m : Int)] w fun e w' => ∃ r : Nat, e = .returned (.int .i64 (r : Int)) ∧ r < m ∧ Dice w' g B ∧ Ow w0 w' (some g) M L O ∧ w.grownBy w' (some g) :=
  (next_any g B m w (by omega) (by omega) hd).mono fun e w' ⟨r, he, h0, h1, hd', hg⟩ => ⟨r.toNat, by rw [he]; congr 2; omega, by omega, hd', h.roll hg, hg⟩
theorem Dice.turned (hd : Dice w g B) (hB : B ≤ w0.heap.size) (h : Ow w0 w (some g) M L O) {i : Nat} {r : Rw} (hi : O[i]? = some r) (hg : w.grownBy w' r.blk) : Dice w' g B := by
  have hlt := hd.lt
  obtain ⟨A, n, c, at_, ts, hh, h1, h2, h3, hs, hBg⟩ := hd
  refine ⟨A, n, c, at_, ts, (hg.block g hlt (fun e => (h.ap i r hi g e.symm).1 rfl)).trans hh, h1, h2, h3, hs.keep fun p hp => World.cell?_of_block (hg.block p.block (by omega) (fun e => ?_)), hBg⟩
  have := (h.lt hi e.symm).2
  omega
theorem ow_append' {P : Program} {t e : TypeId} {z : Value} {bytes : Nat} {ops : Array Oper} {rest : List Oper} {o : Oper} {a : Act} {Q : Exit → Act → World → Prop} (hE : Elem P t e z bytes) (h : Ow w0 w (some g) M L O) (hd : Dice w g B) (hB : B ≤ w0.heap.size) (i : Nat) (s x : Operand) {A : Option Addr} {n c : Nat} {xs : List Value} (hi : O[i]? = some ⟨A, n, c, e, xs⟩)
    {B' : Nat} {A2 : Option Addr} {m c2 : Nat} {news : List Value} (hm : news.length = m) (hr : Sl w B' A2 news) (h1 : ∀ u ∈ news, u.oneCell' = true) (h63 : n + m ≤ maxLen) (hbytes : (n + m) * bytes ≤ 140737488355328)
    (hgd : o.guard = none) (ho : o.op = .call { callee := .builtin .append, args := #[s, x], argTypes := #[t, t] }) (hs : a.eval s = .slice A n c) (hx : a.eval x = .slice A2 m c2)
    (hk : ∀ A' c' w', Ow w0 w' (some g) M L (O.set i ⟨A', n + m, c', e, xs ++ news⟩) → Dice w' g B → wpList P ops Q rest (a.put o.dst (.slice A' (n + m) c')) w') : wpList P ops Q (o :: rest) a w := by
  obtain ⟨ht, hzc, inf, hi0, hz, hsz, hby⟩ := hE
  exact wpList_append_sl w hgd s x t ho w0.heap.size e inf z bytes ht hi0 hz hsz hby (by rw [hzc]; rfl) A n c xs hs (h.own i _ hi) B' A2 m c2 news hx hm hr h1 h63 hbytes h.size fun A' c' w' h2 h3 h4 =>
    hk A' c' w' (h.turn i hi (r' := ⟨A', n + m, c', e, xs ++ news⟩) h3 h2 h4) (hd.turned hB h hi h3)
theorem Dice.set (hd : Dice w g B) (hB : B ≤ w0.heap.size) (h : Ow w0 w (some g) M L O) {i b : Nat} {v : Value} (hi : M[i]? = some (b, v)) (u : Value) : Dice (w.setCell ⟨b, 0, none⟩ u) g B := by
  have hlt := hd.lt
  have hg := grown_set w ⟨b, 0, none⟩ u
  obtain ⟨h1, h2, h3, h4, h5⟩ := h.st.box i b v hi
  obtain ⟨A, n, c, at_, ts, hh, k1, k2, k3, hs, hBg⟩ := hd
  exact ⟨A, n, c, at_, ts, (hg.block g hlt (fun e => h5 e)).trans hh, k1, k2, k3, hs.keep fun p hp => World.cell?_of_block (hg.block p.block (by omega) (fun e => by have := Option.some.inj e; simp only at this; omega)), hBg⟩
theorem at_fst (M : List (Nat × Value)) (p q : Nat × Value) : (M ++ [p] ++ [q])[M.length]? = some p := by simp
theorem at_snd (M : List (Nat × Value)) (p q : Nat × Value) : (M ++ [p] ++ [q])[M.length + 1]? = some q := by simp
theorem at_end (O : List Rw) (r : Rw) : (O ++ [r])[O.length]? = some r := by simp
theorem set_end (O : List Rw) (r s : Rw) : (O ++ [r]).set O.length s = O ++ [s] := by simp
theorem set_snd (M : List (Nat × Value)) (p q r : Nat × Value) : (M ++ [p] ++ [q]).set (M.length + 1) r = M ++ [p] ++ [r] := by
  rw [List.set_append_right _ _ (by simp)]
  simp
theorem take_fst (M : List (Nat × Value)) (p q : Nat × Value) : M = (M ++ [p] ++ [q]).take M.length := by
  rw [List.append_assoc, List.take_append_of_le_length (Nat.le_refl _), List.take_length]
theorem ints_snoc (l : List Int) (v : Int) : ints l ++ [.int .i64 v] = ints (l ++ [v]) := by unfold ints; rw [List.map_append]; rfl
theorem Ow.init {r : Rw} (h : Ow w0 w (some g) M L (O ++ [r])) : Ow w0 w (some g) M L O := by
  have key : ∀ (i : Nat) (s : Rw), O[i]? = some s → (O ++ [r])[i]? = some s := fun i s hi => by rw [List.getElem?_append_left (get_lt hi)]; exact hi
  exact ⟨h.st, fun i s hi => h.own i s (key i s hi), fun i s hi => h.ap i s (key i s hi), fun i j s t hi hj => h.two i j s t (key i s hi) (key j t hj)⟩
theorem Ow.old2 {p q : Nat × Value} (h : Ow w0 w (some g) (M ++ [p] ++ [q]) L O) : Ow w0 w (some g) M L O := by
  have key : ∀ (i : Nat) (x : Nat × Value), M[i]? = some x → (M ++ [p] ++ [q])[i]? = some x := fun i x hi => by rw [List.append_assoc, List.getElem?_append_left (get_lt hi)]; exact hi
  exact ⟨h.st.sub (fun x hx => by simp [hx]) (fun i j b u v hi hj => h.st.one i j b u v (key i _ hi) (key j _ hj)) (fun o h => h), h.own, fun i r hi b hb => ⟨(h.ap i r hi b hb).1, fun j k v hj => (h.ap i r hi b hb).2.1 j k v (key j _ hj), (h.ap i r hi b hb).2.2⟩, h.two⟩
theorem odd_end {p q : Nat × Value} {e : TypeId} {vs : List Value} (h : Ow w0 w (some g) (M ++ [p] ++ [q]) L (O ++ [⟨A, n, c, e, vs⟩])) (hl : n ≤ 1000) : Ow w0 w (some g) M (L ++ [⟨A, n, c, vs⟩]) O := by
  have h1 := h.keep O.length (at_end O _) hl
  rw [set_end] at h1
  exact h1.init.old2
/-- the literal that OddNat picks from -/
def oddL : Array Value := #[.int .i64 (-1), .int .i64 0, .int .i64 16777216, .int .i64 1099511627776]
theorem odd_get (r : Nat) (h : r < 4) : ∃ v : Int, oddL[r]? = some (.int .i64 v) := by
  match r, h with
  | 0, _ => exact ⟨_, rfl⟩
  | 1, _ => exact ⟨_, rfl⟩
  | 2, _ => exact ⟨_, rfl⟩
  | 3, _ => exact ⟨_, rfl⟩
end
end Go.Proofs.YtnfjnlnphdmdmaaGreatDoor

/- Two products side by side, each put into a variable: what is held while the region goes on, in whatever order. -/
import Derived.Test.YtnfjnlnphdmdmaaDoorQmb
import Derived.Test.YtnfjnlnphdmdmaaDoorRegInv
namespace Go.Proofs.YtnfjnlnphdmdmaaDoor
open Go.RowKit Go.Sort
set_option linter.unusedVariables false
set_option maxRecDepth 100000
def BX (L : Nat → Bool) (a s : Nat) (v u : Value) (ps : List (Nat × Value)) : Prop :=
  L a = true → ∃ (t b : Nat) (x : Value), v = .pointer (some ⟨b, 0, none⟩) ∧ ps[t]? = some (b, x) ∧ (L s = false → x = .slice none 0 0) ∧ (L s = true → u = .agg #[x])
def GX (L : Nat → Bool) (k : Nat) (u : Value) (X : Nat) (Ls : List Ob) : Prop :=
  L k = true → ∃ (t : Nat) (B : Option Addr) (m d : Nat), u = .agg #[.slice B m d] ∧ Ls[t]? = some ⟨B, m, d, nats (Na.dig X)⟩
theorem GX.more {L : Nat → Bool} {k : Nat} {u : Value} {X : Nat} {Ls l : List Ob} (h : GX L k u X Ls) : GX L k u X (Ls ++ l) := fun e => by
  obtain ⟨t, B, m, d, h1, h2⟩ := h e
  exact ⟨t, B, m, d, h1, by rw [List.getElem?_append_left (get_lt h2)]; exact h2⟩
theorem BX.more {L : Nat → Bool} {a s : Nat} {v u : Value} {ps l : List (Nat × Value)} (h : BX L a s v u ps) : BX L a s v u (ps ++ l) := fun e => by
  obtain ⟨t, b, x, h1, h2, h3⟩ := h e
  exact ⟨t, b, x, h1, by rw [List.getElem?_append_left (get_lt h2)]; exact h2, h3⟩
theorem BX.set {L : Nat → Bool} {a s : Nat} {v v' u : Value} {ps : List (Nat × Value)} (h : BX L a s v u ps) {t b : Nat} {x y : Value} (ht : ps[t]? = some (b, x)) (e : v' = .pointer (some ⟨b, 0, none⟩)) (hne : L a = true → v ≠ v') : BX L a s v u (ps.set t (b, y)) := fun hl => by
  obtain ⟨t', b', x', h1, h2, h3⟩ := h hl
  refine ⟨t', b', x', h1, ?_, h3⟩
  rw [List.getElem?_set_ne]
  · exact h2
  · rintro rfl
    rw [ht] at h2
    obtain ⟨rfl, rfl⟩ := Prod.mk.inj (Option.some.inj h2)
    exact hne hl (by rw [h1, e])
section
variable {w0 W : World} {g : Option Nat} {M ps : List (Nat × Value)} {s : Nat × Value} {Ls : List Ob} {O : List Rw}
theorem Ow.psc (h : Ow w0 W g (M ++ s :: ps) Ls O) {t b : Nat} {x : Value} (ht : ps[t]? = some (b, x)) : W.cell? ⟨b, 0, none⟩ = some x ∧ W.frozen? ⟨b, 0, none⟩ = false := by
  have e : (M ++ s :: ps)[M.length + (t + 1)]? = some (b, x) := by rw [get_r]; exact ht
  exact ⟨h.cell _ e, h.free _ e⟩
theorem Ow.pss (h : Ow w0 W g (M ++ s :: ps) Ls O) {t b : Nat} {x : Value} (ht : ps[t]? = some (b, x)) (y : Value) : Ow w0 (W.setCell ⟨b, 0, none⟩ y) g (M ++ s :: ps.set t (b, y)) Ls O := by
  have e : (M ++ s :: ps)[M.length + (t + 1)]? = some (b, x) := by rw [get_r]; exact ht
  have := h.setv _ e y
  rwa [set_r, List.set_cons_succ] at this
theorem Ow.psb (h : Ow w0 W g (M ++ s :: ps) Ls O) (v : Value) (T : TypeId) : Ow w0 (W.alloc (.cells #[v] T)) g (M ++ s :: (ps ++ [(W.heap.size, v)])) Ls O := by
  have := h.boxed v T
  rwa [List.append_assoc, List.cons_append] at this
theorem Ow.psl (h : Ow w0 W g (M ++ s :: ps) Ls O) {t b : Nat} {x : Value} (ht : ps[t]? = some (b, x)) : b < W.heap.size :=
  (h.st.box (M.length + (t + 1)) b x (by rw [get_r]; exact ht)).1
end
structure Four where
  A : Option Addr
  n : Nat
  c : Nat
  A2 : Option Addr
  m : Nat
  c2 : Nat
  A3 : Option Addr
  n3 : Nat
  c3 : Nat
  A4 : Option Addr
  n4 : Nat
  c4 : Nat
end Go.Proofs.YtnfjnlnphdmdmaaDoor

/- Qmf Qx Qyz Ta Tb Tc -/
import Derived.Test.YtjhaogbopmhkoaaDoorY06
import Derived.Test.YtjhaogbopmhkoaaDoorY17
import Derived.Test.YtjhaogbopmhkoaaDoorY18
namespace Go.Proofs.YtjhaogbopmhkoaaDoor
set_option linter.unusedVariables false
set_option maxRecDepth 100000
section
variable {P : Program} {md : Region.Mode} {ops : Array Oper} {Q : Exit → Act → World → Prop}
/-- every edge that binds leads back -/
def backB (md : Region.Mode) (ops : Array Oper) : Bool := (List.range ops.size).all fun i => ((ops[i]?).map fun o => o.after.all fun e => !Region.binds md e || decide (e.on < i)).getD true
theorem ready_none4 {l : Array Bool} (hb : backB md ops = true) (h : Region.ready md ops l = []) : ∀ j, j < ops.size → l.getD j true = true := by
  intro j
  induction j using Nat.strongRecOn with
  | _ j ih =>
    intro hj
    cases hl : l.getD j true with
    | true => rfl
    | false =>
      exfalso
      have : j ∈ Region.ready md ops l := by
        unfold Region.ready
        rw [List.mem_filter]
        refine ⟨List.mem_range.2 hj, ?_⟩
        rw [hl]
        have ho : ops[j]? = some ops[j] := Array.getElem?_eq_getElem hj
        have hbj := List.all_eq_true.1 hb j (List.mem_range.2 hj)
        rw [ho] at hbj
        have hbj' : (ops[j].after.all fun e => !Region.binds md e || decide (e.on < j)) = true := hbj
        rw [ho]
        show (!false && (ops[j].after.all fun e => !Region.binds md e || l.getD e.on false)) = true
        rw [Bool.not_false, Bool.true_and, Array.all_eq_true_iff_forall_mem]
        intro e he
        have h50 := Array.all_eq_true_iff_forall_mem.1 hbj' e he
        cases hbi : Region.binds md e with
        | false => rfl
        | true =>
        rw [hbi] at h50
        have h5 : e.on < j := of_decide_eq_true h50
        have h6 := ih e.on h5 (by omega)
        have h7 : l.getD e.on false = true := by
          rw [Array.getD_eq_getD_getElem?] at h6 ⊢
          rcases Nat.lt_or_ge e.on l.size with h8 | h8
          · rw [Array.getElem?_eq_getElem h8] at h6 ⊢; exact h6
          · exfalso
            have h9 : l.size ≤ j := by omega
            rw [Array.getD_eq_getD_getElem?, Array.getElem?_eq_none h9] at hl
            cases hl
        rw [h7, Bool.or_true]
      rw [h] at this
      cases this
theorem reg_inv_go4 (Inv : (Nat → Bool) → Act → World → Prop) (hb : backB md ops = true)
    (hstep : ∀ j L a w, j < ops.size → L j = false → (∀ o, ops[j]? = some o → ∀ e ∈ o.after, Region.binds md e = true → L e.on = true) → Inv L a w → wpOp P ops Q j (Inv (dset L j)) a w)
    (hend : ∀ L a w, (∀ i, i < ops.size → L i = true) → Inv L a w → Q .normal a w) : ∀ (n : Nat) (l : Array Bool) (a : Act) (w : World), l.size = ops.size → (l.toList.countP (· == false)) ≤ n →
      Inv (fun i => l.getD i false) a w → wpAny P md ops Q n l a w := by
  intro n
  have fin : ∀ (l : Array Bool) (a : Act) (w : World), l.size = ops.size → Inv (fun i => l.getD i false) a w → Region.ready md ops l = [] → Q .normal a w := fun l a w hs hi hr => by
    refine hend _ a w (fun i hi => ?_) hi
    have h1 := ready_none4 hb hr i hi
    rw [Array.getD_eq_getD_getElem?] at h1 ⊢
    rw [Array.getElem?_eq_getElem (by omega)] at h1 ⊢
    exact h1
  induction n with
  | zero =>
    intro l a w hs hc hi
    have hr : Region.ready md ops l = [] := by
      cases e : Region.ready md ops l with
      | nil => rfl
      | cons j r =>
        exfalso
        obtain ⟨h1, h2, _⟩ := mem_ready (md := md) (ops := ops) (l := l) (j := j) (by rw [e]; exact List.mem_cons_self)
        have h3 : l.toList.countP (· == false) = 0 := by omega
        rw [List.countP_eq_zero] at h3
        rw [Array.getD_eq_getD_getElem?, Array.getElem?_eq_getElem (by omega)] at h2
        have h4 : j < l.size := by omega
        exact h3 _ (Array.mem_toList_iff.2 (Array.getElem_mem h4)) (by simpa using h2)
    exact ⟨hr, fin l a w hs hi hr⟩
  | succ n ih =>
    intro l a w hs hc hi
    refine ⟨fin l a w hs hi, fun j hj => ?_⟩
    obtain ⟨h1, h2, h3⟩ := mem_ready hj
    have hjl : j < l.size := by omega
    have h2' : l[j] = false := by rw [Array.getD_eq_getD_getElem?, Array.getElem?_eq_getElem hjl] at h2; exact h2
    have e1 : (fun i => (l.setIfInBounds j true).getD i false) = dset (fun i => l.getD i false) j := by
      funext i
      unfold dset
      by_cases e : i = j
      · subst e
        rw [if_pos rfl, Array.getD_eq_getD_getElem?, Array.getElem?_setIfInBounds_self_of_lt hjl]; rfl
      · rw [if_neg e, Array.getD_eq_getD_getElem?, Array.getElem?_setIfInBounds_ne (fun e' => e e'.symm)]
        exact (Array.getD_eq_getD_getElem? ..).symm
    refine wpOp_mono (fun a' w' h => ih _ a' w' (by rw [Array.size_setIfInBounds]; exact hs) ?_ (by rw [e1]; exact h)) (hstep j _ a w h1 (by show l.getD j false = false; rw [Array.getD_eq_getD_getElem?, Array.getElem?_eq_getElem hjl]; exact h2') h3 hi)
    have h5 : (l.setIfInBounds j true).toList = l.toList.set j true := by simp
    rw [h5]
    have key : ∀ (xs : List Bool) (j : Nat), xs[j]? = some false → (xs.set j true).countP (· == false) + 1 = xs.countP (· == false) := by
      intro xs
      induction xs with
      | nil => intro j h; simp at h
      | cons x xs ih2 =>
        intro j h
        cases j with
        | zero =>
          simp at h
          subst h
          simp
        | succ j =>
          simp at h
          have := ih2 j h
          simp only [List.set_cons_succ, List.countP_cons]
          omega
    have := key l.toList j (by rw [Array.getElem?_toList, Array.getElem?_eq_getElem hjl, h2'])
    omega
/-- the rule: an invariant of the region, over the set of operations that are done -/
theorem reg_inv4 {id : Nat} {a : Act} {w : World} (Inv : (Nat → Bool) → Act → World → Prop) (hm : P.follows .mixedOrders = true) (hb : backB .any ops = true)
    (h0 : Inv (fun _ => false) a w.drew)
    (hstep : ∀ j L a w, j < ops.size → L j = false → (∀ o, ops[j]? = some o → ∀ e ∈ o.after, Region.binds .any e = true → L e.on = true) → Inv L a w → wpOp P ops Q j (Inv (dset L j)) a w)
    (hend : ∀ L a w, (∀ i, i < ops.size → L i = true) → Inv L a w → Q .normal a w) : (Code.region id ops true).wp P Q a w := by
  refine wp_region_any hm (reg_inv_go4 Inv hb hstep hend _ _ _ _ (by simp) ?_ ?_)
  · refine Nat.le_trans List.countP_le_length ?_
    simp
  · have : (fun i => (Array.replicate ops.size false).getD i false) = fun _ => false := by
      funext i
      rw [Array.getD_eq_getD_getElem?]
      rcases Nat.lt_or_ge i ops.size with h | h
      · rw [Array.getElem?_eq_getElem (by simpa using h)]; simp
      · rw [Array.getElem?_eq_none (by simpa using h)]; rfl
    rw [this]
    exact h0
/-- the rule, the region's first frame named -/
theorem reg_inv24 {id : Nat} {a : Act} {w : World} (I : Act → (Nat → Bool) → Act → World → Prop) (hm : P.follows .mixedOrders = true) (hb : backB .any ops = true)
    (h0 : I a (fun _ => false) a w.drew)
    (hstep : ∀ j L b v, j < ops.size → L j = false → (∀ i, (preds .any ops j).elem i = true → L i = true) → I a L b v → wpOp P ops Q j (I a (dset L j)) b v)
    (hend : ∀ L b v, (∀ i, i < ops.size → L i = true) → I a L b v → Q .normal b v) : (Code.region id ops true).wp P Q a w :=
  reg_inv4 (I a) hm hb h0 (fun j L b v hj hf hd hi => hstep j L b v hj hf (mem_preds (Array.getElem?_eq_getElem hj) (fun e he hb => hd _ (Array.getElem?_eq_getElem hj) e he hb)) hi) hend
/-- the rule, with closedness at hand -/
theorem reg_inv34 {id : Nat} {a : Act} {w : World} (I : Act → (Nat → Bool) → Act → World → Prop) (hm : P.follows .mixedOrders = true) (hb : backB .any ops = true)
    (h0 : I a (fun _ => false) a w.drew)
    (hstep : ∀ j L b v, j < ops.size → L j = false → Closed ops L → (∀ i, (preds .any ops j).elem i = true → L i = true) → I a L b v → wpOp P ops Q j (I a (dset L j)) b v)
    (hend : ∀ L b v, (∀ i, i < ops.size → L i = true) → I a L b v → Q .normal b v) : (Code.region id ops true).wp P Q a w := by
  refine reg_inv24 (fun a L b v => Closed ops L ∧ I a L b v) hm hb ⟨(fun j i h => nomatch h), h0⟩ (fun j L b v hj hf hp hi => ?_) (fun L b v hl hi => hend L b v hl hi.2)
  refine wpOp_mono (fun a' w' h => ⟨fun j' i' h1 h2 => ?_, h⟩) (hstep j L b v hj hf hi.1 hp hi.2)
  unfold dset at h1 ⊢
  by_cases e : i' = j
  · rw [if_pos e]
  · rw [if_neg e]
    by_cases e2 : j' = j
    · subst e2
      exact hp i' h2
    · rw [if_neg e2] at h1
      exact hi.1 j' i' h1 h2
end
end Go.Proofs.YtjhaogbopmhkoaaDoor

namespace Go.Proofs.YtjhaogbopmhkoaaDoor
open Go.RowKit
set_option linter.unusedVariables false
section
variable {w0 w w' : World} {g B : Nat} {M : List (Nat × Value)} {L : List Ob} {O : List Rw} {A : Option Addr} {n c : Nat}
end
end Go.Proofs.YtjhaogbopmhkoaaDoor

namespace Go.Proofs.YtjhaogbopmhkoaaDoor
open Go.RowKit Go.Sort
set_option linter.unusedVariables false
set_option maxRecDepth 100000
/-- the lists of a fraction among what is held -/
def Frac (Ls : List Ob) (C1 : Option Addr) (k1 e1 : Nat) (C2 : Option Addr) (k2 e2 : Nat) : Prop := ∃ (t1 t2 x y : Nat), x < 16777216 ^ 3 ∧ y < 16777216 ^ 3 ∧ 0 < y ∧ Nat.gcd x y = 1 ∧ Ls[t1]? = some ⟨C1, k1, e1, nats (Na.dig x)⟩ ∧ Ls[t2]? = some ⟨C2, k2, e2, nats (Na.dig y)⟩
theorem Frac.more {Ls l : List Ob} {C1 : Option Addr} {k1 e1 : Nat} {C2 : Option Addr} {k2 e2 : Nat} (h : Frac Ls C1 k1 e1 C2 k2 e2) : Frac (Ls ++ l) C1 k1 e1 C2 k2 e2 := by
  obtain ⟨t1, t2, x, y, h1, h2, h3, h4, h5, h6⟩ := h
  exact ⟨t1, t2, x, y, h1, h2, h3, h4, by rw [List.getElem?_append_left (get_lt h5)]; exact h5, by rw [List.getElem?_append_left (get_lt h6)]; exact h6⟩
structure Sm2K (w0 : World) (g B : Nat) (M : List (Nat × Value)) (L : List Ob) (O : List Rw) (rb db : Nat) (Ad : Option Addr) (nd cd yd : Nat) (Ld : Nat → Bool) (u0 u1 u2 u3 u4 u5 u6 v u8 : Value) (C1 : Option Addr) (k1 e1 : Nat) (C2 : Option Addr) (k2 e2 : Nat) (ps : List Rw) (Ls : List Ob) (W : World) : Prop where
  ow : Ow w0 W (some g) (M ++ [(db, .slice Ad nd cd)]) (L ++ ⟨Ad, nd, cd, nats (Na.dig yd)⟩ :: Ls) (O ++ Rw.pair rb 26 (.slice none 0 0) (.slice none 0 0) :: ps)
  dc : Dice W g B
  h0 : Ld 0 = true → u0 = .pointer (some ⟨g, 0, none⟩)
  h1 : Ld 1 = true → ∃ (t : Nat) (A : Option Addr) (n c x : Nat), u1 = .agg #[.slice A n c] ∧ x < 16777216 ^ 3 ∧ Ls[t]? = some ⟨A, n, c, nats (Na.dig x)⟩
  h2 : Ld 2 = true → u2 = .agg #[.slice Ad nd cd]
  h3 : Ld 3 = true → u3 = .tuple #[.agg #[.slice C1 k1 e1, .slice C2 k2 e2], .int .i64 0] ∧ Frac Ls C1 k1 e1 C2 k2 e2
  h4 : Ld 4 = true → u4 = .tuple #[.agg #[.slice C1 k1 e1, .slice C2 k2 e2], .int .i64 0]
  h5 : Ld 5 = true → u5 = .agg #[.slice C1 k1 e1, .slice C2 k2 e2]
  h6 : Ld 6 = true → u6 = .int .i64 0
  h7 : Ld 7 = true → ∃ (t b : Nat) (p q : Value), v = .pointer (some ⟨b, 0, none⟩) ∧ ps[t]? = some (Rw.pair b 26 p q) ∧ (Ld 8 = true → p = .slice C1 k1 e1 ∧ q = .slice C2 k2 e2)
section
variable {w0 w w' W W' : World} {g B : Nat} {M : List (Nat × Value)} {L : List Ob} {O : List Rw} {rb db : Nat} {Ad : Option Addr} {nd cd yd : Nat} {Ld : Nat → Bool} {u0 u1 u2 u3 u4 u5 u6 v u8 : Value} {C1 : Option Addr} {k1 e1 : Nat} {C2 : Option Addr} {k2 e2 : Nat} {ps : List Rw} {Ls : List Ob}
theorem Sm2K.c1 (h : Sm2K w0 g B M L O rb db Ad nd cd yd Ld u0 u1 u2 u3 u4 u5 u6 v u8 C1 k1 e1 C2 k2 e2 ps Ls W) (hf : Ld 8 = false) {A : Option Addr} {n c x : Nat} (hx : x < 16777216 ^ 3) (hd : Dice W' g B) (ho : Ow w0 W' (some g) (M ++ [(db, .slice Ad nd cd)]) (L ++ ⟨Ad, nd, cd, nats (Na.dig yd)⟩ :: Ls ++ [⟨A, n, c, nats (Na.dig x)⟩]) (O ++ Rw.pair rb 26 (.slice none 0 0) (.slice none 0 0) :: ps)) :
    Sm2K w0 g B M L O rb db Ad nd cd yd (dset Ld 1) u0 (.agg #[.slice A n c]) u2 u3 u4 u5 u6 v u8 C1 k1 e1 C2 k2 e2 ps (Ls ++ [⟨A, n, c, nats (Na.dig x)⟩]) W' :=
  ⟨by rw [List.append_assoc, List.cons_append] at ho; exact ho, hd, h.h0, fun _ => ⟨Ls.length, A, n, c, x, rfl, hx, by simp⟩, h.h2, fun e => ⟨(h.h3 e).1, (h.h3 e).2.more⟩, h.h4, h.h5, h.h6, h.h7⟩
theorem Sm2K.c3 (h : Sm2K w0 g B M L O rb db Ad nd cd yd Ld u0 u1 u2 u3 u4 u5 u6 v u8 C1 k1 e1 C2 k2 e2 ps Ls W) (f4 : Ld 4 = false) (f5 : Ld 5 = false) (f8 : Ld 8 = false) {D1 : Option Addr} {i1 j1 : Nat} {D2 : Option Addr} {i2 j2 X Y : Nat} (h1 : X < 16777216 ^ 3) (h2 : Y < 16777216 ^ 3) (h3 : 0 < Y) (h4 : Nat.gcd X Y = 1) (hd : Dice W' g B) (ho : Ow w0 W' (some g) (M ++ [(db, .slice Ad nd cd)]) (L ++ ⟨Ad, nd, cd, nats (Na.dig yd)⟩ :: Ls ++ [⟨D1, i1, j1, nats (Na.dig X)⟩] ++ [⟨D2, i2, j2, nats (Na.dig Y)⟩]) (O ++ Rw.pair rb 26 (.slice none 0 0) (.slice none 0 0) :: ps)) :
    Sm2K w0 g B M L O rb db Ad nd cd yd (dset Ld 3) u0 u1 u2 (.tuple #[.agg #[.slice D1 i1 j1, .slice D2 i2 j2], .int .i64 0]) u4 u5 u6 v u8 D1 i1 j1 D2 i2 j2 ps (Ls ++ [⟨D1, i1, j1, nats (Na.dig X)⟩, ⟨D2, i2, j2, nats (Na.dig Y)⟩]) W' :=
  ⟨by rw [List.append_assoc, List.append_assoc, List.cons_append] at ho; exact ho, hd, h.h0, fun e => by
    obtain ⟨t, A, n, c, x, k1, k2, k3⟩ := h.h1 e
    exact ⟨t, A, n, c, x, k1, k2, by rw [List.getElem?_append_left (get_lt k3)]; exact k3⟩, h.h2, fun _ => ⟨rfl, Ls.length + 0, Ls.length + 1, X, Y, h1, h2, h3, h4, by rw [get_r]; rfl, by rw [get_r]; rfl⟩, fun e => absurd ((show Ld 4 = true from e).symm.trans f4) (by decide), fun e => absurd ((show Ld 5 = true from e).symm.trans f5) (by decide), h.h6, fun e => by
    obtain ⟨t, b, p, q, k1, k2, k3⟩ := h.h7 e
    exact ⟨t, b, p, q, k1, k2, fun e2 => absurd ((show Ld 8 = true from e2).symm.trans f8) (by decide)⟩⟩
theorem Sm2K.s8 (h : Sm2K w0 g B M L O rb db Ad nd cd yd Ld u0 u1 u2 u3 u4 u5 u6 v u8 C1 k1 e1 C2 k2 e2 ps Ls W) (hB : B ≤ w0.heap.size) (h7 : Ld 7 = true) (h5 : Ld 5 = true) :
    ∃ b p q ps', v = .pointer (some ⟨b, 0, none⟩) ∧ u5 = .agg #[.slice C1 k1 e1, .slice C2 k2 e2] ∧ W.cell? ⟨b, 0, none⟩ = some p ∧ W.cell? ⟨b, 1, none⟩ = some q ∧ W.frozen? ⟨b, 0, none⟩ = false ∧ W.frozen? ⟨b, 1, none⟩ = false ∧
      Sm2K w0 g B M L O rb db Ad nd cd yd (dset Ld 8) u0 u1 u2 u3 u4 u5 u6 v u8 C1 k1 e1 C2 k2 e2 ps' Ls ((W.setCell ⟨b, 0, none⟩ (.slice C1 k1 e1)).setCell ⟨b, 1, none⟩ (.slice C2 k2 e2)) := by
  obtain ⟨t, b, p, q, a1, a2, a3⟩ := h.h7 h7
  have hi : (O ++ Rw.pair rb 26 (.slice none 0 0) (.slice none 0 0) :: ps)[O.length + (t + 1)]? = some (Rw.pair b 26 p q) := by rw [get_r]; exact a2
  have o1 := h.ow.set0 _ hi (.slice C1 k1 e1)
  have d1 := h.dc.turned hB h.ow hi (grown_set W ⟨b, 0, none⟩ (.slice C1 k1 e1))
  rw [set_r, List.set_cons_succ] at o1
  have hi2 : (O ++ Rw.pair rb 26 (.slice none 0 0) (.slice none 0 0) :: ps.set t (Rw.pair b 26 (.slice C1 k1 e1) q))[O.length + (t + 1)]? = some (Rw.pair b 26 (.slice C1 k1 e1) q) := by rw [get_r]; exact List.getElem?_set_self (get_lt a2)
  have o2 := o1.set1 _ hi2 (.slice C2 k2 e2)
  have d2 := d1.turned hB o1 hi2 (grown_set _ ⟨b, 1, none⟩ (.slice C2 k2 e2))
  rw [set_r, List.set_cons_succ, List.set_set] at o2
  exact ⟨b, p, q, _, a1, h.h5 h5, h.ow.p0 _ hi, h.ow.p1 _ hi, h.ow.pf _ hi 0, h.ow.pf _ hi 1, o2, d2, h.h0, h.h1, h.h2, h.h3, h.h4, h.h5, h.h6, fun _ => ⟨t, b, _, _, a1, List.getElem?_set_self (get_lt a2), fun _ => ⟨rfl, rfl⟩⟩⟩
end
section
variable {w0 w w' : World} {g B : Nat} {M : List (Nat × Value)} {L : List Ob} {O : List Rw}
end
end Go.Proofs.YtjhaogbopmhkoaaDoor

namespace Go.Proofs.YtjhaogbopmhkoaaDoor
open Go.RowKit Go.Sort
set_option linter.unusedVariables false
set_option maxRecDepth 100000
structure FrK (x y : Nat) : Prop where
  px : x < Na.top
  py : y < Na.top
  pos : 0 < y
  g : Nat.gcd x y = 1
theorem FrK.rv {x y : Nat} (h : FrK x y) : rv (Na.up (Na.dig x)) (Na.up (Na.dig y)) = true := rv_low h.px h.py h.pos h.g
/-- the fraction of two numbers -/
theorem FrK.of {x y : Nat} (hx : x < Na.top) (hy : y < Na.top) (h0 : 0 < y) : ∃ n d, frM x y = (n, d, 0) ∧ FrK n d ∧ n * y = x * d ∧ n ≤ x ∧ d ≤ y := by
  obtain ⟨n, d, h1, h2, h3, h4, h5, h6⟩ := frM_spec (x := x) h0
  exact ⟨n, d, h1, ⟨by omega, by omega, h2, h3⟩, h4, h5, h6⟩
section
variable {w0 w w' : World} {g : Option Nat} {M M2 : List (Nat × Value)} {L : List Ob} {O : List Rw} {A A2 A3 A4 : Option Addr} {b n c m c2 n3 c3 n4 c4 x y : Nat} {p q r s : List Int}
theorem qmake_fr {x y : Nat} {t : Nat × Nat × Int} (h : Ow w0 w g M L O) (i j : Nat) (hi : L[i]? = some ⟨A, n, c, nats (Na.dig x)⟩) (hj : L[j]? = some ⟨A2, m, c2, nats (Na.dig y)⟩) (ht : Tab w0) (hx : x < Na.top) (hy : y < Na.top) (e : frM x y = t) :
    Calls Tryd.prog 46 #[.agg #[.slice A n c], .agg #[.slice A2 m c2]] w (GotF w0 g M L O t) := by
  have := qmake_ow (p := Na.up (Na.dig x)) (q := Na.up (Na.dig y)) h i j (by rw [nats_up]; exact hi) (by rw [nats_up]; exact hj) ht
  unfold makeF at this
  rw [Na.vld_dig hx, Na.vld_dig hy, num_dig, num_dig, e] at this
  exact this
end
end Go.Proofs.YtjhaogbopmhkoaaDoor

namespace Go.Proofs.YtjhaogbopmhkoaaDoor
open Go.RowKit Go.Sort
set_option linter.unusedVariables false
set_option maxRecDepth 100000
theorem nrmul_fr {w0 w : World} {g : Option Nat} {M : List (Nat × Value)} {L : List Ob} {O : List Rw} {A A2 : Option Addr} {n c m c2 x y : Nat} (h : Ow w0 w g M L O) (i j : Nat) (hi : L[i]? = some ⟨A, n, c, nats (Na.dig x)⟩) (hj : L[j]? = some ⟨A2, m, c2, nats (Na.dig y)⟩) (hx : x < Na.top) (hy : y < Na.top) :
    Calls Tryd.prog 54 #[.agg #[.slice A n c], .agg #[.slice A2 m c2]] w (GotO w0 g M L O (resL (x * y)) (resE (x * y))) := by
  have := ag_rmul (zs := Na.up (Na.dig x)) (ys := Na.up (Na.dig y)) h i j (by rw [nats_up]; exact hi) (by rw [nats_up]; exact hj)
  rwa [(mul_ok hx hy).1, (mul_ok hx hy).2] at this
theorem nradd_fr {w0 w : World} {g : Option Nat} {M : List (Nat × Value)} {L : List Ob} {O : List Rw} {A A2 : Option Addr} {n c m c2 x y : Nat} (h : Ow w0 w g M L O) (i j : Nat) (hi : L[i]? = some ⟨A, n, c, nats (Na.dig x)⟩) (hj : L[j]? = some ⟨A2, m, c2, nats (Na.dig y)⟩) (hx : x < Na.top) (hy : y < Na.top) :
    Calls Tryd.prog 64 #[.agg #[.slice A n c], .agg #[.slice A2 m c2]] w (GotO w0 g M L O (resL (x + y)) (resE (x + y))) := by
  have := ag_radd (zs := Na.up (Na.dig x)) (ys := Na.up (Na.dig y)) h i j (by rw [nats_up]; exact hi) (by rw [nats_up]; exact hj)
  unfold addL addE at this
  rw [Na.vld_dig hx, Na.vld_dig hy, num_dig, num_dig] at this
  exact this
theorem nrsub_fr {w0 w : World} {g : Option Nat} {M : List (Nat × Value)} {L : List Ob} {O : List Rw} {A A2 : Option Addr} {n c m c2 x y : Nat} (h : Ow w0 w g M L O) (i j : Nat) (hi : L[i]? = some ⟨A, n, c, nats (Na.dig x)⟩) (hj : L[j]? = some ⟨A2, m, c2, nats (Na.dig y)⟩) (hx : x < Na.top) (hy : y < Na.top) :
    Calls Tryd.prog 51 #[.agg #[.slice A n c], .agg #[.slice A2 m c2]] w (GotO w0 g M L O (if x < y then [] else Na.dig (x - y)) (if x < y then 5 else 0)) := by
  have := ag_rsub (zs := Na.up (Na.dig x)) (ys := Na.up (Na.dig y)) h i j (by rw [nats_up]; exact hi) (by rw [nats_up]; exact hj)
  unfold subL subE at this
  rw [Na.vld_dig hx, Na.vld_dig hy, num_dig, num_dig] at this
  exact this
theorem qrmake_fr {w0 w : World} {g : Option Nat} {M : List (Nat × Value)} {L : List Ob} {O : List Rw} {A A2 : Option Addr} {n c m c2 x y : Nat} {t : Nat × Nat × Int} (h : Ow w0 w g M L O) (i j : Nat) (hi : L[i]? = some ⟨A, n, c, nats (Na.dig x)⟩) (hj : L[j]? = some ⟨A2, m, c2, nats (Na.dig y)⟩) (hx : x < Na.top) (hy : y < Na.top) (e : frM x y = t) :
    Calls Tryd.prog 52 #[.agg #[.slice A n c], .agg #[.slice A2 m c2]] w (GotF w0 g M L O t) := by
  have := qrmake_ow (p := Na.up (Na.dig x)) (q := Na.up (Na.dig y)) h i j (by rw [nats_up]; exact hi) (by rw [nats_up]; exact hj)
  unfold makeF at this
  rw [Na.vld_dig hx, Na.vld_dig hy, num_dig, num_dig, e] at this
  exact this
section
variable {w0 w w' : World} {g : Option Nat} {M M2 : List (Nat × Value)} {L : List Ob} {O : List Rw} {A A2 A3 A4 : Option Addr} {b n c m c2 n3 c3 n4 c4 x y : Nat} {p q r s : List Int}
theorem Ow.apart {M : List (Nat × Value)} (h : Ow w0 w g M L O) (i j : Nat) {b c : Nat} {u v : Value} (hi : M[i]? = some (b, u)) (hj : M[j]? = some (c, v)) (hij : i ≠ j) : b ≠ c := by
  rintro rfl
  exact hij (h.st.one i j b u v hi hj)
end
end Go.Proofs.YtjhaogbopmhkoaaDoor

namespace Go.Proofs.YtjhaogbopmhkoaaDoor
open Go.RowKit Go.Sort
set_option linter.unusedVariables false
set_option maxRecDepth 100000
theorem Ow.self {w0 w : World} {g : Option Nat} {M : List (Nat × Value)} {L : List Ob} {O : List Rw} (h : Ow w0 w g M L O) : Ow w w none [] L [] :=
  Ow.of ⟨Below.refl _ _, fun x e => (by cases e), fun i b v h => (by simp at h), fun i j b u v h => (by simp at h), fun o ho => by
    obtain ⟨h1, h2, h3, B, hB, hs, -⟩ := h.st.held o ho
    exact ⟨h1, h2, h3, B, hB, hs, fun ad _ _ => ⟨(by simp), fun i b v h => (by simp at h)⟩⟩⟩
section
variable {w0 w w' : World} {g : Option Nat} {M M2 : List (Nat × Value)} {L : List Ob} {O : List Rw} {A A2 A3 A4 : Option Addr} {b n c m c2 n3 c3 n4 c4 x y : Nat} {p q r s : List Int}
end
end Go.Proofs.YtjhaogbopmhkoaaDoor

namespace Go.Proofs.YtjhaogbopmhkoaaDoor
open Go.RowKit Go.Sort
set_option linter.unusedVariables false
set_option maxRecDepth 100000
/-- a call that hands back a number -/
def GotU (w0 : World) (g : Option Nat) (M : List (Nat × Value)) (L : List Ob) (O : List Rw) (l : List Nat) (en : Ending) (w' : World) : Prop :=
  ∃ (A1 : Option Addr) (n1 c1 : Nat), en = .returned (.agg #[.slice A1 n1 c1]) ∧ Ow w0 w' g M (L ++ [⟨A1, n1, c1, nats l⟩]) O
theorem ofL_nat (k : Nat) : ofL (k : Int) = Na.dig k := by unfold ofL; rw [if_neg (by omega)]; rfl
theorem ofE_nat (k : Nat) : ofE (k : Int) = 0 := by unfold ofE; rw [if_neg (by omega)]
theorem powL_nat {x k : Nat} (hk : k ≤ 4800) (h : x ^ k < Na.top) : powL x (k : Int) = Na.dig (x ^ k) := by
  unfold powL
  rw [if_neg (by omega), show ((k : Int)).toNat = k by omega]
  exact resL_ok h
theorem powE_nat {x k : Nat} (hk : k ≤ 4800) (h : x ^ k < Na.top) : powE x (k : Int) = 0 := by
  unfold powE
  rw [if_neg (by omega), show ((k : Int)).toNat = k by omega]
  exact resE_ok h
theorem choL_nat {m k : Nat} (hm : m ≤ 4096) : choL (m : Int) (k : Int) = Na.dig (Na.bin m k) := by
  unfold choL
  rw [if_neg (by omega)]
  rcases Nat.lt_or_ge m k with h | h
  · rw [if_pos (by omega), Na.bin_more h, Na.dig_zero]
  · rw [if_neg (by omega), show ((m : Int)).toNat = m by omega, show ((k : Int)).toNat = k by omega]
theorem choE_nat {m k : Nat} (hm : m ≤ 4096) : choE (m : Int) (k : Int) = 0 := by
  unfold choE
  rw [if_neg (by omega)]
section
variable {w0 w w' : World} {g : Option Nat} {M M2 : List (Nat × Value)} {L : List Ob} {O : List Rw} {A A2 A3 A4 : Option Addr} {b n c m c2 n3 c3 n4 c4 x y : Nat} {p q r s : List Int}
set_option maxHeartbeats 4000000 in
theorem t_of (h : Ow w0 w g M L O) (k : Nat) (hk : k ≤ 9223372036854775807) :
    Calls Tryd.prog 42 #[.int .i64 (k : Int)] w (GotU w0 g M L O (Na.dig k)) := by
  have H0 := h.boxed (.slice none 0 0) 24
  have H00 := H0
  have HC := Lib.hid (ag_of H0 (k : Int) (by omega))
  rw [ofL_nat, ofE_nat] at HC
  obtain ⟨l0, hl0⟩ : ∃ z, Na.dig k = z := ⟨_, rfl⟩
  rw [hl0] at HC ⊢
  clear h H0 hl0 H00 hk
  go_enter Tryd.func42, Tryd.ntmps42
  go_wp2_with fail
  refine HC.out.mono ?_
  rintro e w1 ⟨B1, m1, d1, rfl, G⟩
  have H := G.boxed (.slice B1 m1 d1) 24
  simp only [List.append_assoc, List.cons_append, List.nil_append] at H
  clear HC G 
  have x0 := H.cell (M.length + 1) (by rw [get_r]; rfl)
  have r0 := H.cell (M.length + 0) (by rw [get_r]; rfl)
  have f0 := H.free (M.length + 0) (by rw [get_r]; rfl)
  have Z := H.setv (M.length + 0) (by rw [get_r]; rfl) (.slice B1 m1 d1)
  rw [set_r] at Z
  simp only [List.set_cons_zero] at Z
  have s0 := Z.cell (M.length + 0) (by rw [get_r]; rfl)
  have HF := Lib.hid Z.fewM
  clear H Z
  go_wp2_with fail
  refine bodyPost_ret (v := .agg #[.slice B1 m1 d1]) (by simp [results, Tryd.results42, go_sem, s0]) rfl ?_
  exact ⟨B1, m1, d1, rfl, HF.out⟩
set_option maxHeartbeats 4000000 in
theorem t_power (h : Ow w0 w g M L O) (i : Nat) (hi : L[i]? = some ⟨A, n, c, nats (Na.dig x)⟩) (hx : x < Na.top) (k : Nat) (hk : k ≤ 4800) (hp : x ^ k < Na.top) :
    Calls Tryd.prog 44 #[.agg #[.slice A n c], .int .i64 (k : Int)] w (GotU w0 g M L O (Na.dig (x ^ k))) := by
  have H0 := (h.boxed (.slice A n c) 24).boxed (.slice none 0 0) 24
  simp only [World.size_alloc, List.append_assoc, List.cons_append, List.nil_append] at H0
  have k0 := H0.cell (M.length + 0) (by rw [get_r]; rfl)
  have HC := Lib.hid (ag_pow H0 i hi hx (k : Int))
  rw [powL_nat hk hp, powE_nat hk hp] at HC
  obtain ⟨l0, hl0⟩ : ∃ z, Na.dig (x ^ k) = z := ⟨_, rfl⟩
  rw [hl0] at HC ⊢
  clear h H0 hl0 hi hx hk hp
  go_enter Tryd.func44, Tryd.ntmps44
  go_wp2_with fail
  refine HC.out.mono ?_
  rintro e w1 ⟨B1, m1, d1, rfl, G⟩
  have H := G.boxed (.slice B1 m1 d1) 24
  simp only [List.append_assoc, List.cons_append, List.nil_append] at H
  clear HC G k0
  have x0 := H.cell (M.length + 2) (by rw [get_r]; rfl)
  have r0 := H.cell (M.length + 1) (by rw [get_r]; rfl)
  have f0 := H.free (M.length + 1) (by rw [get_r]; rfl)
  have Z := H.setv (M.length + 1) (by rw [get_r]; rfl) (.slice B1 m1 d1)
  rw [set_r] at Z
  simp only [List.set_cons_zero, List.set_cons_succ] at Z
  have s0 := Z.cell (M.length + 1) (by rw [get_r]; rfl)
  have HF := Lib.hid Z.fewM
  clear H Z
  go_wp2_with fail
  refine bodyPost_ret (v := .agg #[.slice B1 m1 d1]) (by simp [results, Tryd.results44, go_sem, s0]) rfl ?_
  exact ⟨B1, m1, d1, rfl, HF.out⟩
set_option maxHeartbeats 4000000 in
theorem r_of (h : Ow w0 w g M L O) (k : Nat) (hk : k ≤ 9223372036854775807) :
    Calls Tryd.prog 47 #[.int .i64 (k : Int)] w (GotU w0 g M L O (Na.dig k)) := by
  have H0 := h.boxed (.slice none 0 0) 24
  have H00 := H0
  have HC := Lib.hid (ag_rof H0 (k : Int) (by omega))
  rw [ofL_nat, ofE_nat] at HC
  obtain ⟨l0, hl0⟩ : ∃ z, Na.dig k = z := ⟨_, rfl⟩
  rw [hl0] at HC ⊢
  clear h H0 hl0 H00 hk
  go_enter Tryd.func47, Tryd.ntmps47
  go_wp2_with fail
  refine HC.out.mono ?_
  rintro e w1 ⟨B1, m1, d1, rfl, G⟩
  have H := G.boxed (.slice B1 m1 d1) 24
  simp only [List.append_assoc, List.cons_append, List.nil_append] at H
  clear HC G 
  have x0 := H.cell (M.length + 1) (by rw [get_r]; rfl)
  have r0 := H.cell (M.length + 0) (by rw [get_r]; rfl)
  have f0 := H.free (M.length + 0) (by rw [get_r]; rfl)
  have Z := H.setv (M.length + 0) (by rw [get_r]; rfl) (.slice B1 m1 d1)
  rw [set_r] at Z
  simp only [List.set_cons_zero] at Z
  have s0 := Z.cell (M.length + 0) (by rw [get_r]; rfl)
  have HF := Lib.hid Z.fewM
  clear H Z
  go_wp2_with fail
  refine bodyPost_ret (v := .agg #[.slice B1 m1 d1]) (by simp [results, Tryd.results47, go_sem, s0]) rfl ?_
  exact ⟨B1, m1, d1, rfl, HF.out⟩
set_option maxHeartbeats 4000000 in
theorem r_power (h : Ow w0 w g M L O) (i : Nat) (hi : L[i]? = some ⟨A, n, c, nats (Na.dig x)⟩) (hx : x < Na.top) (k : Nat) (hk : k ≤ 4800) (hp : x ^ k < Na.top) :
    Calls Tryd.prog 50 #[.agg #[.slice A n c], .int .i64 (k : Int)] w (GotU w0 g M L O (Na.dig (x ^ k))) := by
  have H0 := (h.boxed (.slice A n c) 24).boxed (.slice none 0 0) 24
  simp only [World.size_alloc, List.append_assoc, List.cons_append, List.nil_append] at H0
  have k0 := H0.cell (M.length + 0) (by rw [get_r]; rfl)
  have HC := Lib.hid (ag_rpow H0 i hi hx (k : Int))
  rw [powL_nat hk hp, powE_nat hk hp] at HC
  obtain ⟨l0, hl0⟩ : ∃ z, Na.dig (x ^ k) = z := ⟨_, rfl⟩
  rw [hl0] at HC ⊢
  clear h H0 hl0 hi hx hk hp
  go_enter Tryd.func50, Tryd.ntmps50
  go_wp2_with fail
  refine HC.out.mono ?_
  rintro e w1 ⟨B1, m1, d1, rfl, G⟩
  have H := G.boxed (.slice B1 m1 d1) 24
  simp only [List.append_assoc, List.cons_append, List.nil_append] at H
  clear HC G k0
  have x0 := H.cell (M.length + 2) (by rw [get_r]; rfl)
  have r0 := H.cell (M.length + 1) (by rw [get_r]; rfl)
  have f0 := H.free (M.length + 1) (by rw [get_r]; rfl)
  have Z := H.setv (M.length + 1) (by rw [get_r]; rfl) (.slice B1 m1 d1)
  rw [set_r] at Z
  simp only [List.set_cons_zero, List.set_cons_succ] at Z
  have s0 := Z.cell (M.length + 1) (by rw [get_r]; rfl)
  have HF := Lib.hid Z.fewM
  clear H Z
  go_wp2_with fail
  refine bodyPost_ret (v := .agg #[.slice B1 m1 d1]) (by simp [results, Tryd.results50, go_sem, s0]) rfl ?_
  exact ⟨B1, m1, d1, rfl, HF.out⟩
theorem nadd_fr (h : Ow w0 w g M L O) (i j : Nat) (hi : L[i]? = some ⟨A, n, c, nats (Na.dig x)⟩) (hj : L[j]? = some ⟨A2, m, c2, nats (Na.dig y)⟩) (hx : x < Na.top) (hy : y < Na.top) :
    Calls Tryd.prog 99 #[.agg #[.slice A n c], .agg #[.slice A2 m c2]] w (GotO w0 g M L O (resL (x + y)) (resE (x + y))) := by
  have := ag_add (zs := Na.up (Na.dig x)) (ys := Na.up (Na.dig y)) h i j (by rw [nats_up]; exact hi) (by rw [nats_up]; exact hj)
  unfold addL addE at this
  rw [Na.vld_dig hx, Na.vld_dig hy, num_dig, num_dig] at this
  exact this
theorem nmul_fr2 (h : Ow w0 w g M L O) (i j : Nat) (hi : L[i]? = some ⟨A, n, c, nats (Na.dig x)⟩) (hj : L[j]? = some ⟨A2, m, c2, nats (Na.dig y)⟩) (hx : x < Na.top) (hy : y < Na.top) :
    Calls Tryd.prog 100 #[.agg #[.slice A n c], .agg #[.slice A2 m c2]] w (GotO w0 g M L O (resL (x * y)) (resE (x * y))) := by
  have := ag_mul (zs := Na.up (Na.dig x)) (ys := Na.up (Na.dig y)) h i j (by rw [nats_up]; exact hi) (by rw [nats_up]; exact hj)
  rwa [(mul_ok hx hy).1, (mul_ok hx hy).2] at this
set_option maxHeartbeats 4000000 in
theorem t_sum (h : Ow w0 w g M L O) (i j : Nat) (hi : L[i]? = some ⟨A, n, c, nats (Na.dig x)⟩) (hj : L[j]? = some ⟨A2, m, c2, nats (Na.dig y)⟩) (hx : x < Na.top) (hy : y < Na.top) (hs : x + y < Na.top) :
    Calls Tryd.prog 59 #[.agg #[.slice A n c], .agg #[.slice A2 m c2]] w (GotU w0 g M L O (Na.dig (x + y))) := by
  have H0 := ((h.boxed (.slice A n c) 24).boxed (.slice A2 m c2) 24).boxed (.slice none 0 0) 24
  simp only [World.size_alloc, List.append_assoc, List.cons_append, List.nil_append] at H0
  have k0 := H0.cell (M.length + 0) (by rw [get_r]; rfl)
  have k1 := H0.cell (M.length + 1) (by rw [get_r]; rfl)
  have HC := Lib.hid (nadd_fr H0 i j hi hj hx hy)
  rw [resL_ok hs, resE_ok hs] at HC
  obtain ⟨l0, hl0⟩ : ∃ z, Na.dig (x + y) = z := ⟨_, rfl⟩
  rw [hl0] at HC ⊢
  clear h H0 hl0 hi hj hx hy hs
  go_enter Tryd.func59, Tryd.ntmps59
  go_wp2_with fail
  refine HC.out.mono ?_
  rintro e w1 ⟨B1, m1, d1, rfl, G⟩
  have H := G.boxed (.slice B1 m1 d1) 24
  simp only [List.append_assoc, List.cons_append, List.nil_append] at H
  clear HC G k0 k1
  have x0 := H.cell (M.length + 3) (by rw [get_r]; rfl)
  have r0 := H.cell (M.length + 2) (by rw [get_r]; rfl)
  have f0 := H.free (M.length + 2) (by rw [get_r]; rfl)
  have Z := H.setv (M.length + 2) (by rw [get_r]; rfl) (.slice B1 m1 d1)
  rw [set_r] at Z
  simp only [List.set_cons_zero, List.set_cons_succ] at Z
  have s0 := Z.cell (M.length + 2) (by rw [get_r]; rfl)
  have HF := Lib.hid Z.fewM
  clear H Z
  go_wp2_with fail
  refine bodyPost_ret (v := .agg #[.slice B1 m1 d1]) (by simp [results, Tryd.results59, go_sem, s0]) rfl ?_
  exact ⟨B1, m1, d1, rfl, HF.out⟩
set_option maxHeartbeats 4000000 in
theorem r_plus (h : Ow w0 w g M L O) (i j : Nat) (hi : L[i]? = some ⟨A, n, c, nats (Na.dig x)⟩) (hj : L[j]? = some ⟨A2, m, c2, nats (Na.dig y)⟩) (hx : x < Na.top) (hy : y < Na.top) (hs : x + y < Na.top) :
    Calls Tryd.prog 90 #[.agg #[.slice A n c], .agg #[.slice A2 m c2]] w (GotU w0 g M L O (Na.dig (x + y))) := by
  have H0 := ((h.boxed (.slice A n c) 24).boxed (.slice A2 m c2) 24).boxed (.slice none 0 0) 24
  simp only [World.size_alloc, List.append_assoc, List.cons_append, List.nil_append] at H0
  have k0 := H0.cell (M.length + 0) (by rw [get_r]; rfl)
  have k1 := H0.cell (M.length + 1) (by rw [get_r]; rfl)
  have HC := Lib.hid (nradd_fr H0 i j hi hj hx hy)
  rw [resL_ok hs, resE_ok hs] at HC
  obtain ⟨l0, hl0⟩ : ∃ z, Na.dig (x + y) = z := ⟨_, rfl⟩
  rw [hl0] at HC ⊢
  clear h H0 hl0 hi hj hx hy hs
  go_enter Tryd.func90, Tryd.ntmps90
  go_wp2_with fail
  refine HC.out.mono ?_
  rintro e w1 ⟨B1, m1, d1, rfl, G⟩
  have H := G.boxed (.slice B1 m1 d1) 24
  simp only [List.append_assoc, List.cons_append, List.nil_append] at H
  clear HC G k0 k1
  have x0 := H.cell (M.length + 3) (by rw [get_r]; rfl)
  have r0 := H.cell (M.length + 2) (by rw [get_r]; rfl)
  have f0 := H.free (M.length + 2) (by rw [get_r]; rfl)
  have Z := H.setv (M.length + 2) (by rw [get_r]; rfl) (.slice B1 m1 d1)
  rw [set_r] at Z
  simp only [List.set_cons_zero, List.set_cons_succ] at Z
  have s0 := Z.cell (M.length + 2) (by rw [get_r]; rfl)
  have HF := Lib.hid Z.fewM
  clear H Z
  go_wp2_with fail
  refine bodyPost_ret (v := .agg #[.slice B1 m1 d1]) (by simp [results, Tryd.results90, go_sem, s0]) rfl ?_
  exact ⟨B1, m1, d1, rfl, HF.out⟩
set_option maxHeartbeats 4000000 in
theorem r_times (h : Ow w0 w g M L O) (i j : Nat) (hi : L[i]? = some ⟨A, n, c, nats (Na.dig x)⟩) (hj : L[j]? = some ⟨A2, m, c2, nats (Na.dig y)⟩) (hx : x < Na.top) (hy : y < Na.top) (hs : x * y < Na.top) :
    Calls Tryd.prog 91 #[.agg #[.slice A n c], .agg #[.slice A2 m c2]] w (GotU w0 g M L O (Na.dig (x * y))) := by
  have H0 := ((h.boxed (.slice A n c) 24).boxed (.slice A2 m c2) 24).boxed (.slice none 0 0) 24
  simp only [World.size_alloc, List.append_assoc, List.cons_append, List.nil_append] at H0
  have k0 := H0.cell (M.length + 0) (by rw [get_r]; rfl)
  have k1 := H0.cell (M.length + 1) (by rw [get_r]; rfl)
  have HC := Lib.hid (nrmul_fr H0 i j hi hj hx hy)
  rw [resL_ok hs, resE_ok hs] at HC
  obtain ⟨l0, hl0⟩ : ∃ z, Na.dig (x * y) = z := ⟨_, rfl⟩
  rw [hl0] at HC ⊢
  clear h H0 hl0 hi hj hx hy hs
  go_enter Tryd.func91, Tryd.ntmps91
  go_wp2_with fail
  refine HC.out.mono ?_
  rintro e w1 ⟨B1, m1, d1, rfl, G⟩
  have H := G.boxed (.slice B1 m1 d1) 24
  simp only [List.append_assoc, List.cons_append, List.nil_append] at H
  clear HC G k0 k1
  have x0 := H.cell (M.length + 3) (by rw [get_r]; rfl)
  have r0 := H.cell (M.length + 2) (by rw [get_r]; rfl)
  have f0 := H.free (M.length + 2) (by rw [get_r]; rfl)
  have Z := H.setv (M.length + 2) (by rw [get_r]; rfl) (.slice B1 m1 d1)
  rw [set_r] at Z
  simp only [List.set_cons_zero, List.set_cons_succ] at Z
  have s0 := Z.cell (M.length + 2) (by rw [get_r]; rfl)
  have HF := Lib.hid Z.fewM
  clear H Z
  go_wp2_with fail
  refine bodyPost_ret (v := .agg #[.slice B1 m1 d1]) (by simp [results, Tryd.results91, go_sem, s0]) rfl ?_
  exact ⟨B1, m1, d1, rfl, HF.out⟩
set_option maxHeartbeats 4000000 in
theorem t_choose (h : Ow w0 w g M L O) (m k : Nat) (hm : m ≤ 4096) (hk : k ≤ 9223372036854775807) :
    Calls Tryd.prog 61 #[.int .i64 (m : Int), .int .i64 (k : Int)] w (GotU w0 g M L O (Na.dig (Na.bin m k))) := by
  have H0 := h.boxed (.slice none 0 0) 24
  have t1 : decide ((k : Int) < 0) = false := decide_eq_false (by omega)
  have t2 : decide (k < 0) = false := decide_eq_false (by omega)
  rcases Nat.lt_or_ge m k with hmk | hmk
  · have t3 : decide ((m : Int) < (k : Int)) = true := decide_eq_true (by omega)
    have t4 : decide (m < k) = true := decide_eq_true hmk
    have HC := Lib.hid (t_of H0 0 (by omega))
    rw [Na.bin_more hmk]
    clear h H0 hm hmk hk
    go_enter Tryd.func61, Tryd.ntmps61
    go_wp2_with fail
    refine HC.out.mono ?_
    rintro e w1 ⟨B1, m1, d1, rfl, H⟩
    have r0 := H.cell (M.length + 0) (by rw [get_r]; rfl)
    have f0 := H.free (M.length + 0) (by rw [get_r]; rfl)
    have Z := H.setv (M.length + 0) (by rw [get_r]; rfl) (.slice B1 m1 d1)
    rw [set_r] at Z
    simp only [List.set_cons_zero] at Z
    have s0 := Z.cell (M.length + 0) (by rw [get_r]; rfl)
    have HF := Lib.hid Z.fewM
    clear H Z HC
    go_wp2_with fail
    refine bodyPost_ret (v := .agg #[.slice B1 m1 d1]) (by simp [results, Tryd.results61, go_sem, s0]) rfl ?_
    exact ⟨B1, m1, d1, rfl, HF.out⟩
  · have t3 : decide ((m : Int) < (k : Int)) = false := decide_eq_false (by omega)
    have t4 : decide (m < k) = false := decide_eq_false (by omega)
    have HC := Lib.hid (ag_cho H0 (m : Int) (k : Int))
    rw [choL_nat hm, choE_nat hm] at HC
    obtain ⟨l0, hl0⟩ : ∃ z, Na.dig (Na.bin m k) = z := ⟨_, rfl⟩
    rw [hl0] at HC ⊢
    clear h H0 hm hmk hk hl0
    go_enter Tryd.func61, Tryd.ntmps61
    go_wp2_with fail
    refine HC.out.mono ?_
    rintro e w1 ⟨B1, m1, d1, rfl, G⟩
    have H := G.boxed (.slice B1 m1 d1) 24
    simp only [List.append_assoc, List.cons_append, List.nil_append] at H
    clear HC G
    have x0 := H.cell (M.length + 1) (by rw [get_r]; rfl)
    have r0 := H.cell (M.length + 0) (by rw [get_r]; rfl)
    have f0 := H.free (M.length + 0) (by rw [get_r]; rfl)
    have Z := H.setv (M.length + 0) (by rw [get_r]; rfl) (.slice B1 m1 d1)
    rw [set_r] at Z
    simp only [List.set_cons_zero] at Z
    have s0 := Z.cell (M.length + 0) (by rw [get_r]; rfl)
    have HF := Lib.hid Z.fewM
    clear H Z
    go_wp2_with fail
    refine bodyPost_ret (v := .agg #[.slice B1 m1 d1]) (by simp [results, Tryd.results61, go_sem, s0]) rfl ?_
    exact ⟨B1, m1, d1, rfl, HF.out⟩
end
end Go.Proofs.YtjhaogbopmhkoaaDoor

namespace Go.Proofs.YtjhaogbopmhkoaaDoor
open Go.RowKit Go.Sort
set_option linter.unusedVariables false
set_option maxRecDepth 100000
/-- the product of a list -/
def pr : List Nat → Nat
  | [] => 1
  | x :: xs => x * pr xs
theorem pr_append (a b : List Nat) : pr (a ++ b) = pr a * pr b := by
  induction a with
  | nil => exact (Nat.one_mul _).symm
  | cons x a ih => show x * pr (a ++ b) = x * pr a * pr b; rw [ih, Nat.mul_assoc]
theorem pr_take {xs : List Nat} {k x : Nat} (h : xs[k]? = some x) : pr (xs.take (k + 1)) = pr (xs.take k) * x := by
  rw [List.take_add_one, h, pr_append]
  show pr (xs.take k) * (x * 1) = _
  rw [Nat.mul_one]
/-- the numbers of a list of lists -/
def Nums (L : List Ob) (vs : List Value) (xs : List Nat) : Prop := ∀ (k x : Nat), xs[k]? = some x → ∃ (A : Option Addr) (n c t : Nat), vs[k]? = some (.slice A n c) ∧ L[t]? = some ⟨A, n, c, nats (Na.dig x)⟩
def RTm (w0 : World) (g : Option Nat) (M : List (Nat × Value)) (L : List Ob) (O : List Rw) (r0 x0 n : Nat) (xs : List Nat) (i : Value) (wr : World) : Prop :=
  ∃ (k : Nat) (A1 : Option Addr) (n1 c1 : Nat), k ≤ n ∧ i = .int .i64 (k : Int) ∧ Hid (Ow w0 wr g (M ++ [(r0, .slice none 0 0), (x0, .slice A1 n1 c1)]) (L ++ [⟨A1, n1, c1, nats (Na.dig (pr (xs.take k)))⟩]) O)
section
variable {w0 w w' : World} {g : Option Nat} {M M2 : List (Nat × Value)} {L : List Ob} {O : List Rw} {A A2 A3 A4 : Option Addr} {b n c m c2 n3 c3 n4 c4 x y : Nat} {p q r s : List Int}
theorem Ow.m2 {p q : Nat × Value} {l : List (Nat × Value)} (h : Ow w0 w g (M ++ p :: q :: l) L O) : Ow w0 w g (M ++ [p, q]) L O := by
  have h' : Ow w0 w g ((M ++ [p, q]) ++ l) L O := by rw [List.append_assoc]; exact h
  exact h'.fewM
set_option maxHeartbeats 4000000 in
theorem t_times (h : Ow w0 w g M L O) (i : Nat) {vs : List Value} (hi : L[i]? = some ⟨A, n, c, vs⟩) (xs : List Nat) (hlen : xs.length = n) (hx : Nums L vs xs) (ht : ∀ x ∈ xs, x < Na.top) (hp : ∀ k, k ≤ n → pr (xs.take k) < Na.top) :
    Calls Tryd.prog 60 #[.slice A n c] w (GotU w0 g M L O (Na.dig (pr xs))) := by
  have hn : n ≤ 1000 := (h.sl hi).2.2.1
  have H0 := h.boxed (.slice none 0 0) 24
  have HC := Lib.hid (t_of H0 1 (by omega))
  have HI := Lib.hid (And.intro hi (And.intro hlen (And.intro hx (And.intro ht hp))))
  obtain ⟨r0, hr0⟩ : ∃ b, w.heap.size = b := ⟨_, rfl⟩
  clear h H0 hi hlen hx ht hp
  go_enter Tryd.func60, Tryd.ntmps60
  go_wp2_with fail
  refine HC.out.mono ?_
  rintro e w1 ⟨B1, m1, d1, rfl, G⟩
  have H := G.boxed (.slice B1 m1 d1) 24
  simp only [List.append_assoc, List.cons_append, List.nil_append] at H
  rw [hr0] at H
  have HO := Lib.hid H
  clear HC G H
  go_wp2_with fail
  try rw [hr0]
  go_loopw [9] (fun i wr => RTm w0 g M L O r0 w1.heap.size n xs i wr) (fun i _ => n + 1 - (intOf i).toNat)
  case atStart => exact ⟨0, B1, m1, d1, Nat.zero_le _, rfl, HO⟩
  case round =>
    clear HO
    obtain ⟨k, A1, n1, c1, hk, rfl, HO⟩ := hrel
    have x0 := HO.out.cell (M.length + 1) (by rw [get_r]; rfl)
    have xf := HO.out.free (M.length + 1) (by rw [get_r]; rfl)
    have rc := HO.out.cell (M.length + 0) (by rw [get_r]; rfl)
    have rf := HO.out.free (M.length + 0) (by rw [get_r]; rfl)
    rcases Nat.eq_or_lt_of_le hk with he | hlt
    · have hd : decide ((k : Int) < (n : Int)) = false := decide_eq_false (by omega)
      have hd2 : decide (k < n) = false := decide_eq_false (by omega)
      have Z := HO.out.setv (M.length + 0) (by rw [get_r]; rfl) (.slice A1 n1 c1)
      rw [set_r, List.set_cons_zero] at Z
      have s0 := Z.cell (M.length + 0) (by rw [get_r]; rfl)
      have e1 : pr (xs.take k) = pr xs := by rw [List.take_of_length_le (by have := HI.out.2.1; omega)]
      have HF := Lib.hid Z.fewM
      rw [e1] at HF
      clear HO Z e1 he hk
      go_wp2_with fail
      refine bodyPost_ret (v := .agg #[.slice A1 n1 c1]) (by simp [results, Tryd.results60, go_sem, s0]) rfl ?_
      exact ⟨A1, n1, c1, rfl, HF.out⟩
    · have hd : decide ((k : Int) < (n : Int)) = true := decide_eq_true (by omega)
      have hd2 : decide (k < n) = true := decide_eq_true hlt
      obtain ⟨x, hxk⟩ : ∃ x, xs[k]? = some x := ⟨xs[k]'(by have := HI.out.2.1; omega), List.getElem?_eq_getElem _⟩
      obtain ⟨Ak, nk, ck, t, hv, hl⟩ := HI.out.2.2.1 k x hxk
      obtain ⟨hvl, hkv⟩ := List.getElem?_eq_some_iff.1 hv
      have hsl := (HO.out.sl (i := i) (by rw [get_l _ _ (get_lt HI.out.1)]; exact HI.out.1)).2.2.2
      obtain ⟨ad, rfl, had, hcell⟩ := hsl.at_ hvl
      rw [hkv] at hcell
      have hkm : k ≤ 1000 := by omega
      have H2 := HO.out.boxed (.slice Ak nk ck) 24
      simp only [List.append_assoc, List.cons_append, List.nil_append] at H2
      have hxt : x < Na.top := HI.out.2.2.2.1 x (List.mem_of_getElem? hxk)
      have hpk := HI.out.2.2.2.2 (k + 1) hlt
      rw [pr_take hxk] at hpk
      have HM := Lib.hid (nmul_fr2 H2 (L.length + 0) t (by rw [get_r]; rfl) (by rw [get_l _ _ (get_lt hl)]; exact hl) (HI.out.2.2.2.2 k hk) hxt)
      rw [resL_ok hpk, resE_ok hpk, ← pr_take hxk] at HM
      have y0 := H2.cell (M.length + 1) (by rw [get_r]; rfl)
      clear HO H2 hsl hpk hxt hl hv hkv hvl hxk
      go_wp2_with fail
      refine HM.out.mono ?_
      rintro e w4 ⟨A3, n3, c3, rfl, G⟩
      have s2 := G.cell (M.length + 1) (by rw [get_r]; rfl)
      have s2f := G.free (M.length + 1) (by rw [get_r]; rfl)
      have Z := G.setv (M.length + 1) (by rw [get_r]; rfl) (.slice A3 n3 c3)
      rw [set_r, List.set_cons_succ, List.set_cons_zero] at Z
      have HG := Lib.hid (Z.m2.less (L' := L ++ [⟨A3, n3, c3, nats (Na.dig (pr (xs.take (k + 1))))⟩]) (fun o ho => by
        rcases List.mem_append.1 ho with h | h
        · exact List.mem_append_left _ (List.mem_append_left _ h)
        · exact List.mem_append_right _ h))
      clear HM G Z x0 xf rc rf y0 hcell
      go_wp2_with fail
      go_roundw
      case rel => exact ⟨k + 1, A3, n3, c3, hlt, int_eqv (by omega), HG⟩
      case measure => simp [intOf]; omega
end
end Go.Proofs.YtjhaogbopmhkoaaDoor

namespace Go.Proofs.YtjhaogbopmhkoaaDoor
open Go.RowKit Go.Sort
set_option linter.unusedVariables false
set_option maxRecDepth 100000
/-- a number that a call has handed back, if it is done -/
def GN (L : Nat → Bool) (k : Nat) (u : Value) (X : Nat) (Ls : List Ob) : Prop :=
  L k = true → ∃ (t : Nat) (A : Option Addr) (n c : Nat), u = .agg #[.slice A n c] ∧ Ls[t]? = some ⟨A, n, c, nats (Na.dig X)⟩
theorem GN.more {L : Nat → Bool} {k : Nat} {u : Value} {X : Nat} {Ls l : List Ob} (h : GN L k u X Ls) : GN L k u X (Ls ++ l) := fun e => by
  obtain ⟨t, B, m, d, h1, h2⟩ := h e
  exact ⟨t, B, m, d, h1, by rw [List.getElem?_append_left (get_lt h2)]; exact h2⟩
theorem GN.new (L : Nat → Bool) (k : Nat) (A : Option Addr) (n c X : Nat) (Ls : List Ob) : GN L k (.agg #[.slice A n c]) X (Ls ++ [⟨A, n, c, nats (Na.dig X)⟩]) := fun _ => ⟨Ls.length, A, n, c, rfl, by simp⟩
/-- a variable that has got a number, if the store is done -/
def GV (L : Nat → Bool) (k : Nat) (u : Value) (X : Nat) (Ls : List Ob) : Prop :=
  L k = true → ∃ (t : Nat) (A : Option Addr) (n c : Nat), u = .slice A n c ∧ Ls[t]? = some ⟨A, n, c, nats (Na.dig X)⟩
theorem GV.more {L : Nat → Bool} {k : Nat} {u : Value} {X : Nat} {Ls l : List Ob} (h : GV L k u X Ls) : GV L k u X (Ls ++ l) := fun e => by
  obtain ⟨t, B, m, d, h1, h2⟩ := h e
  exact ⟨t, B, m, d, h1, by rw [List.getElem?_append_left (get_lt h2)]; exact h2⟩
/-- a literal of numbers, if it is done -/
def GL (L : Nat → Bool) (k : Nat) (u : Value) (xs : List Nat) (m : Nat) (LL Ls : List Ob) : Prop :=
  L k = true → ∃ (t : Nat) (A : Option Addr) (vs : List Value), u = .slice A m m ∧ Ls[t]? = some ⟨A, m, m, vs⟩ ∧ Nums (LL ++ Ls) vs xs
theorem Nums.more {L l : List Ob} {vs : List Value} {xs : List Nat} (h : Nums L vs xs) : Nums (L ++ l) vs xs := fun k x hx => by
  obtain ⟨A, n, c, t, h1, h2⟩ := h k x hx
  exact ⟨A, n, c, t, h1, by rw [List.getElem?_append_left (get_lt h2)]; exact h2⟩
theorem GL.more {L : Nat → Bool} {k : Nat} {u : Value} {xs : List Nat} {m : Nat} {LL Ls l : List Ob} (h : GL L k u xs m LL Ls) : GL L k u xs m LL (Ls ++ l) := fun e => by
  obtain ⟨t, A, vs, h1, h2, h3⟩ := h e
  exact ⟨t, A, vs, h1, by rw [List.getElem?_append_left (get_lt h2)]; exact h2, by rw [← List.append_assoc]; exact h3.more⟩
theorem GL.new (L : Nat → Bool) (k : Nat) (A : Option Addr) (m : Nat) (vs : List Value) (LL Ls : List Ob) {xs : List Nat} (h : Nums (LL ++ Ls) vs xs) : GL L k (.slice A m m) xs m LL (Ls ++ [⟨A, m, m, vs⟩]) := fun _ => ⟨Ls.length, A, vs, rfl, by simp, by rw [← List.append_assoc]; exact h.more⟩
theorem Nums.three {L : List Ob} {A1 A2 A3 : Option Addr} {n1 c1 n2 c2 n3 c3 x1 x2 x3 t1 t2 t3 : Nat} (h1 : L[t1]? = some ⟨A1, n1, c1, nats (Na.dig x1)⟩) (h2 : L[t2]? = some ⟨A2, n2, c2, nats (Na.dig x2)⟩) (h3 : L[t3]? = some ⟨A3, n3, c3, nats (Na.dig x3)⟩) : Nums L [.slice A1 n1 c1, .slice A2 n2 c2, .slice A3 n3 c3] [x1, x2, x3] := fun k x hx => by
  match k, hx with
  | 0, hx => obtain rfl : x1 = x := by simpa using hx
             exact ⟨A1, n1, c1, t1, rfl, h1⟩
  | 1, hx => obtain rfl : x2 = x := by simpa using hx
             exact ⟨A2, n2, c2, t2, rfl, h2⟩
  | 2, hx => obtain rfl : x3 = x := by simpa using hx
             exact ⟨A3, n3, c3, t3, rfl, h3⟩
theorem Nums.two {L : List Ob} {A1 A2 : Option Addr} {n1 c1 n2 c2 x1 x2 t1 t2 : Nat} (h1 : L[t1]? = some ⟨A1, n1, c1, nats (Na.dig x1)⟩) (h2 : L[t2]? = some ⟨A2, n2, c2, nats (Na.dig x2)⟩) : Nums L [.slice A1 n1 c1, .slice A2 n2 c2] [x1, x2] := fun k x hx => by
  match k, hx with
  | 0, hx => obtain rfl : x1 = x := by simpa using hx
             exact ⟨A1, n1, c1, t1, rfl, h1⟩
  | 1, hx => obtain rfl : x2 = x := by simpa using hx
             exact ⟨A2, n2, c2, t2, rfl, h2⟩
theorem two_top {k : Nat} (h : k < 4800) : 2 ^ k < Na.top := by
  have h1 : (2 ^ 24) ^ 200 ≤ Na.top := Nat.pow_le_pow_left (by decide) 200
  rw [← Nat.pow_mul] at h1
  exact Nat.lt_of_lt_of_le (Nat.pow_lt_pow_right (by omega) (by omega)) h1
theorem le_top {x k : Nat} (hx : x ≤ 2 ^ k) (h : k < 4800) : x < Na.top := Nat.lt_of_le_of_lt hx (two_top h)
theorem pow_two {x a : Nat} (hx : x ≤ 2 ^ a) (j : Nat) : x ^ j ≤ 2 ^ (a * j) := by
  rw [Nat.pow_mul]
  exact Nat.pow_le_pow_left hx j
theorem mul_two {x y a b : Nat} (hx : x ≤ 2 ^ a) (hy : y ≤ 2 ^ b) : x * y ≤ 2 ^ (a + b) := by
  rw [Nat.pow_add]
  exact Nat.mul_le_mul hx hy
theorem up_two {x a b : Nat} (hx : x ≤ 2 ^ a) (h : a ≤ b) : x ≤ 2 ^ b := Nat.le_trans hx (Nat.pow_le_pow_right (by omega) h)
theorem bin_two (n k : Nat) : Na.bin n k ≤ 2 ^ n := by
  induction n generalizing k with
  | zero =>
    cases k with
    | zero => exact Nat.le_refl _
    | succ k => exact Nat.zero_le _
  | succ n ih =>
    cases k with
    | zero => rw [Na.bin_zero]; exact Nat.one_le_two_pow
    | succ k =>
      rw [Na.bin_succ, Nat.pow_succ]
      have h1 := ih k
      have h2 := ih (k + 1)
      omega
/-- one summand, and so many of them from lo on -/
def term (n x f j : Nat) : Nat := Na.bin n j * (x ^ j * f ^ (n - j))
def sumB (n x f lo : Nat) : Nat → Nat
  | 0 => 0
  | c + 1 => sumB n x f lo c + term n x f (lo + c)
theorem term_two {n x f j : Nat} (hx : x ≤ 2 ^ 48) (hf : f ≤ 2 ^ 48) (hj : j ≤ n) : x ^ j * f ^ (n - j) ≤ 2 ^ (48 * n) ∧ term n x f j ≤ 2 ^ (n + 48 * n) := by
  have h1 := mul_two (pow_two hx j) (pow_two hf (n - j))
  have e : 48 * j + 48 * (n - j) = 48 * n := by omega
  rw [e] at h1
  exact ⟨h1, mul_two (bin_two n j) h1⟩
theorem sumB_two {n x f lo : Nat} (hx : x ≤ 2 ^ 48) (hf : f ≤ 2 ^ 48) : ∀ c : Nat, lo + c ≤ n + 1 → sumB n x f lo c ≤ c * 2 ^ (n + 48 * n)
  | 0, _ => by rw [Nat.zero_mul]; exact Nat.le_refl _
  | c + 1, h => by
    have h1 := sumB_two (n := n) (lo := lo) hx hf c (by omega)
    have h2 := (term_two (n := n) (j := lo + c) hx hf (by omega)).2
    show sumB n x f lo c + term n x f (lo + c) ≤ _
    rw [Nat.succ_mul]
    omega
structure BinK (n j x f s : Nat) : Prop where
  n4096 : n ≤ 4096
  n4800 : n ≤ 4800
  jmax : j ≤ 9223372036854775807
  j4800 : j ≤ 4800
  jn : j ≤ n
  xt : x < Na.top
  ft : f < Na.top
  st : s < Na.top
  b1 : Na.bin n j < Na.top
  xj : x ^ j < Na.top
  fj : f ^ (n - j) < Na.top
  b3 : x ^ j * f ^ (n - j) < Na.top
  b4 : Na.bin n j * x ^ j < Na.top
  b5 : Na.bin n j * (x ^ j * f ^ (n - j)) < Na.top
  bs : s + Na.bin n j * (x ^ j * f ^ (n - j)) < Na.top
theorem binK_of {n x f lo c : Nat} (hn : n ≤ 40) (hx : x ≤ 2 ^ 48) (hf : f ≤ 2 ^ 48) (hc : lo + c ≤ n) : BinK n (lo + c) x f (sumB n x f lo c) := by
  have h1 := sumB_two (n := n) (lo := lo) hx hf (c + 1) (by omega)
  have h0 : sumB n x f lo (c + 1) = sumB n x f lo c + term n x f (lo + c) := rfl
  have h2 : sumB n x f lo (c + 1) ≤ 2 ^ (6 + (n + 48 * n)) := by
    rw [Nat.pow_add]
    exact Nat.le_trans h1 (Nat.mul_le_mul_right _ (by show c + 1 ≤ 64; omega))
  have h3 : sumB n x f lo (c + 1) < Na.top := le_top h2 (by omega)
  obtain ⟨t1, t2⟩ := term_two (n := n) (j := lo + c) hx hf hc
  exact ⟨by omega, by omega, by omega, by omega, hc, le_top hx (by omega), le_top hf (by omega), by omega, le_top (bin_two _ _) (by omega), le_top (pow_two hx _) (by omega), le_top (pow_two hf _) (by omega), le_top t1 (by omega), le_top (mul_two (bin_two _ _) (pow_two hx _)) (by omega), le_top t2 (by omega), by rw [h0] at h3; exact h3⟩
section
variable {w0 w w' : World} {g : Option Nat} {M M2 : List (Nat × Value)} {L : List Ob} {O : List Rw} {A A2 A3 A4 : Option Addr} {b n c m c2 n3 c3 n4 c4 x y : Nat} {p q r s : List Int}
theorem t_power_sub (h : Ow w0 w g M L O) (i : Nat) (hi : L[i]? = some ⟨A, n, c, nats (Na.dig x)⟩) (hx : x < Na.top) (k j : Nat) (hj : j ≤ k) (hk : k ≤ 4800) (hp : x ^ (k - j) < Na.top) :
    Calls Tryd.prog 44 #[.agg #[.slice A n c], .int .i64 ((k : Int) - (j : Int))] w (GotU w0 g M L O (Na.dig (x ^ (k - j)))) := by
  rw [show (k : Int) - (j : Int) = ((k - j : Nat) : Int) by omega]
  exact t_power h i hi hx (k - j) (by omega) hp
theorem t_times3 {vs : List Value} {a b d : Nat} (h : Ow w0 w g M L O) (i : Nat) (hi : L[i]? = some ⟨A, 3, 3, vs⟩) (hN : Nums L vs [a, b, d]) (ha : a < Na.top) (hb : b < Na.top) (hd : d < Na.top) (h1 : a * b < Na.top) (h2 : a * (b * d) < Na.top) :
    Calls Tryd.prog 60 #[.slice A 3 3] w (GotU w0 g M L O (Na.dig (a * (b * d)))) := by
  have := t_times h i hi [a, b, d] rfl hN (fun x hx => by
    simp only [List.mem_cons, List.mem_nil_iff, or_false] at hx
    rcases hx with rfl | rfl | rfl <;> assumption) (fun k hk => by
    have hk' : k = 0 ∨ k = 1 ∨ k = 2 ∨ k = 3 := by omega
    have ht : 1 < Na.top := Nat.lt_of_lt_of_le (by omega) (two_top (k := 1) (by omega))
    rcases hk' with rfl | rfl | rfl | rfl
    · exact ht
    · show a * 1 < Na.top
      rwa [Nat.mul_one]
    · show a * (b * 1) < Na.top
      rwa [Nat.mul_one]
    · show a * (b * (d * 1)) < Na.top
      rwa [Nat.mul_one])
  rwa [show pr [a, b, d] = a * (b * d) by show a * (b * (d * 1)) = _; rw [Nat.mul_one]] at this
theorem t_times2 {vs : List Value} {a b : Nat} (h : Ow w0 w g M L O) (i : Nat) (hi : L[i]? = some ⟨A, 2, 2, vs⟩) (hN : Nums L vs [a, b]) (ha : a < Na.top) (hb : b < Na.top) (h1 : a * b < Na.top) :
    Calls Tryd.prog 60 #[.slice A 2 2] w (GotU w0 g M L O (Na.dig (a * b))) := by
  have := t_times h i hi [a, b] rfl hN (fun x hx => by
    simp only [List.mem_cons, List.mem_nil_iff, or_false] at hx
    rcases hx with rfl | rfl <;> assumption) (fun k hk => by
    have hk' : k = 0 ∨ k = 1 ∨ k = 2 := by omega
    have ht : 1 < Na.top := Nat.lt_of_lt_of_le (by omega) (two_top (k := 1) (by omega))
    rcases hk' with rfl | rfl | rfl
    · exact ht
    · show a * 1 < Na.top
      rwa [Nat.mul_one]
    · show a * (b * 1) < Na.top
      rwa [Nat.mul_one])
  rwa [show pr [a, b] = a * b by show a * (b * 1) = _; rw [Nat.mul_one]] at this
end
end Go.Proofs.YtjhaogbopmhkoaaDoor

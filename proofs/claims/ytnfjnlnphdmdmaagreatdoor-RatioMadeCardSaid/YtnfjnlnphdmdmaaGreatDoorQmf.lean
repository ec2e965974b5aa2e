/- XRegB XQd XQt joined. -/
import Derived.Test.YtnfjnlnphdmdmaaGreatDoorRegInv
import Derived.Test.YtnfjnlnphdmdmaaGreatDoorQma
import Derived.Test.YtnfjnlnphdmdmaaGreatDoorOdd
import Derived.Test.YtnfjnlnphdmdmaaGreatDoorNatU
import Derived.Test.YtnfjnlnphdmdmaaGreatDoorQmb
/- The rule for drawn regions by an invariant, where only the edges that bind lead back (late stores). -/
namespace Go.Proofs.YtnfjnlnphdmdmaaGreatDoor
set_option linter.unusedVariables false
set_option maxRecDepth 100000
section
variable {P : Program} {md : Region.Mode} {ops : Array Oper} {Q : Exit → Act → World → Prop}
/-- every edge that binds leads back -/
def backB (md : Region.Mode) (ops : Array Oper) : Bool := (List.range ops.size).all fun i => ((ops[i]?).map fun o => o.after.all fun e => !Region.binds md e || decide (e.on < i)).getD true
theorem ready_none4 {l : Array Bool} (hb : backB md ops = true) (h : Region.ready md ops l = []) : ∀ j, j < ops.size → l.getD j true = true := by
  intro j
  induction j using Nat.strongRecOn with
  | _ j ih =>
    intro hj
    cases hl : l.getD j true with
    | true => rfl
    | false =>
      exfalso
      have : j ∈ Region.ready md ops l := by
        unfold Region.ready
        rw [List.mem_filter]
        refine ⟨List.mem_range.2 hj, ?_⟩
        rw [hl]
        have ho : ops[j]? = some ops[j] := Array.getElem?_eq_getElem hj
        have hbj := List.all_eq_true.1 hb j (List.mem_range.2 hj)
        rw [ho] at hbj
        have hbj' : (ops[j].after.all fun e => !Region.binds md e || decide (e.on < j)) = true := hbj
        rw [ho]
        show (!false && (ops[j].after.all fun e => !Region.binds md e || l.getD e.on false)) = true
        rw [Bool.not_false, Bool.true_and, Array.all_eq_true_iff_forall_mem]
        intro e he
        have h50 := Array.all_eq_true_iff_forall_mem.1 hbj' e he
        cases hbi : Region.binds md e with
        | false => rfl
        | true =>
        rw [hbi] at h50
        have h5 : e.on < j := of_decide_eq_true h50
        have h6 := ih e.on h5 (by omega)
        have h7 : l.getD e.on false = true := by
          rw [Array.getD_eq_getD_getElem?] at h6 ⊢
          rcases Nat.lt_or_ge e.on l.size with h8 | h8
          · rw [Array.getElem?_eq_getElem h8] at h6 ⊢; exact h6
          · exfalso
            have h9 : l.size ≤ j := by omega
            rw [Array.getD_eq_getD_getElem?, Array.getElem?_eq_none h9] at hl
            cases hl
        rw [h7, Bool.or_true]
      rw [h] at this
      cases this
theorem reg_inv_go4 (Inv : (Nat → Bool) → Act → World → Prop) (hb : backB md ops = true)
    (hstep : ∀ j L a w, j < ops.size → L j = false → (∀ o, ops[j]? = some o → ∀ e ∈ o.after, Region.binds md e = true → L e.on = true) → Inv L a w → wpOp P ops Q j (Inv (dset L j)) a w)
    (hend : ∀ L a w, (∀ i, i < ops.size → L i = true) → Inv L a w → Q .normal a w) : ∀ (n : Nat) (l : Array Bool) (a : Act) (w : World), l.size = ops.size → (l.toList.countP (· == false)) ≤ n →
      Inv (fun i => l.getD i false) a w → wpAny P md ops Q n l a w := by
  intro n
  have fin : ∀ (l : Array Bool) (a : Act) (w : World), l.size = ops.size → Inv (fun i => l.getD i false) a w → Region.ready md ops l = [] → Q .normal a w := fun l a w hs hi hr => by
    refine hend _ a w (fun i hi => ?_) hi
    have h1 := ready_none4 hb hr i hi
    rw [Array.getD_eq_getD_getElem?] at h1 ⊢
    rw [Array.getElem?_eq_getElem (by omega)] at h1 ⊢
    exact h1
  induction n with
  | zero =>
    intro l a w hs hc hi
    have hr : Region.ready md ops l = [] := by
      cases e : Region.ready md ops l with
      | nil => rfl
      | cons j r =>
        exfalso
        obtain ⟨h1, h2, _⟩ := mem_ready (md := md) (ops := ops) (l := l) (j := j) (by rw [e]; exact List.mem_cons_self)
        have h3 : l.toList.countP (· == false) = 0 := by omega
        rw [List.countP_eq_zero] at h3
        rw [Array.getD_eq_getD_getElem?, Array.getElem?_eq_getElem (by omega)] at h2
        have h4 : j < l.size := by omega
        exact h3 _ (Array.mem_toList_iff.2 (Array.getElem_mem h4)) (by simpa using h2)
    exact ⟨hr, fin l a w hs hi hr⟩
  | succ n ih =>
    intro l a w hs hc hi
    refine ⟨fin l a w hs hi, fun j hj => ?_⟩
    obtain ⟨h1, h2, h3⟩ := mem_ready hj
    have hjl : j < l.size := by omega
    have h2' : l[j] = false := by rw [Array.getD_eq_getD_getElem?, Array.getElem?_eq_getElem hjl] at h2; exact h2
    have e1 : (fun i => (l.setIfInBounds j true).getD i false) = dset (fun i => l.getD i false) j := by
      funext i
      unfold dset
      by_cases e : i = j
      · subst e
        rw [if_pos rfl, Array.getD_eq_getD_getElem?, Array.getElem?_setIfInBounds_self_of_lt hjl]; rfl
      · rw [if_neg e, Array.getD_eq_getD_getElem?, Array.getElem?_setIfInBounds_ne (fun e' => e e'.symm)]
        exact (Array.getD_eq_getD_getElem? ..).symm
    refine wpOp_mono (fun a' w' h => ih _ a' w' (by rw [Array.size_setIfInBounds]; exact hs) ?_ (by rw [e1]; exact h)) (hstep j _ a w h1 (by show l.getD j false = false; rw [Array.getD_eq_getD_getElem?, Array.getElem?_eq_getElem hjl]; exact h2') h3 hi)
    have h5 : (l.setIfInBounds j true).toList = l.toList.set j true := by simp
    rw [h5]
    have key : ∀ (xs : List Bool) (j : Nat), xs[j]? = some false → (xs.set j true).countP (· == false) + 1 = xs.countP (· == false) := by
      intro xs
      induction xs with
      | nil => intro j h; simp at h
      | cons x xs ih2 =>
        intro j h
        cases j with
        | zero =>
          simp at h
          subst h
          simp
        | succ j =>
          simp at h
          have := ih2 j h
          simp only [List.set_cons_succ, List.countP_cons]
          omega
    have := key l.toList j (by rw [Array.getElem?_toList, Array.getElem?_eq_getElem hjl, h2'])
    omega
/-- the rule: an invariant of the region, over the set of operations that are done -/
theorem reg_inv4 {id : Nat} {a : Act} {w : World} (Inv : (Nat → Bool) → Act → World → Prop) (hm : P.follows .mixedOrders = true) (hb : backB .any ops = true)
    (h0 : Inv (fun _ => false) a w.drew)
    (hstep : ∀ j L a w, j < ops.size → L j = false → (∀ o, ops[j]? = some o → ∀ e ∈ o.after, Region.binds .any e = true → L e.on = true) → Inv L a w → wpOp P ops Q j (Inv (dset L j)) a w)
    (hend : ∀ L a w, (∀ i, i < ops.size → L i = true) → Inv L a w → Q .normal a w) : (Code.region id ops true).wp P Q a w := by
  refine wp_region_any hm (reg_inv_go4 Inv hb hstep hend _ _ _ _ (by simp) ?_ ?_)
  · refine Nat.le_trans List.countP_le_length ?_
    simp
  · have : (fun i => (Array.replicate ops.size false).getD i false) = fun _ => false := by
      funext i
      rw [Array.getD_eq_getD_getElem?]
      rcases Nat.lt_or_ge i ops.size with h | h
      · rw [Array.getElem?_eq_getElem (by simpa using h)]; simp
      · rw [Array.getElem?_eq_none (by simpa using h)]; rfl
    rw [this]
    exact h0
/-- the rule, the region's first frame named -/
theorem reg_inv24 {id : Nat} {a : Act} {w : World} (I : Act → (Nat → Bool) → Act → World → Prop) (hm : P.follows .mixedOrders = true) (hb : backB .any ops = true)
    (h0 : I a (fun _ => false) a w.drew)
    (hstep : ∀ j L b v, j < ops.size → L j = false → (∀ i, (preds .any ops j).elem i = true → L i = true) → I a L b v → wpOp P ops Q j (I a (dset L j)) b v)
    (hend : ∀ L b v, (∀ i, i < ops.size → L i = true) → I a L b v → Q .normal b v) : (Code.region id ops true).wp P Q a w :=
  reg_inv4 (I a) hm hb h0 (fun j L b v hj hf hd hi => hstep j L b v hj hf (mem_preds (Array.getElem?_eq_getElem hj) (fun e he hb => hd _ (Array.getElem?_eq_getElem hj) e he hb)) hi) hend
/-- the rule, with closedness at hand -/
theorem reg_inv34 {id : Nat} {a : Act} {w : World} (I : Act → (Nat → Bool) → Act → World → Prop) (hm : P.follows .mixedOrders = true) (hb : backB .any ops = true)
    (h0 : I a (fun _ => false) a w.drew)
    (hstep : ∀ j L b v, j < ops.size → L j = false → Closed ops L → (∀ i, (preds .any ops j).elem i = true → L i = true) → I a L b v → wpOp P ops Q j (I a (dset L j)) b v)
    (hend : ∀ L b v, (∀ i, i < ops.size → L i = true) → I a L b v → Q .normal b v) : (Code.region id ops true).wp P Q a w := by
  refine reg_inv24 (fun a L b v => Closed ops L ∧ I a L b v) hm hb ⟨(fun j i h => nomatch h), h0⟩ (fun j L b v hj hf hp hi => ?_) (fun L b v hl hi => hend L b v hl hi.2)
  refine wpOp_mono (fun a' w' h => ⟨fun j' i' h1 h2 => ?_, h⟩) (hstep j L b v hj hf hi.1 hp hi.2)
  unfold dset at h1 ⊢
  by_cases e : i' = j
  · rw [if_pos e]
  · rw [if_neg e]
    by_cases e2 : j' = j
    · subst e2
      exact hp i' h2
    · rw [if_neg e2] at h1
      exact hi.1 j' i' h1 h2
end
end Go.Proofs.YtnfjnlnphdmdmaaGreatDoor

/- Numbers of the dice beside owned lists. -/
namespace Go.Proofs.YtnfjnlnphdmdmaaGreatDoor
open Go.RowKit
set_option linter.unusedVariables false
section
variable {w0 w w' : World} {g B : Nat} {M : List (Nat × Value)} {L : List Ob} {O : List Rw} {A : Option Addr} {n c : Nat}
theorem Ow.rolled (h : Ow w0 w (some g) M L O) {e : TypeId} {vs : List Value} (ho : w'.ownsRow w.heap.size e 1 (.slice A n c) n vs) (hg : w.grownBy w' (some g)) (hl : n ≤ 1000) (hst : St w0 w' (some g) M (L ++ [⟨A, n, c, vs⟩])) : Ow w0 w' (some g) M (L ++ [⟨A, n, c, vs⟩]) O := by
  have h' := h.roll hg
  refine ⟨hst, h'.own, fun i r hi b hb => ?_, h.two⟩
  obtain ⟨a1, a2, a3⟩ := h.ap i r hi b hb
  refine ⟨a1, a2, fun o ho' ad ea h0 => ?_⟩
  rcases List.mem_append.1 ho' with h2 | h2
  · exact a3 o h2 ad ea h0
  · rw [List.mem_singleton] at h2
    subst h2
    have h3 := (h.lt hi hb).1
    have h4 := (ho.lt ad.block (by rw [show A = some ad from ea]; rfl)).1
    omega
theorem dnat_ow (h : Ow w0 w (some g) M L O) (hd : Dice w g B) (most : Nat) (hm : most ≤ 200) :
    Calls Tryz.prog 11 #[.pointer (some ⟨g, 0, none⟩), .int .i64 (most : Int)] w fun e w' => ∃ (A : Option Addr) (n c x : Nat), e = .returned (.agg #[.slice A n c]) ∧ (Na.dig x).length = n ∧ x < 16777216 ^ most ∧ Dice w' g B ∧ Ow w0 w' (some g) M (L ++ [⟨A, n, c, nats (Na.dig x)⟩]) O :=
  (dnat_any g B most w (by omega) hd).mono fun e w' ⟨A, n, c, x, he, h1, h2, h3, h4, h5⟩ => ⟨A, n, c, x, he, h1, (Na.dig_len_iff x most).1 (by omega), h4, h.rolled h3 h5 (by omega) (h.st.made h3 h5 (by omega))⟩
end
end Go.Proofs.YtnfjnlnphdmdmaaGreatDoor

/- The made fraction. -/
namespace Go.Proofs.YtnfjnlnphdmdmaaGreatDoor
open Go.RowKit Go.Sort
set_option linter.unusedVariables false
set_option maxRecDepth 100000
theorem cube_top {x : Nat} (h : x < 16777216 ^ 3) : x < Na.top := small_top h (by omega)
/-- the lists of a fraction among what is held -/
def Frac (Ls : List Ob) (C1 : Option Addr) (k1 e1 : Nat) (C2 : Option Addr) (k2 e2 : Nat) : Prop := ∃ (t1 t2 x y : Nat), x < 16777216 ^ 3 ∧ y < 16777216 ^ 3 ∧ 0 < y ∧ Nat.gcd x y = 1 ∧ Ls[t1]? = some ⟨C1, k1, e1, nats (Na.dig x)⟩ ∧ Ls[t2]? = some ⟨C2, k2, e2, nats (Na.dig y)⟩
theorem Frac.more {Ls l : List Ob} {C1 : Option Addr} {k1 e1 : Nat} {C2 : Option Addr} {k2 e2 : Nat} (h : Frac Ls C1 k1 e1 C2 k2 e2) : Frac (Ls ++ l) C1 k1 e1 C2 k2 e2 := by
  obtain ⟨t1, t2, x, y, h1, h2, h3, h4, h5, h6⟩ := h
  exact ⟨t1, t2, x, y, h1, h2, h3, h4, by rw [List.getElem?_append_left (get_lt h5)]; exact h5, by rw [List.getElem?_append_left (get_lt h6)]; exact h6⟩
structure Sm2K (w0 : World) (g B : Nat) (M : List (Nat × Value)) (L : List Ob) (O : List Rw) (rb db : Nat) (Ad : Option Addr) (nd cd yd : Nat) (Ld : Nat → Bool) (u0 u1 u2 u3 u4 u5 u6 v u8 : Value) (C1 : Option Addr) (k1 e1 : Nat) (C2 : Option Addr) (k2 e2 : Nat) (ps : List Rw) (Ls : List Ob) (W : World) : Prop where
  ow : Ow w0 W (some g) (M ++ [(db, .slice Ad nd cd)]) (L ++ ⟨Ad, nd, cd, nats (Na.dig yd)⟩ :: Ls) (O ++ Rw.pair rb 26 (.slice none 0 0) (.slice none 0 0) :: ps)
  dc : Dice W g B
  h0 : Ld 0 = true → u0 = .pointer (some ⟨g, 0, none⟩)
  h1 : Ld 1 = true → ∃ (t : Nat) (A : Option Addr) (n c x : Nat), u1 = .agg #[.slice A n c] ∧ x < 16777216 ^ 3 ∧ Ls[t]? = some ⟨A, n, c, nats (Na.dig x)⟩
  h2 : Ld 2 = true → u2 = .agg #[.slice Ad nd cd]
  h3 : Ld 3 = true → u3 = .tuple #[.agg #[.slice C1 k1 e1, .slice C2 k2 e2], .int .i64 0] ∧ Frac Ls C1 k1 e1 C2 k2 e2
  h4 : Ld 4 = true → u4 = .tuple #[.agg #[.slice C1 k1 e1, .slice C2 k2 e2], .int .i64 0]
  h5 : Ld 5 = true → u5 = .agg #[.slice C1 k1 e1, .slice C2 k2 e2]
  h6 : Ld 6 = true → u6 = .int .i64 0
  h7 : Ld 7 = true → ∃ (t b : Nat) (p q : Value), v = .pointer (some ⟨b, 0, none⟩) ∧ ps[t]? = some (Rw.pair b 26 p q) ∧ (Ld 8 = true → p = .slice C1 k1 e1 ∧ q = .slice C2 k2 e2)
section
variable {w0 w w' W W' : World} {g B : Nat} {M : List (Nat × Value)} {L : List Ob} {O : List Rw} {rb db : Nat} {Ad : Option Addr} {nd cd yd : Nat} {Ld : Nat → Bool} {u0 u1 u2 u3 u4 u5 u6 v u8 : Value} {C1 : Option Addr} {k1 e1 : Nat} {C2 : Option Addr} {k2 e2 : Nat} {ps : List Rw} {Ls : List Ob}
theorem rmake_dice {A A2 : Option Addr} {n c m c2 x y : Nat} (h : Ow w0 w (some g) M L O) (hd : Dice w g B) (i j : Nat) (hi : L[i]? = some ⟨A, n, c, nats (Na.dig x)⟩) (hj : L[j]? = some ⟨A2, m, c2, nats (Na.dig y)⟩) (hx : x < 16777216 ^ 3) (hy : y < 16777216 ^ 3) (h0 : 0 < y) :
    Calls Tryz.prog 13 #[.agg #[.slice A n c], .agg #[.slice A2 m c2]] w fun e w' => ∃ (C1 : Option Addr) (k1 e1 : Nat) (C2 : Option Addr) (k2 e2 : Nat) (X Y : Nat), e = .returned (.tuple #[.agg #[.slice C1 k1 e1, .slice C2 k2 e2], .int .i64 0]) ∧ X < 16777216 ^ 3 ∧ Y < 16777216 ^ 3 ∧ 0 < Y ∧ Nat.gcd X Y = 1 ∧ Dice w' g B ∧ Ow w0 w' (some g) M (L ++ [⟨C1, k1, e1, nats (Na.dig X)⟩] ++ [⟨C2, k2, e2, nats (Na.dig Y)⟩]) O := by
  obtain ⟨X, Y, e, hY, hg, -, h1, h2⟩ := frM_spec (x := x) h0
  have hc := qrmake_d h i j hi hj (cube_top hx) (cube_top hy)
  rw [e] at hc
  refine hc.mono fun en w' hr => ?_
  have hb : Below w.heap.size w w' := by
    obtain ⟨_, _, _, _, _, _, _, _, _, _, _, hb⟩ := hr
    exact hb
  obtain ⟨C1, k1, e1, C2, k2, e2, he, ho⟩ := got_f h (t := (X, Y, 0)) (cube_top (Nat.lt_of_le_of_lt h1 hx)) (cube_top (Nat.lt_of_le_of_lt h2 hy)) hr
  exact ⟨C1, k1, e1, C2, k2, e2, X, Y, he, by omega, by omega, hY, hg, hd.below hb, ho⟩
theorem Sm2K.c1 (h : Sm2K w0 g B M L O rb db Ad nd cd yd Ld u0 u1 u2 u3 u4 u5 u6 v u8 C1 k1 e1 C2 k2 e2 ps Ls W) (hf : Ld 8 = false) {A : Option Addr} {n c x : Nat} (hx : x < 16777216 ^ 3) (hd : Dice W' g B) (ho : Ow w0 W' (some g) (M ++ [(db, .slice Ad nd cd)]) (L ++ ⟨Ad, nd, cd, nats (Na.dig yd)⟩ :: Ls ++ [⟨A, n, c, nats (Na.dig x)⟩]) (O ++ Rw.pair rb 26 (.slice none 0 0) (.slice none 0 0) :: ps)) :
    Sm2K w0 g B M L O rb db Ad nd cd yd (dset Ld 1) u0 (.agg #[.slice A n c]) u2 u3 u4 u5 u6 v u8 C1 k1 e1 C2 k2 e2 ps (Ls ++ [⟨A, n, c, nats (Na.dig x)⟩]) W' :=
  ⟨by rw [List.append_assoc, List.cons_append] at ho; exact ho, hd, h.h0, fun _ => ⟨Ls.length, A, n, c, x, rfl, hx, by simp⟩, h.h2, fun e => ⟨(h.h3 e).1, (h.h3 e).2.more⟩, h.h4, h.h5, h.h6, h.h7⟩
theorem Sm2K.c3 (h : Sm2K w0 g B M L O rb db Ad nd cd yd Ld u0 u1 u2 u3 u4 u5 u6 v u8 C1 k1 e1 C2 k2 e2 ps Ls W) (f4 : Ld 4 = false) (f5 : Ld 5 = false) (f8 : Ld 8 = false) {D1 : Option Addr} {i1 j1 : Nat} {D2 : Option Addr} {i2 j2 X Y : Nat} (h1 : X < 16777216 ^ 3) (h2 : Y < 16777216 ^ 3) (h3 : 0 < Y) (h4 : Nat.gcd X Y = 1) (hd : Dice W' g B) (ho : Ow w0 W' (some g) (M ++ [(db, .slice Ad nd cd)]) (L ++ ⟨Ad, nd, cd, nats (Na.dig yd)⟩ :: Ls ++ [⟨D1, i1, j1, nats (Na.dig X)⟩] ++ [⟨D2, i2, j2, nats (Na.dig Y)⟩]) (O ++ Rw.pair rb 26 (.slice none 0 0) (.slice none 0 0) :: ps)) :
    Sm2K w0 g B M L O rb db Ad nd cd yd (dset Ld 3) u0 u1 u2 (.tuple #[.agg #[.slice D1 i1 j1, .slice D2 i2 j2], .int .i64 0]) u4 u5 u6 v u8 D1 i1 j1 D2 i2 j2 ps (Ls ++ [⟨D1, i1, j1, nats (Na.dig X)⟩, ⟨D2, i2, j2, nats (Na.dig Y)⟩]) W' :=
  ⟨by rw [List.append_assoc, List.append_assoc, List.cons_append] at ho; exact ho, hd, h.h0, fun e => by
    obtain ⟨t, A, n, c, x, k1, k2, k3⟩ := h.h1 e
    exact ⟨t, A, n, c, x, k1, k2, by rw [List.getElem?_append_left (get_lt k3)]; exact k3⟩, h.h2, fun _ => ⟨rfl, Ls.length + 0, Ls.length + 1, X, Y, h1, h2, h3, h4, by rw [get_r]; rfl, by rw [get_r]; rfl⟩, fun e => absurd ((show Ld 4 = true from e).symm.trans f4) (by decide), fun e => absurd ((show Ld 5 = true from e).symm.trans f5) (by decide), h.h6, fun e => by
    obtain ⟨t, b, p, q, k1, k2, k3⟩ := h.h7 e
    exact ⟨t, b, p, q, k1, k2, fun e2 => absurd ((show Ld 8 = true from e2).symm.trans f8) (by decide)⟩⟩
theorem Sm2K.a7 (h : Sm2K w0 g B M L O rb db Ad nd cd yd Ld u0 u1 u2 u3 u4 u5 u6 v u8 C1 k1 e1 C2 k2 e2 ps Ls W) (f8 : Ld 8 = false) :
    Sm2K w0 g B M L O rb db Ad nd cd yd (dset Ld 7) u0 u1 u2 u3 u4 u5 u6 (.pointer (some ⟨W.heap.size, 0, none⟩)) u8 C1 k1 e1 C2 k2 e2 (ps ++ [Rw.pair W.heap.size 26 (.slice none 0 0) (.slice none 0 0)]) Ls (W.alloc (.cells #[.slice none 0 0, .slice none 0 0] 26)) :=
  ⟨by have := h.ow.pair (.slice none 0 0) (.slice none 0 0) 26; rwa [List.append_assoc, List.cons_append] at this, h.dc.below (own_box1 _ _), h.h0, h.h1, h.h2, h.h3, h.h4, h.h5, h.h6, fun _ => ⟨ps.length, W.heap.size, .slice none 0 0, .slice none 0 0, rfl, by simp, fun e2 => absurd ((show Ld 8 = true from e2).symm.trans f8) (by decide)⟩⟩
theorem Sm2K.s8 (h : Sm2K w0 g B M L O rb db Ad nd cd yd Ld u0 u1 u2 u3 u4 u5 u6 v u8 C1 k1 e1 C2 k2 e2 ps Ls W) (hB : B ≤ w0.heap.size) (h7 : Ld 7 = true) (h5 : Ld 5 = true) :
    ∃ b p q ps', v = .pointer (some ⟨b, 0, none⟩) ∧ u5 = .agg #[.slice C1 k1 e1, .slice C2 k2 e2] ∧ W.cell? ⟨b, 0, none⟩ = some p ∧ W.cell? ⟨b, 1, none⟩ = some q ∧ W.frozen? ⟨b, 0, none⟩ = false ∧ W.frozen? ⟨b, 1, none⟩ = false ∧
      Sm2K w0 g B M L O rb db Ad nd cd yd (dset Ld 8) u0 u1 u2 u3 u4 u5 u6 v u8 C1 k1 e1 C2 k2 e2 ps' Ls ((W.setCell ⟨b, 0, none⟩ (.slice C1 k1 e1)).setCell ⟨b, 1, none⟩ (.slice C2 k2 e2)) := by
  obtain ⟨t, b, p, q, a1, a2, a3⟩ := h.h7 h7
  have hi : (O ++ Rw.pair rb 26 (.slice none 0 0) (.slice none 0 0) :: ps)[O.length + (t + 1)]? = some (Rw.pair b 26 p q) := by rw [get_r]; exact a2
  have o1 := h.ow.set0 _ hi (.slice C1 k1 e1)
  have d1 := h.dc.turned hB h.ow hi (grown_set W ⟨b, 0, none⟩ (.slice C1 k1 e1))
  rw [set_r, List.set_cons_succ] at o1
  have hi2 : (O ++ Rw.pair rb 26 (.slice none 0 0) (.slice none 0 0) :: ps.set t (Rw.pair b 26 (.slice C1 k1 e1) q))[O.length + (t + 1)]? = some (Rw.pair b 26 (.slice C1 k1 e1) q) := by rw [get_r]; exact List.getElem?_set_self (get_lt a2)
  have o2 := o1.set1 _ hi2 (.slice C2 k2 e2)
  have d2 := d1.turned hB o1 hi2 (grown_set _ ⟨b, 1, none⟩ (.slice C2 k2 e2))
  rw [set_r, List.set_cons_succ, List.set_set] at o2
  exact ⟨b, p, q, _, a1, h.h5 h5, h.ow.p0 _ hi, h.ow.p1 _ hi, h.ow.pf _ hi 0, h.ow.pf _ hi 1, o2, d2, h.h0, h.h1, h.h2, h.h3, h.h4, h.h5, h.h6, fun _ => ⟨t, b, _, _, a1, List.getElem?_set_self (get_lt a2), fun _ => ⟨rfl, rfl⟩⟩⟩
end
def Sm2I (w0 : World) (g B : Nat) (M : List (Nat × Value)) (L : List Ob) (O : List Rw) (rb db : Nat) (Ad : Option Addr) (nd cd yd : Nat) (A0 : Act) (Ld : Nat → Bool) (a : Act) (W : World) : Prop :=
  ∃ (u0 u1 u2 u3 u4 u5 u6 v u8 : Value) (C1 : Option Addr) (k1 e1 : Nat) (C2 : Option Addr) (k2 e2 : Nat) (ps : List Rw) (Ls : List Ob), a = (((((((((A0.put (some 18) u0).put (some 19) u1).put (some 20) u2).put (some 21) u3).put (some 17) u4).put (some 22) u5).put (some 23) u6).put (some 4) v).put (some 5) u8) ∧ Sm2K w0 g B M L O rb db Ad nd cd yd Ld u0 u1 u2 u3 u4 u5 u6 v u8 C1 k1 e1 C2 k2 e2 ps Ls W
def Some02 (w0 : World) (g B : Nat) (M : List (Nat × Value)) (L : List Ob) (O : List Rw) (e : Ending) (w' : World) : Prop :=
  ∃ (C1 : Option Addr) (k1 e1 : Nat) (C2 : Option Addr) (k2 e2 : Nat) (x y : Nat), e = .returned (.agg #[.slice C1 k1 e1, .slice C2 k2 e2]) ∧ x < 16777216 ^ 3 ∧ y < 16777216 ^ 3 ∧ 0 < y ∧ Nat.gcd x y = 1 ∧ Dice w' g B ∧ Ow w0 w' (some g) M (L ++ [⟨C1, k1, e1, nats (Na.dig x)⟩] ++ [⟨C2, k2, e2, nats (Na.dig y)⟩]) O
section
variable {w0 w w' : World} {g B : Nat} {M : List (Nat × Value)} {L : List Ob} {O : List Rw}
set_option maxHeartbeats 8000000 in
theorem some_ow (h : Ow w0 w (some g) M L O) (hd : Dice w g B) (hB : B ≤ w0.heap.size) :
    Calls Tryz.prog 9 #[.pointer (some ⟨g, 0, none⟩)] w (Some02 w0 g B M L O) := by
  have H0 := h.pair (.slice none 0 0) (.slice none 0 0) 26
  have HN := Lib.hid (dnat_ow H0 (hd.below (own_box1 _ _)) 3 (by omega))
  have HB := Lib.hid hB
  clear h hd H0 hB
  go_enter Tryz.func9, Tryz.ntmps9
  go_wp2_with fail
  refine HN.out.mono ?_
  rintro e w1 ⟨Ad, nd, cd, yd, rfl, hy1, hy2, hd1, H1⟩
  have H2 := H1.boxed (.slice Ad nd cd) 24
  have hD2 := hd1.below (own_box1 w1 (.cells #[.slice Ad nd cd] 24))
  have HH := Lib.hid (And.intro H2 hD2)
  clear HN H1 H2 hd1 hD2
  rcases Nat.eq_zero_or_pos yd with h0 | h0
  · subst h0
    have hz : ((nd : Int) == 0) = true := by rw [← hy1, Na.dig_zero]; rfl
    have HNx := Lib.hid (next_ow HH.out.1 HH.out.2 9 (by omega) (by omega))
    clear hy1 hy2
    go_wp2_with fail
    refine HNx.out.mono ?_
    rintro e w2 ⟨r, rfl, hr, hd2, H3, -⟩
    have hr4 : (r : Int) ≤ 8 := by omega
    have H4 := H3.lit1 (.int .i64 (1 + (r : Int))) 3
    have hd4 := hd2.below (own_box1 w2 (.cells #[.int .i64 (1 + (r : Int))] 3))
    have kb := H4.cell (M.length + 0) (by rw [get_r]; rfl)
    have fb := H4.free (M.length + 0) (by rw [get_r]; rfl)
    have H5 := H4.setv (M.length + 0) (by rw [get_r]; rfl) (.slice (some ⟨w2.heap.size, 0, none⟩) 1 1)
    have hd5 := hd4.set HB.out H4 (i := M.length + 0) (by rw [get_r]; rfl) (.slice (some ⟨w2.heap.size, 0, none⟩) 1 1)
    rw [set_r, List.set_cons_zero, List.append_assoc, List.cons_append, List.nil_append] at H5
    have H6 := H5.keep (O.length + 1) (by rw [get_r]; rfl) (by omega)
    rw [set_r, List.set_cons_succ, List.set_cons_zero] at H6
    have e9 : [Value.int .i64 (1 + (r : Int))] = nats (Na.dig (1 + r)) := by
      rw [Na.dig_small (1 + r) (by omega) (by omega)]
      show _ = [Value.int .i64 ((1 + r : Nat) : Int)]
      rw [Int.natCast_add]; rfl
    have H7 := H6.less (L' := L ++ [⟨some ⟨w2.heap.size, 0, none⟩, 1, 1, nats (Na.dig (1 + r))⟩]) (fun o ho => by
      rcases List.mem_append.1 ho with h | h
      · exact List.mem_append_left _ (List.mem_append_left _ h)
      · rw [← e9] at h; exact List.mem_append_right _ h)
    have H8 := H7.few (O.length + 1)
    rw [List.take_append, List.take_of_length_le (by omega), Nat.add_sub_cancel_left, List.take_succ_cons, List.take_zero] at H8
    have HW := Lib.hid H8
    have HDc := Lib.hid hd5
    have HY : Hid (1 + r < 16777216 ^ 3 ∧ 0 < 1 + r) := ⟨by omega, by omega⟩
    clear H3 H4 H5 H6 H7 H8 hd2 hd4 hd5 e9 HNx HH hr
    go_wp2_with fail
    clear kb fb hz
    refine reg_inv34 (Sm2I w0 g B M L O w.heap.size w1.heap.size (some ⟨w2.heap.size, 0, none⟩) 1 1 (1 + r)) (by kernel_rfl) (by kernel_rfl) ?_ ?_ ?_
    · refine ⟨undef, undef, undef, undef, undef, undef, undef, undef, undef, none, 0, 0, none, 0, 0, [], [], ?_, ⟨HW.out.drew, HDc.out.below (Below.refl _ _).drew, ?_, ?_, ?_, ?_, ?_, ?_, ?_, ?_⟩⟩
      · simp only [Act.put, List.setIfInBounds_toArray, List.set_cons_zero, List.set_cons_succ]
      all_goals (intro h; cases h)
    · rintro jj Ld b W hj hf hcl hd ⟨u0, u1, u2, u3, u4, u5, u6, v, u8, C1, k1, e1, C2, k2, e2, ps, Ls, rfl, hC⟩
      have hj' : jj < 10 := hj
      have hcase : jj = 0 ∨ jj = 1 ∨ jj = 2 ∨ jj = 3 ∨ jj = 4 ∨ jj = 5 ∨ jj = 6 ∨ jj = 7 ∨ jj = 8 ∨ jj = 9 := by omega
      have q0 := hC.ow.cell (M.length + 0) (by rw [get_r]; rfl)
      clear hj hj' HW HDc
      simp only [Act.put, List.setIfInBounds_toArray, List.set_cons_zero, List.set_cons_succ]
      rcases hcase with rfl | rfl | rfl | rfl | rfl | rfl | rfl | rfl | rfl | rfl
      · clear hd hcl
        refine wpOp_step rfl (fun K hK => ?_)
        go_simp
        refine hK _ _ ⟨_, u1, u2, u3, u4, u5, u6, v, u8, C1, k1, e1, C2, k2, e2, ps, Ls, ?_, ⟨hC.ow, hC.dc, fun _ => rfl, hC.h1, hC.h2, hC.h3, hC.h4, hC.h5, hC.h6, hC.h7⟩⟩
        simp only [Act.put, List.setIfInBounds_toArray, List.set_cons_zero, List.set_cons_succ]
      · obtain rfl := hC.h0 (hd 0 (by kernel_rfl))
        have f3 : Ld 3 = false := by cases e : Ld 3 with | false => rfl | true => (rw [hcl 3 1 e (by kernel_rfl)] at hf; cases hf)
        have f4 : Ld 4 = false := by cases e : Ld 4 with | false => rfl | true => (rw [hcl 4 3 e (by kernel_rfl)] at f3; cases f3)
        have f5 : Ld 5 = false := by cases e : Ld 5 with | false => rfl | true => (rw [hcl 5 4 e (by kernel_rfl)] at f4; cases f4)
        have f8 : Ld 8 = false := by cases e : Ld 8 with | false => rfl | true => (rw [hcl 8 5 e (by kernel_rfl)] at f5; cases f5)
        clear hd hcl
        refine wpOp_step rfl (fun K hK => ?_)
        go_simp
        refine (dnat_ow hC.ow hC.dc 3 (by omega)).mono ?_
        rintro e W' ⟨A1, n1, c1, x1, rfl, -, hx, hd1, ho⟩
        refine hK _ _ ⟨_, _, u2, u3, u4, u5, u6, v, u8, C1, k1, e1, C2, k2, e2, ps, _, ?_, hC.c1 f8 hx hd1 ho⟩
        simp only [Act.put, List.setIfInBounds_toArray, List.set_cons_zero, List.set_cons_succ]
      · clear hd hcl
        refine wpOp_step rfl (fun K hK => ?_)
        go_simp
        refine hK _ _ ⟨u0, u1, _, u3, u4, u5, u6, v, u8, C1, k1, e1, C2, k2, e2, ps, Ls, ?_, ⟨hC.ow, hC.dc, hC.h0, hC.h1, fun _ => rfl, hC.h3, hC.h4, hC.h5, hC.h6, hC.h7⟩⟩
        simp only [Act.put, List.setIfInBounds_toArray, List.set_cons_zero, List.set_cons_succ]
      · obtain ⟨t1, A1, n1, c1, x1, rfl, hx1, ht1⟩ := hC.h1 (hd 1 (by kernel_rfl))
        obtain rfl := hC.h2 (hd 2 (by kernel_rfl))
        have f4 : Ld 4 = false := by cases e : Ld 4 with | false => rfl | true => (rw [hcl 4 3 e (by kernel_rfl)] at hf; cases hf)
        have f5 : Ld 5 = false := by cases e : Ld 5 with | false => rfl | true => (rw [hcl 5 4 e (by kernel_rfl)] at f4; cases f4)
        have f8 : Ld 8 = false := by cases e : Ld 8 with | false => rfl | true => (rw [hcl 8 5 e (by kernel_rfl)] at f5; cases f5)
        clear hd hcl
        refine wpOp_step rfl (fun K hK => ?_)
        go_simp
        refine (rmake_dice hC.ow hC.dc (L.length + (t1 + 1)) (L.length + 0) (by rw [get_r]; exact ht1) (by rw [get_r]; rfl) hx1 HY.out.1 HY.out.2).mono ?_
        rintro e W' ⟨D1, i1, j1, D2, i2, j2, X, Y, rfl, h1, h2, h3, h4, hd1, ho⟩
        refine hK _ _ ⟨u0, _, _, _, u4, u5, u6, v, u8, _, _, _, _, _, _, ps, _, ?_, hC.c3 f4 f5 f8 h1 h2 h3 h4 hd1 ho⟩
        simp only [Act.put, List.setIfInBounds_toArray, List.set_cons_zero, List.set_cons_succ]
      · obtain ⟨rfl, -⟩ := hC.h3 (hd 3 (by kernel_rfl))
        clear hd hcl
        refine wpOp_step rfl (fun K hK => ?_)
        go_simp
        refine hK _ _ ⟨u0, u1, u2, _, _, u5, u6, v, u8, C1, k1, e1, C2, k2, e2, ps, Ls, ?_, ⟨hC.ow, hC.dc, hC.h0, hC.h1, hC.h2, hC.h3, fun _ => rfl, hC.h5, hC.h6, hC.h7⟩⟩
        simp only [Act.put, List.setIfInBounds_toArray, List.set_cons_zero, List.set_cons_succ]
      · obtain rfl := hC.h4 (hd 4 (by kernel_rfl))
        clear hd hcl
        refine wpOp_step rfl (fun K hK => ?_)
        go_simp
        refine hK _ _ ⟨u0, u1, u2, u3, _, _, u6, v, u8, C1, k1, e1, C2, k2, e2, ps, Ls, ?_, ⟨hC.ow, hC.dc, hC.h0, hC.h1, hC.h2, hC.h3, hC.h4, fun _ => rfl, hC.h6, hC.h7⟩⟩
        simp only [Act.put, List.setIfInBounds_toArray, List.set_cons_zero, List.set_cons_succ]
      · obtain rfl := hC.h4 (hd 4 (by kernel_rfl))
        clear hd hcl
        refine wpOp_step rfl (fun K hK => ?_)
        go_simp
        refine hK _ _ ⟨u0, u1, u2, u3, _, u5, _, v, u8, C1, k1, e1, C2, k2, e2, ps, Ls, ?_, ⟨hC.ow, hC.dc, hC.h0, hC.h1, hC.h2, hC.h3, hC.h4, hC.h5, fun _ => rfl, hC.h7⟩⟩
        simp only [Act.put, List.setIfInBounds_toArray, List.set_cons_zero, List.set_cons_succ]
      · have f8 : Ld 8 = false := by cases e : Ld 8 with | false => rfl | true => (rw [hcl 8 7 e (by kernel_rfl)] at hf; cases hf)
        clear hd hcl
        refine wpOp_step rfl (fun K hK => ?_)
        go_simp
        refine hK _ _ ⟨u0, u1, u2, u3, u4, u5, u6, _, u8, C1, k1, e1, C2, k2, e2, _, Ls, ?_, hC.a7 f8⟩
        simp only [Act.put, List.setIfInBounds_toArray, List.set_cons_zero, List.set_cons_succ]
      · obtain ⟨b, p, q, ps1, rfl, rfl, z1, z2, z3, z4, hC1⟩ := hC.s8 HB.out (hd 7 (by kernel_rfl)) (hd 5 (by kernel_rfl))
        clear hd hcl
        refine wpOp_step rfl (fun K hK => ?_)
        go_simp
        refine hK _ _ ⟨u0, u1, u2, u3, u4, _, u6, _, u8, C1, k1, e1, C2, k2, e2, ps1, Ls, ?_, hC1⟩
        simp only [Act.put, List.setIfInBounds_toArray, List.set_cons_zero, List.set_cons_succ]
      · obtain rfl := hC.h6 (hd 6 (by kernel_rfl))
        clear hd hcl
        refine wpOp_step rfl (fun K hK => ?_)
        go_simp
        refine hK _ _ ⟨u0, u1, u2, u3, u4, u5, _, v, .int .i64 0, C1, k1, e1, C2, k2, e2, ps, Ls, ?_, ⟨hC.ow, hC.dc, hC.h0, hC.h1, hC.h2, hC.h3, hC.h4, hC.h5, hC.h6, hC.h7⟩⟩
        simp only [Act.put, List.setIfInBounds_toArray, List.set_cons_zero, List.set_cons_succ]
    · rintro Ld b W hL ⟨u0, u1, u2, u3, u4, u5, u6, v, u8, C1, k1, e1, C2, k2, e2, ps, Ls, rfl, hC⟩
      obtain ⟨t, b2, p, q, rfl, r1, r2⟩ := hC.h7 (hL 7 (by show 7 < 10; decide))
      obtain ⟨rfl, rfl⟩ := r2 (hL 8 (by show 8 < 10; decide))
      obtain ⟨-, t1, t2, x, y, s1, s2, s3, s4, s5, s6⟩ := hC.h3 (hL 3 (by show 3 < 10; decide))
      have hi : (O ++ Rw.pair w.heap.size 26 (.slice none 0 0) (.slice none 0 0) :: ps)[O.length + (t + 1)]? = some (Rw.pair b2 26 (.slice C1 k1 e1) (.slice C2 k2 e2)) := by rw [get_r]; exact r1
      have y0 := hC.ow.p0 _ hi
      have y1 := hC.ow.p1 _ hi
      have hr : (O ++ Rw.pair w.heap.size 26 (.slice none 0 0) (.slice none 0 0) :: ps)[O.length + 0]? = some (Rw.pair w.heap.size 26 (.slice none 0 0) (.slice none 0 0)) := by rw [get_r]; rfl
      have z0 := hC.ow.p0 _ hr
      have z1 := hC.ow.p1 _ hr
      have f0 := hC.ow.pf _ hr 0
      have f1 := hC.ow.pf _ hr 1
      have o1 := hC.ow.set0 _ hr (.slice C1 k1 e1)
      have d1 := hC.dc.turned HB.out hC.ow hr (grown_set W ⟨w.heap.size, 0, none⟩ (.slice C1 k1 e1))
      rw [set_r, List.set_cons_zero] at o1
      have hr2 : (O ++ Rw.pair w.heap.size 26 (.slice C1 k1 e1) (.slice none 0 0) :: ps)[O.length + 0]? = some (Rw.pair w.heap.size 26 (.slice C1 k1 e1) (.slice none 0 0)) := by rw [get_r]; rfl
      have o2 := o1.set1 _ hr2 (.slice C2 k2 e2)
      have d2 := d1.turned HB.out o1 hr2 (grown_set _ ⟨w.heap.size, 1, none⟩ (.slice C2 k2 e2))
      rw [set_r, List.set_cons_zero] at o2
      have v0 := o2.p0 (O.length + 0) (by rw [get_r]; rfl)
      have v1 := o2.p1 (O.length + 0) (by rw [get_r]; rfl)
      have HF := Lib.hid (And.intro (o2.fewM.fewO.less (L' := L ++ [⟨C1, k1, e1, nats (Na.dig x)⟩] ++ [⟨C2, k2, e2, nats (Na.dig y)⟩]) (fun o ho => by
        simp only [List.mem_append, List.mem_singleton] at ho
        refine List.mem_append.2 ?_
        rcases ho with (ho | rfl) | rfl
        · exact .inl ho
        · exact .inr (List.mem_cons_of_mem _ (List.mem_of_getElem? s5))
        · exact .inr (List.mem_cons_of_mem _ (List.mem_of_getElem? s6)))) (And.intro d2 (And.intro s1 (And.intro s2 (And.intro s3 s4)))))
      clear hL hC r1 r2 hi hr hr2 o1 o2 d1 d2 s1 s2 s3 s4 s5 s6 HW HDc
      simp only [Act.put, List.setIfInBounds_toArray, List.set_cons_zero, List.set_cons_succ]
      go_wp2_with fail
      refine bodyPost_ret (v := .agg #[.slice C1 k1 e1, .slice C2 k2 e2]) (by simp [results, Tryz.results9, go_sem, v0, v1]) rfl ?_
      exact ⟨C1, k1, e1, C2, k2, e2, x, y, rfl, HF.out.2.2.1, HF.out.2.2.2.1, HF.out.2.2.2.2.1, HF.out.2.2.2.2.2, HF.out.2.1, HF.out.1⟩
  · have hz : ((nd : Int) == 0) = false := by
      rw [beq_eq_false_iff_ne]
      intro e
      have := Na.dig_len0.1 (show (Na.dig yd).length = 0 by omega)
      omega
    have kb := HH.out.1.cell (M.length + 0) (by rw [get_r]; rfl)
    have H8 := HH.out.1
    rw [show L ++ [(⟨Ad, nd, cd, nats (Na.dig yd)⟩ : Ob)] = L ++ ⟨Ad, nd, cd, nats (Na.dig yd)⟩ :: [] from rfl] at H8
    have HW := Lib.hid H8
    have HDc := Lib.hid HH.out.2
    have HY : Hid (yd < 16777216 ^ 3 ∧ 0 < yd) := ⟨hy2, h0⟩
    clear HH H8 hy1 hy2 h0
    go_wp2_with fail
    clear kb hz
    refine reg_inv34 (Sm2I w0 g B M L O w.heap.size w1.heap.size Ad nd cd yd) (by kernel_rfl) (by kernel_rfl) ?_ ?_ ?_
    · refine ⟨undef, undef, undef, undef, undef, undef, undef, undef, undef, none, 0, 0, none, 0, 0, [], [], ?_, ⟨HW.out.drew, HDc.out.below (Below.refl _ _).drew, ?_, ?_, ?_, ?_, ?_, ?_, ?_, ?_⟩⟩
      · simp only [Act.put, List.setIfInBounds_toArray, List.set_cons_zero, List.set_cons_succ]
      all_goals (intro h; cases h)
    · rintro jj Ld b W hj hf hcl hd ⟨u0, u1, u2, u3, u4, u5, u6, v, u8, C1, k1, e1, C2, k2, e2, ps, Ls, rfl, hC⟩
      have hj' : jj < 10 := hj
      have hcase : jj = 0 ∨ jj = 1 ∨ jj = 2 ∨ jj = 3 ∨ jj = 4 ∨ jj = 5 ∨ jj = 6 ∨ jj = 7 ∨ jj = 8 ∨ jj = 9 := by omega
      have q0 := hC.ow.cell (M.length + 0) (by rw [get_r]; rfl)
      clear hj hj' HW HDc
      simp only [Act.put, List.setIfInBounds_toArray, List.set_cons_zero, List.set_cons_succ]
      rcases hcase with rfl | rfl | rfl | rfl | rfl | rfl | rfl | rfl | rfl | rfl
      · clear hd hcl
        refine wpOp_step rfl (fun K hK => ?_)
        go_simp
        refine hK _ _ ⟨_, u1, u2, u3, u4, u5, u6, v, u8, C1, k1, e1, C2, k2, e2, ps, Ls, ?_, ⟨hC.ow, hC.dc, fun _ => rfl, hC.h1, hC.h2, hC.h3, hC.h4, hC.h5, hC.h6, hC.h7⟩⟩
        simp only [Act.put, List.setIfInBounds_toArray, List.set_cons_zero, List.set_cons_succ]
      · obtain rfl := hC.h0 (hd 0 (by kernel_rfl))
        have f3 : Ld 3 = false := by cases e : Ld 3 with | false => rfl | true => (rw [hcl 3 1 e (by kernel_rfl)] at hf; cases hf)
        have f4 : Ld 4 = false := by cases e : Ld 4 with | false => rfl | true => (rw [hcl 4 3 e (by kernel_rfl)] at f3; cases f3)
        have f5 : Ld 5 = false := by cases e : Ld 5 with | false => rfl | true => (rw [hcl 5 4 e (by kernel_rfl)] at f4; cases f4)
        have f8 : Ld 8 = false := by cases e : Ld 8 with | false => rfl | true => (rw [hcl 8 5 e (by kernel_rfl)] at f5; cases f5)
        clear hd hcl
        refine wpOp_step rfl (fun K hK => ?_)
        go_simp
        refine (dnat_ow hC.ow hC.dc 3 (by omega)).mono ?_
        rintro e W' ⟨A1, n1, c1, x1, rfl, -, hx, hd1, ho⟩
        refine hK _ _ ⟨_, _, u2, u3, u4, u5, u6, v, u8, C1, k1, e1, C2, k2, e2, ps, _, ?_, hC.c1 f8 hx hd1 ho⟩
        simp only [Act.put, List.setIfInBounds_toArray, List.set_cons_zero, List.set_cons_succ]
      · clear hd hcl
        refine wpOp_step rfl (fun K hK => ?_)
        go_simp
        refine hK _ _ ⟨u0, u1, _, u3, u4, u5, u6, v, u8, C1, k1, e1, C2, k2, e2, ps, Ls, ?_, ⟨hC.ow, hC.dc, hC.h0, hC.h1, fun _ => rfl, hC.h3, hC.h4, hC.h5, hC.h6, hC.h7⟩⟩
        simp only [Act.put, List.setIfInBounds_toArray, List.set_cons_zero, List.set_cons_succ]
      · obtain ⟨t1, A1, n1, c1, x1, rfl, hx1, ht1⟩ := hC.h1 (hd 1 (by kernel_rfl))
        obtain rfl := hC.h2 (hd 2 (by kernel_rfl))
        have f4 : Ld 4 = false := by cases e : Ld 4 with | false => rfl | true => (rw [hcl 4 3 e (by kernel_rfl)] at hf; cases hf)
        have f5 : Ld 5 = false := by cases e : Ld 5 with | false => rfl | true => (rw [hcl 5 4 e (by kernel_rfl)] at f4; cases f4)
        have f8 : Ld 8 = false := by cases e : Ld 8 with | false => rfl | true => (rw [hcl 8 5 e (by kernel_rfl)] at f5; cases f5)
        clear hd hcl
        refine wpOp_step rfl (fun K hK => ?_)
        go_simp
        refine (rmake_dice hC.ow hC.dc (L.length + (t1 + 1)) (L.length + 0) (by rw [get_r]; exact ht1) (by rw [get_r]; rfl) hx1 HY.out.1 HY.out.2).mono ?_
        rintro e W' ⟨D1, i1, j1, D2, i2, j2, X, Y, rfl, h1, h2, h3, h4, hd1, ho⟩
        refine hK _ _ ⟨u0, _, _, _, u4, u5, u6, v, u8, _, _, _, _, _, _, ps, _, ?_, hC.c3 f4 f5 f8 h1 h2 h3 h4 hd1 ho⟩
        simp only [Act.put, List.setIfInBounds_toArray, List.set_cons_zero, List.set_cons_succ]
      · obtain ⟨rfl, -⟩ := hC.h3 (hd 3 (by kernel_rfl))
        clear hd hcl
        refine wpOp_step rfl (fun K hK => ?_)
        go_simp
        refine hK _ _ ⟨u0, u1, u2, _, _, u5, u6, v, u8, C1, k1, e1, C2, k2, e2, ps, Ls, ?_, ⟨hC.ow, hC.dc, hC.h0, hC.h1, hC.h2, hC.h3, fun _ => rfl, hC.h5, hC.h6, hC.h7⟩⟩
        simp only [Act.put, List.setIfInBounds_toArray, List.set_cons_zero, List.set_cons_succ]
      · obtain rfl := hC.h4 (hd 4 (by kernel_rfl))
        clear hd hcl
        refine wpOp_step rfl (fun K hK => ?_)
        go_simp
        refine hK _ _ ⟨u0, u1, u2, u3, _, _, u6, v, u8, C1, k1, e1, C2, k2, e2, ps, Ls, ?_, ⟨hC.ow, hC.dc, hC.h0, hC.h1, hC.h2, hC.h3, hC.h4, fun _ => rfl, hC.h6, hC.h7⟩⟩
        simp only [Act.put, List.setIfInBounds_toArray, List.set_cons_zero, List.set_cons_succ]
      · obtain rfl := hC.h4 (hd 4 (by kernel_rfl))
        clear hd hcl
        refine wpOp_step rfl (fun K hK => ?_)
        go_simp
        refine hK _ _ ⟨u0, u1, u2, u3, _, u5, _, v, u8, C1, k1, e1, C2, k2, e2, ps, Ls, ?_, ⟨hC.ow, hC.dc, hC.h0, hC.h1, hC.h2, hC.h3, hC.h4, hC.h5, fun _ => rfl, hC.h7⟩⟩
        simp only [Act.put, List.setIfInBounds_toArray, List.set_cons_zero, List.set_cons_succ]
      · have f8 : Ld 8 = false := by cases e : Ld 8 with | false => rfl | true => (rw [hcl 8 7 e (by kernel_rfl)] at hf; cases hf)
        clear hd hcl
        refine wpOp_step rfl (fun K hK => ?_)
        go_simp
        refine hK _ _ ⟨u0, u1, u2, u3, u4, u5, u6, _, u8, C1, k1, e1, C2, k2, e2, _, Ls, ?_, hC.a7 f8⟩
        simp only [Act.put, List.setIfInBounds_toArray, List.set_cons_zero, List.set_cons_succ]
      · obtain ⟨b, p, q, ps1, rfl, rfl, z1, z2, z3, z4, hC1⟩ := hC.s8 HB.out (hd 7 (by kernel_rfl)) (hd 5 (by kernel_rfl))
        clear hd hcl
        refine wpOp_step rfl (fun K hK => ?_)
        go_simp
        refine hK _ _ ⟨u0, u1, u2, u3, u4, _, u6, _, u8, C1, k1, e1, C2, k2, e2, ps1, Ls, ?_, hC1⟩
        simp only [Act.put, List.setIfInBounds_toArray, List.set_cons_zero, List.set_cons_succ]
      · obtain rfl := hC.h6 (hd 6 (by kernel_rfl))
        clear hd hcl
        refine wpOp_step rfl (fun K hK => ?_)
        go_simp
        refine hK _ _ ⟨u0, u1, u2, u3, u4, u5, _, v, .int .i64 0, C1, k1, e1, C2, k2, e2, ps, Ls, ?_, ⟨hC.ow, hC.dc, hC.h0, hC.h1, hC.h2, hC.h3, hC.h4, hC.h5, hC.h6, hC.h7⟩⟩
        simp only [Act.put, List.setIfInBounds_toArray, List.set_cons_zero, List.set_cons_succ]
    · rintro Ld b W hL ⟨u0, u1, u2, u3, u4, u5, u6, v, u8, C1, k1, e1, C2, k2, e2, ps, Ls, rfl, hC⟩
      obtain ⟨t, b2, p, q, rfl, r1, r2⟩ := hC.h7 (hL 7 (by show 7 < 10; decide))
      obtain ⟨rfl, rfl⟩ := r2 (hL 8 (by show 8 < 10; decide))
      obtain ⟨-, t1, t2, x, y, s1, s2, s3, s4, s5, s6⟩ := hC.h3 (hL 3 (by show 3 < 10; decide))
      have hi : (O ++ Rw.pair w.heap.size 26 (.slice none 0 0) (.slice none 0 0) :: ps)[O.length + (t + 1)]? = some (Rw.pair b2 26 (.slice C1 k1 e1) (.slice C2 k2 e2)) := by rw [get_r]; exact r1
      have y0 := hC.ow.p0 _ hi
      have y1 := hC.ow.p1 _ hi
      have hr : (O ++ Rw.pair w.heap.size 26 (.slice none 0 0) (.slice none 0 0) :: ps)[O.length + 0]? = some (Rw.pair w.heap.size 26 (.slice none 0 0) (.slice none 0 0)) := by rw [get_r]; rfl
      have z0 := hC.ow.p0 _ hr
      have z1 := hC.ow.p1 _ hr
      have f0 := hC.ow.pf _ hr 0
      have f1 := hC.ow.pf _ hr 1
      have o1 := hC.ow.set0 _ hr (.slice C1 k1 e1)
      have d1 := hC.dc.turned HB.out hC.ow hr (grown_set W ⟨w.heap.size, 0, none⟩ (.slice C1 k1 e1))
      rw [set_r, List.set_cons_zero] at o1
      have hr2 : (O ++ Rw.pair w.heap.size 26 (.slice C1 k1 e1) (.slice none 0 0) :: ps)[O.length + 0]? = some (Rw.pair w.heap.size 26 (.slice C1 k1 e1) (.slice none 0 0)) := by rw [get_r]; rfl
      have o2 := o1.set1 _ hr2 (.slice C2 k2 e2)
      have d2 := d1.turned HB.out o1 hr2 (grown_set _ ⟨w.heap.size, 1, none⟩ (.slice C2 k2 e2))
      rw [set_r, List.set_cons_zero] at o2
      have v0 := o2.p0 (O.length + 0) (by rw [get_r]; rfl)
      have v1 := o2.p1 (O.length + 0) (by rw [get_r]; rfl)
      have HF := Lib.hid (And.intro (o2.fewM.fewO.less (L' := L ++ [⟨C1, k1, e1, nats (Na.dig x)⟩] ++ [⟨C2, k2, e2, nats (Na.dig y)⟩]) (fun o ho => by
        simp only [List.mem_append, List.mem_singleton] at ho
        refine List.mem_append.2 ?_
        rcases ho with (ho | rfl) | rfl
        · exact .inl ho
        · exact .inr (List.mem_cons_of_mem _ (List.mem_of_getElem? s5))
        · exact .inr (List.mem_cons_of_mem _ (List.mem_of_getElem? s6)))) (And.intro d2 (And.intro s1 (And.intro s2 (And.intro s3 s4)))))
      clear hL hC r1 r2 hi hr hr2 o1 o2 d1 d2 s1 s2 s3 s4 s5 s6 HW HDc
      simp only [Act.put, List.setIfInBounds_toArray, List.set_cons_zero, List.set_cons_succ]
      go_wp2_with fail
      refine bodyPost_ret (v := .agg #[.slice C1 k1 e1, .slice C2 k2 e2]) (by simp [results, Tryz.results9, go_sem, v0, v1]) rfl ?_
      exact ⟨C1, k1, e1, C2, k2, e2, x, y, rfl, HF.out.2.2.1, HF.out.2.2.2.1, HF.out.2.2.2.2.1, HF.out.2.2.2.2.2, HF.out.2.1, HF.out.1⟩
end
end Go.Proofs.YtnfjnlnphdmdmaaGreatDoor

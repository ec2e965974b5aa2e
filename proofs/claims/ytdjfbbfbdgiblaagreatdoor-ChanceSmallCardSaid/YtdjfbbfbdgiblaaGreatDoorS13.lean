/- So Sl Sp Sq -/
import Derived.Test.YtdjfbbfbdgiblaaGreatDoorS12
namespace Go.Proofs.YtdjfbbfbdgiblaaGreatDoor
open Go.RowKit
set_option linter.unusedVariables false
set_option maxRecDepth 100000
theorem zip_set {α β γ : Type} {f : α → β → γ} : ∀ (a : List α) (b : List β) (k : Nat) (x : α) (y : β), List.zipWith f (a.set k x) (b.set k y) = (List.zipWith f a b).set k (f x y)
  | [], b, k, x, y => by simp
  | a :: l1, [], k, x, y => by cases k <;> simp
  | a :: l1, b :: l2, 0, x, y => rfl
  | a :: l1, b :: l2, k + 1, x, y => by simp [zip_set l1 l2 k x y]
def mkR (h : Option Addr × Nat) (r : List UInt8) : Rw := ⟨h.1, r.length, h.2, 5, bys r⟩
def mkRs (H : List (Option Addr × Nat)) (R : List (List UInt8)) : List Rw := List.zipWith mkR H R
def hdr (h : Option Addr × Nat) (r : List UInt8) : Value := .slice h.1 r.length h.2
def hdrs (H : List (Option Addr × Nat)) (R : List (List UInt8)) : List Value := List.zipWith hdr H R
def hAt (H : List (Option Addr × Nat)) (k : Nat) : Option Addr × Nat := H[k]?.getD (none, 0)
theorem hAt_lt {H : List (Option Addr × Nat)} {k : Nat} (h : k < H.length) : H[k]? = some (hAt H k) := by unfold hAt; rw [List.getElem?_eq_getElem h]; rfl
abbrev outR (g m : Nat) (H : List (Option Addr × Nat)) (R : List (List UInt8)) : Rw := ⟨some ⟨g, 0, none⟩, m, m, 46, hdrs H R⟩
structure Mx (w0 w : World) (M : List (Nat × Value)) (L : List Ob) (g m : Nat) (H : List (Option Addr × Nat)) (R : List (List UInt8)) (X : List Rw) : Prop where
  ow : Ow w0 w none M L (outR g m H R :: (mkRs H R ++ X))
  hl : H.length = m
  rl : R.length = m
section
variable {w0 w w' : World} {M : List (Nat × Value)} {L : List Ob} {g m : Nat} {H : List (Option Addr × Nat)} {R : List (List UInt8)} {X : List Rw}
theorem Mx.get (h : Mx w0 w M L g m H R X) {k : Nat} (hk : k < m) : (mkRs H R)[k]? = some (mkR (hAt H k) (Sy.rw_ R k)) ∧ (hdrs H R)[k]? = some (hdr (hAt H k) (Sy.rw_ R k)) := by
  have e1 := hAt_lt (H := H) (k := k) (by rw [h.hl]; exact hk)
  have e2 := Sy.rw_lt (rows := R) (k := k) (by rw [h.rl]; exact hk)
  unfold mkRs hdrs
  rw [List.getElem?_zipWith, List.getElem?_zipWith, e1, e2]
  exact ⟨rfl, rfl⟩
theorem Mx.len (h : Mx w0 w M L g m H R X) : (mkRs H R).length = m := by unfold mkRs; rw [List.length_zipWith, h.hl, h.rl]; omega
theorem Mx.at_ (h : Mx w0 w M L g m H R X) {k : Nat} (hk : k < m) : (outR g m H R :: (mkRs H R ++ X))[k + 1]? = some (mkR (hAt H k) (Sy.rw_ R k)) := by
  rw [List.getElem?_cons_succ, List.getElem?_append_left (by rw [h.len]; exact hk)]
  exact (h.get hk).1
theorem Mx.go (h : Mx w0 w M L g m H R X) (hb : Below w.heap.size w w') : Mx w0 w' M L g m H R X := ⟨h.ow.go hb, h.hl, h.rl⟩
theorem Mx.hd (h : Mx w0 w M L g m H R X) {k : Nat} (hk : k < m) : w.cell? ⟨g, k, none⟩ = some (.slice (hAt H k).1 (Sy.rw_ R k).length (hAt H k).2) := by
  have ho := h.ow.row 0 rfl
  rw [ho.cellAt k (by omega)]
  exact (h.get hk).2
theorem Mx.hf (h : Mx w0 w M L g m H R X) (k : Nat) : w.frozen? ⟨g, k, none⟩ = false := (h.ow.row 0 rfl).frozenAt k
theorem Mx.row (h : Mx w0 w M L g m H R X) {k : Nat} (hk : k < m) : w.ownsRow w0.heap.size 5 1 (.slice (hAt H k).1 (Sy.rw_ R k).length (hAt H k).2) (Sy.rw_ R k).length (bys (Sy.rw_ R k)) := h.ow.own (k + 1) _ (h.at_ hk)
theorem Mx.form (h : Mx w0 w M L g m H R X) {k : Nat} (hk : k < m) (h0 : 0 < (Sy.rw_ R k).length) : ∃ gk ck, hAt H k = (some ⟨gk, 0, none⟩, ck) := by
  obtain ⟨gk, e, _, _⟩ := own_form (h.row hk) h0
  exact ⟨gk, (hAt H k).2, by rw [← e]⟩
theorem Mx.byte (h : Mx w0 w M L g m H R X) {k : Nat} (hk : k < m) {gk ck : Nat} (hg : hAt H k = (some ⟨gk, 0, none⟩, ck)) {q : Nat} {b : UInt8} (hq : (Sy.rw_ R k)[q]? = some b) : w.cell? ⟨gk, q, none⟩ = some (.int .u8 (b.toNat : Int)) := by
  have ho := h.row hk
  rw [hg] at ho
  exact own_byte ho hq
theorem Mx.frz (h : Mx w0 w M L g m H R X) {k : Nat} (hk : k < m) {gk ck : Nat} (hg : hAt H k = (some ⟨gk, 0, none⟩, ck)) (q : Nat) : w.frozen? ⟨gk, q, none⟩ = false := by
  have ho := h.row hk
  rw [hg] at ho
  exact ho.frozenAt q
theorem hdrs_same {k : Nat} {r : List UInt8} (hk : k < R.length) (hr : r.length = (Sy.rw_ R k).length) : hdrs H (R.set k r) = hdrs H R := by
  unfold hdrs
  refine List.ext_getElem? fun i => ?_
  rw [List.getElem?_zipWith, List.getElem?_zipWith, List.getElem?_set]
  by_cases e : k = i
  · subst e
    rw [if_pos rfl, if_pos hk, Sy.rw_lt hk]
    cases H[k]? with
    | none => rfl
    | some h =>
      show some (Value.slice h.1 r.length h.2) = some (Value.slice h.1 (Sy.rw_ R k).length h.2)
      rw [hr]
  · rw [if_neg e]
theorem mkRs_set1 {k : Nat} {r : List UInt8} (hk : k < H.length) : (mkRs H R).set k (mkR (hAt H k) r) = mkRs H (R.set k r) := by
  unfold mkRs
  rw [← zip_set]
  congr 1
  have e := hAt_lt hk
  obtain ⟨h1, h2⟩ := List.getElem?_eq_some_iff.1 e
  rw [← h2]
  exact List.set_getElem_self h1
theorem Mx.turn (h : Mx w0 w M L g m H R X) {k : Nat} (hk : k < m) {r : List UInt8} (hr : r.length = (Sy.rw_ R k).length) (ho : Ow w0 w' none M L ((outR g m H R :: (mkRs H R ++ X)).set (k + 1) (mkR (hAt H k) r))) : Mx w0 w' M L g m H (R.set k r) X := by
  refine ⟨?_, h.hl, by rw [List.length_set]; exact h.rl⟩
  have e : (outR g m H R :: (mkRs H R ++ X)).set (k + 1) (mkR (hAt H k) r) = outR g m H (R.set k r) :: (mkRs H (R.set k r) ++ X) := by
    rw [List.set_cons_succ, List.set_append_left _ _ (by rw [h.len]; exact hk), mkRs_set1 (by rw [h.hl]; exact hk)]
    show (outR g m H R :: _) = _
    unfold outR
    rw [hdrs_same (by rw [h.rl]; exact hk) hr]
  rw [e] at ho
  exact ho
/-- a byte of a row is stored -/
theorem Mx.setB (h : Mx w0 w M L g m H R X) {k : Nat} (hk : k < m) {gk ck : Nat} (hg : hAt H k = (some ⟨gk, 0, none⟩, ck)) (q : Nat) (z : UInt8) : Mx w0 (w.setCell ⟨gk, q, none⟩ (.int .u8 (z.toNat : Int))) M L g m H (R.set k ((Sy.rw_ R k).set q z)) X := by
  have hi := h.at_ hk
  unfold mkR at hi
  rw [hg] at hi
  have h5 := h.ow.putB (k + 1) hi q z
  refine h.turn hk (by rw [List.length_set]) ?_
  unfold mkR
  rw [hg, List.length_set]
  exact h5
/-- a row is made longer, and its head is stored -/
theorem Mx.grow (h : Mx w0 w M L g m H R X) {k : Nat} (hk : k < m) {A' : Option Addr} {n' c' : Nat} {r : List UInt8} (hr : r.length = n') (ho : Ow w0 w' none M L ((outR g m H R :: (mkRs H R ++ X)).set (k + 1) ⟨A', n', c', 5, bys r⟩)) : Mx w0 (w'.setCell ⟨g, k, none⟩ (.slice A' n' c')) M L g m (H.set k (A', c')) (R.set k r) X := by
  subst hr
  refine ⟨?_, by rw [List.length_set]; exact h.hl, by rw [List.length_set]; exact h.rl⟩
  have e : (outR g m H R :: (mkRs H R ++ X)).set (k + 1) ⟨A', r.length, c', 5, bys r⟩ = outR g m H R :: (mkRs (H.set k (A', c')) (R.set k r) ++ X) := by
    rw [List.set_cons_succ, List.set_append_left _ _ (by rw [h.len]; exact hk)]
    unfold mkRs
    rw [zip_set]
    rfl
  rw [e] at ho
  have h5 := ho.put 0 rfl k (.slice A' r.length c')
  have e2 : (hdrs H R).set k (.slice A' r.length c') = hdrs (H.set k (A', c')) (R.set k r) := by
    unfold hdrs
    rw [zip_set]
    rfl
  rw [e2] at h5
  exact h5
def swpA {α : Type} (l : List α) (d : α) (c p : Nat) : List α := (l.set c (l[p]?.getD d)).set p (l[c]?.getD d)
theorem swpA_at {α : Type} {l : List α} {d : α} {c p : Nat} (hc : c < l.length) (hp : p < l.length) (k : Nat) : (swpA l d c p)[k]? = if k = p then l[c]? else if k = c then l[p]? else l[k]? := by
  unfold swpA
  rw [List.getElem?_set, List.getElem?_set, List.length_set]
  by_cases h1 : p = k
  · subst h1
    rw [if_pos rfl, if_pos hp, if_pos rfl, List.getElem?_eq_getElem hc]; rfl
  · rw [if_neg h1, if_neg (show ¬ k = p from fun e => h1 e.symm)]
    by_cases h2 : c = k
    · subst h2
      rw [if_pos rfl, if_pos hc, if_pos rfl, List.getElem?_eq_getElem hp]; rfl
    · rw [if_neg h2, if_neg (show ¬ k = c from fun e => h2 e.symm)]
theorem zip_swp {α β γ : Type} {f : α → β → γ} {a : List α} {b : List β} {d : α} {d' : β} {c p : Nat} (hl : a.length = b.length) (hc : c < a.length) (hp : p < a.length) (k : Nat) : (List.zipWith f (swpA a d c p) (swpA b d' c p))[k]? = if k = p then (List.zipWith f a b)[c]? else if k = c then (List.zipWith f a b)[p]? else (List.zipWith f a b)[k]? := by
  rw [List.getElem?_zipWith, swpA_at hc hp, swpA_at (by omega) (by omega)]
  by_cases h1 : k = p
  · rw [if_pos h1, if_pos h1, if_pos h1, List.getElem?_zipWith]
  · rw [if_neg h1, if_neg h1, if_neg h1]
    by_cases h2 : k = c
    · rw [if_pos h2, if_pos h2, if_pos h2, List.getElem?_zipWith]
    · rw [if_neg h2, if_neg h2, if_neg h2, List.getElem?_zipWith]
theorem swapR_eq (rows : List (List UInt8)) (c p : Nat) : Sy.swapR rows c p = swpA rows [] c p := rfl
/-- two rows change places: their heads are stored -/
theorem Mx.swap (h : Mx w0 w M L g m H R X) {c p : Nat} (hc : c < m) (hp : p < m) (w' : World) (hw : w' = (w.setCell ⟨g, c, none⟩ (hdr (hAt H p) (Sy.rw_ R p))).setCell ⟨g, p, none⟩ (hdr (hAt H c) (Sy.rw_ R c))) : Mx w0 w' M L g m (swpA H (none, 0) c p) (Sy.swapR R c p) X := by
  subst hw
  have hHc : c < H.length := by rw [h.hl]; exact hc
  have hHp : p < H.length := by rw [h.hl]; exact hp
  have hlen : H.length = R.length := by rw [h.hl, h.rl]
  have hl' : (swpA H (none, 0) c p).length = m := by unfold swpA; simp [h.hl]
  have hr' : (Sy.swapR R c p).length = m := by rw [Sy.swap_length]; exact h.rl
  refine ⟨?_, hl', hr'⟩
  have h5 := (h.ow.put 0 rfl c (hdr (hAt H p) (Sy.rw_ R p))).put 0 rfl p (hdr (hAt H c) (Sy.rw_ R c))
  have e1 : ((hdrs H R).set c (hdr (hAt H p) (Sy.rw_ R p))).set p (hdr (hAt H c) (Sy.rw_ R c)) = hdrs (swpA H (none, 0) c p) (Sy.swapR R c p) := by
    refine List.ext_getElem? fun k => ?_
    unfold hdrs
    rw [swapR_eq, zip_swp hlen hHc hHp, List.getElem?_set, List.getElem?_set, List.length_set]
    have hz : (List.zipWith hdr H R).length = m := by rw [List.length_zipWith, h.hl, h.rl]; omega
    have g1 := (h.get hc).2
    have g2 := (h.get hp).2
    unfold hdrs at g1 g2
    by_cases e1 : p = k
    · subst e1
      rw [if_pos rfl, if_pos (by omega), if_pos rfl, g1]
    · rw [if_neg e1, if_neg (show ¬ k = p from fun e => e1 e.symm)]
      by_cases e2 : c = k
      · subst e2
        rw [if_pos rfl, if_pos (by omega), if_pos rfl, g2]
      · rw [if_neg e2, if_neg (show ¬ k = c from fun e => e2 e.symm)]
  have h6 : Ow w0 ((w.setCell ⟨g, c, none⟩ (hdr (hAt H p) (Sy.rw_ R p))).setCell ⟨g, p, none⟩ (hdr (hAt H c) (Sy.rw_ R c))) none M L (outR g m (swpA H (none, 0) c p) (Sy.swapR R c p) :: (mkRs H R ++ X)) := by
    unfold outR
    rw [← e1]
    exact h5
  have hml : (mkRs (swpA H (none, 0) c p) (Sy.swapR R c p)).length = m := by unfold mkRs; rw [List.length_zipWith, hl', hr']; omega
  refine h6.re (fun i => if i = c + 1 then p + 1 else if i = p + 1 then c + 1 else i) (fun i j _ _ e => ?_) (fun i r hi => ?_)
  · split at e <;> split at e <;> (try split at e) <;> (try split at e) <;> omega
  · cases i with
    | zero => rw [if_neg (by omega), if_neg (by omega)]; exact hi
    | succ k =>
      rw [List.getElem?_cons_succ] at hi
      rcases Nat.lt_or_ge k m with hk | hk
      · rw [List.getElem?_append_left (by rw [hml]; exact hk)] at hi
        unfold mkRs at hi
        rw [swapR_eq, zip_swp hlen hHc hHp] at hi
        have key : ∀ j, j < m → (outR g m (swpA H (none, 0) c p) (Sy.swapR R c p) :: (mkRs H R ++ X))[j + 1]? = (List.zipWith mkR H R)[j]? := fun j hj => by
          rw [List.getElem?_cons_succ, List.getElem?_append_left (by rw [h.len]; exact hj)]
          rfl
        by_cases e1 : k = c
        · subst e1
          rw [if_pos rfl, key p hp]
          by_cases e2 : k = p
          · subst e2; rw [if_pos rfl] at hi; exact hi
          · rw [if_neg e2, if_pos rfl] at hi; exact hi
        · rw [if_neg (by omega)]
          by_cases e2 : k = p
          · subst e2
            rw [if_pos rfl, key c hc]
            rw [if_pos rfl] at hi; exact hi
          · rw [if_neg (by omega), key k hk]
            rw [if_neg e2, if_neg e1] at hi; exact hi
      · rw [if_neg (by omega), if_neg (by omega), List.getElem?_cons_succ]
        rw [List.getElem?_append_right (by rw [hml]; exact hk), hml] at hi
        rw [List.getElem?_append_right (by rw [h.len]; exact hk), h.len]
        exact hi
end
namespace Sy
/-- the first q elements are replaced -/
def upd (f : Nat → UInt8) (r : List UInt8) (q : Nat) : List UInt8 := (List.range r.length).map fun j => if j < q then f j else wd r j
theorem upd_length (f : Nat → UInt8) (r : List UInt8) (q : Nat) : (upd f r q).length = r.length := by unfold upd; simp
theorem upd_get (f : Nat → UInt8) (r : List UInt8) (q : Nat) {j : Nat} (h : j < r.length) : (upd f r q)[j]? = some (if j < q then f j else wd r j) := by
  unfold upd
  rw [List.getElem?_map, List.getElem?_range h]
  rfl
theorem upd_zero (f : Nat → UInt8) (r : List UInt8) : upd f r 0 = r := by
  refine List.ext_getElem? fun j => ?_
  rcases Nat.lt_or_ge j r.length with h | h
  · rw [upd_get f r 0 h, if_neg (by omega), wd_lt h]
  · rw [List.getElem?_eq_none (by rw [upd_length]; exact h), List.getElem?_eq_none h]
theorem upd_succ (f : Nat → UInt8) (r : List UInt8) {q : Nat} (hq : q < r.length) : (upd f r q).set q (f q) = upd f r (q + 1) := by
  refine List.ext_getElem? fun j => ?_
  rw [List.getElem?_set]
  rcases Nat.lt_or_ge j r.length with h | h
  · rw [upd_get f r q h, upd_get f r (q + 1) h]
    by_cases e : q = j
    · subst e; rw [if_pos rfl, if_pos (by rw [upd_length]; exact hq), if_pos (by omega)]
    · rw [if_neg e]
      by_cases e2 : j < q
      · rw [if_pos e2, if_pos (by omega)]
      · rw [if_neg e2, if_neg (by omega)]
  · rw [if_neg (by omega), List.getElem?_eq_none (by rw [upd_length]; exact h), List.getElem?_eq_none (by rw [upd_length]; exact h)]
theorem upd_all (f : Nat → UInt8) (r : List UInt8) : upd f r r.length = (List.range r.length).map f := by
  unfold upd
  refine List.map_congr_left fun j hj => if_pos (List.mem_range.1 hj)
theorem scl_upd (t : UInt8) (r : List UInt8) : scl t r = upd (fun j => Gf.gmul (wd r j) t) r r.length := by
  rw [upd_all]
  refine List.ext_getElem? fun j => ?_
  unfold scl
  rw [List.getElem?_map, List.getElem?_map]
  rcases Nat.lt_or_ge j r.length with h | h
  · rw [List.getElem?_range h, wd_lt h]; rfl
  · rw [List.getElem?_eq_none h, List.getElem?_eq_none (by simpa using h)]; rfl
theorem addRow_upd (t : UInt8) (p r : List UInt8) : addRow t p r = upd (fun j => wd r j ^^^ Gf.gmul t (wd p j)) r r.length := by rw [upd_all]; rfl
theorem piv_at {c i : Nat} {rows : List (List UInt8)} (hi : c + i < rows.length) (h0 : ∀ j, j < i → wd (rw_ rows (c + j)) c = 0) (h1 : wd (rw_ rows (c + i)) c ≠ 0) : piv c rows = some (c + i) := by
  cases e : piv c rows with
  | none => exact absurd (piv_none e (c + i) hi (by omega)) h1
  | some p =>
    obtain ⟨a1, a2, a3, a4⟩ := piv_some e
    congr 1
    rcases Nat.lt_trichotomy p (c + i) with h | h | h
    · have := h0 (p - c) (by omega)
      rw [show c + (p - c) = p by omega] at this
      exact absurd this a3
    · exact h
    · exact absurd (a4 (c + i) (by omega) h) h1
theorem piv_no {c : Nat} {rows : List (List UInt8)} (h0 : ∀ j, c + j < rows.length → wd (rw_ rows (c + j)) c = 0) : piv c rows = none := by
  cases e : piv c rows with
  | none => rfl
  | some p =>
    obtain ⟨a1, a2, a3, a4⟩ := piv_some e
    have := h0 (p - c) (by omega)
    rw [show c + (p - c) = p by omega] at this
    exact absurd this a3
end Sy
theorem elemS : Elem Tryz.prog 138 46 (.slice none 0 0) 24 := by
  have hinf : (Tryz.prog.info? 46).map (fun i => (i.zero, i.size, i.bytes)) = some (some (.slice none 0 0), 1, 24) := by kernel_rfl
  obtain ⟨i0, hi, hz0, hz1, hz2⟩ := info_parts hinf
  exact ⟨Tryz.underlying138, rfl, i0, hi, hz0, hz1, hz2⟩
end Go.Proofs.YtdjfbbfbdgiblaaGreatDoor

namespace Go.Proofs.YtdjfbbfbdgiblaaGreatDoor
open Go.RowKit
set_option linter.unusedVariables false
set_option maxRecDepth 100000
def RSh (w : World) (A : Option Addr) (n c : Nat) (s : List UInt8) (v3 v4 v5 v6 v7 v21 : Value) (wr : World) : Prop :=
  ∃ (k : Nat) (b : Sy.Bm) (A1 : Option Addr) (N1 c1 : Nat) (A2 : Option Addr) (N2 c2 : Nat), k ≤ n ∧ v21 = .int .i64 (k : Int) ∧ v3 = .slice A1 N1 c1 ∧ v4 = .slice A2 N2 c2 ∧ v5 = .int .i64 (b.len : Int) ∧ v6 = .int .i64 (b.gap : Int) ∧ v7 = .int .u8 (b.last.toNat : Int) ∧
    Hid (b = Sy.bm s k ∧ Sy.Bi s k b ∧ b.now.length = N1 ∧ b.old.length = N2) ∧ b.len ≤ k ∧ 1 ≤ b.gap ∧ b.gap ≤ k + 1 ∧ 1 ≤ N1 ∧ 1 ≤ N2 ∧ N1 ≤ k + 1 ∧ N2 + b.gap ≤ k + 2 ∧ Hid (Ow w wr none [] [⟨A, n, c, bys s⟩] [⟨A1, N1, c1, 5, bys b.now⟩, ⟨A2, N2, c2, 5, bys b.old⟩])
theorem rsh_of {w : World} {A : Option Addr} {n c : Nat} {s : List UInt8} {wr : World} (k : Nat) (b : Sy.Bm) {A1 : Option Addr} {N1 c1 : Nat} {A2 : Option Addr} {N2 c2 : Nat} {v3 v4 v5 v6 v7 v21 : Value} (hk : k ≤ n) (h21 : v21 = .int .i64 (k : Int)) (h3 : v3 = .slice A1 N1 c1) (h4 : v4 = .slice A2 N2 c2) (h5 : v5 = .int .i64 (b.len : Int)) (h6 : v6 = .int .i64 (b.gap : Int)) (h7 : v7 = .int .u8 (b.last.toNat : Int))
    (hb : b = Sy.bm s k) (e1 : b.now.length = N1) (e2 : b.old.length = N2) (ho : Ow w wr none [] [⟨A, n, c, bys s⟩] [⟨A1, N1, c1, 5, bys b.now⟩, ⟨A2, N2, c2, 5, bys b.old⟩]) : RSh w A n c s v3 v4 v5 v6 v7 v21 wr := by
  have hB : Sy.Bi s k b := by rw [hb]; exact Sy.bi_all s k
  have hl := hB.long
  have hg : b.gap ≤ k + 1 := by
    rcases hB.was with ⟨_, _, h, _⟩ | ⟨h, _⟩ <;> omega
  exact ⟨k, b, A1, N1, c1, A2, N2, c2, hk, h21, h3, h4, h5, h6, h7, ⟨hb, hB, e1, e2⟩, hB.le, hB.gp, hg, by omega, by omega, by omega, by omega, ho⟩
section
variable {w0 w : World} {g : Option Nat} {M : List (Nat × Value)} {L : List Ob} {a b c : Rw}
theorem Ow.pick21 (h : Ow w0 w g M L [a, b, c]) : Ow w0 w g M L [c, b] := h.re (fun i => 2 - i) (fun i j hi hj e => by simp at hi hj; omega) (fun i r e => by
  match i, e with
  | 0, e => exact e
  | 1, e => exact e
  | i + 2, e => simp at e)
theorem Ow.pick20 (h : Ow w0 w g M L [a, b, c]) : Ow w0 w g M L [c, a] := h.re (fun i => 2 - 2 * i) (fun i j hi hj e => by simp at hi hj; omega) (fun i r e => by
  match i, e with
  | 0, e => exact e
  | 1, e => exact e
  | i + 2, e => simp at e)
end
set_option maxHeartbeats 8000000 in
theorem shortest_any (A : Option Addr) (n c : Nat) (s : List UInt8) (w : World) (hn : s.length = n) (hs : Sl w w.heap.size A (bys s)) (hnc : n ≤ c) (hl : n ≤ 200) :
    Calls Tryz.prog 107 #[.slice A n c] w (FreshB w (Sy.shortest s)) := by
  have H1 := (((Ow.of (St.refl w)).old hs (by rw [bys_length]; exact hn) hnc (by omega)).arr #[.int .u8 1] 1 rfl (by omega) 5).arr #[.int .u8 1] 1 rfl (by omega) 5
  simp only [List.nil_append, List.cons_append, World.size_alloc] at H1
  have HH := Lib.hid H1
  have HN := Lib.hid hn
  clear H1 hs hn
  go_enter Tryz.func107, Tryz.ntmps107
  go_wp2_with fail
  go_loopw [3, 4, 5, 6, 7, 21] (fun v3 v4 v5 v6 v7 v21 wr => RSh w A n c s v3 v4 v5 v6 v7 v21 wr) (fun _ _ _ _ _ v _ => n - (intOf v).toNat)
  case atStart => exact rsh_of 0 (Sy.bm s 0) (Nat.zero_le _) rfl rfl rfl rfl rfl rfl rfl rfl rfl HH.out
  case round =>
    clear HH
    obtain ⟨k, b, A1, N1, c1, A2, N2, c2, hk, rfl, rfl, rfl, rfl, rfl, rfl, HB, q1, q2, q3, q4, q5, q6, q7, HO⟩ := hrel
    rcases Nat.lt_or_ge k n with hkn | hkn
    · have hd : decide ((k : Int) < (n : Int)) = true := decide_eq_true (by omega)
      go_wp2_with fail
      go_loopw [9, 26] (fun v9 v26 wr2 => ∃ i : Nat, i ≤ N1 ∧ v26 = .int .i64 (i : Int) ∧ (∃ x : UInt8, v9 = .int .u8 (x.toNat : Int) ∧ Hid (x = Sy.discTo b.now s k i)) ∧ wr2 = wr) (fun _ v _ => N1 - (intOf v).toNat)
      case atStart => exact ⟨0, Nat.zero_le _, rfl, ⟨0, rfl, rfl⟩, rfl⟩
      case round =>
        obtain ⟨i, hi, rfl, ⟨x, rfl, HX⟩, rfl⟩ := hrel
        rcases Nat.lt_or_ge i N1 with h2 | h2
        · have hd2 : decide ((i : Int) < (N1 : Int)) = true := decide_eq_true (by omega)
          obtain ⟨a, ha⟩ := byte_at b.now i (by rw [HB.out.2.2.1]; exact h2)
          obtain ⟨g1, rfl, -, -⟩ := own_form (HO.out.row 0 rfl) (by omega)
          have hca := HO.out.byteO 0 rfl ha
          have HA : Hid (Sy.wd b.now i = a) := Sy.wd_some ha
          clear ha
          rcases Nat.lt_or_ge k i with h3 | h3
          · have hd3 : decide ((i : Int) ≤ (k : Int)) = false := decide_eq_false (by omega)
            have HX2 : Hid (x = Sy.discTo b.now s k (i + 1)) := by
              unfold Hid Sy.discTo
              rw [if_neg (by omega)]
              exact HX.out
            go_wp2_with fail
          · have hd3 : decide ((i : Int) ≤ (k : Int)) = true := decide_eq_true (by omega)
            obtain ⟨y, hy⟩ := byte_at s (k - i) (by rw [HN.out]; omega)
            obtain ⟨ad, rfl, hcy⟩ := HO.out.byteL 0 rfl hy
            have hidx : ((k : Int) - (i : Int)) = ((k - i : Nat) : Int) := by omega
            obtain ⟨z, hz, HZ⟩ := xor_ex x (Gf.gmul a y)
            have HX2 : Hid (z = Sy.discTo b.now s k (i + 1)) := by
              unfold Hid Sy.discTo
              rw [if_pos h3, ← HX.out, HA.out, Sy.wd_some hy]
              exact HZ.out
            clear hy
            go_wp2_with (go_at_call 103; ((with_reducible refine (mul_any _ _ _).mono ?_); rintro e w' ⟨rfl, rfl⟩))
            go_roundw
            case rel => exact ⟨i + 1, by omega, by go_num, ⟨z, rfl, HX2⟩, by first | exact trivial | rfl⟩
            case measure => simp [intOf]; omega
        · have hd2 : decide ((i : Int) < (N1 : Int)) = false := decide_eq_false (by omega)
          have HD : Hid (x = Sy.disc b.now s k) := by
            unfold Hid Sy.disc
            rw [HX.out, HB.out.2.2.1, show i = N1 by omega]
          clear HX
          rcases zero_or x with rfl | ⟨hne, hx1⟩
          · have HS : Hid (Sy.bm s (k + 1) = { b with gap := b.gap + 1 }) := by
              unfold Hid
              show Sy.bmStep s k (Sy.bm s k) = _
              rw [← HB.out.1]
              unfold Sy.bmStep
              rw [if_pos HD.out.symm]
            go_wp2_with fail
            go_roundw
            case rel => exact rsh_of (k + 1) { b with gap := b.gap + 1 } (by omega) (by go_num) rfl rfl rfl (by go_num) rfl HS.out.symm HB.out.2.2.1 HB.out.2.2.2 HO.out
            case measure => simp [intOf]; omega
          · have HNE : Hid (Sy.disc b.now s k ≠ 0) := fun e => hne (HD.out.trans e)
            clear hne
            obtain ⟨t, ht⟩ : ∃ t, t = Gf.gmul x (Gf.ginv b.last) := ⟨_, rfl⟩
            have HT : Hid (t = Gf.gmul (Sy.disc b.now s k) (Gf.ginv b.last)) := by unfold Hid; rw [ht, HD.out]
            have HTx := Lib.hid ht
            clear ht
            go_wp2_with (go_at_call 141; ((with_reducible refine (divide_any _ _ _).mono ?_); rw [← HTx.out]; rintro e w' ⟨rfl, rfl⟩))
            have HC := Lib.hid (cloneB_fresh A1 N1 c1 wr.heap.size b.now wr HB.out.2.2.1 (Sl.of_own (HO.out.row 0 rfl)) (Nat.le_refl _) (by omega))
            refine HC.out.mono ?_
            rintro e w2 ⟨A3, N3, c3, rfl, hn3, ho3, hb3⟩
            obtain rfl : N1 = N3 := HB.out.2.2.1.symm.trans hn3
            have HO3 := Lib.hid (HO.out.add ho3 hb3)
            clear hn3 ho3 hb3 HC
            have hbl : b.gap + N2 ≤ 1000 := by omega
            go_wp2_with (at_builtin; refine ow_append_zeros elemB Tryz.underlying3 rfl HO3.out 2 (.tmp 56) (.tmp 64) rfl (b.gap + N2 - N1) (by unfold maxLen; omega) (by omega) (by omega) rfl rfl rfl rfl ?_; intro A4 c4 w8 how)
            all_goals (
              rw [bys_zeros, bys_app] at how
              obtain ⟨g1, rfl, -, -⟩ := own_form (HO.out.row 0 rfl) (by omega)
              obtain ⟨g2, rfl, -, -⟩ := own_form (HO.out.row 1 rfl) (by omega)
              obtain ⟨l0, hl0⟩ : ∃ l0, l0 = b.now ++ List.replicate (b.gap + N2 - N1) 0 := ⟨_, rfl⟩
              obtain ⟨NL, hNL⟩ : ∃ NL, NL = N1 + (b.gap + N2 - N1) := ⟨_, rfl⟩
              rw [← hl0, ← hNL] at how
              rw [← hNL]
              have HL0 : Hid (l0.length = NL) := by unfold Hid; rw [hl0, List.length_append, List.length_replicate, HB.out.2.2.1, hNL]
              have HNX : Hid (Po.addAt l0 b.old t b.gap = Sy.nextR b.now b.old b.gap (Gf.gmul (Sy.disc b.now s k) (Gf.ginv b.last))) := by
                unfold Hid Sy.nextR
                rw [← HT.out, hl0, HB.out.2.2.1, HB.out.2.2.2]
              have hNL1 : b.gap + N2 ≤ NL ∧ 1 ≤ NL ∧ NL ≤ 1000 := by omega
              clear hNL
              obtain ⟨g4, rfl, -, -⟩ := own_form (how.row 2 rfl) (by omega)
              have HO4 : Hid (Ow w w8 none [] [⟨A, n, c, bys s⟩] [⟨some ⟨g1, 0, none⟩, N1, c1, 5, bys b.now⟩, ⟨some ⟨g2, 0, none⟩, N2, c2, 5, bys b.old⟩, ⟨some ⟨g4, 0, none⟩, NL, c4, 5, bys (Po.addTo l0 b.old t b.gap 0)⟩]) := how
              clear how HO3 hl0
              go_loopw [68] (fun v wr3 => ∃ i : Nat, i ≤ N2 ∧ v = .int .i64 (i : Int) ∧ Hid (Ow w wr3 none [] [⟨A, n, c, bys s⟩] [⟨some ⟨g1, 0, none⟩, N1, c1, 5, bys b.now⟩, ⟨some ⟨g2, 0, none⟩, N2, c2, 5, bys b.old⟩, ⟨some ⟨g4, 0, none⟩, NL, c4, 5, bys (Po.addTo l0 b.old t b.gap i)⟩])) (fun v _ => N2 - (intOf v).toNat)
              case atStart => exact ⟨0, Nat.zero_le _, rfl, HO4⟩
              case round =>
                clear HO4
                obtain ⟨j, hj, rfl, HJ⟩ := hrel
                rcases Nat.lt_or_ge j N2 with h5 | h5
                · have hd5 : decide ((j : Int) < (N2 : Int)) = true := decide_eq_true (by omega)
                  obtain ⟨a, ha⟩ := byte_at b.old j (by rw [HB.out.2.2.2]; exact h5)
                  obtain ⟨y, hy⟩ := byte_at (Po.addTo l0 b.old t b.gap j) (b.gap + j) (by rw [Po.addTo_length, HL0.out]; omega)
                  obtain ⟨z, hz, HZ⟩ := xor_ex y (Gf.gmul t a)
                  have HS := Lib.hid (Po.addTo_succ l0 b.old t y a z b.gap j hy ha HZ.out)
                  have hca := HJ.out.byteO 1 rfl ha
                  have hcy := HJ.out.byteO 2 rfl hy
                  have hfy := HJ.out.frzO 2 rfl (b.gap + j)
                  clear ha hy
                  go_wp2_with fail
                  have s1 : IntKind.i64.wrap ((j : Int) + (b.gap : Int)) = (j : Int) + (b.gap : Int) := IntWalk.i64_in _ (by omega)
                  have s2 : 0 ≤ (j : Int) + (b.gap : Int) := by omega
                  have s3 : (j : Int) + (b.gap : Int) < (NL : Int) := by omega
                  have s4 : ((j : Int) + (b.gap : Int)).toNat = b.gap + j := by omega
                  refine wp_region_still_tail 11 (by kernel_rfl) (by kernel_rfl) ?_
                  simp only [List.take_succ_cons, List.take_zero, List.drop_succ_cons, List.drop_zero]
                  repeat (first | still_step | still_call (flip_sameB (mul_any _ _ _)))
                  refine wpStill_nil ?_
                  change wpList _ _ _ _ _ (World.drew _)
                  clear s1 s2 s3 s4
                  go_wp2_with fail
                  go_roundw
                  case rel =>
                    have h6 := HJ.out.drew.putB 2 rfl (b.gap + j) z
                    rw [← HS.out] at h6
                    exact ⟨j + 1, by omega, by go_num, h6⟩
                  case measure => simp [intOf]; omega
                · have hd5 : decide ((j : Int) < (N2 : Int)) = false := decide_eq_false (by omega)
                  have hjN : j = N2 := by omega
                  have HN2 : Hid (Ow w wr none [] [⟨A, n, c, bys s⟩] [⟨some ⟨g1, 0, none⟩, N1, c1, 5, bys b.now⟩, ⟨some ⟨g2, 0, none⟩, N2, c2, 5, bys b.old⟩, ⟨some ⟨g4, 0, none⟩, NL, c4, 5, bys (Sy.nextR b.now b.old b.gap (Gf.gmul (Sy.disc b.now s k) (Gf.ginv b.last)))⟩]) := by
                    have h6 := HJ.out
                    rw [hjN] at h6
                    have e : Po.addTo l0 b.old t b.gap N2 = Po.addAt l0 b.old t b.gap := by unfold Po.addAt; rw [HB.out.2.2.2]
                    rw [e, HNX.out] at h6
                    exact h6
                  have HLN : Hid ((Sy.nextR b.now b.old b.gap (Gf.gmul (Sy.disc b.now s k) (Gf.ginv b.last))).length = NL) := by unfold Hid; rw [← HNX.out, Po.addAt_length, HL0.out]
                  rcases Nat.lt_or_ge k (2 * b.len) with h7 | h7
                  · have hd7 : decide ((k : Int) < 2 * (b.len : Int)) = true := decide_eq_true (by omega)
                    have HS2 : Hid (Sy.bm s (k + 1) = { b with now := Sy.nextR b.now b.old b.gap (Gf.gmul (Sy.disc b.now s k) (Gf.ginv b.last)), gap := b.gap + 1 }) := by
                      unfold Hid
                      show Sy.bmStep s k (Sy.bm s k) = _
                      rw [← HB.out.1]
                      unfold Sy.bmStep
                      rw [if_neg HNE.out, if_pos h7]
                    go_wp2_with fail
                    go_roundw
                    case rel => exact rsh_of (k + 1) { b with now := Sy.nextR b.now b.old b.gap (Gf.gmul (Sy.disc b.now s k) (Gf.ginv b.last)), gap := b.gap + 1 } (by omega) (by go_num) rfl rfl rfl (by go_num) rfl HS2.out.symm HLN.out HB.out.2.2.2 HN2.out.pick21
                    case measure => simp [intOf]; omega
                  · have hd7 : decide ((k : Int) < 2 * (b.len : Int)) = false := decide_eq_false (by omega)
                    have HS2 : Hid (Sy.bm s (k + 1) = ⟨Sy.nextR b.now b.old b.gap (Gf.gmul (Sy.disc b.now s k) (Gf.ginv b.last)), b.now, k + 1 - b.len, 1, Sy.disc b.now s k⟩) := by
                      unfold Hid
                      show Sy.bmStep s k (Sy.bm s k) = _
                      rw [← HB.out.1]
                      unfold Sy.bmStep
                      rw [if_neg HNE.out, if_neg (by omega)]
                    go_wp2_with fail
                    go_roundw
                    case rel => exact rsh_of (k + 1) ⟨Sy.nextR b.now b.old b.gap (Gf.gmul (Sy.disc b.now s k) (Gf.ginv b.last)), b.now, k + 1 - b.len, 1, Sy.disc b.now s k⟩ (by omega) (by go_num) rfl rfl (int_eqv (by show _ = ((k + 1 - b.len : Nat) : Int); omega)) rfl (by rw [HD.out]) HS2.out.symm HLN.out HB.out.2.2.1 HN2.out.pick20
                    case measure => simp [intOf]; omega)
    · have hd : decide ((k : Int) < (n : Int)) = false := decide_eq_false (by omega)
      have hkn2 : k = n := by omega
      have HLen : Hid (b.now.length = N1 ∧ Sy.shortest s = (b.now ++ List.replicate (b.len + 1 - N1) 0).take (b.len + 1)) := by
        refine ⟨HB.out.2.2.1, ?_⟩
        unfold Sy.shortest Sy.fitR
        rw [HN.out, ← hkn2, ← HB.out.1, HB.out.2.2.1]
      go_wp2_with (at_builtin; refine ow_append_zeros elemB Tryz.underlying3 rfl HO.out 0 (.tmp 100) (.tmp 106) rfl (b.len + 1 - N1) (by unfold maxLen; omega) (by omega) (by omega) rfl rfl rfl rfl ?_; intro A4 c4 w8 how)
      all_goals (
        rw [bys_zeros, bys_app] at how
        have hcp := (own_cap (how.row 0 rfl)).1
        have how2 := how.cut 0 rfl (k := b.len + 1) (by omega)
        have HF : Hid (Ow w w8 none [] [⟨A, n, c, bys s⟩] [⟨A4, b.len + 1, c4, 5, bys (Sy.shortest s)⟩, ⟨A2, N2, c2, 5, bys b.old⟩]) := by
          unfold Hid
          rw [HLen.out.2, ← bys_take]
          exact how2
        clear how how2
        go_wp2_with fail
        all_goals first | (go_ret; exact freshB_of HF.out 0 rfl) | (exfalso; omega))
end Go.Proofs.YtdjfbbfbdgiblaaGreatDoor

namespace Go.Proofs.YtdjfbbfbdgiblaaGreatDoor
open Go.RowKit
set_option linter.unusedVariables false
set_option maxRecDepth 100000
theorem wd_upd (f : Nat → UInt8) (r : List UInt8) {q : Nat} (hq : q < r.length) : (Sy.upd f r q)[q]? = some (Sy.wd r q) := by rw [Sy.upd_get f r q hq, if_neg (by omega)]
set_option maxHeartbeats 2000000 in
theorem scale_ow {w0 w : World} {g0 : Option Nat} {M : List (Nat × Value)} {L : List Ob} {O : List Rw} (h : Ow w0 w g0 M L O) (i : Nat) {gb n c : Nat} {r : List UInt8} (hi : O[i]? = some ⟨some ⟨gb, 0, none⟩, n, c, 5, bys r⟩) (hn : n ≤ 1000) (t : UInt8) :
    Calls Tryz.prog 115 #[.slice (some ⟨gb, 0, none⟩) n c, .int .u8 (t.toNat : Int)] w fun e w' => e = .returned (.tuple #[]) ∧ Ow w0 w' g0 M L (O.set i ⟨some ⟨gb, 0, none⟩, n, c, 5, bys (Sy.scl t r)⟩) := by
  have hl := own_len (h.row i hi)
  rw [bys_length] at hl
  have HL := Lib.hid hl
  have HI := Lib.hid hi
  have H0 : Hid (Ow w0 w g0 M L (O.set i ⟨some ⟨gb, 0, none⟩, n, c, 5, bys (Sy.upd (fun j => Gf.gmul (Sy.wd r j) t) r 0)⟩)) := by
    unfold Hid
    rw [Sy.upd_zero]
    exact h.same i hi rfl
  have hget : ∀ x : Rw, (O.set i x)[i]? = some x := fun x => List.getElem?_set_self (get_lt hi)
  have HG := Lib.hid hget
  clear h hi hl hget
  go_enter Tryz.func115, Tryz.ntmps115
  go_wp2_with fail
  go_loopw [7] (fun v wr => ∃ q : Nat, q ≤ n ∧ v = .int .i64 (q : Int) ∧ Hid (Ow w0 wr g0 M L (O.set i ⟨some ⟨gb, 0, none⟩, n, c, 5, bys (Sy.upd (fun j => Gf.gmul (Sy.wd r j) t) r q)⟩))) (fun v _ => n - (intOf v).toNat)
  case atStart => exact ⟨0, Nat.zero_le _, rfl, H0⟩
  case round =>
    clear H0
    obtain ⟨q, hq, rfl, HO⟩ := hrel
    rcases Nat.lt_or_ge q n with h1 | h1
    · have hd : decide ((q : Int) < (n : Int)) = true := decide_eq_true (by omega)
      have hcq := HO.out.byteO i (HG.out _) (wd_upd (fun j => Gf.gmul (Sy.wd r j) t) r (q := q) (by rw [HL.out]; exact h1))
      have hfq := HO.out.frzO i (HG.out _) q
      obtain ⟨b, hb⟩ : ∃ b, b = Sy.wd r q := ⟨_, rfl⟩
      rw [← hb] at hcq
      have HB := Lib.hid hb
      clear hb
      go_wp2_with (go_at_call 103; ((with_reducible refine (mul_any _ _ _).mono ?_); rintro e w' ⟨rfl, rfl⟩))
      go_roundw
      case rel =>
        have h5 := HO.out.putB i (HG.out _) q (Gf.gmul b t)
        rw [List.set_set, HB.out, Sy.upd_succ (fun j => Gf.gmul (Sy.wd r j) t) r (by rw [HL.out]; exact h1)] at h5
        rw [HB.out]
        exact ⟨q + 1, by omega, by go_num, h5⟩
      case measure => simp [intOf]; omega
    · have hd : decide ((q : Int) < (n : Int)) = false := decide_eq_false (by omega)
      have hqn : q = n := by omega
      go_wp2_with fail
      go_end0
      refine ⟨rfl, ?_⟩
      have h5 := HO.out
      rw [hqn] at h5
      rw [Sy.scl_upd, HL.out]
      exact h5
/-- the test of a row: something in column c -/
theorem ptest_any (gk n ck cb c : Nat) (b : UInt8) (w : World) (hcn : c < n) (hb : w.cell? ⟨gk, c, none⟩ = some (.int .u8 (b.toNat : Int))) (hc : w.cell? ⟨cb, 0, none⟩ = some (.int .i64 (c : Int))) :
    Calls Tryz.prog 114 #[.slice (some ⟨gk, 0, none⟩) n ck, .pointer (some ⟨cb, 0, none⟩)] w fun e w' => e = .returned (.bool (b != 0)) ∧ w = w' := by
  have H : Hid (((b.toNat : Int) != 0) = (b != 0)) := u8_bne0 b
  go_enter Tryz.func114, Tryz.ntmps114
  go_wp2_with fail
  go_ret
  exact ⟨ret_bool H.out, rfl⟩
set_option maxHeartbeats 2000000 in
theorem pivot_ow {w0 w : World} {M : List (Nat × Value)} {L : List Ob} {g m : Nat} {H : List (Option Addr × Nat)} {R : List (List UInt8)} {X : List Rw} (h : Mx w0 w M L g m H R X) (t : Nat) {cb c W : Nat} (ht : M[t]? = some (cb, .int .i64 (c : Int))) (hW : ∀ k, k < m → (Sy.rw_ R k).length = W) (hcW : c < W) (hcm : c < m) (hm : m ≤ 1000) :
    Calls Tryz.prog 113 #[.slice (some ⟨g, c, none⟩) (m - c) (m - c), .func (.func 114) #[] #[.pointer (some ⟨cb, 0, none⟩)]] w fun e w' => ((∃ p : Nat, Sy.piv c R = some p ∧ e = .returned (.int .i64 ((p - c : Nat) : Int))) ∨ (Sy.piv c R = none ∧ e = .returned (.int .i64 (-1)))) ∧ w = w' := by
  have HM := Lib.hid h
  have HW := Lib.hid hW
  have hcc := h.ow.cell t ht
  clear h hW ht
  go_enter Tryz.func113, Tryz.ntmps113
  go_wp2_with fail
  go_loopw [8] (fun v wr => ∃ k : Nat, k + c ≤ m ∧ v = .int .i64 (k : Int) ∧ wr = w ∧ Hid (∀ j, j < k → Sy.wd (Sy.rw_ R (c + j)) c = 0)) (fun v _ => m - (intOf v).toNat)
  case atStart => exact ⟨0, by omega, rfl, rfl, fun j hj => by omega⟩
  case round =>
    obtain ⟨k, hk, rfl, rfl, HK⟩ := hrel
    rcases Nat.lt_or_ge (k + c) m with h1 | h1
    · have hd : decide ((k : Int) < ((m - c : Nat) : Int)) = true := decide_eq_true (by omega)
      have hck := HM.out.hd (k := c + k) (by omega)
      have hlen := HW.out (c + k) (by omega)
      obtain ⟨gk, ck, hg⟩ := HM.out.form (k := c + k) (by omega) (by omega)
      have hbc := HM.out.byte (k := c + k) (by omega) hg (q := c) (Sy.wd_lt (by omega))
      rw [hg, hlen] at hck
      obtain ⟨b, hb⟩ : ∃ b, b = Sy.wd (Sy.rw_ R (c + k)) c := ⟨_, rfl⟩
      rw [← hb] at hbc
      have HB := Lib.hid hb
      have HP := Lib.hid (ptest_any gk W ck cb c b wr hcW hbc hcc)
      clear hb hg hlen
      cases hz : (b != 0) with
      | true =>
        rw [hz] at HP
        have HZ := Lib.hid hz
        clear hz
        go_wp2_with (refine HP.out.mono ?_; rintro e w' ⟨rfl, rfl⟩)
        go_ret
        refine ⟨.inl ⟨c + k, ?_, by show Ending.returned (Value.int .i64 (k : Int)) = _; rw [Nat.add_sub_cancel_left]⟩, rfl⟩
        refine Sy.piv_at (by rw [HM.out.rl]; omega) HK.out ?_
        rw [← HB.out]
        have := HZ.out
        rwa [bne_iff_ne] at this
      | false =>
        rw [hz] at HP
        have HZ := Lib.hid hz
        clear hz
        go_wp2_with (refine HP.out.mono ?_; rintro e w' ⟨rfl, rfl⟩)
        go_roundw
        case rel =>
          refine ⟨k + 1, by omega, by go_num, by first | exact trivial | rfl, ?_⟩
          intro j hj
          rcases Nat.lt_or_ge j k with h2 | h2
          · exact HK.out j h2
          · rw [show j = k by omega, ← HB.out]
            have := HZ.out
            simpa using this
        case measure => simp [intOf]; omega
    · have hd : decide ((k : Int) < ((m - c : Nat) : Int)) = false := decide_eq_false (by omega)
      go_wp2_with fail
      go_ret
      refine ⟨.inr ⟨Sy.piv_no fun j hj => HK.out j (by rw [HM.out.rl] at hj; omega), rfl⟩, rfl⟩
end Go.Proofs.YtdjfbbfbdgiblaaGreatDoor

namespace Go.Proofs.YtdjfbbfbdgiblaaGreatDoor
open Go.RowKit
set_option linter.unusedVariables false
set_option maxRecDepth 100000
namespace Sy
open Gf
def powR (n : Nat) (P : List Nat) (k : Nat) : List UInt8 := P.map fun p => gpow (loc n p) k
/-- the rows below k are whole, row k has i elements -/
def bld (s : List UInt8) (n : Nat) (P : List Nat) (m k i : Nat) : List (List UInt8) := (List.range m).map fun j => if j < k then powR n P j ++ [wd s j] else if j = k then powR n (P.take i) j else []
theorem bld_length (s : List UInt8) (n : Nat) (P : List Nat) (m k i : Nat) : (bld s n P m k i).length = m := by unfold bld; simp
theorem bld_get (s : List UInt8) (n : Nat) (P : List Nat) {m k i j : Nat} (h : j < m) : (bld s n P m k i)[j]? = some (if j < k then powR n P j ++ [wd s j] else if j = k then powR n (P.take i) j else []) := by
  unfold bld
  rw [List.getElem?_map, List.getElem?_range h]
  rfl
theorem bld_at (s : List UInt8) (n : Nat) (P : List Nat) {m k i : Nat} (h : k < m) : rw_ (bld s n P m k i) k = powR n (P.take i) k := by
  rw [rw_some (bld_get s n P h), if_neg (by omega), if_pos rfl]
theorem bld_zero (s : List UInt8) (n : Nat) (P : List Nat) (m : Nat) : bld s n P m 0 0 = List.replicate m [] := by
  refine List.ext_getElem? fun j => ?_
  rcases Nat.lt_or_ge j m with h | h
  · rw [bld_get s n P h, if_neg (by omega), List.getElem?_replicate, if_pos h]
    by_cases e : j = 0
    · rw [if_pos e]; rfl
    · rw [if_neg e]
  · rw [List.getElem?_eq_none (by rw [bld_length]; exact h), List.getElem?_eq_none (by simpa using h)]
theorem bld_step (s : List UInt8) (n : Nat) (P : List Nat) {m k i : Nat} (h : k < m) : (bld s n P m k i).set k (powR n (P.take (i + 1)) k) = bld s n P m k (i + 1) := by
  refine List.ext_getElem? fun j => ?_
  rw [List.getElem?_set]
  rcases Nat.lt_or_ge j m with h1 | h1
  · rw [bld_get s n P h1, bld_get s n P h1]
    by_cases e : k = j
    · subst e; rw [if_pos rfl, if_pos (by rw [bld_length]; exact h), if_neg (by omega), if_pos rfl]
    · rw [if_neg e]
      by_cases e2 : j < k
      · rw [if_pos e2, if_pos e2]
      · rw [if_neg e2, if_neg e2, if_neg (fun e' => e e'.symm), if_neg (fun e' => e e'.symm)]
  · rw [if_neg (by omega), List.getElem?_eq_none (by rw [bld_length]; exact h1), List.getElem?_eq_none (by rw [bld_length]; exact h1)]
theorem bld_next (s : List UInt8) (n : Nat) (P : List Nat) {m k i : Nat} (h : k < m) : (bld s n P m k i).set k (powR n P k ++ [wd s k]) = bld s n P m (k + 1) 0 := by
  refine List.ext_getElem? fun j => ?_
  rw [List.getElem?_set]
  rcases Nat.lt_or_ge j m with h1 | h1
  · rw [bld_get s n P h1, bld_get s n P h1]
    by_cases e : k = j
    · subst e; rw [if_pos rfl, if_pos (by rw [bld_length]; exact h), if_pos (by omega)]
    · rw [if_neg e]
      by_cases e2 : j < k
      · rw [if_pos e2, if_pos (by omega)]
      · rw [if_neg e2, if_neg (fun e' => e e'.symm), if_neg (by omega)]
        by_cases e3 : j = k + 1
        · rw [if_pos e3]; rfl
        · rw [if_neg e3]
  · rw [if_neg (by omega), List.getElem?_eq_none (by rw [bld_length]; exact h1), List.getElem?_eq_none (by rw [bld_length]; exact h1)]
theorem bld_all (s : List UInt8) (n : Nat) (P : List Nat) {m : Nat} (hs : s.length = m) : bld s n P m m 0 = rows0 s n P := by
  unfold bld rows0
  rw [hs]
  exact List.map_congr_left fun j hj => if_pos (List.mem_range.1 hj)
theorem powR_length (n : Nat) (P : List Nat) (k : Nat) : (powR n P k).length = P.length := List.length_map _
theorem powR_snoc (n : Nat) {P : List Nat} {i p : Nat} (h : P[i]? = some p) (k : Nat) : powR n (P.take (i + 1)) k = powR n (P.take i) k ++ [gpow (loc n p) k] := by
  unfold powR
  rw [List.take_add_one, h, List.map_append]
  rfl
theorem pw_loc {n p k : Nat} (hk : k < 255) : pw (loc n p) (k : Int) = gpow (loc n p) k := by
  unfold pw
  rw [if_neg (loc_ne n p)]
  unfold zpow emod
  congr 1
  omega
theorem elim_fail (rows : List (List UInt8)) : ∀ d c, elim rows c = none → elim rows (c + d) = none
  | 0, c, h => h
  | d + 1, c, h => by
    show elim rows ((c + d) + 1) = none
    unfold elim
    rw [elim_fail rows d c h]
/-- rows below k have been cleared in column c -/
def clrTo (S : List (List UInt8)) (c k : Nat) : List (List UInt8) := S.mapIdx fun j r => if j < k ∧ j ≠ c then addRow (wd r c) (rw_ S c) r else r
theorem clrTo_length (S : List (List UInt8)) (c k : Nat) : (clrTo S c k).length = S.length := by unfold clrTo; simp
theorem clrTo_get {S : List (List UInt8)} {c k j : Nat} (h : j < S.length) : (clrTo S c k)[j]? = some (if j < k ∧ j ≠ c then addRow (wd (rw_ S j) c) (rw_ S c) (rw_ S j) else rw_ S j) := by
  unfold clrTo
  rw [List.getElem?_mapIdx, rw_lt h]
  rfl
theorem clrTo_at {S : List (List UInt8)} {c k j : Nat} (h : j < S.length) : rw_ (clrTo S c k) j = if j < k ∧ j ≠ c then addRow (wd (rw_ S j) c) (rw_ S c) (rw_ S j) else rw_ S j := rw_some (clrTo_get h)
theorem clrTo_zero (S : List (List UInt8)) (c : Nat) : clrTo S c 0 = S := by
  refine List.ext_getElem? fun j => ?_
  rcases Nat.lt_or_ge j S.length with h | h
  · rw [clrTo_get h, if_neg (by omega), rw_lt h]
  · rw [List.getElem?_eq_none (by rw [clrTo_length]; exact h), List.getElem?_eq_none h]
theorem clrTo_step {S : List (List UInt8)} {c k : Nat} (hk : k < S.length) (hne : k ≠ c) : (clrTo S c k).set k (addRow (wd (rw_ S k) c) (rw_ S c) (rw_ S k)) = clrTo S c (k + 1) := by
  refine List.ext_getElem? fun j => ?_
  rw [List.getElem?_set]
  rcases Nat.lt_or_ge j S.length with h | h
  · rw [clrTo_get h, clrTo_get h]
    by_cases e : k = j
    · subst e; rw [if_pos rfl, if_pos (by rw [clrTo_length]; exact hk), if_pos ⟨by omega, hne⟩]
    · rw [if_neg e]
      by_cases e2 : j < k ∧ j ≠ c
      · rw [if_pos e2, if_pos ⟨by omega, e2.2⟩]
      · rw [if_neg e2, if_neg (by omega)]
  · rw [if_neg (by omega), List.getElem?_eq_none (by rw [clrTo_length]; exact h), List.getElem?_eq_none (by rw [clrTo_length]; exact h)]
theorem clrTo_skip {S : List (List UInt8)} {c k : Nat} (h : k = c ∨ wd (rw_ S k) c = 0) : clrTo S c (k + 1) = clrTo S c k := by
  refine List.ext_getElem? fun j => ?_
  rcases Nat.lt_or_ge j S.length with h1 | h1
  · rw [clrTo_get h1, clrTo_get h1]
    by_cases e2 : j < k ∧ j ≠ c
    · rw [if_pos ⟨by omega, e2.2⟩, if_pos e2]
    · rw [if_neg e2]
      by_cases e3 : j < k + 1 ∧ j ≠ c
      · rw [if_pos e3]
        have e4 : j = k := by omega
        rcases h with h | h
        · exact absurd (e4.trans h) e3.2
        · rw [e4, h, addRow_zero]
      · rw [if_neg e3]
  · rw [List.getElem?_eq_none (by rw [clrTo_length]; exact h1), List.getElem?_eq_none (by rw [clrTo_length]; exact h1)]
theorem clrTo_all (S : List (List UInt8)) (c : Nat) {k : Nat} (hk : S.length ≤ k) : clrTo S c k = clearC S c (rw_ S c) := by
  refine List.ext_getElem? fun j => ?_
  rcases Nat.lt_or_ge j S.length with h | h
  · rw [clrTo_get h]
    unfold clearC
    rw [List.getElem?_mapIdx, rw_lt h]
    show some _ = some (if j = c then rw_ S j else _)
    by_cases e : j = c
    · rw [if_neg (by omega), if_pos e]
    · rw [if_pos ⟨by omega, e⟩, if_neg e]
  · rw [List.getElem?_eq_none (by rw [clrTo_length]; exact h), List.getElem?_eq_none (by rw [clear_length]; exact h)]
end Sy
section
variable {w0 w w' : World} {M : List (Nat × Value)} {L : List Ob} {g m : Nat} {H : List (Option Addr × Nat)} {R : List (List UInt8)} {X : List Rw}
theorem Ow.nils {O : List Rw} {g0 : Option Nat} (h : Ow w0 w g0 M L O) (e : TypeId) : ∀ m, Ow w0 w g0 M L (O ++ List.replicate m ⟨none, 0, 0, e, []⟩)
  | 0 => by simpa using h
  | m + 1 => by
    have h5 := (Ow.nils h e m).nil e
    rw [List.append_assoc] at h5
    rw [List.replicate_succ']
    exact h5
theorem zip_rep {α β γ : Type} (f : α → β → γ) (a : α) (b : β) : ∀ m, List.zipWith f (List.replicate m a) (List.replicate m b) = List.replicate m (f a b)
  | 0 => rfl
  | m + 1 => by rw [List.replicate_succ, List.replicate_succ, List.replicate_succ, List.zipWith_cons_cons, zip_rep f a b m]
theorem Mx.start (h : Ow w0 w none M L [⟨some ⟨g, 0, none⟩, m, m, 46, List.replicate m (.slice none 0 0)⟩]) : Mx w0 w M L g m (List.replicate m (none, 0)) (List.replicate m []) [] := by
  refine ⟨?_, by simp, by simp⟩
  have h5 := h.nils 5 m
  unfold outR hdrs mkRs
  rw [zip_rep, zip_rep, List.append_nil]
  exact h5
theorem Mx.boxed (h : Mx w0 w M L g m H R X) (v : Value) (t : TypeId) : Mx w0 (w.alloc (.cells #[v] t)) (M ++ [(w.heap.size, v)]) L g m H R X := ⟨h.ow.boxed v t, h.hl, h.rl⟩
theorem Mx.setv (h : Mx w0 w M L g m H R X) (i : Nat) {b : Nat} {v : Value} (hi : M[i]? = some (b, v)) (u : Value) : Mx w0 (w.setCell ⟨b, 0, none⟩ u) (M.set i (b, u)) L g m H R X := ⟨h.ow.setv i hi u, h.hl, h.rl⟩
theorem Mx.fewM {l : List (Nat × Value)} (h : Mx w0 w (M ++ l) L g m H R X) : Mx w0 w M L g m H R X := ⟨h.ow.fewM, h.hl, h.rl⟩
theorem Mx.drewN (h : Mx w0 w M L g m H R X) (k : Nat) : Mx w0 (w.drewN k) M L g m H R X := ⟨h.ow.drewN k, h.hl, h.rl⟩
theorem Mx.more (h : Mx w0 w M L g m H R []) (e : TypeId) : Mx w0 w M L g m H R [⟨none, 0, 0, e, []⟩] := by
  have h5 := h.ow.nil e
  rw [List.append_nil] at h5
  exact ⟨h5, h.hl, h.rl⟩
end
end Go.Proofs.YtdjfbbfbdgiblaaGreatDoor

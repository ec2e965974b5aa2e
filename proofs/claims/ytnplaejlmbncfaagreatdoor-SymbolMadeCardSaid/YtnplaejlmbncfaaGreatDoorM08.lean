/- Sq -/
import Derived.Test.YtnplaejlmbncfaaGreatDoorM07
namespace Go.Proofs.YtnplaejlmbncfaaGreatDoor
open Go.RowKit
set_option linter.unusedVariables false
set_option maxRecDepth 100000
namespace Sy
open Gf
def powR (n : Nat) (P : List Nat) (k : Nat) : List UInt8 := P.map fun p => gpow (loc n p) k
/-- the rows below k are whole, row k has i elements -/
def bld (s : List UInt8) (n : Nat) (P : List Nat) (m k i : Nat) : List (List UInt8) := (List.range m).map fun j => if j < k then powR n P j ++ [wd s j] else if j = k then powR n (P.take i) j else []
theorem bld_length (s : List UInt8) (n : Nat) (P : List Nat) (m k i : Nat) : (bld s n P m k i).length = m := by unfold bld; simp
theorem bld_get (s : List UInt8) (n : Nat) (P : List Nat) {m k i j : Nat} (h : j < m) : (bld s n P m k i)[j]? = some (if j < k then powR n P j ++ [wd s j] else if j = k then powR n (P.take i) j else []) := by
  unfold bld
  rw [List.getElem?_map, List.getElem?_range h]
  rfl
theorem bld_at (s : List UInt8) (n : Nat) (P : List Nat) {m k i : Nat} (h : k < m) : rw_ (bld s n P m k i) k = powR n (P.take i) k := by
  rw [rw_some (bld_get s n P h), if_neg (by omega), if_pos rfl]
theorem bld_zero (s : List UInt8) (n : Nat) (P : List Nat) (m : Nat) : bld s n P m 0 0 = List.replicate m [] := by
  refine List.ext_getElem? fun j => ?_
  rcases Nat.lt_or_ge j m with h | h
  · rw [bld_get s n P h, if_neg (by omega), List.getElem?_replicate, if_pos h]
    by_cases e : j = 0
    · rw [if_pos e]; rfl
    · rw [if_neg e]
  · rw [List.getElem?_eq_none (by rw [bld_length]; exact h), List.getElem?_eq_none (by simpa using h)]
theorem bld_step (s : List UInt8) (n : Nat) (P : List Nat) {m k i : Nat} (h : k < m) : (bld s n P m k i).set k (powR n (P.take (i + 1)) k) = bld s n P m k (i + 1) := by
  refine List.ext_getElem? fun j => ?_
  rw [List.getElem?_set]
  rcases Nat.lt_or_ge j m with h1 | h1
  · rw [bld_get s n P h1, bld_get s n P h1]
    by_cases e : k = j
    · subst e; rw [if_pos rfl, if_pos (by rw [bld_length]; exact h), if_neg (by omega), if_pos rfl]
    · rw [if_neg e]
      by_cases e2 : j < k
      · rw [if_pos e2, if_pos e2]
      · rw [if_neg e2, if_neg e2, if_neg (fun e' => e e'.symm), if_neg (fun e' => e e'.symm)]
  · rw [if_neg (by omega), List.getElem?_eq_none (by rw [bld_length]; exact h1), List.getElem?_eq_none (by rw [bld_length]; exact h1)]
theorem bld_next (s : List UInt8) (n : Nat) (P : List Nat) {m k i : Nat} (h : k < m) : (bld s n P m k i).set k (powR n P k ++ [wd s k]) = bld s n P m (k + 1) 0 := by
  refine List.ext_getElem? fun j => ?_
  rw [List.getElem?_set]
  rcases Nat.lt_or_ge j m with h1 | h1
  · rw [bld_get s n P h1, bld_get s n P h1]
    by_cases e : k = j
    · subst e; rw [if_pos rfl, if_pos (by rw [bld_length]; exact h), if_pos (by omega)]
    · rw [if_neg e]
      by_cases e2 : j < k
      · rw [if_pos e2, if_pos (by omega)]
      · rw [if_neg e2, if_neg (fun e' => e e'.symm), if_neg (by omega)]
        by_cases e3 : j = k + 1
        · rw [if_pos e3]; rfl
        · rw [if_neg e3]
  · rw [if_neg (by omega), List.getElem?_eq_none (by rw [bld_length]; exact h1), List.getElem?_eq_none (by rw [bld_length]; exact h1)]
theorem bld_all (s : List UInt8) (n : Nat) (P : List Nat) {m : Nat} (hs : s.length = m) : bld s n P m m 0 = rows0 s n P := by
  unfold bld rows0
  rw [hs]
  exact List.map_congr_left fun j hj => if_pos (List.mem_range.1 hj)
theorem powR_length (n : Nat) (P : List Nat) (k : Nat) : (powR n P k).length = P.length := List.length_map _
theorem powR_snoc (n : Nat) {P : List Nat} {i p : Nat} (h : P[i]? = some p) (k : Nat) : powR n (P.take (i + 1)) k = powR n (P.take i) k ++ [gpow (loc n p) k] := by
  unfold powR
  rw [List.take_add_one, h, List.map_append]
  rfl
theorem pw_loc {n p k : Nat} (hk : k < 255) : pw (loc n p) (k : Int) = gpow (loc n p) k := by
  unfold pw
  rw [if_neg (loc_ne n p)]
  unfold zpow emod
  congr 1
  omega
theorem elim_fail (rows : List (List UInt8)) : ∀ d c, elim rows c = none → elim rows (c + d) = none
  | 0, c, h => h
  | d + 1, c, h => by
    show elim rows ((c + d) + 1) = none
    unfold elim
    rw [elim_fail rows d c h]
/-- rows below k have been cleared in column c -/
def clrTo (S : List (List UInt8)) (c k : Nat) : List (List UInt8) := S.mapIdx fun j r => if j < k ∧ j ≠ c then addRow (wd r c) (rw_ S c) r else r
theorem clrTo_length (S : List (List UInt8)) (c k : Nat) : (clrTo S c k).length = S.length := by unfold clrTo; simp
theorem clrTo_get {S : List (List UInt8)} {c k j : Nat} (h : j < S.length) : (clrTo S c k)[j]? = some (if j < k ∧ j ≠ c then addRow (wd (rw_ S j) c) (rw_ S c) (rw_ S j) else rw_ S j) := by
  unfold clrTo
  rw [List.getElem?_mapIdx, rw_lt h]
  rfl
theorem clrTo_at {S : List (List UInt8)} {c k j : Nat} (h : j < S.length) : rw_ (clrTo S c k) j = if j < k ∧ j ≠ c then addRow (wd (rw_ S j) c) (rw_ S c) (rw_ S j) else rw_ S j := rw_some (clrTo_get h)
theorem clrTo_zero (S : List (List UInt8)) (c : Nat) : clrTo S c 0 = S := by
  refine List.ext_getElem? fun j => ?_
  rcases Nat.lt_or_ge j S.length with h | h
  · rw [clrTo_get h, if_neg (by omega), rw_lt h]
  · rw [List.getElem?_eq_none (by rw [clrTo_length]; exact h), List.getElem?_eq_none h]
theorem clrTo_step {S : List (List UInt8)} {c k : Nat} (hk : k < S.length) (hne : k ≠ c) : (clrTo S c k).set k (addRow (wd (rw_ S k) c) (rw_ S c) (rw_ S k)) = clrTo S c (k + 1) := by
  refine List.ext_getElem? fun j => ?_
  rw [List.getElem?_set]
  rcases Nat.lt_or_ge j S.length with h | h
  · rw [clrTo_get h, clrTo_get h]
    by_cases e : k = j
    · subst e; rw [if_pos rfl, if_pos (by rw [clrTo_length]; exact hk), if_pos ⟨by omega, hne⟩]
    · rw [if_neg e]
      by_cases e2 : j < k ∧ j ≠ c
      · rw [if_pos e2, if_pos ⟨by omega, e2.2⟩]
      · rw [if_neg e2, if_neg (by omega)]
  · rw [if_neg (by omega), List.getElem?_eq_none (by rw [clrTo_length]; exact h), List.getElem?_eq_none (by rw [clrTo_length]; exact h)]
theorem clrTo_skip {S : List (List UInt8)} {c k : Nat} (h : k = c ∨ wd (rw_ S k) c = 0) : clrTo S c (k + 1) = clrTo S c k := by
  refine List.ext_getElem? fun j => ?_
  rcases Nat.lt_or_ge j S.length with h1 | h1
  · rw [clrTo_get h1, clrTo_get h1]
    by_cases e2 : j < k ∧ j ≠ c
    · rw [if_pos ⟨by omega, e2.2⟩, if_pos e2]
    · rw [if_neg e2]
      by_cases e3 : j < k + 1 ∧ j ≠ c
      · rw [if_pos e3]
        have e4 : j = k := by omega
        rcases h with h | h
        · exact absurd (e4.trans h) e3.2
        · rw [e4, h, addRow_zero]
      · rw [if_neg e3]
  · rw [List.getElem?_eq_none (by rw [clrTo_length]; exact h1), List.getElem?_eq_none (by rw [clrTo_length]; exact h1)]
theorem clrTo_all (S : List (List UInt8)) (c : Nat) {k : Nat} (hk : S.length ≤ k) : clrTo S c k = clearC S c (rw_ S c) := by
  refine List.ext_getElem? fun j => ?_
  rcases Nat.lt_or_ge j S.length with h | h
  · rw [clrTo_get h]
    unfold clearC
    rw [List.getElem?_mapIdx, rw_lt h]
    show some _ = some (if j = c then rw_ S j else _)
    by_cases e : j = c
    · rw [if_neg (by omega), if_pos e]
    · rw [if_pos ⟨by omega, e⟩, if_neg e]
  · rw [List.getElem?_eq_none (by rw [clrTo_length]; exact h), List.getElem?_eq_none (by rw [clear_length]; exact h)]
end Sy
section
variable {w0 w w' : World} {M : List (Nat × Value)} {L : List Ob} {g m : Nat} {H : List (Option Addr × Nat)} {R : List (List UInt8)} {X : List Rw}
theorem Ow.nils {O : List Rw} {g0 : Option Nat} (h : Ow w0 w g0 M L O) (e : TypeId) : ∀ m, Ow w0 w g0 M L (O ++ List.replicate m ⟨none, 0, 0, e, []⟩)
  | 0 => by simpa using h
  | m + 1 => by
    have h5 := (Ow.nils h e m).nil e
    rw [List.append_assoc] at h5
    rw [List.replicate_succ']
    exact h5
theorem zip_rep {α β γ : Type} (f : α → β → γ) (a : α) (b : β) : ∀ m, List.zipWith f (List.replicate m a) (List.replicate m b) = List.replicate m (f a b)
  | 0 => rfl
  | m + 1 => by rw [List.replicate_succ, List.replicate_succ, List.replicate_succ, List.zipWith_cons_cons, zip_rep f a b m]
theorem Mx.start (h : Ow w0 w none M L [⟨some ⟨g, 0, none⟩, m, m, 30, List.replicate m (.slice none 0 0)⟩]) : Mx w0 w M L g m (List.replicate m (none, 0)) (List.replicate m []) [] := by
  refine ⟨?_, by simp, by simp⟩
  have h5 := h.nils 5 m
  unfold outR hdrs mkRs
  rw [zip_rep, zip_rep, List.append_nil]
  exact h5
theorem Mx.boxed (h : Mx w0 w M L g m H R X) (v : Value) (t : TypeId) : Mx w0 (w.alloc (.cells #[v] t)) (M ++ [(w.heap.size, v)]) L g m H R X := ⟨h.ow.boxed v t, h.hl, h.rl⟩
theorem Mx.fewM {l : List (Nat × Value)} (h : Mx w0 w (M ++ l) L g m H R X) : Mx w0 w M L g m H R X := ⟨h.ow.fewM, h.hl, h.rl⟩
theorem Mx.drewN (h : Mx w0 w M L g m H R X) (k : Nat) : Mx w0 (w.drewN k) M L g m H R X := ⟨h.ow.drewN k, h.hl, h.rl⟩
theorem Mx.more (h : Mx w0 w M L g m H R []) (e : TypeId) : Mx w0 w M L g m H R [⟨none, 0, 0, e, []⟩] := by
  have h5 := h.ow.nil e
  rw [List.append_nil] at h5
  exact ⟨h5, h.hl, h.rl⟩
end
end Go.Proofs.YtnplaejlmbncfaaGreatDoor

/- Interpolation, in plain Lean: the document's rounds. -/
import Derived.Test.YtkolmppfhpcdpaaDoorPolyV
namespace Go.Proofs.YtkolmppfhpcdpaaDoor
namespace Po
open Gf
theorem thBad_next (xs : List UInt8) (i : Nat) (x : UInt8) (hx : xs[i]? = some x) (h : thBad xs i = false) (h2 : ∀ b, b < i → xs[b]? = some x → False) : thBad xs (i + 1) = false := by
  have hi : i < xs.length := by
    rcases Nat.lt_or_ge i xs.length with h3 | h3
    · exact h3
    · rw [List.getElem?_eq_none h3] at hx; cases hx
  refine thBad_miss xs i x hx (fun e => ?_) h
  obtain ⟨j, h3, h4⟩ := (thB_root xs x i (by omega)).1 e
  exact h2 j h3 h4
theorem thBad_twin (xs : List UInt8) (i j : Nat) (x : UInt8) (hj : j < i) (hx : xs[i]? = some x) (hy : xs[j]? = some x) : thBad xs xs.length = true := by
  have hi : i < xs.length := by
    rcases Nat.lt_or_ge i xs.length with h3 | h3
    · exact h3
    · rw [List.getElem?_eq_none h3] at hx; cases hx
  exact (thBad_iff xs xs.length (Nat.le_refl _)).2 ⟨i, j, hj, hi, x, hx, hy⟩
theorem thO_grow (xs ys : List UInt8) (hl : ys.length = xs.length) (i : Nat) (hi : i < xs.length) : (thO xs ys i).take (i + 1) = (thO xs ys i).take i ++ [0] := by
  have h := thO_zero xs ys hl i (by omega) i (Nat.le_refl _)
  unfold co at h
  rw [List.take_add_one]
  rw [List.getElem?_eq_getElem (by rw [thO_length]; exact hi)] at h ⊢
  rw [show (thO xs ys i)[i]'(by rw [thO_length]; exact hi) = 0 from h]
  rfl
theorem eval_out (xs ys : List UInt8) (hl : ys.length = xs.length) (i : Nat) (hi : i ≤ xs.length) (x : UInt8) : eval ((thO xs ys i).take i) x = eval (thO xs ys i) x :=
  eval_ext _ _ (fun j => by
    rw [co_take]
    split
    · rfl
    · rw [thO_zero xs ys hl i hi j (by omega)]) x
theorem thO_add (xs ys : List UInt8) (i : Nat) (x y t : UInt8) (hx : xs[i]? = some x) (hy : ys[i]? = some y) (ht : t = gmul (y ^^^ eval (thO xs ys i) x) (ginv (eval (thB xs i) x))) :
    addAt ((thO xs ys i).take (i + 1)) (thB xs i) t 0 = (thO xs ys (i + 1)).take (i + 1) := by
  rw [addAt_take _ _ _ _ _ (by rw [thB_length]; omega), thO_succ xs ys i x y t hx hy ht]
/-- the next product, so many places done -/
def nx (B : List UInt8) (x : UInt8) : Nat → List UInt8
  | 0 => List.replicate (B.length + 1) 0
  | k + 1 => ((nx B x k).set (k + 1) (co (nx B x k) (k + 1) ^^^ co B k)).set k (co ((nx B x k).set (k + 1) (co (nx B x k) (k + 1) ^^^ co B k)) k ^^^ gmul (co B k) x)
theorem nx_length (B : List UInt8) (x : UInt8) : ∀ k, (nx B x k).length = B.length + 1 := by
  intro k
  induction k with
  | zero => exact List.length_replicate
  | succ k ih => rw [nx, List.length_set, List.length_set, ih]
theorem co_nx (B : List UInt8) (x : UInt8) : ∀ k, k ≤ B.length → ∀ j, co (nx B x k) j = (if 1 ≤ j ∧ j ≤ k then co B (j - 1) else 0) ^^^ (if j < k then gmul x (co B j) else 0) := by
  intro k
  induction k with
  | zero =>
    intro _ j
    rw [nx, co_replicate, if_neg (by omega), if_neg (by omega)]
    rfl
  | succ k ih =>
    intro hk j
    have hl := nx_length B x k
    have e1 : ∀ i, co ((nx B x k).set (k + 1) (co (nx B x k) (k + 1) ^^^ co B k)) i = if i = k + 1 then co (nx B x k) (k + 1) ^^^ co B k else co (nx B x k) i := fun i => co_set _ _ _ _ (by rw [hl]; omega)
    rw [nx, co_set _ _ _ _ (by rw [List.length_set, hl]; omega), e1, e1]
    by_cases h1 : j = k
    · subst h1
      rw [if_pos rfl, if_neg (show ¬ j = j + 1 by omega), ih (by omega), if_neg (show ¬ j < j by omega), UInt8.xor_zero, if_pos (show j < j + 1 by omega), gmul_comm]
      congr 1
      by_cases h2 : 1 ≤ j
      · rw [if_pos ⟨h2, Nat.le_refl _⟩, if_pos ⟨h2, by omega⟩]
      · rw [if_neg (by omega), if_neg (by omega)]
    · rw [if_neg h1]
      by_cases h2 : j = k + 1
      · subst h2
        rw [if_pos rfl, ih (by omega), if_neg (show ¬ (1 ≤ k + 1 ∧ k + 1 ≤ k) by omega), if_neg (show ¬ k + 1 < k by omega), if_pos (show 1 ≤ k + 1 ∧ k + 1 ≤ k + 1 by omega), if_neg (show ¬ k + 1 < k + 1 by omega)]
        simp
      · rw [if_neg h2, ih (by omega)]
        congr 1
        · by_cases h3 : 1 ≤ j ∧ j ≤ k
          · rw [if_pos h3, if_pos (show 1 ≤ j ∧ j ≤ k + 1 from ⟨h3.1, by omega⟩)]
          · rw [if_neg h3, if_neg (show ¬ (1 ≤ j ∧ j ≤ k + 1) from fun e => h3 ⟨e.1, by omega⟩)]
        · by_cases h4 : j < k
          · rw [if_pos h4, if_pos (show j < k + 1 by omega)]
          · rw [if_neg h4, if_neg (show ¬ j < k + 1 by omega)]
theorem nx_all (xs : List UInt8) (i : Nat) (x : UInt8) (hx : xs[i]? = some x) : nx (thB xs i) x (i + 1) = thB xs (i + 1) := by
  have hl := thB_length xs i
  refine co_ext _ _ (by rw [nx_length, hl, thB_length]) (fun j => ?_)
  rw [co_nx _ _ _ (by omega), co_thB_succ xs i x hx]
  congr 1
  · by_cases h1 : 1 ≤ j
    · rw [if_pos h1]
      by_cases h2 : j ≤ i + 1
      · rw [if_pos (show 1 ≤ j ∧ j ≤ i + 1 from ⟨h1, h2⟩)]
      · rw [if_neg (show ¬ (1 ≤ j ∧ j ≤ i + 1) from fun e => h2 e.2), co_big _ (j - 1) (by omega)]
    · rw [if_neg (show ¬ (1 ≤ j ∧ j ≤ i + 1) from fun e => h1 e.1), if_neg h1]
  · by_cases h3 : j < i + 1
    · rw [if_pos h3]
    · rw [if_neg h3, co_big _ j (by omega), gmul_zero]
end Po
end Go.Proofs.YtkolmppfhpcdpaaDoor

/- Interpolation, in plain Lean: what its rounds say. -/
import Derived.Test.YtkolmppfhpcdpaaDoorPolyK
import Derived.Test.YtkolmppfhpcdpaaDoorPolyR
namespace Go.Proofs.YtkolmppfhpcdpaaDoor
namespace Po
open Gf
theorem co_thB_succ (xs : List UInt8) (k : Nat) (x : UInt8) (hx : xs[k]? = some x) (i : Nat) : co (thB xs (k + 1)) i = (if 1 ≤ i then co (thB xs k) (i - 1) else 0) ^^^ gmul x (co (thB xs k) i) := by
  have hl := thB_length xs k
  rw [thB_succ xs k x hx, co_addAt _ _ _ _ (by rw [addAt_length, List.length_replicate]; omega), co_addAt _ _ _ _ (by rw [List.length_replicate]; omega), co_replicate, UInt8.zero_xor, if_pos (Nat.zero_le _), Nat.sub_zero]
  simp only [one_gmul]
theorem eval_thB_succ (xs : List UInt8) (k : Nat) (x y : UInt8) (hx : xs[k]? = some x) : eval (thB xs (k + 1)) y = gmul (eval (thB xs k) y) (y ^^^ x) := by
  rw [← eval_lin x y, ← eval_mulV]
  refine eval_ext _ _ (fun i => ?_) y
  rw [co_thB_succ xs k x hx, co_mulV, cv_comm, cv_cons]
  have e : ∀ j, cv (co [1]) (co (thB xs k)) j = co (thB xs k) j := fun j => by
    rw [cv_cons, one_gmul]
    cases j with
    | zero => simp [shift]
    | succ j => simp [shift, cv_nil]
  rw [shift_congr e, UInt8.xor_comm]
  congr 1
  cases i with
  | zero => rfl
  | succ i => simp [shift]
theorem thB_root (xs : List UInt8) (y : UInt8) : ∀ k, k ≤ xs.length → (eval (thB xs k) y = 0 ↔ ∃ j, j < k ∧ xs[j]? = some y) := by
  intro k
  induction k with
  | zero =>
    intro _
    show eval [1] y = 0 ↔ _
    rw [eval_one]
    exact ⟨fun h => absurd h (by decide), fun ⟨j, h, _⟩ => by omega⟩
  | succ k ih =>
    intro hk
    obtain ⟨x, hx⟩ : ∃ x, xs[k]? = some x := ⟨_, List.getElem?_eq_getElem (by omega)⟩
    rw [eval_thB_succ xs k x y hx, gmul_eq0, ih (by omega), xor_eq0]
    constructor
    · rintro (⟨j, h1, h2⟩ | h)
      · exact ⟨j, by omega, h2⟩
      · exact ⟨k, by omega, by rw [h]; exact hx⟩
    · rintro ⟨j, h1, h2⟩
      by_cases hj : j = k
      · subst hj
        rw [hx] at h2
        exact .inr (Option.some.inj h2).symm
      · exact .inl ⟨j, by omega, h2⟩
theorem thBad_iff (xs : List UInt8) : ∀ n, n ≤ xs.length → (thBad xs n = true ↔ ∃ i j, j < i ∧ i < n ∧ ∃ y, xs[i]? = some y ∧ xs[j]? = some y) := by
  intro n
  induction n with
  | zero =>
    intro _
    exact ⟨fun h => (by cases h), fun ⟨i, j, _, h, _⟩ => by omega⟩
  | succ n ih =>
    intro hn
    obtain ⟨x, hx⟩ : ∃ x, xs[n]? = some x := ⟨_, List.getElem?_eq_getElem (by omega)⟩
    have h1 := thB_root xs x n (by omega)
    rw [thBad, hx, Bool.or_eq_true, ih (by omega)]
    show _ ∨ (eval (thB xs n) x == 0) = true ↔ _
    rw [beq_iff_eq, h1]
    constructor
    · rintro (⟨i, j, a, b, c⟩ | ⟨j, a, b⟩)
      · exact ⟨i, j, a, by omega, c⟩
      · exact ⟨n, j, a, by omega, x, hx, b⟩
    · rintro ⟨i, j, a, b, y, c, d⟩
      by_cases hi : i = n
      · subst hi
        rw [hx] at c
        obtain rfl := Option.some.inj c
        exact .inr ⟨j, a, d⟩
      · exact .inl ⟨i, j, a, by omega, y, c, d⟩
theorem co_thO_succ (xs ys : List UInt8) (k : Nat) (x y t : UInt8) (hk : k < xs.length) (hx : xs[k]? = some x) (hy : ys[k]? = some y) (ht : t = gmul (y ^^^ eval (thO xs ys k) x) (ginv (eval (thB xs k) x))) (i : Nat) :
    co (thO xs ys (k + 1)) i = co (thO xs ys k) i ^^^ gmul t (co (thB xs k) i) := by
  rw [thO_succ xs ys k x y t hx hy ht, co_addAt _ _ _ _ (by rw [thB_length, thO_length]; omega), if_pos (Nat.zero_le _), Nat.sub_zero]
theorem thO_zero (xs ys : List UInt8) (hl : ys.length = xs.length) : ∀ k, k ≤ xs.length → ∀ i, k ≤ i → co (thO xs ys k) i = 0 := by
  intro k
  induction k with
  | zero => intro _ i _; exact co_replicate _ _
  | succ k ih =>
    intro hk i hi
    obtain ⟨x, hx⟩ : ∃ x, xs[k]? = some x := ⟨_, List.getElem?_eq_getElem (by omega)⟩
    obtain ⟨y, hy⟩ : ∃ y, ys[k]? = some y := ⟨_, List.getElem?_eq_getElem (by omega)⟩
    rw [co_thO_succ xs ys k x y _ (by omega) hx hy rfl, ih (by omega) i (by omega), co_big (thB xs k) i (by rw [thB_length]; omega), gmul_zero]
    rfl
theorem eval_comb (p q r : List UInt8) (t x : UInt8) (h : ∀ i, co r i = co p i ^^^ gmul t (co q i)) : eval r x = eval p x ^^^ gmul t (eval q x) := by
  have h2 : ∀ i, co (mulV [t] q) i = gmul t (co q i) := fun i => by
    rw [co_mulV, cv_cons]
    cases i with
    | zero => simp [shift]
    | succ i => simp [shift, cv_nil]
  have h3 : eval [t] x = t := by rw [eval_cons, eval_nil, zero_gmul, UInt8.zero_xor]
  rw [eval_add p (mulV [t] q) r (fun i => by rw [h, h2]) x, eval_mulV, h3]
/-- P4.4: the polynomial leads through the points -/
theorem thO_leads (xs ys : List UInt8) (hl : ys.length = xs.length) : ∀ k, k ≤ xs.length → thBad xs k = false → ∀ i x y, i < k → xs[i]? = some x → ys[i]? = some y → eval (thO xs ys k) x = y := by
  intro k
  induction k with
  | zero => intro _ _ i x y h; omega
  | succ k ih =>
    intro hk hb i x y hi hx hy
    obtain ⟨x0, hx0⟩ : ∃ x, xs[k]? = some x := ⟨_, List.getElem?_eq_getElem (by omega)⟩
    obtain ⟨y0, hy0⟩ : ∃ y, ys[k]? = some y := ⟨_, List.getElem?_eq_getElem (by omega)⟩
    rw [thBad, hx0, Bool.or_eq_false_iff] at hb
    have hne : eval (thB xs k) x0 ≠ 0 := by
      have := hb.2
      rw [beq_eq_false_iff_ne] at this
      exact this
    rw [eval_comb _ _ _ _ _ (co_thO_succ xs ys k x0 y0 _ (by omega) hx0 hy0 rfl)]
    by_cases h : i = k
    · subst h
      rw [hx0] at hx
      rw [hy0] at hy
      obtain rfl := Option.some.inj hx
      obtain rfl := Option.some.inj hy
      rw [gmul_assoc, ginv_mul _ hne, gmul_one, UInt8.xor_comm y0, ← UInt8.xor_assoc, UInt8.xor_self, UInt8.zero_xor]
    · rw [(thB_root xs x k (by omega)).2 ⟨i, by omega, hx⟩, gmul_zero, UInt8.xor_zero]
      exact ih (by omega) hb.1 i x y (by omega) hx hy
theorem thR_leads (xs ys : List UInt8) (hl : ys.length = xs.length) (hb : thBad xs xs.length = false) (i : Nat) (x y : UInt8) (hx : xs[i]? = some x) (hy : ys[i]? = some y) : eval (trim (thO xs ys xs.length)) x = y := by
  have hi : i < xs.length := by
    rcases Nat.lt_or_ge i xs.length with h | h
    · exact h
    · rw [List.getElem?_eq_none h] at hx; cases hx
  rw [eval_ext _ _ (co_trim _) x]
  exact thO_leads xs ys hl xs.length (Nat.le_refl _) hb i x y hi hx hy
end Po
end Go.Proofs.YtkolmppfhpcdpaaDoor

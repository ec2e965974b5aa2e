/- Algebra of polynomials over the field of 256 elements, in plain Lean: coefficients, products, derivatives, values. -/
import Derived.Test.YtkolmppfhpcdpaaDoorPolyE
import Derived.Test.YtkolmppfhpcdpaaDoorPolyH
namespace Go.Proofs.YtkolmppfhpcdpaaDoor
namespace Po
open Gf
/-- a coefficient, 0 behind the last one -/
def co (l : List UInt8) (i : Nat) : UInt8 := l[i]?.getD 0
theorem co_nil (i : Nat) : co [] i = 0 := rfl
theorem co_zero (a : UInt8) (l : List UInt8) : co (a :: l) 0 = a := rfl
theorem co_succ (a : UInt8) (l : List UInt8) (i : Nat) : co (a :: l) (i + 1) = co l i := by simp [co]
theorem co_big (l : List UInt8) (i : Nat) (h : l.length ≤ i) : co l i = 0 := by
  unfold co
  rw [List.getElem?_eq_none h]
  rfl
theorem co_set (l : List UInt8) (k : Nat) (x : UInt8) (j : Nat) (h : k < l.length) : co (l.set k x) j = if j = k then x else co l j := by
  unfold co
  rw [List.getElem?_set]
  split
  · rename_i e
    subst e
    rw [if_pos rfl]
    rfl
  · rename_i e
    rw [if_neg (fun e' => e e'.symm)]
theorem co_replicate (n i : Nat) : co (List.replicate n 0) i = 0 := by
  unfold co
  rw [List.getElem?_replicate]
  split <;> rfl
theorem co_ext (p q : List UInt8) (hl : p.length = q.length) (h : ∀ i, co p i = co q i) : p = q := by
  apply List.ext_getElem hl
  intro i h1 h2
  have := h i
  unfold co at this
  rw [List.getElem?_eq_getElem h1, List.getElem?_eq_getElem h2] at this
  exact this
theorem co_addTo (l r : List UInt8) (t : UInt8) (i : Nat) : ∀ k, i + k ≤ l.length → ∀ j, co (addTo l r t i k) j = co l j ^^^ (if i ≤ j ∧ j < i + k then gmul t (co r (j - i)) else 0) := by
  intro k
  induction k with
  | zero =>
    intro _ j
    rw [if_neg (by omega), UInt8.xor_zero]
    rfl
  | succ k ih =>
    intro hk j
    have e : co (addTo l r t i (k + 1)) j = co ((addTo l r t i k).set (i + k) (co (addTo l r t i k) (i + k) ^^^ gmul t (co r k))) j := rfl
    rw [e, co_set _ _ _ _ (by rw [addTo_length]; omega)]
    split
    · rename_i hj
      subst hj
      rw [ih (by omega), if_neg (by omega), UInt8.xor_zero, if_pos (by omega), Nat.add_sub_cancel_left]
    · rw [ih (by omega)]
      congr 1
      by_cases h : i ≤ j ∧ j < i + k
      · rw [if_pos h, if_pos (by omega)]
      · rw [if_neg h, if_neg (by omega)]
theorem co_addAt (l r : List UInt8) (t : UInt8) (i : Nat) (h : i + r.length ≤ l.length) (j : Nat) : co (addAt l r t i) j = co l j ^^^ (if i ≤ j then gmul t (co r (j - i)) else 0) := by
  unfold addAt
  rw [co_addTo l r t i r.length h j]
  congr 1
  by_cases h1 : i ≤ j
  · by_cases h2 : j < i + r.length
    · rw [if_pos ⟨h1, h2⟩, if_pos h1]
    · rw [if_neg (by omega), if_pos h1, co_big r _ (by omega), gmul_zero]
  · rw [if_neg (by omega), if_neg h1]
theorem co_take (l : List UInt8) (k i : Nat) : co (l.take k) i = if i < k then co l i else 0 := by
  unfold co
  rw [List.getElem?_take]
  split <;> rfl
theorem tl_zeros (l : List UInt8) : ∀ n i, tl l n ≤ i → i < n → co l i = 0 := by
  intro n
  induction n with
  | zero => intro i _ h; omega
  | succ n ih =>
    intro i h1 h2
    by_cases h : l[n]? = some 0
    · rw [tl_zero l n h] at h1
      by_cases hi : i = n
      · subst hi
        unfold co
        rw [h]
        rfl
      · exact ih i h1 (by omega)
    · rw [tl_stop l n h] at h1
      omega
theorem co_trim (l : List UInt8) (i : Nat) : co (trim l) i = co l i := by
  unfold trim
  rw [co_take]
  split
  · rfl
  · rcases Nat.lt_or_ge i l.length with h | h
    · exact (tl_zeros l l.length i (by omega) h).symm
    · exact (co_big l i h).symm
theorem vld_top (l : List UInt8) (hv : vld l = true) (h : 0 < l.length) : co l (l.length - 1) ≠ 0 := by
  unfold vld at hv
  simp only [Bool.and_eq_true, bne_iff_ne, ne_eq] at hv
  intro e
  apply hv.2
  rw [List.getLast?_eq_getElem?, List.getElem?_eq_getElem (by omega)]
  unfold co at e
  rw [List.getElem?_eq_getElem (by omega)] at e
  exact congrArg some e
theorem len_le_of_top (p q : List UInt8) (hp : 0 < p.length → co p (p.length - 1) ≠ 0) (h : ∀ i, co p i = co q i) : p.length ≤ q.length := by
  rcases Nat.eq_zero_or_pos p.length with h0 | h0
  · omega
  · rcases Nat.lt_or_ge q.length p.length with h1 | h1
    · exact absurd ((h _).trans (co_big q _ (by omega))) (hp h0)
    · exact h1
/-- polynomials with equal coefficients are equal -/
theorem vld_ext (p q : List UInt8) (hp : vld p = true) (hq : vld q = true) (h : ∀ i, co p i = co q i) : p = q :=
  co_ext p q (Nat.le_antisymm (len_le_of_top p q (vld_top p hp) h) (len_le_of_top q p (vld_top q hq) (fun i => (h i).symm))) h
theorem co_padd (p q : List UInt8) (i : Nat) : co (padd p q) i = co p i ^^^ co q i := by
  unfold padd
  rw [co_addAt _ _ _ _ (by rw [addAt_length, List.length_replicate]; omega), co_addAt _ _ _ _ (by rw [List.length_replicate]; omega), co_replicate, if_pos (Nat.zero_le _), if_pos (Nat.zero_le _), one_gmul, one_gmul, UInt8.zero_xor]
  rfl

/-! Sums and products of coefficients. -/
def sumX (f : Nat → UInt8) : Nat → UInt8
  | 0 => 0
  | k + 1 => sumX f k ^^^ f k
theorem sumX_congr {f g : Nat → UInt8} {n : Nat} (h : ∀ i, i < n → f i = g i) : sumX f n = sumX g n := by
  induction n with
  | zero => rfl
  | succ n ih => rw [sumX, sumX, ih (fun i hi => h i (by omega)), h n (by omega)]
theorem sumX_zero (n : Nat) : sumX (fun _ => 0) n = 0 := by
  induction n with
  | zero => rfl
  | succ n ih => rw [sumX, ih]; rfl
theorem sumX_add (f g : Nat → UInt8) (n : Nat) : sumX (fun i => f i ^^^ g i) n = sumX f n ^^^ sumX g n := by
  induction n with
  | zero => exact (UInt8.xor_self).symm
  | succ n ih => rw [sumX, sumX, sumX, ih, xor4]
theorem sumX_mul (c : UInt8) (f : Nat → UInt8) (n : Nat) : sumX (fun i => gmul c (f i)) n = gmul c (sumX f n) := by
  induction n with
  | zero => exact (gmul_zero c).symm
  | succ n ih => rw [sumX, sumX, ih, gmul_add]
theorem sumX_left (f : Nat → UInt8) (n : Nat) : sumX f (n + 1) = f 0 ^^^ sumX (fun i => f (i + 1)) n := by
  induction n with
  | zero => rw [sumX, sumX, sumX, UInt8.zero_xor, UInt8.xor_zero]
  | succ n ih => rw [sumX, ih, sumX, UInt8.xor_assoc]
theorem sumX_rev (f : Nat → UInt8) (n : Nat) : sumX (fun i => f (n - i)) (n + 1) = sumX f (n + 1) := by
  induction n generalizing f with
  | zero => rfl
  | succ n ih =>
    rw [sumX_left]
    have e : sumX (fun i => f (n + 1 - (i + 1))) (n + 1) = sumX (fun i => f (n - i)) (n + 1) := sumX_congr (fun i _ => by congr 1; omega)
    rw [e, ih f]
    conv => rhs; rw [sumX]
    rw [UInt8.xor_comm]
    rfl
/-- the product -/
def cv (f g : Nat → UInt8) (n : Nat) : UInt8 := sumX (fun i => gmul (f i) (g (n - i))) (n + 1)
def shift (f : Nat → UInt8) : Nat → UInt8
  | 0 => 0
  | n + 1 => f n
theorem cv_comm (f g : Nat → UInt8) (n : Nat) : cv f g n = cv g f n := by
  unfold cv
  rw [← sumX_rev]
  refine sumX_congr (fun i hi => ?_)
  show gmul (f (n - i)) (g (n - (n - i))) = _
  rw [gmul_comm, show n - (n - i) = i from by omega]
theorem cv_congr {f f' g g' : Nat → UInt8} (h : ∀ i, f i = f' i) (h' : ∀ i, g i = g' i) (n : Nat) : cv f g n = cv f' g' n := by
  unfold cv
  exact sumX_congr (fun i _ => by rw [h, h'])
theorem cv_add_right (f g h : Nat → UInt8) (n : Nat) : cv f (fun i => g i ^^^ h i) n = cv f g n ^^^ cv f h n := by
  unfold cv
  rw [← sumX_add]
  exact sumX_congr (fun i _ => gmul_add _ _ _)
theorem cv_add_left (f g h : Nat → UInt8) (n : Nat) : cv (fun i => f i ^^^ g i) h n = cv f h n ^^^ cv g h n := by
  rw [cv_comm, cv_add_right, cv_comm h f, cv_comm h g]
theorem cv_mul_right (c : UInt8) (f g : Nat → UInt8) (n : Nat) : cv f (fun i => gmul c (g i)) n = gmul c (cv f g n) := by
  unfold cv
  rw [← sumX_mul]
  refine sumX_congr (fun i _ => ?_)
  rw [← gmul_assoc, ← gmul_assoc, gmul_comm (f i) c]
theorem cv_mul_left (c : UInt8) (f g : Nat → UInt8) (n : Nat) : cv (fun i => gmul c (f i)) g n = gmul c (cv f g n) := by
  rw [cv_comm, cv_mul_right, cv_comm]
theorem cv_shift_left (f g : Nat → UInt8) (n : Nat) : cv (shift f) g n = shift (cv f g) n := by
  cases n with
  | zero =>
    show sumX _ 1 = 0
    rw [sumX, sumX, UInt8.zero_xor]
    exact zero_gmul _
  | succ n =>
    show cv (shift f) g (n + 1) = cv f g n
    unfold cv
    rw [sumX_left]
    show gmul 0 _ ^^^ _ = _
    rw [zero_gmul, UInt8.zero_xor]
    exact sumX_congr (fun i hi => by show gmul (f i) (g (n + 1 - (i + 1))) = _; congr 2; omega)
theorem cv_nil (g : Nat → UInt8) (n : Nat) : cv (co []) g n = 0 := by
  unfold cv
  rw [sumX_congr (g := fun _ => 0) (fun i _ => by rw [co_nil, zero_gmul]), sumX_zero]
theorem cv_cons (a : UInt8) (p : List UInt8) (g : Nat → UInt8) (n : Nat) : cv (co (a :: p)) g n = gmul a (g n) ^^^ shift (cv (co p) g) n := by
  rw [← cv_shift_left]
  unfold cv
  rw [sumX_left, sumX_left (fun i => gmul (shift (co p) i) (g (n - i)))]
  show gmul a (g n) ^^^ _ = _ ^^^ (gmul 0 _ ^^^ _)
  rw [zero_gmul, UInt8.zero_xor]
  congr 1
theorem shift_congr {f g : Nat → UInt8} (h : ∀ i, f i = g i) (n : Nat) : shift f n = shift g n := by
  cases n with
  | zero => rfl
  | succ n => exact h n
theorem shift_add (f g : Nat → UInt8) (n : Nat) : shift (fun i => f i ^^^ g i) n = shift f n ^^^ shift g n := by
  cases n with
  | zero => exact (UInt8.xor_self).symm
  | succ n => rfl
theorem cv_assoc (p : List UInt8) (g h : Nat → UInt8) : ∀ n, cv (co p) (cv g h) n = cv (cv (co p) g) h n := by
  induction p with
  | nil =>
    intro n
    rw [cv_nil, cv_congr (f' := fun _ => 0) (g' := h) (fun i => cv_nil g i) (fun _ => rfl)]
    exact (cv_nil h n).symm
  | cons a p ih =>
    intro n
    rw [cv_cons, cv_congr (f' := fun i => gmul a (g i) ^^^ shift (cv (co p) g) i) (g' := h) (fun i => cv_cons a p g i) (fun _ => rfl), cv_add_left, cv_mul_left, cv_shift_left]
    congr 1
    exact shift_congr ih n

/-! The lists' own product. -/
theorem co_mulTo (p q : List UInt8) (hq : 0 < q.length) : ∀ k, k ≤ p.length → ∀ n, co (mulTo p q k) n = sumX (fun i => if i ≤ n then gmul (co p i) (co q (n - i)) else 0) k := by
  intro k
  induction k with
  | zero =>
    intro _ n
    rw [mulTo, co_replicate]
    rfl
  | succ k ih =>
    intro hk n
    rw [mulTo, co_addAt _ _ _ _ (by rw [mulTo_length]; omega), ih (by omega), sumX]
    rfl
theorem sumX_split (f : Nat → UInt8) (m n : Nat) (h : m ≤ n) (hf : ∀ i, m ≤ i → i < n → f i = 0) : sumX f n = sumX f m := by
  induction n with
  | zero =>
    have : m = 0 := by omega
    rw [this]
  | succ n ih =>
    by_cases e : m = n + 1
    · rw [e]
    · rw [sumX, ih (by omega) (fun i h1 h2 => hf i h1 (by omega)), hf n (by omega) (by omega), UInt8.xor_zero]
theorem co_mulA (p q : List UInt8) (hq : 0 < q.length) (n : Nat) : co (mulA p q) n = cv (co p) (co q) n := by
  unfold mulA cv
  rw [co_mulTo p q hq _ (Nat.le_refl _)]
  rcases Nat.lt_or_ge n p.length with h | h
  · rw [sumX_split _ (n + 1) p.length (by omega) (fun i h1 _ => if_neg (by omega))]
    exact sumX_congr (fun i hi => if_pos (by omega))
  · rw [sumX_split (fun i => gmul (co p i) (co q (n - i))) p.length (n + 1) (by omega) (fun i h1 _ => by rw [co_big p i h1, zero_gmul])]
    exact sumX_congr (fun i hi => if_pos (by omega))

/-! Derivatives. -/
def dF (f : Nat → UInt8) (n : Nat) : UInt8 := if n % 2 = 0 then f (n + 1) else 0
theorem dF_congr {f g : Nat → UInt8} (h : ∀ i, f i = g i) (n : Nat) : dF f n = dF g n := by unfold dF; rw [h]
theorem dF_add (f g : Nat → UInt8) (n : Nat) : dF (fun i => f i ^^^ g i) n = dF f n ^^^ dF g n := by
  unfold dF
  split <;> rfl
theorem dF_mul (c : UInt8) (f : Nat → UInt8) (n : Nat) : dF (fun i => gmul c (f i)) n = gmul c (dF f n) := by
  unfold dF
  split
  · rfl
  · exact (gmul_zero c).symm
theorem dF_shift (f : Nat → UInt8) (n : Nat) : dF (shift f) n = f n ^^^ shift (dF f) n := by
  unfold dF
  cases n with
  | zero => exact (UInt8.xor_zero).symm
  | succ n =>
    show (if (n + 1) % 2 = 0 then f (n + 1) else 0) = f (n + 1) ^^^ (if n % 2 = 0 then f (n + 1) else 0)
    by_cases h : n % 2 = 0
    · rw [if_pos h, if_neg (by omega), UInt8.xor_self]
    · rw [if_neg h, if_pos (by omega), UInt8.xor_zero]
theorem dF_cons (a : UInt8) (p : List UInt8) (n : Nat) : dF (co (a :: p)) n = co p n ^^^ shift (dF (co p)) n := by
  rw [← dF_shift]
  unfold dF
  split
  · exact co_succ a p n
  · rfl
/-- the derivative of a product -/
theorem leibniz (p : List UInt8) (g : Nat → UInt8) : ∀ n, dF (cv (co p) g) n = cv (dF (co p)) g n ^^^ cv (co p) (dF g) n := by
  induction p with
  | nil =>
    intro n
    have h1 : dF (cv (co []) g) n = 0 := by unfold dF; split <;> first | exact cv_nil g _ | rfl
    have h2 : cv (dF (co [])) g n = 0 := by
      rw [cv_congr (f' := co []) (g' := g) (fun i => by unfold dF; split <;> rfl) (fun _ => rfl)]
      exact cv_nil g n
    rw [h1, h2, cv_nil]
    rfl
  | cons a p ih =>
    intro n
    rw [dF_congr (fun i => cv_cons a p g i), dF_add, dF_mul, dF_shift, shift_congr ih, shift_add, cv_cons, cv_congr (f' := fun i => co p i ^^^ shift (dF (co p)) i) (g' := g) (fun i => dF_cons a p i) (fun _ => rfl), cv_add_left, cv_shift_left]
    generalize gmul a (dF g n) = x1
    generalize cv (co p) g n = x2
    generalize shift (cv (dF (co p)) g) n = x3
    generalize shift (cv (co p) (dF g)) n = x4
    rw [UInt8.xor_comm x1, UInt8.xor_assoc, UInt8.xor_assoc, UInt8.xor_assoc, UInt8.xor_comm x1 x4]
theorem co_derTo (d : List UInt8) : ∀ j, 2 * j ≤ d.length → ∀ i, co (derTo d j) i = if i % 2 = 1 ∧ i < 2 * j then 0 else co d i := by
  intro j
  induction j with
  | zero =>
    intro _ i
    rw [if_neg (by omega)]
    rfl
  | succ j ih =>
    intro hj i
    rw [derTo, co_set _ _ _ _ (by rw [derTo_length]; omega)]
    split
    · rename_i e
      rw [if_pos (by omega)]
    · rename_i e
      rw [ih (by omega)]
      by_cases h : i % 2 = 1 ∧ i < 2 * j
      · rw [if_pos h, if_pos (by omega)]
      · rw [if_neg h, if_neg (by omega)]
theorem co_drop1 (l : List UInt8) (i : Nat) : co (l.drop 1) i = co l (i + 1) := by
  unfold co
  rw [List.getElem?_drop, Nat.add_comm]
theorem co_derA (l : List UInt8) (i : Nat) : co (derA l) i = dF (co l) i := by
  unfold derA dF
  rw [co_derTo _ _ (by rw [List.length_drop]; omega), co_drop1]
  by_cases h : i % 2 = 0
  · rw [if_neg (by omega), if_pos h]
  · rw [if_neg h]
    split
    · rfl
    · exact co_big l _ (by omega)
theorem co_derR (l : List UInt8) (h : l.length ≤ 255) (i : Nat) : co (derR l) i = dF (co l) i := by
  unfold derR
  split
  · rename_i e
    have h0 : l.length = 0 := by omega
    have : l = [] := List.eq_nil_of_length_eq_zero h0
    subst this
    unfold dF
    split <;> rfl
  · rw [co_trim, co_derA]

/-! Values. -/
/-- the value of the first N coefficients -/
def ev' (f : Nat → UInt8) (x : UInt8) (N : Nat) : UInt8 := sumX (fun i => gmul (f i) (gpow x i)) N
theorem eval_cons (a : UInt8) (l : List UInt8) (x : UInt8) : eval (a :: l) x = gmul (eval l x) x ^^^ a := by
  unfold eval
  rw [List.reverse_cons, List.foldl_append]
  rfl
theorem eval_nil (x : UInt8) : eval [] x = 0 := rfl
theorem ev_succ (f : Nat → UInt8) (x : UInt8) (N : Nat) : ev' f x (N + 1) = f 0 ^^^ gmul (ev' (fun i => f (i + 1)) x N) x := by
  unfold ev'
  rw [sumX_left]
  show gmul (f 0) 1 ^^^ _ = _
  rw [gmul_one, gmul_comm (sumX _ N) x, ← sumX_mul]
  congr 1
  refine sumX_congr (fun i _ => ?_)
  show gmul (f (i + 1)) (gmul (gpow x i) x) = _
  rw [← gmul_assoc, gmul_comm _ x]
theorem ev_co (l : List UInt8) (x : UInt8) : ∀ N, l.length ≤ N → ev' (co l) x N = eval l x := by
  induction l with
  | nil =>
    intro N _
    unfold ev'
    rw [sumX_congr (g := fun _ => 0) (fun i _ => by rw [co_nil, zero_gmul]), sumX_zero]
    rfl
  | cons a l ih =>
    intro N hN
    obtain ⟨M, rfl⟩ : ∃ M, N = M + 1 := ⟨N - 1, by simp at hN; omega⟩
    rw [ev_succ, eval_cons, UInt8.xor_comm]
    congr 1
    rw [← ih M (by simpa using hN)]
    congr 1
theorem ev_congr {f g : Nat → UInt8} (h : ∀ i, f i = g i) (x : UInt8) (N : Nat) : ev' f x N = ev' g x N := by
  unfold ev'
  exact sumX_congr (fun i _ => by rw [h])
theorem ev_add (f g : Nat → UInt8) (x : UInt8) (N : Nat) : ev' (fun i => f i ^^^ g i) x N = ev' f x N ^^^ ev' g x N := by
  unfold ev'
  rw [← sumX_add]
  exact sumX_congr (fun i _ => gmul_add' _ _ _)
theorem ev_mul (c : UInt8) (f : Nat → UInt8) (x : UInt8) (N : Nat) : ev' (fun i => gmul c (f i)) x N = gmul c (ev' f x N) := by
  unfold ev'
  rw [← sumX_mul]
  exact sumX_congr (fun i _ => gmul_assoc _ _ _)
/-- values depend on the coefficients alone -/
theorem eval_ext (p q : List UInt8) (h : ∀ i, co p i = co q i) (x : UInt8) : eval p x = eval q x := by
  rw [← ev_co p x (p.length + q.length) (by omega), ← ev_co q x (p.length + q.length) (by omega)]
  exact ev_congr h x _
theorem eval_add (p q r : List UInt8) (h : ∀ i, co r i = co p i ^^^ co q i) (x : UInt8) : eval r x = eval p x ^^^ eval q x := by
  rw [← ev_co p x (p.length + q.length + r.length) (by omega), ← ev_co q x (p.length + q.length + r.length) (by omega), ← ev_co r x (p.length + q.length + r.length) (by omega), ← ev_add]
  exact ev_congr h x _
theorem ev_cv (p : List UInt8) (g : Nat → UInt8) (x : UInt8) (m : Nat) (hg : ∀ i, m ≤ i → g i = 0) : ∀ N, p.length + m ≤ N → ev' (cv (co p) g) x N = gmul (eval p x) (ev' g x N) := by
  induction p with
  | nil =>
    intro N _
    rw [ev_congr (fun i => cv_nil g i), eval_nil, zero_gmul]
    unfold ev'
    rw [sumX_congr (g := fun _ => 0) (fun i _ => zero_gmul _), sumX_zero]
  | cons a p ih =>
    intro N hN
    obtain ⟨M, rfl⟩ : ∃ M, N = M + 1 := ⟨N - 1, by simp at hN; omega⟩
    have hM : p.length + m ≤ M := by simp at hN; omega
    rw [ev_congr (fun i => cv_cons a p g i), ev_add, ev_mul, eval_cons]
    have h1 : ev' (shift (cv (co p) g)) x (M + 1) = gmul (ev' (cv (co p) g) x M) x := by
      rw [ev_succ]
      show 0 ^^^ _ = _
      rw [UInt8.zero_xor]
      rfl
    have h2 : ev' g x (M + 1) = ev' g x M := by
      show ev' g x M ^^^ gmul (g M) _ = _
      rw [hg M (by omega), zero_gmul, UInt8.xor_zero]
    rw [h1, ih M hM, h2, gmul_add', UInt8.xor_comm]
    congr 1
    rw [gmul_assoc, gmul_comm (ev' g x M) x, ← gmul_assoc]
theorem eval_mul (p q r : List UInt8) (h : ∀ i, co r i = cv (co p) (co q) i) (x : UInt8) : eval r x = gmul (eval p x) (eval q x) := by
  rw [← ev_co r x (p.length + q.length + r.length) (by omega), ev_congr h x, ev_cv p (co q) x q.length (fun i hi => co_big q i hi) _ (by omega), ev_co q x _ (by omega)]
end Po
end Go.Proofs.YtkolmppfhpcdpaaDoor

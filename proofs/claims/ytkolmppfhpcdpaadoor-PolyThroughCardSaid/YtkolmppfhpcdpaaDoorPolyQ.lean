/- Quotient, rest and greatest common divisor, in plain Lean: what division says of the coefficients. -/
import Derived.Test.YtkolmppfhpcdpaaDoorPolyH
import Derived.Test.YtkolmppfhpcdpaaDoorPolyN
namespace Go.Proofs.YtkolmppfhpcdpaaDoor
namespace Po
open Gf
theorem xor_self' (a : UInt8) : a ^^^ a = 0 := UInt8.xor_self
theorem xor_zero' (a : UInt8) : a ^^^ 0 = a := UInt8.xor_zero
theorem zero_xor' (a : UInt8) : 0 ^^^ a = a := UInt8.zero_xor
theorem xor_cancel (a b c : UInt8) (h : a = b ^^^ c) : b = a ^^^ c := by rw [h, UInt8.xor_assoc, UInt8.xor_self, UInt8.xor_zero]
theorem cv_delta (f : UInt8) (a : Nat) (g : Nat → UInt8) (n : Nat) : cv (fun i => if i = a then f else 0) g n = if a ≤ n then gmul f (g (n - a)) else 0 := by
  unfold cv
  by_cases h : a ≤ n
  · rw [if_pos h, sumX_single _ _ a (by omega) (fun i _ hi => by show gmul (if i = a then f else 0) _ = 0; rw [if_neg hi, zero_gmul])]
    show gmul (if a = a then f else 0) _ = _
    rw [if_pos rfl]
  · rw [if_neg h, sumX_congr (g := fun _ => 0) (fun i hi => by show gmul (if i = a then f else 0) _ = 0; rw [if_neg (by omega), zero_gmul]), sumX_zero]
section
variable (p q : List UInt8) (lead : UInt8) (hq : 0 < q.length) (hpq : q.length ≤ p.length)
/-- the quotient's places that are still to come are 0 -/
theorem dv_quot_zero : ∀ j, ∀ i, i + j ≤ p.length - q.length → co (dv p q lead j).2 i = 0 := by
  intro j
  induction j with
  | zero => intro i _; rw [dv]; exact co_replicate _ _
  | succ j ih =>
    intro i hi
    rw [dv]
    simp only
    rw [co_set _ _ _ _ (by rw [(dv_len p q lead j).2]; omega), if_neg (by omega)]
    exact ih i (by omega)
include hpq in
theorem dv_id : ∀ j, j ≤ p.length - q.length + 1 → ∀ i, co p i = co (dv p q lead j).1 i ^^^ cv (co (dv p q lead j).2) (co q) i := by
  intro j
  induction j with
  | zero =>
    intro _ i
    rw [dv]
    simp only
    rw [cv_congr (f' := co []) (g' := co q) (fun k => co_replicate _ k) (fun _ => rfl), cv_nil, UInt8.xor_zero]
  | succ j ih =>
    intro hj i
    obtain ⟨l1, l2⟩ := dv_len p q lead j
    have hz := dv_quot_zero p q lead j (p.length - q.length - j) (by omega)
    rw [dv]
    simp only
    generalize gmul ((dv p q lead j).1[p.length - q.length - j + q.length - 1]?.getD 0) lead = f
    rw [co_addAt _ _ _ _ (by rw [l1]; omega)]
    have e1 : cv (co ((dv p q lead j).2.set (p.length - q.length - j) f)) (co q) i = cv (co (dv p q lead j).2) (co q) i ^^^ (if p.length - q.length - j ≤ i then gmul f (co q (i - (p.length - q.length - j))) else 0) := by
      rw [← cv_delta, ← cv_add_left]
      refine cv_congr (fun k => ?_) (fun _ => rfl) i
      rw [co_set _ _ _ _ (by rw [l2]; omega)]
      by_cases hk : k = p.length - q.length - j
      · rw [if_pos hk, if_pos hk, hk, hz, UInt8.zero_xor]
      · rw [if_neg hk, if_neg hk, UInt8.xor_zero]
    rw [e1, ih (by omega) i]
    generalize (if p.length - q.length - j ≤ i then gmul f (co q (i - (p.length - q.length - j))) else 0) = z
    rw [UInt8.xor_assoc, UInt8.xor_comm z, UInt8.xor_assoc, UInt8.xor_self, UInt8.xor_zero]
include hq hpq in
theorem dv_rest_zero (hl : lead = ginv (co q (q.length - 1))) (hne : co q (q.length - 1) ≠ 0) : ∀ j, j ≤ p.length - q.length + 1 → ∀ i, p.length ≤ i + j → co (dv p q lead j).1 i = 0 := by
  intro j
  induction j with
  | zero => intro _ i hi; rw [dv]; exact co_big _ _ (by simpa using hi)
  | succ j ih =>
    intro hj i hi
    obtain ⟨l1, l2⟩ := dv_len p q lead j
    rw [dv]
    simp only
    rw [co_addAt _ _ _ _ (by rw [l1]; omega)]
    have hb : (dv p q lead j).1[p.length - q.length - j + q.length - 1]?.getD 0 = co (dv p q lead j).1 (p.length - j - 1) := by
      unfold co
      rw [show p.length - q.length - j + q.length - 1 = p.length - j - 1 by omega]
    rw [hb]
    by_cases h1 : i = p.length - j - 1
    · rw [if_pos (by omega), h1, show p.length - j - 1 - (p.length - q.length - j) = q.length - 1 by omega, hl, gmul_assoc, ginv_mul _ hne, gmul_one, UInt8.xor_self]
    · rw [ih (by omega) i (by omega)]
      rw [co_big q _ (by omega), gmul_zero]
      split <;> rfl
end
theorem lastOf_co (q : List UInt8) : lastOf q = co q (q.length - 1) := rfl
theorem div_co (p q : List UInt8) (hq : 0 < q.length) (hne : co q (q.length - 1) ≠ 0) (i : Nat) : co p i = co (rem p q) i ^^^ cv (co (quo p q)) (co q) i := by
  unfold rem quo
  by_cases h : p.length < q.length
  · rw [if_pos h, if_pos h, cv_nil, UInt8.xor_zero]
  · rw [if_neg h, if_neg h, co_trim, co_take]
    have h1 := dv_id p q (ginv (lastOf q)) (by omega) (p.length - q.length + 1) (Nat.le_refl _) i
    have h2 := dv_rest_zero p q (ginv (lastOf q)) hq (by omega) rfl hne (p.length - q.length + 1) (Nat.le_refl _) i
    unfold dvAll
    by_cases hi : i < q.length - 1
    · rw [if_pos hi]; exact h1
    · rw [if_neg hi, UInt8.zero_xor]
      rw [h2 (by omega), UInt8.zero_xor] at h1
      exact h1
theorem quo_len (p q : List UInt8) : (quo p q).length ≤ p.length - q.length + 1 ∧ (p.length < q.length → (quo p q).length = 0) := by
  unfold quo
  split
  · exact ⟨Nat.zero_le _, fun _ => rfl⟩
  · rename_i h
    unfold dvAll
    rw [(dv_len p q _ _).2]
    exact ⟨Nat.le_refl _, fun h' => absurd h' h⟩
theorem rem_vld (p q : List UInt8) (hp : vld p = true) (hq : q.length ≤ 255) : vld (rem p q) = true := by
  unfold rem
  split
  · exact hp
  · refine trim_vld _ ?_
    have : ((dvAll p q).1.take (q.length - 1)).length ≤ q.length - 1 := List.length_take_le _ _
    omega
theorem dv_top (p q : List UInt8) (lead : UInt8) (hq : 0 < q.length) (hpq : q.length ≤ p.length) : ∀ j, j ≤ p.length - q.length → co (dv p q lead (j + 1)).2 (p.length - q.length) = gmul (co p (p.length - 1)) lead := by
  intro j
  induction j with
  | zero =>
    intro _
    rw [dv]
    simp only
    rw [co_set _ _ _ _ (by rw [(dv_len p q lead 0).2]; omega), if_pos (by omega)]
    rw [dv]
    simp only
    rw [show p.length - q.length - 0 + q.length - 1 = p.length - 1 by omega]
    rfl
  | succ j ih =>
    intro hj
    rw [dv]
    simp only
    rw [co_set _ _ _ _ (by rw [(dv_len p q lead (j + 1)).2]; omega), if_neg (by omega)]
    exact ih (by omega)
theorem quo_vld (p q : List UInt8) (hp : vld p = true) (hq : 0 < q.length) (hne : co q (q.length - 1) ≠ 0) : vld (quo p q) = true := by
  unfold quo
  split
  · rfl
  · rename_i h
    have hl := (dv_len p q (ginv (lastOf q)) (p.length - q.length + 1)).2
    have h255 := vld_len hp
    unfold dvAll
    refine vld_of_top _ (by rw [hl]; omega) (fun _ => ?_)
    rw [hl, Nat.add_sub_cancel, dv_top p q _ hq (by omega) _ (Nat.le_refl _)]
    exact gmul_ne _ _ (vld_top p hp (by omega)) (ginv_ne _ hne)
/-- P4.2: the quotient times the divisor, and the rest -/
theorem div_id (p q : List UInt8) (hp : vld p = true) (hq : vld q = true) (h : 0 < q.length) : addV (mulV (quo p q) q) (rem p q) = p := by
  have hne := vld_top q hq h
  have h1 := vld_len hp
  have h2 := vld_len hq
  have l1 := mulV_len (quo p q) q
  obtain ⟨l2, l3⟩ := quo_len p q
  have l4 := rem_lt p q h
  refine vld_ext _ _ (addV_vld _ _ ?_ (by omega)) hp (fun i => ?_)
  · rcases Nat.lt_or_ge p.length q.length with hl | hl
    · have := l3 hl; omega
    · omega
  · rw [co_addV, co_mulV, UInt8.xor_comm, ← div_co p q h hne i]
/-- c divides x -/
def Dv (c x : List UInt8) : Prop := ∃ k : List UInt8, ∀ i, co x i = cv (co k) (co c) i
theorem dv_refl (c : List UInt8) : Dv c c := ⟨[1], fun i => by rw [cv_cons, one_gmul]; cases i with
  | zero => simp [shift]
  | succ i => simp [shift, cv_nil]⟩
theorem dv_nil (c : List UInt8) : Dv c [] := ⟨[], fun i => by rw [cv_nil]; rfl⟩
theorem dv_comb {a b r k : List UInt8} {c : List UInt8} (h : ∀ i, co a i = co r i ^^^ cv (co k) (co b) i) (hb : Dv c b) (hr : Dv c r) : Dv c a := by
  obtain ⟨k2, h2⟩ := hb
  obtain ⟨k1, h1⟩ := hr
  refine ⟨addV k1 (mulV k k2), fun i => ?_⟩
  rw [h, h1, cv_congr (fun _ => rfl) h2, cv_assoc, cv_congr (co_addV k1 (mulV k k2)) (fun _ => rfl), cv_add_left, cv_congr (co_mulV k k2) (fun _ => rfl)]
theorem gcd_div : ∀ (f : Nat) (a b : List UInt8), b.length ≤ f → vld a = true → vld b = true → Dv (gcdF b.length a b) a ∧ Dv (gcdF b.length a b) b := by
  intro f
  induction f with
  | zero =>
    intro a b hf _ _
    have h0 : b.length = 0 := Nat.le_zero.1 hf
    rw [gcd_end a b h0, List.eq_nil_of_length_eq_zero h0]
    exact ⟨dv_refl a, dv_nil a⟩
  | succ f ih =>
    intro a b hf ha hb
    rcases Nat.eq_zero_or_pos b.length with h0 | h0
    · rw [gcd_end a b h0, List.eq_nil_of_length_eq_zero h0]
      exact ⟨dv_refl a, dv_nil a⟩
    · have hlt := rem_lt a b h0
      rw [gcd_step a b h0]
      obtain ⟨d1, d2⟩ := ih b (rem a b) (by omega) hb (rem_vld a b ha (vld_len hb))
      exact ⟨dv_comb (div_co a b h0 (vld_top b hb h0)) d1 d2, d1⟩
theorem gcd_vld : ∀ (f : Nat) (a b : List UInt8), b.length ≤ f → vld a = true → vld b = true → vld (gcdF b.length a b) = true ∧ (0 < a.length ∨ 0 < b.length → 0 < (gcdF b.length a b).length) ∧ (gcdF b.length a b).length ≤ max a.length b.length := by
  intro f
  induction f with
  | zero =>
    intro a b hf ha _
    have h0 : b.length = 0 := Nat.le_zero.1 hf
    rw [gcd_end a b h0]
    exact ⟨ha, fun h => by omega, by omega⟩
  | succ f ih =>
    intro a b hf ha hb
    rcases Nat.eq_zero_or_pos b.length with h0 | h0
    · rw [gcd_end a b h0]
      exact ⟨ha, fun h => by omega, by omega⟩
    · have hlt := rem_lt a b h0
      rw [gcd_step a b h0]
      obtain ⟨d1, d2, d3⟩ := ih b (rem a b) (by omega) hb (rem_vld a b ha (vld_len hb))
      exact ⟨d1, fun _ => d2 (.inl h0), by omega⟩
theorem co_monic (c : List UInt8) (i : Nat) : co (monic c) i = gmul (ginv (co c (c.length - 1))) (co c i) := by
  unfold monic
  split
  · rename_i h
    rw [co_nil, co_big c i (by omega), gmul_zero]
  · rw [co_addAt _ _ _ _ (by rw [List.length_replicate]; omega), co_replicate, UInt8.zero_xor, if_pos (Nat.zero_le _), Nat.sub_zero, lastOf_co]
theorem monic_top (c : List UInt8) (hc : vld c = true) (h : 0 < c.length) : co (monic c) ((monic c).length - 1) = 1 := by
  rw [monic_length, co_monic, ginv_mul _ (vld_top c hc h)]
theorem monic_vld (c : List UInt8) (hc : vld c = true) : vld (monic c) = true := by
  have h255 := vld_len hc
  refine vld_of_top _ (by rw [monic_length]; exact h255) (fun h => ?_)
  rw [monic_length] at h
  rw [monic_top c hc h]
  decide
theorem monic_dv (c x : List UInt8) (hc : vld c = true) (h : 0 < c.length) (hd : Dv c x) : Dv (monic c) x := by
  obtain ⟨k, hk⟩ := hd
  refine ⟨mulV [co c (c.length - 1)] k, fun i => ?_⟩
  rw [hk, cv_congr (co_mulV _ _) (co_monic c), cv_mul_right]
  have e : ∀ j, cv (co [co c (c.length - 1)]) (co k) j = gmul (co c (c.length - 1)) (co k j) := fun j => by
    rw [cv_cons]
    cases j with
    | zero => simp [shift]
    | succ j => simp [shift, cv_nil]
  rw [cv_congr e (fun _ => rfl), cv_mul_left, ← gmul_assoc, ginv_mul _ (vld_top c hc h), one_gmul]
theorem top_of (f : Nat → UInt8) : ∀ n, (∀ i, n ≤ i → f i = 0) → (∀ i, f i = 0) ∨ ∃ d, f d ≠ 0 ∧ ∀ i, d < i → f i = 0 := by
  intro n
  induction n with
  | zero => intro h; exact .inl fun i => h i (Nat.zero_le _)
  | succ n ih =>
    intro h
    by_cases h0 : f n = 0
    · exact ih fun i hi => by
        rcases Nat.eq_or_lt_of_le hi with e | e
        · rw [← e]; exact h0
        · exact h i e
    · exact .inr ⟨n, h0, fun i hi => h i hi⟩
/-- where c divides x, nothing is left -/
theorem rem_of_dv (x c : List UInt8) (hx : vld x = true) (hc : vld c = true) (h : 0 < c.length) (hd : Dv c x) : rem x c = [] := by
  obtain ⟨k, hk⟩ := hd
  have hne := vld_top c hc h
  have hlt := rem_lt x c h
  have hr : ∀ i, co (rem x c) i = cv (co (addV k (quo x c))) (co c) i := fun i => by
    rw [cv_congr (co_addV k (quo x c)) (fun _ => rfl), cv_add_left, ← hk]
    exact xor_cancel _ _ _ (div_co x c h hne i)
  have hz : ∀ i, co (rem x c) i = 0 := by
    rcases top_of (co (addV k (quo x c))) _ (fun i hi => co_big _ i hi) with h0 | ⟨d, h0, h1⟩
    · intro i
      rw [hr i, cv_congr (f' := co []) h0 (fun _ => rfl), cv_nil]
    · exfalso
      have hdl : d < (addV k (quo x c)).length := by
        rcases Nat.lt_or_ge d (addV k (quo x c)).length with hl | hl
        · exact hl
        · exact absurd (co_big _ d hl) h0
      have hlen : ((addV k (quo x c)).take (d + 1)).length = d + 1 := by rw [List.length_take]; omega
      have hco : ∀ i, co ((addV k (quo x c)).take (d + 1)) i = co (addV k (quo x c)) i := fun i => by
        rw [co_take]
        split
        · rfl
        · rw [h1 i (by omega)]
      have ht := cv_top ((addV k (quo x c)).take (d + 1)) c (by omega) h
      rw [hlen, Nat.add_sub_cancel, hco, cv_congr hco (fun _ => rfl), ← hr, co_big (rem x c) _ (by omega)] at ht
      exact gmul_ne _ _ h0 hne ht.symm
  exact vld_ext _ _ (rem_vld x c hx (vld_len hc)) rfl (fun i => by rw [hz i]; rfl)
end Po
end Go.Proofs.YtkolmppfhpcdpaaDoor

/- Roots of polynomials, in plain Lean: a product of x - r has just these, a polynomial has fewer than it has coefficients. -/
import Derived.Test.YtkolmppfhpcdpaaDoorPolyQ
import Derived.Test.YtkolmppfhpcdpaaDoorPolyE
namespace Go.Proofs.YtkolmppfhpcdpaaDoor
namespace Po
open Gf
theorem eval_lin (r x : UInt8) : eval [r, 1] x = x ^^^ r := by
  rw [eval_cons, eval_cons, eval_nil, zero_gmul, UInt8.zero_xor, one_gmul]
theorem eval_one (x : UInt8) : eval [1] x = 1 := by
  rw [eval_cons, eval_nil, zero_gmul, UInt8.zero_xor]
theorem xor_eq0 (a b : UInt8) : a ^^^ b = 0 ↔ a = b := UInt8.xor_eq_zero_iff
theorem gmul_eq0 (a b : UInt8) : gmul a b = 0 ↔ a = 0 ∨ b = 0 := by
  constructor
  · intro h
    by_cases ha : a = 0
    · exact .inl ha
    · by_cases hb : b = 0
      · exact .inr hb
      · exact absurd h (gmul_ne a b ha hb)
  · rintro (rfl | rfl)
    · exact zero_gmul _
    · exact gmul_zero _
theorem vld_lin (r : UInt8) : vld [r, 1] = true := vld_last [r, 1] 1 (by simp) rfl
theorem eval_times (l : List UInt8) (r x : UInt8) : eval (mulV l [r, 1]) x = 0 ↔ eval l x = 0 ∨ x = r := by
  rw [eval_mulV, eval_lin, gmul_eq0, xor_eq0]
theorem eval_der_times (l : List UInt8) (r x : UInt8) (hl : l.length ≤ 12) (h0 : eval l x = 0) (h : x = r ∨ eval (derR l) x = 0) : eval (derR (mulV l [r, 1])) x = 0 := by
  rw [law_leibniz l [r, 1] hl (by simp), eval_addV, eval_mulV, eval_mulV, eval_lin, h0, zero_gmul, UInt8.xor_zero, gmul_eq0]
  rcases h with h | h
  · exact .inr ((xor_eq0 _ _).2 h)
  · exact .inl h
theorem rootsTo_pre (l : List UInt8) : ∀ d k, ∃ t, rootsTo l (k + d) = rootsTo l k ++ t := by
  intro d
  induction d with
  | zero => intro k; exact ⟨[], by simp⟩
  | succ d ih =>
    intro k
    obtain ⟨t, ht⟩ := ih k
    rw [show k + (d + 1) = (k + d) + 1 by omega, rootsTo, ht]
    split
    · exact ⟨_, List.append_assoc _ _ _⟩
    · exact ⟨t, rfl⟩
theorem rootsTo_at (l : List UInt8) (x : Nat) (hx : x < 256) (h : eval l (UInt8.ofNat x) = 0) : (rootsTo l 256)[(rootsTo l x).length]? = some (UInt8.ofNat x) := by
  obtain ⟨t, ht⟩ := rootsTo_pre l (256 - (x + 1)) (x + 1)
  rw [show x + 1 + (256 - (x + 1)) = 256 by omega] at ht
  rw [ht, rootsTo, if_pos h, List.append_assoc, List.getElem?_append_right (Nat.le_refl _), Nat.sub_self]
  rfl
theorem rootsTo_mem (l : List UInt8) : ∀ k, k ≤ 256 → ∀ y ∈ rootsTo l k, eval l y = 0 ∧ y.toNat < k := by
  intro k
  induction k with
  | zero => intro _ y hy; cases hy
  | succ k ih =>
    intro hk y hy
    rw [rootsTo] at hy
    split at hy
    · rename_i h
      rcases List.mem_append.1 hy with h1 | h1
      · exact ⟨(ih (by omega) y h1).1, by have := (ih (by omega) y h1).2; omega⟩
      · rw [List.mem_singleton] at h1
        subst h1
        exact ⟨h, by rw [UInt8.toNat_ofNat']; omega⟩
    · exact ⟨(ih (by omega) y hy).1, by have := (ih (by omega) y hy).2; omega⟩
theorem rootsTo_nodup (l : List UInt8) : ∀ k, k ≤ 256 → (rootsTo l k).Nodup := by
  intro k
  induction k with
  | zero => intro _; exact List.nodup_nil
  | succ k ih =>
    intro hk
    rw [rootsTo]
    split
    · refine List.nodup_append.2 ⟨ih (by omega), List.nodup_cons.2 ⟨by simp, List.nodup_nil⟩, fun a ha b hb e => ?_⟩
      rw [List.mem_singleton] at hb
      have := (rootsTo_mem l k (by omega) a ha).2
      rw [e, hb, UInt8.toNat_ofNat'] at this
      omega
    · exact ih (by omega)
theorem eval_zero_of (l : List UInt8) (h : ∀ i, co l i = 0) (x : UInt8) : eval l x = 0 := by
  rw [eval_ext l [] (fun i => by rw [h i]; rfl) x, eval_nil]
theorem roots_lt : ∀ (n : Nat) (q rs : List UInt8), q.length = n → vld q = true → 0 < n → rs.Nodup → (∀ r ∈ rs, eval q r = 0) → rs.length < n := by
  intro n
  induction n with
  | zero => intro q rs _ _ h; omega
  | succ n ih =>
    intro q rs hq hv _ hnd hr
    match rs, hnd, hr with
    | [], _, _ => simp
    | r :: rs, hnd, hr =>
      have hr0 := hr r (by simp)
      rw [List.nodup_cons] at hnd
      have hdl : ([r, 1] : List UInt8).length = 2 := rfl
      have hne : co [r, 1] (([r, 1] : List UInt8).length - 1) ≠ 0 := by
        show (1 : UInt8) ≠ 0
        decide
      have hco := div_co q [r, 1] (by simp) hne
      have hrem := rem_lt q [r, 1] (by simp)
      have hev : ∀ x, eval q x = eval (rem q [r, 1]) x ^^^ gmul (eval (quo q [r, 1]) x) (x ^^^ r) := fun x => by
        rw [← eval_lin r x, ← eval_mulV, ← eval_addV]
        exact eval_ext _ _ (fun i => by rw [co_addV, co_mulV, ← hco]) x
      have h1 : eval (rem q [r, 1]) r = 0 := by
        have := hev r
        rw [hr0, UInt8.xor_self, gmul_zero, UInt8.xor_zero] at this
        exact this.symm
      have h2 : ∀ i, co (rem q [r, 1]) i = 0 := by
        match hm : rem q [r, 1], hrem, h1 with
        | [], _, _ => intro i; rfl
        | [a], _, h1 =>
          rw [eval_cons, eval_nil, zero_gmul, UInt8.zero_xor] at h1
          subst h1
          intro i
          cases i <;> simp [co]
        | a :: b :: t, hl, _ => simp at hl; omega
      rcases Nat.lt_or_ge q.length 2 with h3 | h3
      · exfalso
        have hq1 : q.length = 1 := by omega
        have : rem q [r, 1] = q := by unfold rem; rw [if_pos (by simpa using h3)]
        rw [this] at h2
        exact vld_top q hv (by omega) (h2 _)
      · have hql : (quo q [r, 1]).length = n := by
          unfold quo dvAll
          rw [if_neg (by simp; omega), (dv_len q [r, 1] _ _).2, hdl]
          omega
        have := ih (quo q [r, 1]) rs hql (quo_vld q [r, 1] hv (by simp) hne) (by omega) hnd.2 (fun s hs => by
          have e := hev s
          rw [hr s (by simp [hs]), eval_zero_of _ h2, UInt8.zero_xor] at e
          rcases (gmul_eq0 _ _).1 e.symm with e1 | e1
          · exact e1
          · exact absurd ((xor_eq0 _ _).1 e1 ▸ hs) hnd.1)
        simp
        omega
theorem few_roots (q : List UInt8) (hv : vld q = true) (h : 0 < q.length) : (rootsR q).length < q.length := by
  unfold rootsR
  rw [hv, decide_eq_true h]
  exact roots_lt q.length q _ rfl hv h (rootsTo_nodup q 256 (Nat.le_refl _)) (fun r hr => (rootsTo_mem q 256 (Nat.le_refl _) r hr).1)
end Po
end Go.Proofs.YtkolmppfhpcdpaaDoor

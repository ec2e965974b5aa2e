/- Sums and products of valid polynomials, their roots, in plain Lean. -/
import Derived.Test.YtkolmppfhpcdpaaDoorPolyM
namespace Go.Proofs.YtkolmppfhpcdpaaDoor
namespace Po
open Gf
def addV (p q : List UInt8) : List UInt8 := trim (padd p q)
def mulV (p q : List UInt8) : List UInt8 := if mulB p q then [] else mulA p q
theorem addR_ok {p q : List UInt8} (h : vld p = true) (h' : vld q = true) : addR p q = addV p q := by unfold addR; rw [h, h']; rfl
theorem co_addV (p q : List UInt8) (i : Nat) : co (addV p q) i = co p i ^^^ co q i := by unfold addV; rw [co_trim, co_padd]
theorem addV_len (p q : List UInt8) : (addV p q).length ≤ max p.length q.length := by
  unfold addV
  rw [trim_length]
  have := tl_le (padd p q) (padd p q).length
  rw [padd_length] at this
  rw [padd_length]
  exact this
theorem addV_vld (p q : List UInt8) (hp : p.length ≤ 255) (hq : q.length ≤ 255) : vld (addV p q) = true := trim_vld _ (by rw [padd_length]; omega)
theorem mulV_len (p q : List UInt8) : (mulV p q).length ≤ p.length + q.length - 1 := by
  unfold mulV
  split
  · exact Nat.zero_le _
  · unfold mulA
    rw [mulTo_length]
    exact Nat.le_refl _
theorem mulV_pos (p q : List UInt8) (hp : 0 < p.length) (hq : 0 < q.length) : mulV p q = mulA p q := by
  unfold mulV mulB
  rw [decide_eq_false (by omega), decide_eq_false (by omega)]
  rfl
theorem mulV_empty (p q : List UInt8) (h : p.length = 0 ∨ q.length = 0) : mulV p q = [] := by
  unfold mulV mulB
  rcases h with h | h
  · rw [decide_eq_true h]; rfl
  · rw [decide_eq_true h, Bool.or_true]; rfl
theorem co_mulV (p q : List UInt8) (n : Nat) : co (mulV p q) n = cv (co p) (co q) n := by
  rcases Nat.eq_zero_or_pos p.length with h | h
  · rw [mulV_empty p q (.inl h), List.eq_nil_of_length_eq_zero h, cv_nil]
    rfl
  · rcases Nat.eq_zero_or_pos q.length with h' | h'
    · rw [mulV_empty p q (.inr h'), List.eq_nil_of_length_eq_zero h', cv_comm, cv_nil]
      rfl
    · rw [mulV_pos p q h h', co_mulA p q h']
theorem sumX_single (f : Nat → UInt8) (n k : Nat) (hk : k < n) (h : ∀ i, i < n → i ≠ k → f i = 0) : sumX f n = f k := by
  induction n with
  | zero => omega
  | succ n ih =>
    rw [sumX]
    by_cases e : k = n
    · subst e
      rw [sumX_congr (g := fun _ => 0) (fun i hi => h i (by omega) (by omega)), sumX_zero, UInt8.zero_xor]
    · rw [ih (by omega) (fun i h1 h2 => h i (by omega) h2), h n (by omega) (fun x => e x.symm), UInt8.xor_zero]
theorem cv_top (p q : List UInt8) (hp : 0 < p.length) (hq : 0 < q.length) : cv (co p) (co q) (p.length + q.length - 2) = gmul (co p (p.length - 1)) (co q (q.length - 1)) := by
  unfold cv
  rw [sumX_single _ _ (p.length - 1) (by omega) (fun i hi hne => ?_)]
  · rw [show p.length + q.length - 2 - (p.length - 1) = q.length - 1 from by omega]
  · rcases Nat.lt_or_ge i p.length with h | h
    · rw [co_big q _ (by omega), gmul_zero]
    · rw [co_big p i h, zero_gmul]
theorem vld_of_top (l : List UInt8) (hl : l.length ≤ 255) (h : 0 < l.length → co l (l.length - 1) ≠ 0) : vld l = true := by
  unfold vld
  rw [decide_eq_true hl, Bool.true_and, bne_iff_ne, List.getLast?_eq_getElem?]
  intro e
  rcases Nat.eq_zero_or_pos l.length with h0 | h0
  · rw [List.getElem?_eq_none (by omega)] at e
    cases e
  · apply h h0
    unfold co
    rw [e]
    rfl
theorem mulA_vld (p q : List UInt8) (hp : vld p = true) (hq : vld q = true) (hp0 : 0 < p.length) (hq0 : 0 < q.length) (hl : p.length + q.length - 1 ≤ 255) : vld (mulA p q) = true := by
  have hlen : (mulA p q).length = p.length + q.length - 1 := by unfold mulA; rw [mulTo_length]
  refine vld_of_top _ (by rw [hlen]; exact hl) (fun _ => ?_)
  rw [hlen, show p.length + q.length - 1 - 1 = p.length + q.length - 2 from by omega, co_mulA p q hq0, cv_top p q hp0 hq0]
  exact gmul_ne _ _ (vld_top p hp hp0) (vld_top q hq hq0)
theorem mulV_vld (p q : List UInt8) (hp : vld p = true) (hq : vld q = true) (hl : p.length + q.length - 1 ≤ 255) : vld (mulV p q) = true := by
  rcases Nat.eq_zero_or_pos p.length with h | h
  · rw [mulV_empty p q (.inl h)]; rfl
  · rcases Nat.eq_zero_or_pos q.length with h' | h'
    · rw [mulV_empty p q (.inr h')]; rfl
    · rw [mulV_pos p q h h']
      exact mulA_vld p q hp hq h h' hl
theorem mulR_ok {p q : List UInt8} (h : vld p = true) (h' : vld q = true) (hl : p.length + q.length - 1 ≤ 255) : mulR p q = mulV p q ∧ mulE p q = 0 := by
  have hv : (vld p && vld q) = true := by rw [h, h']; rfl
  rcases Nat.eq_zero_or_pos p.length with h0 | h0
  · rw [mulV_empty p q (.inl h0)]
    exact mul_empty hv (.inl h0)
  · rcases Nat.eq_zero_or_pos q.length with h1 | h1
    · rw [mulV_empty p q (.inr h1)]
      exact mul_empty hv (.inr h1)
    · rw [mulV_pos p q h0 h1]
      exact mul_some hv h0 h1 hl
theorem derR_len (l : List UInt8) : (derR l).length ≤ l.length - 1 := by
  unfold derR
  split
  · exact Nat.zero_le _
  · rw [trim_length]
    have := tl_le (derA l) (derA l).length
    rw [derA_length] at this
    rw [derA_length]
    exact this
theorem derR_vld (l : List UInt8) : vld (derR l) = true := by
  unfold derR
  split
  · rfl
  · rename_i h
    exact trim_vld _ (by rw [derA_length]; omega)
theorem eval_addV (p q : List UInt8) (x : UInt8) : eval (addV p q) x = eval p x ^^^ eval q x := eval_add p q _ (co_addV p q) x
theorem eval_mulV (p q : List UInt8) (x : UInt8) : eval (mulV p q) x = gmul (eval p x) (eval q x) := eval_mul p q _ (co_mulV p q) x

/-! What PolyLaws says. -/
theorem law_distrib (p q r : List UInt8) (hp : p.length ≤ 12) (hq : q.length ≤ 12) (hr : r.length ≤ 12) (vr : vld r = true) :
    mulV (addV p q) r = addV (mulV p r) (mulV q r) := by
  have l1 := addV_len p q
  have l2 := mulV_len (addV p q) r
  have l3 := mulV_len p r
  have l4 := mulV_len q r
  refine vld_ext _ _ (mulV_vld _ _ (addV_vld p q (by omega) (by omega)) vr (by omega)) (addV_vld _ _ (by omega) (by omega)) (fun i => ?_)
  rw [co_mulV, co_addV, co_mulV, co_mulV, cv_congr (fun i => co_addV p q i) (fun _ => rfl), cv_add_left]
theorem law_leibniz (p r : List UInt8) (hp : p.length ≤ 12) (hr : r.length ≤ 12) :
    derR (mulV p r) = addV (mulV (derR p) r) (mulV p (derR r)) := by
  have l1 := mulV_len p r
  have l2 := mulV_len (derR p) r
  have l3 := mulV_len p (derR r)
  have l4 := derR_len p
  have l5 := derR_len r
  refine vld_ext _ _ (derR_vld _) (addV_vld _ _ (by omega) (by omega)) (fun i => ?_)
  rw [co_derR _ (by omega), co_addV, co_mulV, co_mulV, dF_congr (co_mulV p r), leibniz, cv_congr (fun i => (co_derR p (by omega) i).symm) (fun _ => rfl), cv_congr (f := co p) (fun _ => rfl) (fun i => (co_derR r (by omega) i).symm)]
end Po
end Go.Proofs.YtkolmppfhpcdpaaDoor

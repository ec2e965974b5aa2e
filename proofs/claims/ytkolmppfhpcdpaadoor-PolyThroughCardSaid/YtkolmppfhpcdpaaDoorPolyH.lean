/- Long division of lists of bytes, in plain Lean: the rounds. -/
import Derived.Test.YtkolmppfhpcdpaaDoorPoly
namespace Go.Proofs.YtkolmppfhpcdpaaDoor
namespace Po
theorem addTo_take (l r : List UInt8) (t : UInt8) (i m : Nat) : ∀ k, i + k ≤ m → addTo (l.take m) r t i k = (addTo l r t i k).take m := by
  intro k
  induction k with
  | zero => intro _; rfl
  | succ k ih =>
    intro hk
    rw [addTo, addTo, ih (by omega), List.take_set, List.getElem?_take, if_pos (by omega)]
theorem addAt_take (l r : List UInt8) (t : UInt8) (i m : Nat) (h : i + r.length ≤ m) : addAt (l.take m) r t i = (addAt l r t i).take m := addTo_take l r t i m r.length h
/-- so many rounds of a division of p by q, the inverse of q's last element at hand: what is left of p, and the quotient -/
def dv (p q : List UInt8) (lead : UInt8) : Nat → List UInt8 × List UInt8
  | 0 => (p, List.replicate (p.length - q.length + 1) 0)
  | j + 1 =>
    (addAt (dv p q lead j).1 q (Gf.gmul ((dv p q lead j).1[p.length - q.length - j + q.length - 1]?.getD 0) lead) (p.length - q.length - j),
     (dv p q lead j).2.set (p.length - q.length - j) (Gf.gmul ((dv p q lead j).1[p.length - q.length - j + q.length - 1]?.getD 0) lead))
theorem dv_len (p q : List UInt8) (lead : UInt8) : ∀ j, (dv p q lead j).1.length = p.length ∧ (dv p q lead j).2.length = p.length - q.length + 1 := by
  intro j
  induction j with
  | zero => exact ⟨rfl, List.length_replicate⟩
  | succ j ih => exact ⟨by rw [dv, addAt_length, ih.1], by rw [dv, List.length_set, ih.2]⟩
theorem dv_succ (p q : List UInt8) (lead : UInt8) (j n m at_ : Nat) (b : UInt8) (hn : p.length = n) (hm : q.length = m) (ha : at_ = n - m - j) (hb : (dv p q lead j).1[at_ + m - 1]? = some b) :
    (dv p q lead (j + 1)).1 = addAt (dv p q lead j).1 q (Gf.gmul b lead) at_ ∧ (dv p q lead (j + 1)).2 = (dv p q lead j).2.set at_ (Gf.gmul b lead) := by
  subst hn hm ha
  rw [dv, hb]
  exact ⟨rfl, rfl⟩
def lastOf (q : List UInt8) : UInt8 := q[q.length - 1]?.getD 0
def dvAll (p q : List UInt8) : List UInt8 × List UInt8 := dv p q (Gf.ginv (lastOf q)) (p.length - q.length + 1)
def quo (p q : List UInt8) : List UInt8 := if p.length < q.length then [] else (dvAll p q).2
def rem (p q : List UInt8) : List UInt8 := if p.length < q.length then p else trim ((dvAll p q).1.take (q.length - 1))
theorem rem_lt (p q : List UInt8) (h : 0 < q.length) : (rem p q).length < q.length := by
  unfold rem
  split
  · assumption
  · rw [trim_length]
    have h1 := tl_le ((dvAll p q).1.take (q.length - 1)) ((dvAll p q).1.take (q.length - 1)).length
    have h2 : ((dvAll p q).1.take (q.length - 1)).length ≤ q.length - 1 := List.length_take_le _ _
    omega
theorem rem_le (p q : List UInt8) (k : Nat) (hp : p.length ≤ k) (hq : q.length ≤ k) : (rem p q).length ≤ k := by
  unfold rem
  split
  · exact hp
  · rw [trim_length]
    have h1 := tl_le ((dvAll p q).1.take (q.length - 1)) ((dvAll p q).1.take (q.length - 1)).length
    have h2 : ((dvAll p q).1.take (q.length - 1)).length ≤ q.length - 1 := List.length_take_le _ _
    omega
theorem quo_length (p q : List UInt8) : (quo p q).length ≤ p.length + 1 := by
  unfold quo
  split
  · exact Nat.zero_le _
  · unfold dvAll
    rw [(dv_len p q _ _).2]
    omega
/-- Euclid's rounds, so many at most -/
def gcdF : Nat → List UInt8 → List UInt8 → List UInt8
  | 0, a, _ => a
  | f + 1, a, b => if b.length = 0 then a else gcdF f b (rem a b)
theorem gcdF_more : ∀ (f : Nat) (a b : List UInt8), b.length ≤ f → gcdF f a b = gcdF b.length a b := by
  intro f
  induction f using Nat.strongRecOn with
  | _ f ih =>
    intro a b h
    match f, h with
    | 0, h => rw [Nat.le_zero.1 h]
    | f + 1, h =>
      rcases Nat.eq_zero_or_pos b.length with h0 | h0
      · rw [gcdF, if_pos h0, h0]
        rfl
      · have hr := rem_lt a b h0
        obtain ⟨k, hk⟩ : ∃ k, b.length = k + 1 := ⟨b.length - 1, by omega⟩
        rw [gcdF, if_neg (by omega), ih f (by omega) b (rem a b) (by omega)]
        conv => rhs; rw [hk, gcdF, if_neg (by omega)]
        rw [ih k (by omega) b (rem a b) (by omega)]
theorem gcd_end (a b : List UInt8) (h : b.length = 0) : gcdF b.length a b = a := by
  rw [h]
  rfl
theorem gcd_step (a b : List UInt8) (h : 0 < b.length) : gcdF b.length a b = gcdF (rem a b).length b (rem a b) := by
  have hr := rem_lt a b h
  obtain ⟨k, hk⟩ : ∃ k, b.length = k + 1 := ⟨b.length - 1, by omega⟩
  conv => lhs; rw [hk, gcdF, if_neg (by omega)]
  exact gcdF_more k b (rem a b) (by omega)
/-- with 1 as its last element -/
def monic (a : List UInt8) : List UInt8 := if a.length = 0 then [] else addAt (List.replicate a.length 0) a (Gf.ginv (lastOf a)) 0
theorem monic_length (a : List UInt8) : (monic a).length = a.length := by
  unfold monic
  split
  · rename_i h; rw [h]; rfl
  · rw [addAt_length, List.length_replicate]
def gcdR (p q : List UInt8) : List UInt8 := if vld p && vld q then monic (gcdF q.length p q) else []
def divE (p q : List UInt8) : Int := if vld p && vld q then (if q.length = 0 then 4 else 0) else 1
def divQ (p q : List UInt8) : List UInt8 := if (vld p && vld q) && decide (0 < q.length) then quo p q else []
def divR (p q : List UInt8) : List UInt8 := if (vld p && vld q) && decide (0 < q.length) then rem p q else []
theorem div_no {p q : List UInt8} (h : (vld p && vld q) = false) : divQ p q = [] ∧ divR p q = [] ∧ divE p q = 1 := by
  unfold divQ divR divE
  rw [h]
  exact ⟨rfl, rfl, rfl⟩
theorem div_zero {p q : List UInt8} (h : (vld p && vld q) = true) (h0 : q.length = 0) : divQ p q = [] ∧ divR p q = [] ∧ divE p q = 4 := by
  unfold divQ divR divE
  rw [h, decide_eq_false (by omega)]
  exact ⟨rfl, rfl, by simp [h0]⟩
theorem div_some {p q : List UInt8} (h : (vld p && vld q) = true) (h0 : 0 < q.length) : divQ p q = quo p q ∧ divR p q = rem p q ∧ divE p q = 0 := by
  unfold divQ divR divE
  rw [h, decide_eq_true h0]
  refine ⟨rfl, rfl, ?_⟩
  rw [if_pos rfl, if_neg (by omega)]
end Po
end Go.Proofs.YtkolmppfhpcdpaaDoor

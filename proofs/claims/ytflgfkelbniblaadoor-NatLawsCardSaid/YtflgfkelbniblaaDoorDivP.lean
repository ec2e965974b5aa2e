/- Long division, in plain Lean: the guess of a digit, what is taken away and given back. -/
import Derived.Test.YtflgfkelbniblaaDoorNatP
namespace Go.Proofs.YtflgfkelbniblaaDoor
set_option linter.unusedVariables false
namespace Na
/-- what a loop of the guess keeps: q is the digit, t the two highest limbs, v1 the highest one of the divisor -/
def Gue (q t v1 guess rest : Nat) : Prop := guess * v1 + rest = t ∧ q ≤ guess ∧ guess ≤ 16777217 ∧ (16777216 ≤ rest → guess ≤ 16777216)
/-- the numbers of one round: U of n + 1 limbs, V of n, P is base to the power of n - 2 -/
structure Rnd (U V P u0 u1 u2 Ul v1 v2 Vl : Nat) : Prop where
  hU : U = ((u0 * 16777216 + u1) * 16777216 + u2) * P + Ul
  hUl : Ul < P
  hV : V = (v1 * 16777216 + v2) * P + Vl
  hVl : Vl < P
  h1 : u1 < 16777216
  h2 : u2 < 16777216
  k1 : v1 < 16777216
  k2 : v2 < 16777216
  hi : 8388608 ≤ v1
  lt : U < 16777216 * V
section
variable {U V P u0 u1 u2 Ul v1 v2 Vl : Nat}
theorem Rnd.pos (h : Rnd U V P u0 u1 u2 Ul v1 v2 Vl) : 0 < V := by
  have h1 := h.lt
  rcases Nat.eq_zero_or_pos V with e | e
  · rw [e] at h1; omega
  · exact e
theorem Rnd.qlt (h : Rnd U V P u0 u1 u2 Ul v1 v2 Vl) : U / V < 16777216 := by
  rw [Nat.div_lt_iff_lt_mul h.pos]
  exact h.lt
theorem Rnd.topU (h : Rnd U V P u0 u1 u2 Ul v1 v2 Vl) : u0 ≤ v1 := by
  rcases Nat.lt_or_ge v1 u0 with hc | hc
  · exfalso
    have e1 : (v1 + 1) * (16777216 * 16777216 * P) ≤ u0 * (16777216 * 16777216 * P) := Nat.mul_le_mul_right _ hc
    have e2 : u0 * (16777216 * 16777216 * P) ≤ U := by
      rw [h.hU, Nat.add_mul, Nat.add_mul, Nat.add_mul, Nat.mul_assoc (u0 * 16777216), Nat.mul_assoc u0, ← Nat.mul_assoc 16777216 16777216 P]
      omega
    have e3 : 16777216 * V ≤ (v1 + 1) * (16777216 * 16777216 * P) := by
      have e4 : V ≤ (v1 + 1) * (16777216 * P) := by
        have e5 : v2 * P + P ≤ 16777216 * P := by
          have := Nat.mul_le_mul_right P (show v2 + 1 ≤ 16777216 by have := h.k2; omega)
          rw [Nat.add_mul, Nat.one_mul] at this
          exact this
        have e6 := h.hV
        have e7 := h.hVl
        rw [Nat.add_mul, Nat.mul_assoc] at e6
        rw [Nat.add_mul, Nat.one_mul]
        omega
      have := Nat.mul_le_mul_left 16777216 e4
      rw [Nat.mul_left_comm] at this
      rw [Nat.mul_assoc 16777216 16777216 P]
      exact this
    have := h.lt
    omega
  · exact hc
theorem Rnd.start (h : Rnd U V P u0 u1 u2 Ul v1 v2 Vl) : Gue (U / V) (u0 * 16777216 + u1) v1 ((u0 * 16777216 + u1) / v1) ((u0 * 16777216 + u1) % v1) := by
  have hv : 0 < v1 := by have := h.hi; omega
  have hm := Nat.mod_lt (u0 * 16777216 + u1) hv
  have hP : 0 < P := by have := h.hVl; omega
  refine ⟨by rw [Nat.mul_comm]; exact Nat.div_add_mod _ _, ?_, ?_, fun h1 => by have := h.k1; omega⟩
  · rw [Nat.le_div_iff_mul_le hv]
    rcases Nat.lt_or_ge (u0 * 16777216 + u1) (U / V * v1) with hc | hc
    · exfalso
      have e1 : (u0 * 16777216 + u1 + 1) * (16777216 * P) ≤ U / V * v1 * (16777216 * P) := Nat.mul_le_mul_right _ hc
      have e2 : U / V * v1 * (16777216 * P) ≤ U / V * V := by
        rw [Nat.mul_assoc]
        refine Nat.mul_le_mul_left _ ?_
        have := h.hV
        rw [Nat.add_mul, Nat.mul_assoc] at this
        omega
      have e3 := Nat.div_mul_le_self U V
      have e4 : U < (u0 * 16777216 + u1 + 1) * (16777216 * P) := by
        have e5 : u2 * P + P ≤ 16777216 * P := by
          have := Nat.mul_le_mul_right P (show u2 + 1 ≤ 16777216 by have := h.h2; omega)
          rw [Nat.add_mul, Nat.one_mul] at this
          exact this
        have e6 := h.hU
        have e7 := h.hUl
        rw [Nat.add_mul, Nat.mul_assoc] at e6
        rw [Nat.add_mul, Nat.one_mul]
        omega
      omega
    · exact hc
  · have e1 := h.topU
    have e2 := h.hi
    have e3 := h.h1
    rw [← Nat.lt_succ_iff, Nat.div_lt_iff_lt_mul hv]
    have e4 : u0 * 16777216 ≤ v1 * 16777216 := Nat.mul_le_mul_right _ e1
    omega
theorem Rnd.next (h : Rnd U V P u0 u1 u2 Ul v1 v2 Vl) {guess rest : Nat} (hg : Gue (U / V) (u0 * 16777216 + u1) v1 guess rest) (hr : rest < 16777216) (hc : 16777216 ≤ guess ∨ rest * 16777216 + u2 < guess * v2) :
    1 ≤ guess ∧ Gue (U / V) (u0 * 16777216 + u1) v1 (guess - 1) (rest + v1) := by
  obtain ⟨g1, g2, g3, g4⟩ := hg
  have hlt : U / V < guess := by
    rcases hc with hc | hc
    · have := h.qlt; omega
    · rcases Nat.lt_or_ge (U / V) guess with hq | hq
      · exact hq
      · exfalso
        have e1 : guess * V ≤ U := Nat.le_trans (Nat.mul_le_mul_right V hq) (Nat.div_mul_le_self U V)
        have e2 : guess * ((v1 * 16777216 + v2) * P) ≤ guess * V := Nat.mul_le_mul_left _ (by have := h.hV; omega)
        have e3 : guess * (v1 * 16777216 + v2) = (guess * v1) * 16777216 + guess * v2 := by rw [Nat.mul_add, Nat.mul_assoc]
        have e4 : (u0 * 16777216 + u1) * 16777216 + u2 + 1 ≤ guess * (v1 * 16777216 + v2) := by
          rw [e3]
          have : (guess * v1 + rest) * 16777216 = (u0 * 16777216 + u1) * 16777216 := by rw [g1]
          omega
        have e5 := Nat.mul_le_mul_right P e4
        rw [Nat.add_mul _ 1, Nat.one_mul, Nat.mul_assoc guess] at e5
        have := h.hU
        have := h.hUl
        omega
  have hlt2 : 1 ≤ guess := Nat.lt_of_le_of_lt (Nat.zero_le _) hlt
  refine ⟨hlt2, ?_, Nat.le_sub_one_of_lt hlt, by omega, fun _ => by omega⟩
  obtain ⟨m, rfl⟩ : ∃ m, guess = m + 1 := ⟨guess - 1, by omega⟩
  rw [Nat.add_mul, Nat.one_mul] at g1
  show m * v1 + (rest + v1) = _
  omega
theorem Rnd.done (h : Rnd U V P u0 u1 u2 Ul v1 v2 Vl) {guess rest : Nat} (hg : Gue (U / V) (u0 * 16777216 + u1) v1 guess rest) (hc : 16777216 ≤ rest ∨ (guess < 16777216 ∧ guess * v2 ≤ rest * 16777216 + u2)) :
    U / V ≤ guess ∧ guess ≤ U / V + 1 ∧ guess ≤ 16777216 := by
  obtain ⟨g1, g2, g3, g4⟩ := hg
  have hP : 0 < P := by have := h.hVl; omega
  have hgb : guess ≤ 16777216 := by
    rcases hc with hc | ⟨hc, _⟩
    · exact g4 hc
    · omega
  refine ⟨g2, ?_, hgb⟩
  have hV0 := h.pos
  have hVP : 16777216 * P ≤ V := by
    have e1 := h.hV
    have e2 : 1 * (16777216 * P) ≤ v1 * (16777216 * P) := Nat.mul_le_mul_right _ (by have := h.hi; omega)
    rw [Nat.add_mul, Nat.mul_assoc] at e1
    omega
  have key : guess * V < U + V := by
    rcases hc with hc | ⟨_, hc⟩
    · -- guess * v1 ≤ top - base
      have e1 : guess * V ≤ guess * (v1 * (16777216 * P) + 16777216 * P) := by
        refine Nat.mul_le_mul_left _ ?_
        have e2 := h.hV
        have e3 := h.hVl
        have e4 : v2 * P + P ≤ 16777216 * P := by
          have := Nat.mul_le_mul_right P (show v2 + 1 ≤ 16777216 by have := h.k2; omega)
          rw [Nat.add_mul, Nat.one_mul] at this
          exact this
        rw [Nat.add_mul, Nat.mul_assoc] at e2
        omega
      have e2 : guess * (v1 * (16777216 * P) + 16777216 * P) ≤ (guess * v1) * (16777216 * P) + 16777216 * (16777216 * P) := by
        rw [Nat.mul_add, ← Nat.mul_assoc guess v1]
        have := Nat.mul_le_mul_right (16777216 * P) hgb
        omega
      have e3 : (guess * v1 + rest) * (16777216 * P) = (u0 * 16777216 + u1) * (16777216 * P) := by rw [g1]
      rw [Nat.add_mul] at e3
      have e4 := Nat.mul_le_mul_right (16777216 * P) hc
      have e5 := h.hU
      rw [Nat.add_mul, Nat.mul_assoc] at e5
      omega
    · have e1 : guess * V = guess * ((v1 * 16777216 + v2) * P) + guess * Vl := by rw [h.hV, Nat.mul_add]
      have e2 : guess * ((v1 * 16777216 + v2) * P) = (guess * v1 * 16777216 + guess * v2) * P := by rw [← Nat.mul_assoc, Nat.mul_add, Nat.mul_assoc]
      have e3 : (guess * v1 * 16777216 + guess * v2) * P ≤ ((u0 * 16777216 + u1) * 16777216 + u2) * P := by
        refine Nat.mul_le_mul_right _ ?_
        have : (guess * v1 + rest) * 16777216 = (u0 * 16777216 + u1) * 16777216 := by rw [g1]
        omega
      have e4 : guess * Vl ≤ 16777216 * Vl := Nat.mul_le_mul_right _ hgb
      have e5 := h.hVl
      have e6 := h.hU
      omega
  have e7 : guess * V < (U / V + 1 + 1) * V := by
    have e8 := Nat.div_add_mod U V
    have e9 := Nat.mod_lt U hV0
    rw [Nat.add_mul, Nat.add_mul, Nat.one_mul, Nat.mul_comm (U / V) V]
    omega
  have := Nat.lt_of_mul_lt_mul_right e7
  omega
end
/-- a multiple is taken away, limb by limb -/
theorem take_step (X Y o : List Nat) (t k bw d bw' : Nat) (ho : o.length = k) (h : val o + t * val (Y.take k) = val (X.take k) + 16777216 ^ k * bw) (hd : d + (bw + t * at0 Y k) = at0 X k + 16777216 * bw') :
    val (o ++ [d]) + t * val (Y.take (k + 1)) = val (X.take (k + 1)) + 16777216 ^ (k + 1) * bw' := by
  rw [val_snoc, ho, val_take_at0, val_take_at0, Nat.pow_succ, Nat.mul_add]
  have e1 : 16777216 ^ k * (d + (bw + t * at0 Y k)) = 16777216 ^ k * (at0 X k + 16777216 * bw') := by rw [hd]
  rw [Nat.mul_add, Nat.mul_add, Nat.mul_add, ← Nat.mul_assoc _ 16777216] at e1
  have e2 : t * (16777216 ^ k * at0 Y k) = 16777216 ^ k * (t * at0 Y k) := Nat.mul_left_comm ..
  omega
theorem take_borrow {t bw y x d bw' : Nat} (ht : t ≤ 16777216) (hb : bw ≤ 16777216) (hy : y < 16777216) (hd : d < 16777216) (h : d + (bw + t * y) = x + 16777216 * bw') : bw' ≤ 16777216 := by
  have e1 : t * y ≤ 16777216 * y := Nat.mul_le_mul_right _ ht
  omega
theorem take_end {X Y o : List Nat} {t n bw : Nat} (hl : Lim o) (ho : o.length = n) (h : val o + t * val (Y.take n) = val (X.take n) + 16777216 ^ n * bw) (hX : X.length ≤ n) (hY : Y.length ≤ n) :
    (val X < t * val Y → 0 < bw) ∧ (t * val Y ≤ val X → bw = 0 ∧ val o = val X - t * val Y) := by
  rw [List.take_of_length_le hX, List.take_of_length_le hY] at h
  have hlt := val_lt hl
  rw [ho] at hlt
  refine ⟨fun h1 => ?_, fun h1 => ?_⟩
  · rcases Nat.eq_zero_or_pos bw with rfl | hb
    · rw [Nat.mul_zero] at h; omega
    · exact hb
  · have : bw = 0 := by
      rcases Nat.eq_zero_or_pos bw with hb | hb
      · exact hb
      · have h2 := Nat.mul_le_mul_left (16777216 ^ n) hb
        rw [Nat.mul_one] at h2
        omega
    subst this
    rw [Nat.mul_zero] at h
    exact ⟨rfl, by omega⟩
/-- one time too often: what is given back makes up for it -/
theorem give_end {X Y o o' : List Nat} {t n bw cr : Nat} (hl : Lim o) (ho : o.length = n) (hl' : Lim o') (ho' : o'.length = n) (h : val o + (t + 1) * val (Y.take n) = val (X.take n) + 16777216 ^ n * bw)
    (hX : X.length ≤ n) (hY : Y.length ≤ n) (hb : 0 < bw) (hYv : val Y ≤ 16777216 ^ n) (ht : t * val Y ≤ val X) (hr : val X < (t + 1) * val Y) (h2 : val o' + 16777216 ^ n * cr = val o + val Y) : val o' = val X - t * val Y := by
  rw [List.take_of_length_le hX, List.take_of_length_le hY] at h
  have k1 := val_lt hl
  have k2 := val_lt hl'
  rw [ho] at k1
  rw [ho'] at k2
  rw [Nat.add_mul, Nat.one_mul] at h hr
  have e0 : 16777216 ^ n * bw < 16777216 ^ n * 2 := by omega
  have e0' := Nat.lt_of_mul_lt_mul_left e0
  obtain rfl : bw = 1 := by omega
  rw [Nat.mul_one] at h
  have hcr : cr = 1 := by
    rcases Nat.eq_zero_or_pos cr with rfl | hc
    · rw [Nat.mul_zero] at h2; omega
    · have hlt : 16777216 ^ n * cr < 16777216 ^ n * 2 := by omega
      have := Nat.lt_of_mul_lt_mul_left hlt
      omega
  subst hcr
  omega
end Na
end Go.Proofs.YtflgfkelbniblaaDoor

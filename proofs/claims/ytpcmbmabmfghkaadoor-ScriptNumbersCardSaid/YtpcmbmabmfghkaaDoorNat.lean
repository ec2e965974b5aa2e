/- Natural numbers in limbs of 24 bits, in plain Lean. -/
import Derived.Test.YtpcmbmabmfghkaaDoorKit
namespace Go.Proofs.YtpcmbmabmfghkaaDoor
set_option linter.unusedVariables false
namespace Na
/-- the limbs of a number, the lowest first -/
def dig (x : Nat) : List Nat := if x = 0 then [] else (x % 16777216) :: dig (x / 16777216)
termination_by x
decreasing_by omega
/-- the number of some limbs -/
def val : List Nat → Nat
  | [] => 0
  | a :: l => a + 16777216 * val l
/-- limbs are small -/
def Lim (l : List Nat) : Prop := ∀ a ∈ l, a < 16777216
theorem dig_zero : dig 0 = [] := by unfold dig; rfl
theorem dig_pos (x : Nat) (h : 0 < x) : dig x = (x % 16777216) :: dig (x / 16777216) := by
  rw [dig, if_neg (by omega)]
theorem dig_small (x : Nat) (h : 0 < x) (h2 : x < 16777216) : dig x = [x] := by
  rw [dig_pos x h, Nat.mod_eq_of_lt h2, Nat.div_eq_of_lt h2, dig_zero]
theorem val_dig (x : Nat) : val (dig x) = x := by
  induction x using Nat.strongRecOn with
  | ind x ih =>
    rcases Nat.eq_zero_or_pos x with rfl | h
    · rw [dig_zero]; rfl
    · rw [dig_pos x h, val, ih _ (by omega)]
      omega
theorem dig_inj {x y : Nat} (h : dig x = dig y) : x = y := by rw [← val_dig x, h, val_dig]
theorem dig_lim (x : Nat) : Lim (dig x) := by
  induction x using Nat.strongRecOn with
  | ind x ih =>
    rcases Nat.eq_zero_or_pos x with rfl | h
    · rw [dig_zero]; intro a ha; cases ha
    · rw [dig_pos x h]
      intro a ha
      rcases List.mem_cons.1 ha with rfl | ha
      · omega
      · exact ih _ (by omega) a ha
theorem Lim.tail {a : Nat} {l : List Nat} (h : Lim (a :: l)) : Lim l := fun b hb => h b (List.mem_cons_of_mem _ hb)
theorem Lim.head {a : Nat} {l : List Nat} (h : Lim (a :: l)) : a < 16777216 := h a (List.mem_cons_self ..)
theorem Lim.at {l : List Nat} (h : Lim l) {k a : Nat} (hk : l[k]? = some a) : a < 16777216 := h a (List.mem_of_getElem? hk)
theorem Lim.nil : Lim [] := fun a h => by cases h
theorem Lim.cons {a : Nat} {l : List Nat} (h : a < 16777216) (hl : Lim l) : Lim (a :: l) := fun b hb => by
  rcases List.mem_cons.1 hb with rfl | hb
  · exact h
  · exact hl b hb
theorem Lim.append {l m : List Nat} (h : Lim l) (hm : Lim m) : Lim (l ++ m) := fun b hb => by
  rcases List.mem_append.1 hb with hb | hb
  · exact h b hb
  · exact hm b hb
theorem Lim.one {a : Nat} (h : a < 16777216) : Lim [a] := Lim.cons h Lim.nil
theorem Lim.take {l : List Nat} (h : Lim l) (k : Nat) : Lim (l.take k) := fun b hb => h b (List.mem_of_mem_take hb)
theorem Lim.drop {l : List Nat} (h : Lim l) (k : Nat) : Lim (l.drop k) := fun b hb => h b (List.mem_of_mem_drop hb)
theorem Lim.set {l : List Nat} (h : Lim l) (k : Nat) {a : Nat} (ha : a < 16777216) : Lim (l.set k a) := fun b hb => by
  rcases List.mem_or_eq_of_mem_set hb with hb | rfl
  · exact h b hb
  · exact ha
theorem Lim.zeros (n : Nat) : Lim (List.replicate n 0) := fun b hb => by
  have := List.eq_of_mem_replicate hb
  omega
theorem val_lt {l : List Nat} (h : Lim l) : val l < 16777216 ^ l.length := by
  induction l with
  | nil => simp [val]
  | cons a l ih =>
    have h1 := ih h.tail
    have h2 := h.head
    rw [val, List.length_cons, Nat.pow_succ]
    omega
theorem val_append (l m : List Nat) : val (l ++ m) = val l + 16777216 ^ l.length * val m := by
  induction l with
  | nil => simp [val]
  | cons a l ih =>
    rw [List.cons_append, val, val, ih, List.length_cons, Nat.pow_succ, Nat.mul_add, ← Nat.mul_assoc, Nat.mul_comm 16777216 (16777216 ^ l.length)]
    omega
theorem val_snoc (l : List Nat) (a : Nat) : val (l ++ [a]) = val l + 16777216 ^ l.length * a := by
  rw [val_append]; simp [val]
theorem val_zeros (n : Nat) : val (List.replicate n 0) = 0 := by
  induction n with
  | zero => rfl
  | succ n ih => rw [List.replicate_succ, val, ih]
theorem val_split (l : List Nat) (k : Nat) (h : k ≤ l.length) : val l = val (l.take k) + 16777216 ^ k * val (l.drop k) := by
  have h1 := val_append (l.take k) (l.drop k)
  rw [List.take_append_drop, List.length_take, Nat.min_eq_left h] at h1
  exact h1
theorem val_take_succ (l : List Nat) (k a : Nat) (h : l[k]? = some a) : val (l.take (k + 1)) = val (l.take k) + 16777216 ^ k * a := by
  have hlt : k < l.length := by
    rcases Nat.lt_or_ge k l.length with h1 | h1
    · exact h1
    · rw [List.getElem?_eq_none h1] at h; cases h
  rw [List.take_add_one, h, Option.toList_some, val_snoc, List.length_take, Nat.min_eq_left (by omega)]
theorem val_drop_cons (l : List Nat) (k a : Nat) (h : l[k]? = some a) : val (l.drop k) = a + 16777216 * val (l.drop (k + 1)) := by
  have hlt : k < l.length := by
    rcases Nat.lt_or_ge k l.length with h1 | h1
    · exact h1
    · rw [List.getElem?_eq_none h1] at h; cases h
  have ha : l[k] = a := by rw [List.getElem?_eq_getElem hlt] at h; exact Option.some.inj h
  rw [List.drop_eq_getElem_cons hlt, val, ha]
theorem val_set (l : List Nat) (k a b : Nat) (h : l[k]? = some a) : val (l.set k b) + 16777216 ^ k * a = val l + 16777216 ^ k * b := by
  induction l generalizing k with
  | nil => simp at h
  | cons c l ih =>
    cases k with
    | zero =>
      have hc : c = a := by simpa using h
      subst hc
      simp [val]
      omega
    | succ k =>
      have h1 := ih k (by simpa using h)
      rw [List.set_cons_succ, val, val, Nat.pow_succ, Nat.mul_comm (16777216 ^ k) 16777216, Nat.mul_assoc, Nat.mul_assoc]
      omega
/-- the length without zeros at the end -/
def tl (l : List Nat) : Nat → Nat
  | 0 => 0
  | n + 1 => if l[n]? = some 0 then tl l n else n + 1
theorem tl_le (l : List Nat) : ∀ n, tl l n ≤ n := by
  intro n
  induction n with
  | zero => exact Nat.le_refl _
  | succ n ih =>
    unfold tl
    split
    · omega
    · exact Nat.le_refl _
theorem tl_zero (l : List Nat) (n : Nat) (h : l[n]? = some 0) : tl l (n + 1) = tl l n := by rw [tl, if_pos h]
theorem tl_stop (l : List Nat) (n : Nat) (h : l[n]? ≠ some 0) : tl l (n + 1) = n + 1 := by rw [tl, if_neg h]
theorem tl_last (l : List Nat) : ∀ n, tl l n = 0 ∨ l[tl l n - 1]? ≠ some 0 := by
  intro n
  induction n with
  | zero => exact .inl rfl
  | succ n ih =>
    by_cases h : l[n]? = some 0
    · rw [tl_zero l n h]
      exact ih
    · rw [tl_stop l n h]
      exact .inr h
theorem val_tl (l : List Nat) : ∀ n, n ≤ l.length → val (l.take (tl l n)) = val (l.take n) := by
  intro n
  induction n with
  | zero => intro _; rfl
  | succ n ih =>
    intro hn
    by_cases h : l[n]? = some 0
    · rw [tl_zero l n h, ih (by omega), val_take_succ l n 0 h, Nat.mul_zero, Nat.add_zero]
    · rw [tl_stop l n h]
def trim (l : List Nat) : List Nat := l.take (tl l l.length)
theorem trim_length (l : List Nat) : (trim l).length = tl l l.length := by
  unfold trim
  rw [List.length_take]
  have := tl_le l l.length
  omega
/-- limbs without a zero at the end are those of their number -/
theorem dig_val {l : List Nat} (h : Lim l) (h0 : l.length = 0 ∨ l[l.length - 1]? ≠ some 0) : dig (val l) = l := by
  induction l with
  | nil => exact dig_zero
  | cons a l ih =>
    have ha := h.head
    rw [val]
    cases l with
    | nil =>
      have : a ≠ 0 := by simpa using h0
      rw [show a + 16777216 * val [] = a from by simp [val]]
      exact dig_small a (by omega) ha
    | cons b l =>
      have h1 : (b :: l).length = 0 ∨ (b :: l)[(b :: l).length - 1]? ≠ some 0 := by
        right
        rcases h0 with h0 | h0
        · simp at h0
        · simpa using h0
      have h2 := ih h.tail h1
      have hv : val (b :: l) ≠ 0 := by
        intro e
        rw [e, dig_zero] at h2
        cases h2
      rw [dig_pos _ (by omega), show (a + 16777216 * val (b :: l)) / 16777216 = val (b :: l) by omega, show (a + 16777216 * val (b :: l)) % 16777216 = a by omega, h2]
theorem dig_last (x : Nat) : (dig x).length = 0 ∨ (dig x)[(dig x).length - 1]? ≠ some 0 := by
  induction x using Nat.strongRecOn with
  | ind x ih =>
    rcases Nat.eq_zero_or_pos x with rfl | h
    · left; rw [dig_zero]; rfl
    · right
      have h1 := ih (x / 16777216) (by omega)
      rw [dig_pos x h]
      rcases h1 with h1 | h1
      · have h2 : dig (x / 16777216) = [] := List.eq_nil_of_length_eq_zero h1
        have h3 : x / 16777216 = 0 := by rw [← val_dig (x / 16777216), h2]; rfl
        rw [h2]
        simp
        omega
      · cases hd : dig (x / 16777216) with
        | nil =>
          have h3 : x / 16777216 = 0 := by rw [← val_dig (x / 16777216), hd]; rfl
          simp
          omega
        | cons b l =>
          rw [hd] at h1
          simpa using h1
theorem trim_dig {l : List Nat} (h : Lim l) : trim l = dig (val l) := by
  have h1 := val_tl l l.length (Nat.le_refl _)
  rw [List.take_length] at h1
  have h2 : (trim l).length = 0 ∨ (trim l)[(trim l).length - 1]? ≠ some 0 := by
    rw [trim_length]
    rcases tl_last l l.length with h2 | h2
    · exact .inl h2
    · rcases Nat.eq_zero_or_pos (tl l l.length) with h3 | h3
      · exact .inl h3
      · right
        unfold trim
        rw [List.getElem?_take, if_pos (by omega)]
        exact h2
  have h3 := dig_val (h.take (tl l l.length)) h2
  have h4 : val (l.take (tl l l.length)) = val l := h1
  rw [h4] at h3
  exact h3.symm
theorem trim_len {l : List Nat} (h : Lim l) : tl l l.length = (dig (val l)).length := by rw [← trim_dig h, trim_length]
theorem dig_len_le {x n : Nat} (h : x < 16777216 ^ n) : (dig x).length ≤ n := by
  induction n generalizing x with
  | zero =>
    have : x = 0 := by simpa using h
    rw [this, dig_zero]
    exact Nat.le_refl _
  | succ n ih =>
    rcases Nat.eq_zero_or_pos x with rfl | h0
    · rw [dig_zero]; exact Nat.zero_le _
    · rw [dig_pos x h0, List.length_cons]
      have := ih (x := x / 16777216) (by rw [Nat.pow_succ] at h; omega)
      omega
theorem dig_len_ge {x n : Nat} (h : 16777216 ^ n ≤ x) : n < (dig x).length := by
  rcases Nat.lt_or_ge n (dig x).length with h1 | h1
  · exact h1
  · have h2 := val_lt (dig_lim x)
    rw [val_dig] at h2
    have h3 := Nat.pow_le_pow_right (show 0 < 16777216 by omega) h1
    omega
theorem dig_len_iff (x n : Nat) : (dig x).length ≤ n ↔ x < 16777216 ^ n := by
  constructor
  · intro h
    rcases Nat.lt_or_ge x (16777216 ^ n) with h1 | h1
    · exact h1
    · have := dig_len_ge h1
      omega
  · exact dig_len_le
theorem dig_len_mono {x y : Nat} (h : x ≤ y) : (dig x).length ≤ (dig y).length :=
  dig_len_le (Nat.lt_of_le_of_lt h (by have := val_lt (dig_lim y); rwa [val_dig] at this))
theorem dig_len0 {x : Nat} : (dig x).length = 0 ↔ x = 0 := by
  constructor
  · intro h
    have h1 : dig x = [] := List.eq_nil_of_length_eq_zero h
    rw [← val_dig x, h1]; rfl
  · rintro rfl; rw [dig_zero]; rfl
theorem dig_low (x k : Nat) (h : k + 1 = (dig x).length) : 16777216 ^ k ≤ x := by
  rcases Nat.lt_or_ge x (16777216 ^ k) with h1 | h1
  · have := dig_len_le h1
    omega
  · exact h1
/-- the limit -/
def top : Nat := 16777216 ^ 200
theorem dig_200 (x : Nat) : (dig x).length ≤ 200 ↔ x < top := dig_len_iff x 200
/-- the order of numbers -/
def sgn (x y : Nat) : Int := if x < y then -1 else if y < x then 1 else 0
theorem sgn_lt {x y : Nat} (h : x < y) : sgn x y = -1 := by unfold sgn; rw [if_pos h]
theorem sgn_gt {x y : Nat} (h : y < x) : sgn x y = 1 := by unfold sgn; rw [if_neg (by omega), if_pos h]
theorem sgn_eq {x y : Nat} (h : x = y) : sgn x y = 0 := by unfold sgn; rw [if_neg (by omega), if_neg (by omega)]
theorem sgn_cases (x y : Nat) : (x < y ∧ sgn x y = -1) ∨ (x = y ∧ sgn x y = 0) ∨ (y < x ∧ sgn x y = 1) := by
  rcases Nat.lt_trichotomy x y with h | h | h
  · exact .inl ⟨h, sgn_lt h⟩
  · exact .inr (.inl ⟨h, sgn_eq h⟩)
  · exact .inr (.inr ⟨h, sgn_gt h⟩)
theorem sgn_len {x y : Nat} (h : (dig x).length < (dig y).length) : x < y := by
  rcases Nat.lt_or_ge x y with h1 | h1
  · exact h1
  · have := dig_len_mono h1
    omega
/-- two lists of equal length that agree behind place i -/
theorem val_cmp {l m : List Nat} (hl : Lim l) (hm : Lim m) (i a b : Nat) (h1 : l[i]? = some a) (h2 : m[i]? = some b) (h3 : l.drop (i + 1) = m.drop (i + 1)) (hab : a < b) : val l < val m := by
  have hlt : i < l.length := by
    rcases Nat.lt_or_ge i l.length with h | h
    · exact h
    · rw [List.getElem?_eq_none h] at h1; cases h1
  have hlt2 : i < m.length := by
    rcases Nat.lt_or_ge i m.length with h | h
    · exact h
    · rw [List.getElem?_eq_none h] at h2; cases h2
  have e1 := val_split l (i + 1) (by omega)
  have e2 := val_split m (i + 1) (by omega)
  rw [val_take_succ l i a h1] at e1
  rw [val_take_succ m i b h2] at e2
  rw [h3] at e1
  have e3 := val_lt (hl.take i)
  rw [List.length_take, Nat.min_eq_left (by omega)] at e3
  have e4 : 16777216 ^ i * (a + 1) ≤ 16777216 ^ i * b := Nat.mul_le_mul_left _ hab
  rw [Nat.mul_add, Nat.mul_one] at e4
  omega
/-- ints as limbs: P1.1 -/
def lim (z : Int) : Bool := decide (0 ≤ z) && decide (z < 16777216)
def vld (zs : List Int) : Bool := zs.all lim && (decide (zs.length ≤ 200) && (zs.getLast? != some 0))
def up (l : List Nat) : List Int := l.map Int.ofNat
theorem up_length (l : List Nat) : (up l).length = l.length := List.length_map _
theorem up_get (l : List Nat) (k : Nat) : (up l)[k]? = (l[k]?).map Int.ofNat := by unfold up; rw [List.getElem?_map]
theorem lim_up {zs : List Int} (h : zs.all lim = true) : ∃ l, zs = up l ∧ Lim l := by
  induction zs with
  | nil => exact ⟨[], rfl, Lim.nil⟩
  | cons z zs ih =>
    rw [List.all_cons, Bool.and_eq_true] at h
    obtain ⟨l, rfl, hl⟩ := ih h.2
    have h1 : 0 ≤ z ∧ z < 16777216 := by
      have := h.1
      unfold lim at this
      simpa using this
    obtain ⟨a, rfl⟩ := Int.eq_ofNat_of_zero_le h1.1
    exact ⟨a :: l, rfl, Lim.cons (by omega) hl⟩
theorem vld_dig {x : Nat} (h : x < top) : vld (up (dig x)) = true := by
  have h1 := dig_last x
  have h2 := (dig_200 x).2 h
  unfold vld
  rw [Bool.and_eq_true, Bool.and_eq_true]
  refine ⟨?_, by rw [up_length]; exact decide_eq_true h2, ?_⟩
  · rw [List.all_eq_true]
    intro z hz
    unfold up at hz
    obtain ⟨a, ha, rfl⟩ := List.mem_map.1 hz
    have := dig_lim x a ha
    unfold lim
    rw [Bool.and_eq_true]
    exact ⟨decide_eq_true (Int.natCast_nonneg a), decide_eq_true (by show (a : Int) < _; omega)⟩
  · rw [bne_iff_ne, List.getLast?_eq_getElem?, up_get, up_length]
    intro e
    rcases h1 with h1 | h1
    · rw [List.getElem?_eq_none (by omega)] at e
      cases e
    · cases hx : (dig x)[(dig x).length - 1]? with
      | none => rw [hx] at e; cases e
      | some a =>
        rw [hx] at e h1
        simp at e
        simp at h1
        exact h1 e
theorem vld_ex {zs : List Int} (h : vld zs = true) : ∃ x, x < top ∧ zs = up (dig x) := by
  unfold vld at h
  rw [Bool.and_eq_true, Bool.and_eq_true] at h
  obtain ⟨h1, h2, h3⟩ := h
  obtain ⟨l, rfl, hl⟩ := lim_up h1
  have h4 : dig (val l) = l := by
    refine dig_val hl ?_
    rcases Nat.eq_zero_or_pos l.length with h | h
    · exact .inl h
    · right
      intro e
      rw [bne_iff_ne, List.getLast?_eq_getElem?, up_get, up_length, e] at h3
      exact h3 rfl
  refine ⟨val l, ?_, by rw [h4]⟩
  rw [← dig_200, h4]
  have := of_decide_eq_true h2
  rwa [up_length] at this
end Na
end Go.Proofs.YtpcmbmabmfghkaaDoor

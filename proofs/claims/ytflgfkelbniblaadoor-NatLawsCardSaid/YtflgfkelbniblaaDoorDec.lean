/- Decimal digits, in plain Lean. -/
import Derived.Test.YtflgfkelbniblaaDoorNatP
namespace Go.Proofs.YtflgfkelbniblaaDoor
set_option linter.unusedVariables false
namespace De
/-- the decimal digits of a number, the lowest first -/
def dig (x : Nat) : List Nat := if x = 0 then [] else (x % 10) :: dig (x / 10)
termination_by x
decreasing_by omega
/-- the number of some digits -/
def val : List Nat → Nat
  | [] => 0
  | a :: l => a + 10 * val l
/-- digits are small -/
def Lim (l : List Nat) : Prop := ∀ a ∈ l, a < 10
theorem dig_zero : dig 0 = [] := by unfold dig; rfl
theorem dig_pos (x : Nat) (h : 0 < x) : dig x = (x % 10) :: dig (x / 10) := by
  rw [dig, if_neg (by omega)]
theorem dig_small (x : Nat) (h : 0 < x) (h2 : x < 10) : dig x = [x] := by
  rw [dig_pos x h, Nat.mod_eq_of_lt h2, Nat.div_eq_of_lt h2, dig_zero]
theorem val_dig (x : Nat) : val (dig x) = x := by
  induction x using Nat.strongRecOn with
  | ind x ih =>
    rcases Nat.eq_zero_or_pos x with rfl | h
    · rw [dig_zero]; rfl
    · rw [dig_pos x h, val, ih _ (by omega)]
      omega
theorem dig_inj {x y : Nat} (h : dig x = dig y) : x = y := by rw [← val_dig x, h, val_dig]
theorem dig_lim (x : Nat) : Lim (dig x) := by
  induction x using Nat.strongRecOn with
  | ind x ih =>
    rcases Nat.eq_zero_or_pos x with rfl | h
    · rw [dig_zero]; intro a ha; cases ha
    · rw [dig_pos x h]
      intro a ha
      rcases List.mem_cons.1 ha with rfl | ha
      · omega
      · exact ih _ (by omega) a ha
theorem Lim.tail {a : Nat} {l : List Nat} (h : Lim (a :: l)) : Lim l := fun b hb => h b (List.mem_cons_of_mem _ hb)
theorem Lim.head {a : Nat} {l : List Nat} (h : Lim (a :: l)) : a < 10 := h a (List.mem_cons_self ..)
theorem Lim.at {l : List Nat} (h : Lim l) {k a : Nat} (hk : l[k]? = some a) : a < 10 := h a (List.mem_of_getElem? hk)
theorem Lim.nil : Lim [] := fun a h => by cases h
theorem Lim.cons {a : Nat} {l : List Nat} (h : a < 10) (hl : Lim l) : Lim (a :: l) := fun b hb => by
  rcases List.mem_cons.1 hb with rfl | hb
  · exact h
  · exact hl b hb
theorem Lim.append {l m : List Nat} (h : Lim l) (hm : Lim m) : Lim (l ++ m) := fun b hb => by
  rcases List.mem_append.1 hb with hb | hb
  · exact h b hb
  · exact hm b hb
theorem Lim.one {a : Nat} (h : a < 10) : Lim [a] := Lim.cons h Lim.nil
theorem Lim.take {l : List Nat} (h : Lim l) (k : Nat) : Lim (l.take k) := fun b hb => h b (List.mem_of_mem_take hb)
theorem Lim.drop {l : List Nat} (h : Lim l) (k : Nat) : Lim (l.drop k) := fun b hb => h b (List.mem_of_mem_drop hb)
theorem Lim.set {l : List Nat} (h : Lim l) (k : Nat) {a : Nat} (ha : a < 10) : Lim (l.set k a) := fun b hb => by
  rcases List.mem_or_eq_of_mem_set hb with hb | rfl
  · exact h b hb
  · exact ha
theorem Lim.zeros (n : Nat) : Lim (List.replicate n 0) := fun b hb => by
  have := List.eq_of_mem_replicate hb
  omega
theorem val_lt {l : List Nat} (h : Lim l) : val l < 10 ^ l.length := by
  induction l with
  | nil => simp [val]
  | cons a l ih =>
    have h1 := ih h.tail
    have h2 := h.head
    rw [val, List.length_cons, Nat.pow_succ]
    omega
theorem val_append (l m : List Nat) : val (l ++ m) = val l + 10 ^ l.length * val m := by
  induction l with
  | nil => simp [val]
  | cons a l ih =>
    rw [List.cons_append, val, val, ih, List.length_cons, Nat.pow_succ, Nat.mul_add, ← Nat.mul_assoc, Nat.mul_comm 10 (10 ^ l.length)]
    omega
theorem val_snoc (l : List Nat) (a : Nat) : val (l ++ [a]) = val l + 10 ^ l.length * a := by
  rw [val_append]; simp [val]
theorem val_zeros (n : Nat) : val (List.replicate n 0) = 0 := by
  induction n with
  | zero => rfl
  | succ n ih => rw [List.replicate_succ, val, ih]
theorem val_split (l : List Nat) (k : Nat) (h : k ≤ l.length) : val l = val (l.take k) + 10 ^ k * val (l.drop k) := by
  have h1 := val_append (l.take k) (l.drop k)
  rw [List.take_append_drop, List.length_take, Nat.min_eq_left h] at h1
  exact h1
theorem val_take_succ (l : List Nat) (k a : Nat) (h : l[k]? = some a) : val (l.take (k + 1)) = val (l.take k) + 10 ^ k * a := by
  have hlt : k < l.length := by
    rcases Nat.lt_or_ge k l.length with h1 | h1
    · exact h1
    · rw [List.getElem?_eq_none h1] at h; cases h
  rw [List.take_add_one, h, Option.toList_some, val_snoc, List.length_take, Nat.min_eq_left (by omega)]
theorem val_drop_cons (l : List Nat) (k a : Nat) (h : l[k]? = some a) : val (l.drop k) = a + 10 * val (l.drop (k + 1)) := by
  have hlt : k < l.length := by
    rcases Nat.lt_or_ge k l.length with h1 | h1
    · exact h1
    · rw [List.getElem?_eq_none h1] at h; cases h
  have ha : l[k] = a := by rw [List.getElem?_eq_getElem hlt] at h; exact Option.some.inj h
  rw [List.drop_eq_getElem_cons hlt, val, ha]
theorem val_set (l : List Nat) (k a b : Nat) (h : l[k]? = some a) : val (l.set k b) + 10 ^ k * a = val l + 10 ^ k * b := by
  induction l generalizing k with
  | nil => simp at h
  | cons c l ih =>
    cases k with
    | zero =>
      have hc : c = a := by simpa using h
      subst hc
      simp [val]
      omega
    | succ k =>
      have h1 := ih k (by simpa using h)
      rw [List.set_cons_succ, val, val, Nat.pow_succ, Nat.mul_comm (10 ^ k) 10, Nat.mul_assoc, Nat.mul_assoc]
      omega
/-- the length without zeros at the end -/
def tl (l : List Nat) : Nat → Nat
  | 0 => 0
  | n + 1 => if l[n]? = some 0 then tl l n else n + 1
theorem tl_le (l : List Nat) : ∀ n, tl l n ≤ n := by
  intro n
  induction n with
  | zero => exact Nat.le_refl _
  | succ n ih =>
    unfold tl
    split
    · omega
    · exact Nat.le_refl _
theorem tl_zero (l : List Nat) (n : Nat) (h : l[n]? = some 0) : tl l (n + 1) = tl l n := by rw [tl, if_pos h]
theorem tl_stop (l : List Nat) (n : Nat) (h : l[n]? ≠ some 0) : tl l (n + 1) = n + 1 := by rw [tl, if_neg h]
theorem tl_last (l : List Nat) : ∀ n, tl l n = 0 ∨ l[tl l n - 1]? ≠ some 0 := by
  intro n
  induction n with
  | zero => exact .inl rfl
  | succ n ih =>
    by_cases h : l[n]? = some 0
    · rw [tl_zero l n h]
      exact ih
    · rw [tl_stop l n h]
      exact .inr h
theorem val_tl (l : List Nat) : ∀ n, n ≤ l.length → val (l.take (tl l n)) = val (l.take n) := by
  intro n
  induction n with
  | zero => intro _; rfl
  | succ n ih =>
    intro hn
    by_cases h : l[n]? = some 0
    · rw [tl_zero l n h, ih (by omega), val_take_succ l n 0 h, Nat.mul_zero, Nat.add_zero]
    · rw [tl_stop l n h]
def trim (l : List Nat) : List Nat := l.take (tl l l.length)
theorem trim_length (l : List Nat) : (trim l).length = tl l l.length := by
  unfold trim
  rw [List.length_take]
  have := tl_le l l.length
  omega
/-- digits without a zero at the end are those of their number -/
theorem dig_val {l : List Nat} (h : Lim l) (h0 : l.length = 0 ∨ l[l.length - 1]? ≠ some 0) : dig (val l) = l := by
  induction l with
  | nil => exact dig_zero
  | cons a l ih =>
    have ha := h.head
    rw [val]
    cases l with
    | nil =>
      have : a ≠ 0 := by simpa using h0
      rw [show a + 10 * val [] = a from by simp [val]]
      exact dig_small a (by omega) ha
    | cons b l =>
      have h1 : (b :: l).length = 0 ∨ (b :: l)[(b :: l).length - 1]? ≠ some 0 := by
        right
        rcases h0 with h0 | h0
        · simp at h0
        · simpa using h0
      have h2 := ih h.tail h1
      have hv : val (b :: l) ≠ 0 := by
        intro e
        rw [e, dig_zero] at h2
        cases h2
      rw [dig_pos _ (by omega), show (a + 10 * val (b :: l)) / 10 = val (b :: l) by omega, show (a + 10 * val (b :: l)) % 10 = a by omega, h2]
theorem dig_last (x : Nat) : (dig x).length = 0 ∨ (dig x)[(dig x).length - 1]? ≠ some 0 := by
  induction x using Nat.strongRecOn with
  | ind x ih =>
    rcases Nat.eq_zero_or_pos x with rfl | h
    · left; rw [dig_zero]; rfl
    · right
      have h1 := ih (x / 10) (by omega)
      rw [dig_pos x h]
      rcases h1 with h1 | h1
      · have h2 : dig (x / 10) = [] := List.eq_nil_of_length_eq_zero h1
        have h3 : x / 10 = 0 := by rw [← val_dig (x / 10), h2]; rfl
        rw [h2]
        simp
        omega
      · cases hd : dig (x / 10) with
        | nil =>
          have h3 : x / 10 = 0 := by rw [← val_dig (x / 10), hd]; rfl
          simp
          omega
        | cons b l =>
          rw [hd] at h1
          simpa using h1
theorem trim_dig {l : List Nat} (h : Lim l) : trim l = dig (val l) := by
  have h1 := val_tl l l.length (Nat.le_refl _)
  rw [List.take_length] at h1
  have h2 : (trim l).length = 0 ∨ (trim l)[(trim l).length - 1]? ≠ some 0 := by
    rw [trim_length]
    rcases tl_last l l.length with h2 | h2
    · exact .inl h2
    · rcases Nat.eq_zero_or_pos (tl l l.length) with h3 | h3
      · exact .inl h3
      · right
        unfold trim
        rw [List.getElem?_take, if_pos (by omega)]
        exact h2
  have h3 := dig_val (h.take (tl l l.length)) h2
  have h4 : val (l.take (tl l l.length)) = val l := h1
  rw [h4] at h3
  exact h3.symm
theorem trim_len {l : List Nat} (h : Lim l) : tl l l.length = (dig (val l)).length := by rw [← trim_dig h, trim_length]
theorem dig_len_le {x n : Nat} (h : x < 10 ^ n) : (dig x).length ≤ n := by
  induction n generalizing x with
  | zero =>
    have : x = 0 := by simpa using h
    rw [this, dig_zero]
    exact Nat.le_refl _
  | succ n ih =>
    rcases Nat.eq_zero_or_pos x with rfl | h0
    · rw [dig_zero]; exact Nat.zero_le _
    · rw [dig_pos x h0, List.length_cons]
      have := ih (x := x / 10) (by rw [Nat.pow_succ] at h; omega)
      omega
theorem dig_len_ge {x n : Nat} (h : 10 ^ n ≤ x) : n < (dig x).length := by
  rcases Nat.lt_or_ge n (dig x).length with h1 | h1
  · exact h1
  · have h2 := val_lt (dig_lim x)
    rw [val_dig] at h2
    have h3 := Nat.pow_le_pow_right (show 0 < 10 by omega) h1
    omega
theorem dig_len_iff (x n : Nat) : (dig x).length ≤ n ↔ x < 10 ^ n := by
  constructor
  · intro h
    rcases Nat.lt_or_ge x (10 ^ n) with h1 | h1
    · exact h1
    · have := dig_len_ge h1
      omega
  · exact dig_len_le
theorem dig_len_mono {x y : Nat} (h : x ≤ y) : (dig x).length ≤ (dig y).length :=
  dig_len_le (Nat.lt_of_le_of_lt h (by have := val_lt (dig_lim y); rwa [val_dig] at this))
theorem dig_len0 {x : Nat} : (dig x).length = 0 ↔ x = 0 := by
  constructor
  · intro h
    have h1 : dig x = [] := List.eq_nil_of_length_eq_zero h
    rw [← val_dig x, h1]; rfl
  · rintro rfl; rw [dig_zero]; rfl
theorem dig_low (x k : Nat) (h : k + 1 = (dig x).length) : 10 ^ k ≤ x := by
  rcases Nat.lt_or_ge x (10 ^ k) with h1 | h1
  · have := dig_len_le h1
    omega
  · exact h1
/-- seven digits of a part, one by one -/
theorem part_step (ds : List Nat) (n p r k x : Nat) (hn : ds.length = n) (h : val ds + 10 ^ n * (p + 10 ^ (k + 1) * r) = x) : val (ds ++ [p % 10]) + 10 ^ (n + 1) * (p / 10 + 10 ^ k * r) = x := by
  rw [val_snoc, hn, ← h, Nat.pow_succ 10 n]
  have h1 : 10 ^ n * (p % 10) + 10 ^ n * 10 * (p / 10) = 10 ^ n * p := by rw [Nat.mul_assoc, ← Nat.mul_add, Nat.mod_add_div]
  have h2 : 10 ^ n * 10 * (10 ^ k * r) = 10 ^ n * (10 ^ (k + 1) * r) := by rw [Nat.pow_succ 10 k, Nat.mul_assoc, ← Nat.mul_assoc 10 (10 ^ k), Nat.mul_comm 10 (10 ^ k)]
  rw [Nat.mul_add, Nat.mul_add]
  omega
theorem part_start (ds : List Nat) (n x y : Nat) (h : val ds + 10 ^ n * y = x) : val ds + 10 ^ n * (y % 10000000 + 10 ^ 7 * (y / 10000000)) = x := by
  rw [show (10 : Nat) ^ 7 = 10000000 from rfl, Nat.mod_add_div]
  exact h
/-- a digit as a letter -/
def asc (d : Nat) : UInt8 := UInt8.ofNat (48 + d)
def text (x : Nat) : List UInt8 := if x = 0 then [48] else ((dig x).map asc).reverse
theorem asc_toNat {d : Nat} (h : d < 10) : (asc d).toNat = 48 + d := by unfold asc; rw [UInt8.toNat_ofNat']; omega
/-- without zeros in front -/
def strip : List UInt8 → List UInt8
  | [] => []
  | c :: l => if c = 48 then strip l else c :: l
theorem strip_zero (l : List UInt8) : strip (48 :: l) = strip l := by rw [strip, if_pos rfl]
theorem strip_stop {c : UInt8} {l : List UInt8} (h : c ≠ 48) : strip (c :: l) = c :: l := by rw [strip, if_neg h]
theorem asc_zero {d : Nat} (h : d < 10) : asc d = 48 ↔ d = 0 := by
  constructor
  · intro e
    have h1 := congrArg UInt8.toNat e
    rw [asc_toNat h] at h1
    have : (48 : UInt8).toNat = 48 := rfl
    omega
  · rintro rfl; rfl
theorem strip_rev (ds : List Nat) (h : Lim ds) : ∀ n, n ≤ ds.length → strip (((ds.take n).map asc).reverse) = ((ds.take (tl ds n)).map asc).reverse := by
  intro n
  induction n with
  | zero => intro _; rfl
  | succ n ih =>
    intro hn
    obtain ⟨d, hd⟩ : ∃ d, ds[n]? = some d := ⟨_, List.getElem?_eq_getElem (by omega)⟩
    have e : ((ds.take (n + 1)).map asc).reverse = asc d :: ((ds.take n).map asc).reverse := by
      rw [List.take_add_one, hd, Option.toList_some, List.map_append, List.reverse_append]
      rfl
    have hlt : d < 10 := h d (List.mem_of_getElem? hd)
    by_cases h0 : d = 0
    · subst h0
      rw [e, tl_zero ds n hd, show asc 0 = 48 from rfl, strip_zero, ih (by omega)]
    · rw [tl_stop ds n (by rw [hd]; intro x; exact h0 (Option.some.inj x)), e, strip_stop (fun x => h0 ((asc_zero hlt).1 x))]
/-- all digits turned round, without the zeros in front -/
theorem strip_text (ds : List Nat) (h : Lim ds) : strip ((ds.map asc).reverse) = ((dig (val ds)).map asc).reverse := by
  have h1 := strip_rev ds h ds.length (Nat.le_refl _)
  rw [List.take_length] at h1
  rw [h1, ← trim_dig h]
  rfl
end De
end Go.Proofs.YtflgfkelbniblaaDoor

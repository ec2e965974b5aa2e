/- XNatP XBin XDec joined. -/
import Derived.Test.YtpcmbmabmfghkaaDoorNat
/- Sums, differences and products of limbs, in plain Lean: what each round says. -/
namespace Go.Proofs.YtpcmbmabmfghkaaDoor
set_option linter.unusedVariables false
namespace Na
theorem lt_of_get {α : Type} {l : List α} {k : Nat} {b : α} (hk : l[k]? = some b) : k < l.length := by
  rcases Nat.lt_or_ge k l.length with h | h
  · exact h
  · rw [List.getElem?_eq_none h] at hk; cases hk
/-- limb k, 0 behind the last one -/
def at0 (l : List Nat) (k : Nat) : Nat := l[k]?.getD 0
theorem at0_some {l : List Nat} {k a : Nat} (h : l[k]? = some a) : at0 l k = a := by unfold at0; rw [h]; rfl
theorem at0_none {l : List Nat} {k : Nat} (h : l.length ≤ k) : at0 l k = 0 := by unfold at0; rw [List.getElem?_eq_none h]; rfl
theorem at0_lt {l : List Nat} (h : Lim l) (k : Nat) : at0 l k < 16777216 := by
  rcases Nat.lt_or_ge k l.length with h1 | h1
  · exact Nat.lt_of_le_of_lt (Nat.le_of_eq (at0_some (List.getElem?_eq_getElem h1))) (h.at (List.getElem?_eq_getElem h1))
  · rw [at0_none h1]; decide
theorem val_take_at0 (l : List Nat) (k : Nat) : val (l.take (k + 1)) = val (l.take k) + 16777216 ^ k * at0 l k := by
  rcases Nat.lt_or_ge k l.length with h1 | h1
  · rw [at0_some (List.getElem?_eq_getElem h1), val_take_succ l k _ (List.getElem?_eq_getElem h1)]
  · rw [at0_none h1, Nat.mul_zero, List.take_of_length_le (by omega), List.take_of_length_le (by omega), Nat.add_zero]
theorem split24 (P t : Nat) : P * (t % 16777216) + P * 16777216 * (t / 16777216) = P * t := by
  rw [Nat.mul_assoc, ← Nat.mul_add, Nat.mod_add_div]
/-- one column of a sum -/
theorem add_step (X Y o : List Nat) (k cr t : Nat) (ho : o.length = k) (h : val o + 16777216 ^ k * cr = val (X.take k) + val (Y.take k)) (ht : t = cr + at0 X k + at0 Y k) :
    val (o ++ [t % 16777216]) + 16777216 ^ (k + 1) * (t / 16777216) = val (X.take (k + 1)) + val (Y.take (k + 1)) := by
  rw [val_snoc, ho, val_take_at0, val_take_at0, Nat.pow_succ]
  have h1 := split24 (16777216 ^ k) t
  have h2 : 16777216 ^ k * t = 16777216 ^ k * cr + 16777216 ^ k * at0 X k + 16777216 ^ k * at0 Y k := by rw [ht, Nat.mul_add, Nat.mul_add]
  omega
theorem add_carry (cr x y t : Nat) (hc : cr ≤ 1) (hx : x < 16777216) (hy : y < 16777216) (ht : t = cr + x + y) : t / 16777216 ≤ 1 := by omega
theorem add_end (X Y o : List Nat) (k cr : Nat) (ho : o.length = k) (h : val o + 16777216 ^ k * cr = val (X.take k) + val (Y.take k)) (hX : X.length ≤ k) (hY : Y.length ≤ k) : val (o ++ [cr]) = val X + val Y := by
  rw [val_snoc, ho, h, List.take_of_length_le hX, List.take_of_length_le hY]
/-- one column of a difference: enough is there -/
theorem sub_yes (X Y o : List Nat) (k bw d : Nat) (ho : o.length = k) (h : val o + val (Y.take k) = val (X.take k) + 16777216 ^ k * bw) (hd : d + bw + at0 Y k = at0 X k) :
    val (o ++ [d]) + val (Y.take (k + 1)) = val (X.take (k + 1)) + 16777216 ^ (k + 1) * 0 := by
  rw [val_snoc, ho, val_take_at0, val_take_at0, ← hd, Nat.mul_add, Nat.mul_add]
  omega
/-- one column of a difference: something is borrowed -/
theorem sub_no (X Y o : List Nat) (k bw d : Nat) (ho : o.length = k) (h : val o + val (Y.take k) = val (X.take k) + 16777216 ^ k * bw) (hd : d + bw + at0 Y k = at0 X k + 16777216) :
    val (o ++ [d]) + val (Y.take (k + 1)) = val (X.take (k + 1)) + 16777216 ^ (k + 1) * 1 := by
  rw [val_snoc, ho, val_take_at0, val_take_at0, Nat.pow_succ]
  have h1 : 16777216 ^ k * d + 16777216 ^ k * bw + 16777216 ^ k * at0 Y k = 16777216 ^ k * at0 X k + 16777216 ^ k * 16777216 := by
    rw [← Nat.mul_add, ← Nat.mul_add, hd, Nat.mul_add]
  omega
theorem sub_end (X Y o : List Nat) (k bw : Nat) (hl : Lim o) (ho : o.length = k) (h : val o + val (Y.take k) = val (X.take k) + 16777216 ^ k * bw) (hX : X.length ≤ k) (hY : Y.length ≤ k) (hle : val Y ≤ val X) : val o = val X - val Y := by
  rw [List.take_of_length_le hX, List.take_of_length_le hY] at h
  have h1 := val_lt hl
  rw [ho] at h1
  rcases Nat.eq_zero_or_pos bw with rfl | hb
  · omega
  · have h2 := Nat.mul_le_mul_left (16777216 ^ k) hb
    rw [Nat.mul_one] at h2
    omega
theorem set_mid (o X : List Nat) (k d : Nat) (ho : o.length = k) (hk : k < X.length) : (o ++ X.drop k).set k d = (o ++ [d]) ++ X.drop (k + 1) := by
  rw [List.set_append_right _ _ (by omega), ho, Nat.sub_self, List.drop_eq_getElem_cons hk, List.append_assoc]
  rfl
theorem get_mid (o X : List Nat) (k a : Nat) (ho : o.length = k) (h : X[k]? = some a) : (o ++ X.drop k)[k]? = some a := by
  rw [List.getElem?_append_right (by omega), ho, Nat.sub_self, List.getElem?_drop]
  exact h
/-- columns: one product added -/
theorem prod_step (out X Y : List Nat) (i k e a b S : Nat) (he : out[i + k]? = some e) (h : val out = S + 16777216 ^ i * (a * val (Y.take k))) (hb : Y[k]? = some b) :
    val (out.set (i + k) (e + a * b)) = S + 16777216 ^ i * (a * val (Y.take (k + 1))) := by
  have h1 := val_set out (i + k) e (e + a * b) he
  rw [val_take_succ Y k b hb, Nat.mul_add, Nat.mul_add, ← Nat.add_assoc, ← h]
  have h2 : 16777216 ^ i * (a * (16777216 ^ k * b)) = 16777216 ^ (i + k) * (a * b) := by
    rw [Nat.pow_add, Nat.mul_left_comm a, Nat.mul_assoc]
  rw [Nat.mul_add] at h1
  omega
theorem prod_row (X Y : List Nat) (i a : Nat) (ha : X[i]? = some a) : val (X.take i) * val Y + 16777216 ^ i * (a * val Y) = val (X.take (i + 1)) * val Y := by
  rw [val_take_succ X i a ha, Nat.add_mul, Nat.mul_assoc]
/-- no column is too great: those from i + k on have i products, all at most i + 1 -/
def Cols (out : List Nat) (C i k : Nat) : Prop := ∀ j e, out[j]? = some e → e ≤ (i + 1) * C ∧ (i + k ≤ j → e ≤ i * C)
theorem cols_zero (n C : Nat) : Cols (List.replicate n 0) C 0 0 := fun j e h => by
  have h1 := List.eq_of_mem_replicate (List.mem_of_getElem? h)
  subst h1
  exact ⟨Nat.zero_le _, fun _ => Nat.zero_le _⟩
theorem cols_step {out : List Nat} {C i k e p : Nat} (h : Cols out C i k) (he : out[i + k]? = some e) (hp : p ≤ C) : Cols (out.set (i + k) (e + p)) C i (k + 1) := fun j x hx => by
  by_cases hj : j = i + k
  · subst hj
    rw [List.getElem?_set_self (lt_of_get he)] at hx
    obtain rfl := Option.some.inj hx
    have h1 := (h _ _ he).2 (Nat.le_refl _)
    refine ⟨?_, fun h2 => by omega⟩
    rw [Nat.add_mul, Nat.one_mul]
    omega
  · rw [List.getElem?_set_ne (fun e => hj e.symm)] at hx
    have h1 := h _ _ hx
    exact ⟨h1.1, fun h2 => h1.2 (by omega)⟩
theorem cols_row {out : List Nat} {C i k : Nat} (h : Cols out C i k) : Cols out C (i + 1) 0 := fun j e he => by
  have h1 := (h j e he).1
  exact ⟨Nat.le_trans h1 (Nat.mul_le_mul_right C (by omega)), fun _ => h1⟩
theorem prod24 {a b : Nat} (ha : a < 16777216) (hb : b < 16777216) : a * b ≤ 281474976710656 := by
  have := Nat.mul_le_mul (Nat.le_of_lt ha) (Nat.le_of_lt hb)
  simpa using this
/-- carries: one column -/
theorem carry_step (o out : List Nat) (k cr e t V : Nat) (ho : o.length = k) (he : out[k]? = some e) (h : val o + 16777216 ^ k * (cr + val (out.drop k)) = V) (ht : t = cr + e) :
    val (o ++ [t % 16777216]) + 16777216 ^ (k + 1) * (t / 16777216 + val (out.drop (k + 1))) = V := by
  rw [val_snoc, ho, ← h, val_drop_cons out k e he, Nat.pow_succ, Nat.mul_add, Nat.mul_add, Nat.mul_add]
  have h1 := split24 (16777216 ^ k) t
  rw [ht, Nat.mul_add] at h1
  rw [ht]
  have h2 : 16777216 ^ k * (16777216 * val (out.drop (k + 1))) = 16777216 ^ k * 16777216 * val (out.drop (k + 1)) := (Nat.mul_assoc _ _ _).symm
  omega
theorem carry_end (o out : List Nat) (n cr V : Nat) (ho : o.length = n) (hout : out.length ≤ n) (h : val o + 16777216 ^ n * (cr + val (out.drop n)) = V) (hV : V < 16777216 ^ n) : val o = V := by
  rw [List.drop_of_length_le hout] at h
  rcases Nat.eq_zero_or_pos cr with rfl | hb
  · simp [val] at h
    exact h
  · have h2 := Nat.mul_le_mul_left (16777216 ^ n) (Nat.le_trans hb (Nat.le_add_right cr (val [])))
    rw [Nat.mul_one] at h2
    omega
theorem val_mul_lt {X Y : List Nat} (hX : Lim X) (hY : Lim Y) : val X * val Y < 16777216 ^ (X.length + Y.length) := by
  rw [Nat.pow_add]
  exact Nat.mul_lt_mul_of_lt_of_lt (val_lt hX) (val_lt hY)
theorem dig_len_mul (x y : Nat) : (dig (x * y)).length ≤ (dig x).length + (dig y).length := by
  have h := val_mul_lt (dig_lim x) (dig_lim y)
  rw [val_dig, val_dig] at h
  exact dig_len_le h
end Na
end Go.Proofs.YtpcmbmabmfghkaaDoor

/- Numbers of sets, growth of limbs, in plain Lean. -/
namespace Go.Proofs.YtpcmbmabmfghkaaDoor
set_option linter.unusedVariables false
namespace Na
/-- the number of sets of k out of n things -/
def bin : Nat → Nat → Nat
  | _, 0 => 1
  | 0, _ + 1 => 0
  | n + 1, k + 1 => bin n k + bin n (k + 1)
theorem bin_zero (n : Nat) : bin n 0 = 1 := by cases n <;> rfl
theorem bin_succ (n k : Nat) : bin (n + 1) (k + 1) = bin n k + bin n (k + 1) := rfl
theorem bin_more {n k : Nat} (h : n < k) : bin n k = 0 := by
  induction n generalizing k with
  | zero =>
    cases k with
    | zero => omega
    | succ k => rfl
  | succ n ih =>
    cases k with
    | zero => omega
    | succ k => rw [bin_succ, ih (by omega), ih (by omega)]
theorem bin_self (n : Nat) : bin n n = 1 := by
  induction n with
  | zero => rfl
  | succ n ih => rw [bin_succ, ih, bin_more (by omega)]
theorem bin_absorb (n k : Nat) : (k + 1) * bin (n + 1) (k + 1) = (n + 1) * bin n k := by
  induction n generalizing k with
  | zero =>
    cases k with
    | zero => rfl
    | succ k => rw [bin_succ, bin_more (show 0 < k + 1 by omega), bin_more (show 0 < k + 1 + 1 by omega)]; simp
  | succ n ih =>
    cases k with
    | zero =>
      have h := ih 0
      rw [bin_zero] at h
      rw [bin_succ, bin_zero]
      omega
    | succ k =>
      have h1 := ih k
      have h2 := ih (k + 1)
      have h3 : bin (n + 1) (k + 1) = bin n k + bin n (k + 1) := rfl
      rw [bin_succ (n + 1) (k + 1), Nat.mul_add, h2]
      have h4 : (k + 1 + 1) * bin (n + 1) (k + 1) = (k + 1) * bin (n + 1) (k + 1) + bin (n + 1) (k + 1) := by rw [Nat.add_mul, Nat.one_mul]
      have h5 : (n + 1 + 1) * bin (n + 1) (k + 1) = (n + 1) * bin (n + 1) (k + 1) + bin (n + 1) (k + 1) := by rw [Nat.add_mul, Nat.one_mul]
      have h6 : (n + 1) * bin (n + 1) (k + 1) = (n + 1) * bin n k + (n + 1) * bin n (k + 1) := by rw [h3, Nat.mul_add]
      rw [h4, h1, h5, h6]
      omega
theorem bin_symm {n k : Nat} (h : k ≤ n) : bin n (n - k) = bin n k := by
  induction n generalizing k with
  | zero =>
    have : k = 0 := by omega
    subst this
    rfl
  | succ n ih =>
    cases k with
    | zero => rw [Nat.sub_zero, bin_self, bin_zero]
    | succ k =>
      rcases Nat.eq_or_lt_of_le h with h1 | h1
      · have : n = k := by omega
        subst this
        rw [Nat.sub_self, bin_zero, bin_self]
      · have e1 : n + 1 - (k + 1) = (n - (k + 1)) + 1 := by omega
        rw [e1, bin_succ, bin_succ, ih (show k + 1 ≤ n by omega), show n - (k + 1) + 1 = n - k by omega, ih (show k ≤ n by omega), Nat.add_comm]
theorem bin_two (n k : Nat) : bin n k ≤ 2 ^ n := by
  induction n generalizing k with
  | zero =>
    cases k with
    | zero => exact Nat.le_refl _
    | succ k => exact Nat.zero_le _
  | succ n ih =>
    cases k with
    | zero => rw [bin_zero]; exact Nat.one_le_two_pow
    | succ k =>
      rw [bin_succ, Nat.pow_succ]
      have := ih k
      have := ih (k + 1)
      omega
/-- the next number of sets along a diagonal -/
theorem bin_next (m i : Nat) : bin (m + i) i * (m + (i + 1)) / (i + 1) = bin (m + (i + 1)) (i + 1) := by
  have h := bin_absorb (m + i) i
  rw [show m + (i + 1) = m + i + 1 by omega, Nat.mul_comm, ← h]
  exact Nat.mul_div_cancel_left _ (by omega)
theorem pow24 (n : Nat) : 16777216 ^ n = 2 ^ (24 * n) := by rw [Nat.pow_mul]
theorem bin_lt (n k m : Nat) (h : n < 24 * m) : bin n k < 16777216 ^ m := by
  rw [pow24]
  exact Nat.lt_of_le_of_lt (bin_two n k) (Nat.pow_lt_pow_right (by omega) h)
theorem bin_top (n k : Nat) (h : n ≤ 4096) : bin n k < top ∧ (dig (bin n k)).length ≤ 171 :=
  ⟨bin_lt n k 200 (by omega), dig_len_le (bin_lt n k 171 (by omega))⟩
/-- growth: one limb -/
theorem grow_step (L o : List Nat) (k a t mr m0 s : Nat) (ho : o.length = k) (ha : L[k]? = some a) (h : val o + 16777216 ^ k * mr = val (L.take k) * t + m0) (hs : s = mr + a * t) :
    val (o ++ [s % 16777216]) + 16777216 ^ (k + 1) * (s / 16777216) = val (L.take (k + 1)) * t + m0 := by
  rw [val_snoc, ho, val_take_succ L k a ha, Nat.pow_succ, Nat.add_mul]
  have h1 := split24 (16777216 ^ k) s
  rw [hs, Nat.mul_add, ← Nat.mul_assoc] at h1
  rw [hs]
  omega
theorem grow_more (o : List Nat) (k mr V : Nat) (ho : o.length = k) (h : val o + 16777216 ^ k * mr = V) : val (o ++ [mr % 16777216]) + 16777216 ^ (k + 1) * (mr / 16777216) = V := by
  rw [val_snoc, ho, Nat.pow_succ]
  have h1 := split24 (16777216 ^ k) mr
  omega
end Na
end Go.Proofs.YtpcmbmabmfghkaaDoor

/- Decimal digits, in plain Lean. -/
namespace Go.Proofs.YtpcmbmabmfghkaaDoor
set_option linter.unusedVariables false
namespace De
/-- the decimal digits of a number, the lowest first -/
def dig (x : Nat) : List Nat := if x = 0 then [] else (x % 10) :: dig (x / 10)
termination_by x
decreasing_by omega
/-- the number of some digits -/
def val : List Nat → Nat
  | [] => 0
  | a :: l => a + 10 * val l
/-- digits are small -/
def Lim (l : List Nat) : Prop := ∀ a ∈ l, a < 10
theorem dig_zero : dig 0 = [] := by unfold dig; rfl
theorem dig_pos (x : Nat) (h : 0 < x) : dig x = (x % 10) :: dig (x / 10) := by
  rw [dig, if_neg (by omega)]
theorem dig_small (x : Nat) (h : 0 < x) (h2 : x < 10) : dig x = [x] := by
  rw [dig_pos x h, Nat.mod_eq_of_lt h2, Nat.div_eq_of_lt h2, dig_zero]
theorem val_dig (x : Nat) : val (dig x) = x := by
  induction x using Nat.strongRecOn with
  | ind x ih =>
    rcases Nat.eq_zero_or_pos x with rfl | h
    · rw [dig_zero]; rfl
    · rw [dig_pos x h, val, ih _ (by omega)]
      omega
theorem dig_inj {x y : Nat} (h : dig x = dig y) : x = y := by rw [← val_dig x, h, val_dig]
theorem dig_lim (x : Nat) : Lim (dig x) := by
  induction x using Nat.strongRecOn with
  | ind x ih =>
    rcases Nat.eq_zero_or_pos x with rfl | h
    · rw [dig_zero]; intro a ha; cases ha
    · rw [dig_pos x h]
      intro a ha
      rcases List.mem_cons.1 ha with rfl | ha
      · omega
      · exact ih _ (by omega) a ha
theorem Lim.tail {a : Nat} {l : List Nat} (h : Lim (a :: l)) : Lim l := fun b hb => h b (List.mem_cons_of_mem _ hb)
theorem Lim.head {a : Nat} {l : List Nat} (h : Lim (a :: l)) : a < 10 := h a (List.mem_cons_self ..)
theorem Lim.at {l : List Nat} (h : Lim l) {k a : Nat} (hk : l[k]? = some a) : a < 10 := h a (List.mem_of_getElem? hk)
theorem Lim.nil : Lim [] := fun a h => by cases h
theorem Lim.cons {a : Nat} {l : List Nat} (h : a < 10) (hl : Lim l) : Lim (a :: l) := fun b hb => by
  rcases List.mem_cons.1 hb with rfl | hb
  · exact h
  · exact hl b hb
theorem Lim.append {l m : List Nat} (h : Lim l) (hm : Lim m) : Lim (l ++ m) := fun b hb => by
  rcases List.mem_append.1 hb with hb | hb
  · exact h b hb
  · exact hm b hb
theorem Lim.one {a : Nat} (h : a < 10) : Lim [a] := Lim.cons h Lim.nil
theorem Lim.take {l : List Nat} (h : Lim l) (k : Nat) : Lim (l.take k) := fun b hb => h b (List.mem_of_mem_take hb)
theorem Lim.drop {l : List Nat} (h : Lim l) (k : Nat) : Lim (l.drop k) := fun b hb => h b (List.mem_of_mem_drop hb)
theorem Lim.set {l : List Nat} (h : Lim l) (k : Nat) {a : Nat} (ha : a < 10) : Lim (l.set k a) := fun b hb => by
  rcases List.mem_or_eq_of_mem_set hb with hb | rfl
  · exact h b hb
  · exact ha
theorem Lim.zeros (n : Nat) : Lim (List.replicate n 0) := fun b hb => by
  have := List.eq_of_mem_replicate hb
  omega
theorem val_lt {l : List Nat} (h : Lim l) : val l < 10 ^ l.length := by
  induction l with
  | nil => simp [val]
  | cons a l ih =>
    have h1 := ih h.tail
    have h2 := h.head
    rw [val, List.length_cons, Nat.pow_succ]
    omega
theorem val_append (l m : List Nat) : val (l ++ m) = val l + 10 ^ l.length * val m := by
  induction l with
  | nil => simp [val]
  | cons a l ih =>
    rw [List.cons_append, val, val, ih, List.length_cons, Nat.pow_succ, Nat.mul_add, ← Nat.mul_assoc, Nat.mul_comm 10 (10 ^ l.length)]
    omega
theorem val_snoc (l : List Nat) (a : Nat) : val (l ++ [a]) = val l + 10 ^ l.length * a := by
  rw [val_append]; simp [val]
theorem val_zeros (n : Nat) : val (List.replicate n 0) = 0 := by
  induction n with
  | zero => rfl
  | succ n ih => rw [List.replicate_succ, val, ih]
theorem val_split (l : List Nat) (k : Nat) (h : k ≤ l.length) : val l = val (l.take k) + 10 ^ k * val (l.drop k) := by
  have h1 := val_append (l.take k) (l.drop k)
  rw [List.take_append_drop, List.length_take, Nat.min_eq_left h] at h1
  exact h1
theorem val_take_succ (l : List Nat) (k a : Nat) (h : l[k]? = some a) : val (l.take (k + 1)) = val (l.take k) + 10 ^ k * a := by
  have hlt : k < l.length := by
    rcases Nat.lt_or_ge k l.length with h1 | h1
    · exact h1
    · rw [List.getElem?_eq_none h1] at h; cases h
  rw [List.take_add_one, h, Option.toList_some, val_snoc, List.length_take, Nat.min_eq_left (by omega)]
theorem val_drop_cons (l : List Nat) (k a : Nat) (h : l[k]? = some a) : val (l.drop k) = a + 10 * val (l.drop (k + 1)) := by
  have hlt : k < l.length := by
    rcases Nat.lt_or_ge k l.length with h1 | h1
    · exact h1
    · rw [List.getElem?_eq_none h1] at h; cases h
  have ha : l[k] = a := by rw [List.getElem?_eq_getElem hlt] at h; exact Option.some.inj h
  rw [List.drop_eq_getElem_cons hlt, val, ha]
theorem val_set (l : List Nat) (k a b : Nat) (h : l[k]? = some a) : val (l.set k b) + 10 ^ k * a = val l + 10 ^ k * b := by
  induction l generalizing k with
  | nil => simp at h
  | cons c l ih =>
    cases k with
    | zero =>
      have hc : c = a := by simpa using h
      subst hc
      simp [val]
      omega
    | succ k =>
      have h1 := ih k (by simpa using h)
      rw [List.set_cons_succ, val, val, Nat.pow_succ, Nat.mul_comm (10 ^ k) 10, Nat.mul_assoc, Nat.mul_assoc]
      omega
/-- the length without zeros at the end -/
def tl (l : List Nat) : Nat → Nat
  | 0 => 0
  | n + 1 => if l[n]? = some 0 then tl l n else n + 1
theorem tl_le (l : List Nat) : ∀ n, tl l n ≤ n := by
  intro n
  induction n with
  | zero => exact Nat.le_refl _
  | succ n ih =>
    unfold tl
    split
    · omega
    · exact Nat.le_refl _
theorem tl_zero (l : List Nat) (n : Nat) (h : l[n]? = some 0) : tl l (n + 1) = tl l n := by rw [tl, if_pos h]
theorem tl_stop (l : List Nat) (n : Nat) (h : l[n]? ≠ some 0) : tl l (n + 1) = n + 1 := by rw [tl, if_neg h]
theorem tl_last (l : List Nat) : ∀ n, tl l n = 0 ∨ l[tl l n - 1]? ≠ some 0 := by
  intro n
  induction n with
  | zero => exact .inl rfl
  | succ n ih =>
    by_cases h : l[n]? = some 0
    · rw [tl_zero l n h]
      exact ih
    · rw [tl_stop l n h]
      exact .inr h
theorem val_tl (l : List Nat) : ∀ n, n ≤ l.length → val (l.take (tl l n)) = val (l.take n) := by
  intro n
  induction n with
  | zero => intro _; rfl
  | succ n ih =>
    intro hn
    by_cases h : l[n]? = some 0
    · rw [tl_zero l n h, ih (by omega), val_take_succ l n 0 h, Nat.mul_zero, Nat.add_zero]
    · rw [tl_stop l n h]
def trim (l : List Nat) : List Nat := l.take (tl l l.length)
theorem trim_length (l : List Nat) : (trim l).length = tl l l.length := by
  unfold trim
  rw [List.length_take]
  have := tl_le l l.length
  omega
/-- digits without a zero at the end are those of their number -/
theorem dig_val {l : List Nat} (h : Lim l) (h0 : l.length = 0 ∨ l[l.length - 1]? ≠ some 0) : dig (val l) = l := by
  induction l with
  | nil => exact dig_zero
  | cons a l ih =>
    have ha := h.head
    rw [val]
    cases l with
    | nil =>
      have : a ≠ 0 := by simpa using h0
      rw [show a + 10 * val [] = a from by simp [val]]
      exact dig_small a (by omega) ha
    | cons b l =>
      have h1 : (b :: l).length = 0 ∨ (b :: l)[(b :: l).length - 1]? ≠ some 0 := by
        right
        rcases h0 with h0 | h0
        · simp at h0
        · simpa using h0
      have h2 := ih h.tail h1
      have hv : val (b :: l) ≠ 0 := by
        intro e
        rw [e, dig_zero] at h2
        cases h2
      rw [dig_pos _ (by omega), show (a + 10 * val (b :: l)) / 10 = val (b :: l) by omega, show (a + 10 * val (b :: l)) % 10 = a by omega, h2]
theorem dig_last (x : Nat) : (dig x).length = 0 ∨ (dig x)[(dig x).length - 1]? ≠ some 0 := by
  induction x using Nat.strongRecOn with
  | ind x ih =>
    rcases Nat.eq_zero_or_pos x with rfl | h
    · left; rw [dig_zero]; rfl
    · right
      have h1 := ih (x / 10) (by omega)
      rw [dig_pos x h]
      rcases h1 with h1 | h1
      · have h2 : dig (x / 10) = [] := List.eq_nil_of_length_eq_zero h1
        have h3 : x / 10 = 0 := by rw [← val_dig (x / 10), h2]; rfl
        rw [h2]
        simp
        omega
      · cases hd : dig (x / 10) with
        | nil =>
          have h3 : x / 10 = 0 := by rw [← val_dig (x / 10), hd]; rfl
          simp
          omega
        | cons b l =>
          rw [hd] at h1
          simpa using h1
theorem trim_dig {l : List Nat} (h : Lim l) : trim l = dig (val l) := by
  have h1 := val_tl l l.length (Nat.le_refl _)
  rw [List.take_length] at h1
  have h2 : (trim l).length = 0 ∨ (trim l)[(trim l).length - 1]? ≠ some 0 := by
    rw [trim_length]
    rcases tl_last l l.length with h2 | h2
    · exact .inl h2
    · rcases Nat.eq_zero_or_pos (tl l l.length) with h3 | h3
      · exact .inl h3
      · right
        unfold trim
        rw [List.getElem?_take, if_pos (by omega)]
        exact h2
  have h3 := dig_val (h.take (tl l l.length)) h2
  have h4 : val (l.take (tl l l.length)) = val l := h1
  rw [h4] at h3
  exact h3.symm
theorem trim_len {l : List Nat} (h : Lim l) : tl l l.length = (dig (val l)).length := by rw [← trim_dig h, trim_length]
theorem dig_len_le {x n : Nat} (h : x < 10 ^ n) : (dig x).length ≤ n := by
  induction n generalizing x with
  | zero =>
    have : x = 0 := by simpa using h
    rw [this, dig_zero]
    exact Nat.le_refl _
  | succ n ih =>
    rcases Nat.eq_zero_or_pos x with rfl | h0
    · rw [dig_zero]; exact Nat.zero_le _
    · rw [dig_pos x h0, List.length_cons]
      have := ih (x := x / 10) (by rw [Nat.pow_succ] at h; omega)
      omega
theorem dig_len_ge {x n : Nat} (h : 10 ^ n ≤ x) : n < (dig x).length := by
  rcases Nat.lt_or_ge n (dig x).length with h1 | h1
  · exact h1
  · have h2 := val_lt (dig_lim x)
    rw [val_dig] at h2
    have h3 := Nat.pow_le_pow_right (show 0 < 10 by omega) h1
    omega
theorem dig_len_iff (x n : Nat) : (dig x).length ≤ n ↔ x < 10 ^ n := by
  constructor
  · intro h
    rcases Nat.lt_or_ge x (10 ^ n) with h1 | h1
    · exact h1
    · have := dig_len_ge h1
      omega
  · exact dig_len_le
theorem dig_len_mono {x y : Nat} (h : x ≤ y) : (dig x).length ≤ (dig y).length :=
  dig_len_le (Nat.lt_of_le_of_lt h (by have := val_lt (dig_lim y); rwa [val_dig] at this))
theorem dig_len0 {x : Nat} : (dig x).length = 0 ↔ x = 0 := by
  constructor
  · intro h
    have h1 : dig x = [] := List.eq_nil_of_length_eq_zero h
    rw [← val_dig x, h1]; rfl
  · rintro rfl; rw [dig_zero]; rfl
theorem dig_low (x k : Nat) (h : k + 1 = (dig x).length) : 10 ^ k ≤ x := by
  rcases Nat.lt_or_ge x (10 ^ k) with h1 | h1
  · have := dig_len_le h1
    omega
  · exact h1
/-- seven digits of a part, one by one -/
theorem part_step (ds : List Nat) (n p r k x : Nat) (hn : ds.length = n) (h : val ds + 10 ^ n * (p + 10 ^ (k + 1) * r) = x) : val (ds ++ [p % 10]) + 10 ^ (n + 1) * (p / 10 + 10 ^ k * r) = x := by
  rw [val_snoc, hn, ← h, Nat.pow_succ 10 n]
  have h1 : 10 ^ n * (p % 10) + 10 ^ n * 10 * (p / 10) = 10 ^ n * p := by rw [Nat.mul_assoc, ← Nat.mul_add, Nat.mod_add_div]
  have h2 : 10 ^ n * 10 * (10 ^ k * r) = 10 ^ n * (10 ^ (k + 1) * r) := by rw [Nat.pow_succ 10 k, Nat.mul_assoc, ← Nat.mul_assoc 10 (10 ^ k), Nat.mul_comm 10 (10 ^ k)]
  rw [Nat.mul_add, Nat.mul_add]
  omega
theorem part_start (ds : List Nat) (n x y : Nat) (h : val ds + 10 ^ n * y = x) : val ds + 10 ^ n * (y % 10000000 + 10 ^ 7 * (y / 10000000)) = x := by
  rw [show (10 : Nat) ^ 7 = 10000000 from rfl, Nat.mod_add_div]
  exact h
/-- a digit as a letter -/
def asc (d : Nat) : UInt8 := UInt8.ofNat (48 + d)
def text (x : Nat) : List UInt8 := if x = 0 then [48] else ((dig x).map asc).reverse
theorem asc_toNat {d : Nat} (h : d < 10) : (asc d).toNat = 48 + d := by unfold asc; rw [UInt8.toNat_ofNat']; omega
/-- without zeros in front -/
def strip : List UInt8 → List UInt8
  | [] => []
  | c :: l => if c = 48 then strip l else c :: l
theorem strip_zero (l : List UInt8) : strip (48 :: l) = strip l := by rw [strip, if_pos rfl]
theorem strip_stop {c : UInt8} {l : List UInt8} (h : c ≠ 48) : strip (c :: l) = c :: l := by rw [strip, if_neg h]
theorem asc_zero {d : Nat} (h : d < 10) : asc d = 48 ↔ d = 0 := by
  constructor
  · intro e
    have h1 := congrArg UInt8.toNat e
    rw [asc_toNat h] at h1
    have : (48 : UInt8).toNat = 48 := rfl
    omega
  · rintro rfl; rfl
theorem strip_rev (ds : List Nat) (h : Lim ds) : ∀ n, n ≤ ds.length → strip (((ds.take n).map asc).reverse) = ((ds.take (tl ds n)).map asc).reverse := by
  intro n
  induction n with
  | zero => intro _; rfl
  | succ n ih =>
    intro hn
    obtain ⟨d, hd⟩ : ∃ d, ds[n]? = some d := ⟨_, List.getElem?_eq_getElem (by omega)⟩
    have e : ((ds.take (n + 1)).map asc).reverse = asc d :: ((ds.take n).map asc).reverse := by
      rw [List.take_add_one, hd, Option.toList_some, List.map_append, List.reverse_append]
      rfl
    have hlt : d < 10 := h d (List.mem_of_getElem? hd)
    by_cases h0 : d = 0
    · subst h0
      rw [e, tl_zero ds n hd, show asc 0 = 48 from rfl, strip_zero, ih (by omega)]
    · rw [tl_stop ds n (by rw [hd]; intro x; exact h0 (Option.some.inj x)), e, strip_stop (fun x => h0 ((asc_zero hlt).1 x))]
/-- all digits turned round, without the zeros in front -/
theorem strip_text (ds : List Nat) (h : Lim ds) : strip ((ds.map asc).reverse) = ((dig (val ds)).map asc).reverse := by
  have h1 := strip_rev ds h ds.length (Nat.le_refl _)
  rw [List.take_length] at h1
  rw [h1, ← trim_dig h]
  rfl
end De
end Go.Proofs.YtpcmbmabmfghkaaDoor

/- Sums, differences and products of limbs, in plain Lean: what each round says. -/
import Derived.Test.YtflgfkelbniblaaDoorNat
namespace Go.Proofs.YtflgfkelbniblaaDoor
set_option linter.unusedVariables false
namespace Na
theorem lt_of_get {α : Type} {l : List α} {k : Nat} {b : α} (hk : l[k]? = some b) : k < l.length := by
  rcases Nat.lt_or_ge k l.length with h | h
  · exact h
  · rw [List.getElem?_eq_none h] at hk; cases hk
/-- limb k, 0 behind the last one -/
def at0 (l : List Nat) (k : Nat) : Nat := l[k]?.getD 0
theorem at0_some {l : List Nat} {k a : Nat} (h : l[k]? = some a) : at0 l k = a := by unfold at0; rw [h]; rfl
theorem at0_none {l : List Nat} {k : Nat} (h : l.length ≤ k) : at0 l k = 0 := by unfold at0; rw [List.getElem?_eq_none h]; rfl
theorem at0_lt {l : List Nat} (h : Lim l) (k : Nat) : at0 l k < 16777216 := by
  rcases Nat.lt_or_ge k l.length with h1 | h1
  · exact Nat.lt_of_le_of_lt (Nat.le_of_eq (at0_some (List.getElem?_eq_getElem h1))) (h.at (List.getElem?_eq_getElem h1))
  · rw [at0_none h1]; decide
theorem val_take_at0 (l : List Nat) (k : Nat) : val (l.take (k + 1)) = val (l.take k) + 16777216 ^ k * at0 l k := by
  rcases Nat.lt_or_ge k l.length with h1 | h1
  · rw [at0_some (List.getElem?_eq_getElem h1), val_take_succ l k _ (List.getElem?_eq_getElem h1)]
  · rw [at0_none h1, Nat.mul_zero, List.take_of_length_le (by omega), List.take_of_length_le (by omega), Nat.add_zero]
theorem split24 (P t : Nat) : P * (t % 16777216) + P * 16777216 * (t / 16777216) = P * t := by
  rw [Nat.mul_assoc, ← Nat.mul_add, Nat.mod_add_div]
/-- one column of a sum -/
theorem add_step (X Y o : List Nat) (k cr t : Nat) (ho : o.length = k) (h : val o + 16777216 ^ k * cr = val (X.take k) + val (Y.take k)) (ht : t = cr + at0 X k + at0 Y k) :
    val (o ++ [t % 16777216]) + 16777216 ^ (k + 1) * (t / 16777216) = val (X.take (k + 1)) + val (Y.take (k + 1)) := by
  rw [val_snoc, ho, val_take_at0, val_take_at0, Nat.pow_succ]
  have h1 := split24 (16777216 ^ k) t
  have h2 : 16777216 ^ k * t = 16777216 ^ k * cr + 16777216 ^ k * at0 X k + 16777216 ^ k * at0 Y k := by rw [ht, Nat.mul_add, Nat.mul_add]
  omega
theorem add_carry (cr x y t : Nat) (hc : cr ≤ 1) (hx : x < 16777216) (hy : y < 16777216) (ht : t = cr + x + y) : t / 16777216 ≤ 1 := by omega
theorem add_end (X Y o : List Nat) (k cr : Nat) (ho : o.length = k) (h : val o + 16777216 ^ k * cr = val (X.take k) + val (Y.take k)) (hX : X.length ≤ k) (hY : Y.length ≤ k) : val (o ++ [cr]) = val X + val Y := by
  rw [val_snoc, ho, h, List.take_of_length_le hX, List.take_of_length_le hY]
/-- one column of a difference: enough is there -/
theorem sub_yes (X Y o : List Nat) (k bw d : Nat) (ho : o.length = k) (h : val o + val (Y.take k) = val (X.take k) + 16777216 ^ k * bw) (hd : d + bw + at0 Y k = at0 X k) :
    val (o ++ [d]) + val (Y.take (k + 1)) = val (X.take (k + 1)) + 16777216 ^ (k + 1) * 0 := by
  rw [val_snoc, ho, val_take_at0, val_take_at0, ← hd, Nat.mul_add, Nat.mul_add]
  omega
/-- one column of a difference: something is borrowed -/
theorem sub_no (X Y o : List Nat) (k bw d : Nat) (ho : o.length = k) (h : val o + val (Y.take k) = val (X.take k) + 16777216 ^ k * bw) (hd : d + bw + at0 Y k = at0 X k + 16777216) :
    val (o ++ [d]) + val (Y.take (k + 1)) = val (X.take (k + 1)) + 16777216 ^ (k + 1) * 1 := by
  rw [val_snoc, ho, val_take_at0, val_take_at0, Nat.pow_succ]
  have h1 : 16777216 ^ k * d + 16777216 ^ k * bw + 16777216 ^ k * at0 Y k = 16777216 ^ k * at0 X k + 16777216 ^ k * 16777216 := by
    rw [← Nat.mul_add, ← Nat.mul_add, hd, Nat.mul_add]
  omega
theorem sub_end (X Y o : List Nat) (k bw : Nat) (hl : Lim o) (ho : o.length = k) (h : val o + val (Y.take k) = val (X.take k) + 16777216 ^ k * bw) (hX : X.length ≤ k) (hY : Y.length ≤ k) (hle : val Y ≤ val X) : val o = val X - val Y := by
  rw [List.take_of_length_le hX, List.take_of_length_le hY] at h
  have h1 := val_lt hl
  rw [ho] at h1
  rcases Nat.eq_zero_or_pos bw with rfl | hb
  · omega
  · have h2 := Nat.mul_le_mul_left (16777216 ^ k) hb
    rw [Nat.mul_one] at h2
    omega
theorem set_mid (o X : List Nat) (k d : Nat) (ho : o.length = k) (hk : k < X.length) : (o ++ X.drop k).set k d = (o ++ [d]) ++ X.drop (k + 1) := by
  rw [List.set_append_right _ _ (by omega), ho, Nat.sub_self, List.drop_eq_getElem_cons hk, List.append_assoc]
  rfl
theorem get_mid (o X : List Nat) (k a : Nat) (ho : o.length = k) (h : X[k]? = some a) : (o ++ X.drop k)[k]? = some a := by
  rw [List.getElem?_append_right (by omega), ho, Nat.sub_self, List.getElem?_drop]
  exact h
/-- columns: one product added -/
theorem prod_step (out X Y : List Nat) (i k e a b S : Nat) (he : out[i + k]? = some e) (h : val out = S + 16777216 ^ i * (a * val (Y.take k))) (hb : Y[k]? = some b) :
    val (out.set (i + k) (e + a * b)) = S + 16777216 ^ i * (a * val (Y.take (k + 1))) := by
  have h1 := val_set out (i + k) e (e + a * b) he
  rw [val_take_succ Y k b hb, Nat.mul_add, Nat.mul_add, ← Nat.add_assoc, ← h]
  have h2 : 16777216 ^ i * (a * (16777216 ^ k * b)) = 16777216 ^ (i + k) * (a * b) := by
    rw [Nat.pow_add, Nat.mul_left_comm a, Nat.mul_assoc]
  rw [Nat.mul_add] at h1
  omega
theorem prod_row (X Y : List Nat) (i a : Nat) (ha : X[i]? = some a) : val (X.take i) * val Y + 16777216 ^ i * (a * val Y) = val (X.take (i + 1)) * val Y := by
  rw [val_take_succ X i a ha, Nat.add_mul, Nat.mul_assoc]
/-- no column is too great: those from i + k on have i products, all at most i + 1 -/
def Cols (out : List Nat) (C i k : Nat) : Prop := ∀ j e, out[j]? = some e → e ≤ (i + 1) * C ∧ (i + k ≤ j → e ≤ i * C)
theorem cols_zero (n C : Nat) : Cols (List.replicate n 0) C 0 0 := fun j e h => by
  have h1 := List.eq_of_mem_replicate (List.mem_of_getElem? h)
  subst h1
  exact ⟨Nat.zero_le _, fun _ => Nat.zero_le _⟩
theorem cols_step {out : List Nat} {C i k e p : Nat} (h : Cols out C i k) (he : out[i + k]? = some e) (hp : p ≤ C) : Cols (out.set (i + k) (e + p)) C i (k + 1) := fun j x hx => by
  by_cases hj : j = i + k
  · subst hj
    rw [List.getElem?_set_self (lt_of_get he)] at hx
    obtain rfl := Option.some.inj hx
    have h1 := (h _ _ he).2 (Nat.le_refl _)
    refine ⟨?_, fun h2 => by omega⟩
    rw [Nat.add_mul, Nat.one_mul]
    omega
  · rw [List.getElem?_set_ne (fun e => hj e.symm)] at hx
    have h1 := h _ _ hx
    exact ⟨h1.1, fun h2 => h1.2 (by omega)⟩
theorem cols_row {out : List Nat} {C i k : Nat} (h : Cols out C i k) : Cols out C (i + 1) 0 := fun j e he => by
  have h1 := (h j e he).1
  exact ⟨Nat.le_trans h1 (Nat.mul_le_mul_right C (by omega)), fun _ => h1⟩
theorem prod24 {a b : Nat} (ha : a < 16777216) (hb : b < 16777216) : a * b ≤ 281474976710656 := by
  have := Nat.mul_le_mul (Nat.le_of_lt ha) (Nat.le_of_lt hb)
  simpa using this
/-- carries: one column -/
theorem carry_step (o out : List Nat) (k cr e t V : Nat) (ho : o.length = k) (he : out[k]? = some e) (h : val o + 16777216 ^ k * (cr + val (out.drop k)) = V) (ht : t = cr + e) :
    val (o ++ [t % 16777216]) + 16777216 ^ (k + 1) * (t / 16777216 + val (out.drop (k + 1))) = V := by
  rw [val_snoc, ho, ← h, val_drop_cons out k e he, Nat.pow_succ, Nat.mul_add, Nat.mul_add, Nat.mul_add]
  have h1 := split24 (16777216 ^ k) t
  rw [ht, Nat.mul_add] at h1
  rw [ht]
  have h2 : 16777216 ^ k * (16777216 * val (out.drop (k + 1))) = 16777216 ^ k * 16777216 * val (out.drop (k + 1)) := (Nat.mul_assoc _ _ _).symm
  omega
theorem carry_end (o out : List Nat) (n cr V : Nat) (ho : o.length = n) (hout : out.length ≤ n) (h : val o + 16777216 ^ n * (cr + val (out.drop n)) = V) (hV : V < 16777216 ^ n) : val o = V := by
  rw [List.drop_of_length_le hout] at h
  rcases Nat.eq_zero_or_pos cr with rfl | hb
  · simp [val] at h
    exact h
  · have h2 := Nat.mul_le_mul_left (16777216 ^ n) (Nat.le_trans hb (Nat.le_add_right cr (val [])))
    rw [Nat.mul_one] at h2
    omega
theorem val_mul_lt {X Y : List Nat} (hX : Lim X) (hY : Lim Y) : val X * val Y < 16777216 ^ (X.length + Y.length) := by
  rw [Nat.pow_add]
  exact Nat.mul_lt_mul_of_lt_of_lt (val_lt hX) (val_lt hY)
theorem dig_len_mul (x y : Nat) : (dig (x * y)).length ≤ (dig x).length + (dig y).length := by
  have h := val_mul_lt (dig_lim x) (dig_lim y)
  rw [val_dig, val_dig] at h
  exact dig_len_le h
end Na
end Go.Proofs.YtflgfkelbniblaaDoor

/- Wm -/
import Derived.Test.YtjhaogbopmhkoaaDoorY03
import Derived.Test.YtjhaogbopmhkoaaDoorY04
import Derived.Lib.TrailingZeros
namespace Go.Proofs.YtjhaogbopmhkoaaDoor
set_option linter.unusedVariables false
namespace Wo
/-- the limbs of a number, the lowest first -/
def dig (x : Nat) : List Nat := if x = 0 then [] else (x % 18446744073709551616) :: dig (x / 18446744073709551616)
termination_by x
decreasing_by omega
/-- the number of some limbs -/
def val : List Nat → Nat
  | [] => 0
  | a :: l => a + 18446744073709551616 * val l
/-- limbs are small -/
def Lim (l : List Nat) : Prop := ∀ a ∈ l, a < 18446744073709551616
theorem dig_zero : dig 0 = [] := by unfold dig; rfl
theorem dig_pos (x : Nat) (h : 0 < x) : dig x = (x % 18446744073709551616) :: dig (x / 18446744073709551616) := by
  rw [dig, if_neg (by omega)]
theorem dig_small (x : Nat) (h : 0 < x) (h2 : x < 18446744073709551616) : dig x = [x] := by
  rw [dig_pos x h, Nat.mod_eq_of_lt h2, Nat.div_eq_of_lt h2, dig_zero]
theorem val_dig (x : Nat) : val (dig x) = x := by
  induction x using Nat.strongRecOn with
  | ind x ih =>
    rcases Nat.eq_zero_or_pos x with rfl | h
    · rw [dig_zero]; rfl
    · rw [dig_pos x h, val, ih _ (by omega)]
      omega
theorem dig_inj {x y : Nat} (h : dig x = dig y) : x = y := by rw [← val_dig x, h, val_dig]
theorem dig_lim (x : Nat) : Lim (dig x) := by
  induction x using Nat.strongRecOn with
  | ind x ih =>
    rcases Nat.eq_zero_or_pos x with rfl | h
    · rw [dig_zero]; intro a ha; cases ha
    · rw [dig_pos x h]
      intro a ha
      rcases List.mem_cons.1 ha with rfl | ha
      · omega
      · exact ih _ (by omega) a ha
theorem Lim.tail {a : Nat} {l : List Nat} (h : Lim (a :: l)) : Lim l := fun b hb => h b (List.mem_cons_of_mem _ hb)
theorem Lim.head {a : Nat} {l : List Nat} (h : Lim (a :: l)) : a < 18446744073709551616 := h a (List.mem_cons_self ..)
theorem Lim.at {l : List Nat} (h : Lim l) {k a : Nat} (hk : l[k]? = some a) : a < 18446744073709551616 := h a (List.mem_of_getElem? hk)
theorem Lim.nil : Lim [] := fun a h => by cases h
theorem Lim.cons {a : Nat} {l : List Nat} (h : a < 18446744073709551616) (hl : Lim l) : Lim (a :: l) := fun b hb => by
  rcases List.mem_cons.1 hb with rfl | hb
  · exact h
  · exact hl b hb
theorem Lim.append {l m : List Nat} (h : Lim l) (hm : Lim m) : Lim (l ++ m) := fun b hb => by
  rcases List.mem_append.1 hb with hb | hb
  · exact h b hb
  · exact hm b hb
theorem Lim.one {a : Nat} (h : a < 18446744073709551616) : Lim [a] := Lim.cons h Lim.nil
theorem Lim.take {l : List Nat} (h : Lim l) (k : Nat) : Lim (l.take k) := fun b hb => h b (List.mem_of_mem_take hb)
theorem Lim.drop {l : List Nat} (h : Lim l) (k : Nat) : Lim (l.drop k) := fun b hb => h b (List.mem_of_mem_drop hb)
theorem Lim.set {l : List Nat} (h : Lim l) (k : Nat) {a : Nat} (ha : a < 18446744073709551616) : Lim (l.set k a) := fun b hb => by
  rcases List.mem_or_eq_of_mem_set hb with hb | rfl
  · exact h b hb
  · exact ha
theorem Lim.zeros (n : Nat) : Lim (List.replicate n 0) := fun b hb => by
  have := List.eq_of_mem_replicate hb
  omega
theorem val_lt {l : List Nat} (h : Lim l) : val l < 18446744073709551616 ^ l.length := by
  induction l with
  | nil => simp [val]
  | cons a l ih =>
    have h1 := ih h.tail
    have h2 := h.head
    rw [val, List.length_cons, Nat.pow_succ]
    omega
theorem val_append (l m : List Nat) : val (l ++ m) = val l + 18446744073709551616 ^ l.length * val m := by
  induction l with
  | nil => simp [val]
  | cons a l ih =>
    rw [List.cons_append, val, val, ih, List.length_cons, Nat.pow_succ, Nat.mul_add, ← Nat.mul_assoc, Nat.mul_comm 18446744073709551616 (18446744073709551616 ^ l.length)]
    omega
theorem val_snoc (l : List Nat) (a : Nat) : val (l ++ [a]) = val l + 18446744073709551616 ^ l.length * a := by
  rw [val_append]; simp [val]
theorem val_zeros (n : Nat) : val (List.replicate n 0) = 0 := by
  induction n with
  | zero => rfl
  | succ n ih => rw [List.replicate_succ, val, ih]
theorem val_split (l : List Nat) (k : Nat) (h : k ≤ l.length) : val l = val (l.take k) + 18446744073709551616 ^ k * val (l.drop k) := by
  have h1 := val_append (l.take k) (l.drop k)
  rw [List.take_append_drop, List.length_take, Nat.min_eq_left h] at h1
  exact h1
theorem val_take_succ (l : List Nat) (k a : Nat) (h : l[k]? = some a) : val (l.take (k + 1)) = val (l.take k) + 18446744073709551616 ^ k * a := by
  have hlt : k < l.length := by
    rcases Nat.lt_or_ge k l.length with h1 | h1
    · exact h1
    · rw [List.getElem?_eq_none h1] at h; cases h
  rw [List.take_add_one, h, Option.toList_some, val_snoc, List.length_take, Nat.min_eq_left (by omega)]
theorem val_drop_cons (l : List Nat) (k a : Nat) (h : l[k]? = some a) : val (l.drop k) = a + 18446744073709551616 * val (l.drop (k + 1)) := by
  have hlt : k < l.length := by
    rcases Nat.lt_or_ge k l.length with h1 | h1
    · exact h1
    · rw [List.getElem?_eq_none h1] at h; cases h
  have ha : l[k] = a := by rw [List.getElem?_eq_getElem hlt] at h; exact Option.some.inj h
  rw [List.drop_eq_getElem_cons hlt, val, ha]
theorem val_set (l : List Nat) (k a b : Nat) (h : l[k]? = some a) : val (l.set k b) + 18446744073709551616 ^ k * a = val l + 18446744073709551616 ^ k * b := by
  induction l generalizing k with
  | nil => simp at h
  | cons c l ih =>
    cases k with
    | zero =>
      have hc : c = a := by simpa using h
      subst hc
      simp [val]
      omega
    | succ k =>
      have h1 := ih k (by simpa using h)
      rw [List.set_cons_succ, val, val, Nat.pow_succ, Nat.mul_comm (18446744073709551616 ^ k) 18446744073709551616, Nat.mul_assoc, Nat.mul_assoc]
      omega
/-- the length without zeros at the end -/
def tl (l : List Nat) : Nat → Nat
  | 0 => 0
  | n + 1 => if l[n]? = some 0 then tl l n else n + 1
theorem tl_le (l : List Nat) : ∀ n, tl l n ≤ n := by
  intro n
  induction n with
  | zero => exact Nat.le_refl _
  | succ n ih =>
    unfold tl
    split
    · omega
    · exact Nat.le_refl _
theorem tl_zero (l : List Nat) (n : Nat) (h : l[n]? = some 0) : tl l (n + 1) = tl l n := by rw [tl, if_pos h]
theorem tl_stop (l : List Nat) (n : Nat) (h : l[n]? ≠ some 0) : tl l (n + 1) = n + 1 := by rw [tl, if_neg h]
theorem tl_last (l : List Nat) : ∀ n, tl l n = 0 ∨ l[tl l n - 1]? ≠ some 0 := by
  intro n
  induction n with
  | zero => exact .inl rfl
  | succ n ih =>
    by_cases h : l[n]? = some 0
    · rw [tl_zero l n h]
      exact ih
    · rw [tl_stop l n h]
      exact .inr h
theorem val_tl (l : List Nat) : ∀ n, n ≤ l.length → val (l.take (tl l n)) = val (l.take n) := by
  intro n
  induction n with
  | zero => intro _; rfl
  | succ n ih =>
    intro hn
    by_cases h : l[n]? = some 0
    · rw [tl_zero l n h, ih (by omega), val_take_succ l n 0 h, Nat.mul_zero, Nat.add_zero]
    · rw [tl_stop l n h]
def trim (l : List Nat) : List Nat := l.take (tl l l.length)
theorem trim_length (l : List Nat) : (trim l).length = tl l l.length := by
  unfold trim
  rw [List.length_take]
  have := tl_le l l.length
  omega
/-- limbs without a zero at the end are those of their number -/
theorem dig_val {l : List Nat} (h : Lim l) (h0 : l.length = 0 ∨ l[l.length - 1]? ≠ some 0) : dig (val l) = l := by
  induction l with
  | nil => exact dig_zero
  | cons a l ih =>
    have ha := h.head
    rw [val]
    cases l with
    | nil =>
      have : a ≠ 0 := by simpa using h0
      rw [show a + 18446744073709551616 * val [] = a from by simp [val]]
      exact dig_small a (by omega) ha
    | cons b l =>
      have h1 : (b :: l).length = 0 ∨ (b :: l)[(b :: l).length - 1]? ≠ some 0 := by
        right
        rcases h0 with h0 | h0
        · simp at h0
        · simpa using h0
      have h2 := ih h.tail h1
      have hv : val (b :: l) ≠ 0 := by
        intro e
        rw [e, dig_zero] at h2
        cases h2
      rw [dig_pos _ (by omega), show (a + 18446744073709551616 * val (b :: l)) / 18446744073709551616 = val (b :: l) by omega, show (a + 18446744073709551616 * val (b :: l)) % 18446744073709551616 = a by omega, h2]
theorem dig_last (x : Nat) : (dig x).length = 0 ∨ (dig x)[(dig x).length - 1]? ≠ some 0 := by
  induction x using Nat.strongRecOn with
  | ind x ih =>
    rcases Nat.eq_zero_or_pos x with rfl | h
    · left; rw [dig_zero]; rfl
    · right
      have h1 := ih (x / 18446744073709551616) (by omega)
      rw [dig_pos x h]
      rcases h1 with h1 | h1
      · have h2 : dig (x / 18446744073709551616) = [] := List.eq_nil_of_length_eq_zero h1
        have h3 : x / 18446744073709551616 = 0 := by rw [← val_dig (x / 18446744073709551616), h2]; rfl
        rw [h2]
        simp
        omega
      · cases hd : dig (x / 18446744073709551616) with
        | nil =>
          have h3 : x / 18446744073709551616 = 0 := by rw [← val_dig (x / 18446744073709551616), hd]; rfl
          simp
          omega
        | cons b l =>
          rw [hd] at h1
          simpa using h1
theorem trim_dig {l : List Nat} (h : Lim l) : trim l = dig (val l) := by
  have h1 := val_tl l l.length (Nat.le_refl _)
  rw [List.take_length] at h1
  have h2 : (trim l).length = 0 ∨ (trim l)[(trim l).length - 1]? ≠ some 0 := by
    rw [trim_length]
    rcases tl_last l l.length with h2 | h2
    · exact .inl h2
    · rcases Nat.eq_zero_or_pos (tl l l.length) with h3 | h3
      · exact .inl h3
      · right
        unfold trim
        rw [List.getElem?_take, if_pos (by omega)]
        exact h2
  have h3 := dig_val (h.take (tl l l.length)) h2
  have h4 : val (l.take (tl l l.length)) = val l := h1
  rw [h4] at h3
  exact h3.symm
theorem trim_len {l : List Nat} (h : Lim l) : tl l l.length = (dig (val l)).length := by rw [← trim_dig h, trim_length]
theorem dig_len_le {x n : Nat} (h : x < 18446744073709551616 ^ n) : (dig x).length ≤ n := by
  induction n generalizing x with
  | zero =>
    have : x = 0 := by simpa using h
    rw [this, dig_zero]
    exact Nat.le_refl _
  | succ n ih =>
    rcases Nat.eq_zero_or_pos x with rfl | h0
    · rw [dig_zero]; exact Nat.zero_le _
    · rw [dig_pos x h0, List.length_cons]
      have := ih (x := x / 18446744073709551616) (by rw [Nat.pow_succ] at h; omega)
      omega
theorem dig_len_ge {x n : Nat} (h : 18446744073709551616 ^ n ≤ x) : n < (dig x).length := by
  rcases Nat.lt_or_ge n (dig x).length with h1 | h1
  · exact h1
  · have h2 := val_lt (dig_lim x)
    rw [val_dig] at h2
    have h3 := Nat.pow_le_pow_right (show 0 < 18446744073709551616 by omega) h1
    omega
theorem dig_len_iff (x n : Nat) : (dig x).length ≤ n ↔ x < 18446744073709551616 ^ n := by
  constructor
  · intro h
    rcases Nat.lt_or_ge x (18446744073709551616 ^ n) with h1 | h1
    · exact h1
    · have := dig_len_ge h1
      omega
  · exact dig_len_le
theorem dig_len_mono {x y : Nat} (h : x ≤ y) : (dig x).length ≤ (dig y).length :=
  dig_len_le (Nat.lt_of_le_of_lt h (by have := val_lt (dig_lim y); rwa [val_dig] at this))
theorem dig_len0 {x : Nat} : (dig x).length = 0 ↔ x = 0 := by
  constructor
  · intro h
    have h1 : dig x = [] := List.eq_nil_of_length_eq_zero h
    rw [← val_dig x, h1]; rfl
  · rintro rfl; rw [dig_zero]; rfl
theorem dig_low (x k : Nat) (h : k + 1 = (dig x).length) : 18446744073709551616 ^ k ≤ x := by
  rcases Nat.lt_or_ge x (18446744073709551616 ^ k) with h1 | h1
  · have := dig_len_le h1
    omega
  · exact h1
/-- the limit -/
theorem lt_of_get {α : Type} {l : List α} {k : Nat} {b : α} (hk : l[k]? = some b) : k < l.length := by
  rcases Nat.lt_or_ge k l.length with h | h
  · exact h
  · rw [List.getElem?_eq_none h] at hk; cases hk
/-- limb k, 0 behind the last one -/
def at0 (l : List Nat) (k : Nat) : Nat := l[k]?.getD 0
theorem at0_some {l : List Nat} {k a : Nat} (h : l[k]? = some a) : at0 l k = a := by unfold at0; rw [h]; rfl
theorem at0_none {l : List Nat} {k : Nat} (h : l.length ≤ k) : at0 l k = 0 := by unfold at0; rw [List.getElem?_eq_none h]; rfl
theorem at0_lt {l : List Nat} (h : Lim l) (k : Nat) : at0 l k < 18446744073709551616 := by
  rcases Nat.lt_or_ge k l.length with h1 | h1
  · exact Nat.lt_of_le_of_lt (Nat.le_of_eq (at0_some (List.getElem?_eq_getElem h1))) (h.at (List.getElem?_eq_getElem h1))
  · rw [at0_none h1]; decide
theorem val_take_at0 (l : List Nat) (k : Nat) : val (l.take (k + 1)) = val (l.take k) + 18446744073709551616 ^ k * at0 l k := by
  rcases Nat.lt_or_ge k l.length with h1 | h1
  · rw [at0_some (List.getElem?_eq_getElem h1), val_take_succ l k _ (List.getElem?_eq_getElem h1)]
  · rw [at0_none h1, Nat.mul_zero, List.take_of_length_le (by omega), List.take_of_length_le (by omega), Nat.add_zero]
theorem split24 (P t : Nat) : P * (t % 18446744073709551616) + P * 18446744073709551616 * (t / 18446744073709551616) = P * t := by
  rw [Nat.mul_assoc, ← Nat.mul_add, Nat.mod_add_div]
/-- one column of a sum -/
theorem sub_yes (X Y o : List Nat) (k bw d : Nat) (ho : o.length = k) (h : val o + val (Y.take k) = val (X.take k) + 18446744073709551616 ^ k * bw) (hd : d + bw + at0 Y k = at0 X k) :
    val (o ++ [d]) + val (Y.take (k + 1)) = val (X.take (k + 1)) + 18446744073709551616 ^ (k + 1) * 0 := by
  rw [val_snoc, ho, val_take_at0, val_take_at0, ← hd, Nat.mul_add, Nat.mul_add]
  omega
/-- one column of a difference: something is borrowed -/
theorem sub_no (X Y o : List Nat) (k bw d : Nat) (ho : o.length = k) (h : val o + val (Y.take k) = val (X.take k) + 18446744073709551616 ^ k * bw) (hd : d + bw + at0 Y k = at0 X k + 18446744073709551616) :
    val (o ++ [d]) + val (Y.take (k + 1)) = val (X.take (k + 1)) + 18446744073709551616 ^ (k + 1) * 1 := by
  rw [val_snoc, ho, val_take_at0, val_take_at0, Nat.pow_succ]
  have h1 : 18446744073709551616 ^ k * d + 18446744073709551616 ^ k * bw + 18446744073709551616 ^ k * at0 Y k = 18446744073709551616 ^ k * at0 X k + 18446744073709551616 ^ k * 18446744073709551616 := by
    rw [← Nat.mul_add, ← Nat.mul_add, hd, Nat.mul_add]
  omega
theorem sub_end (X Y o : List Nat) (k bw : Nat) (hl : Lim o) (ho : o.length = k) (h : val o + val (Y.take k) = val (X.take k) + 18446744073709551616 ^ k * bw) (hX : X.length ≤ k) (hY : Y.length ≤ k) (hle : val Y ≤ val X) : val o = val X - val Y := by
  rw [List.take_of_length_le hX, List.take_of_length_le hY] at h
  have h1 := val_lt hl
  rw [ho] at h1
  rcases Nat.eq_zero_or_pos bw with rfl | hb
  · omega
  · have h2 := Nat.mul_le_mul_left (18446744073709551616 ^ k) hb
    rw [Nat.mul_one] at h2
    omega
theorem set_mid (o X : List Nat) (k d : Nat) (ho : o.length = k) (hk : k < X.length) : (o ++ X.drop k).set k d = (o ++ [d]) ++ X.drop (k + 1) := by
  rw [List.set_append_right _ _ (by omega), ho, Nat.sub_self, List.drop_eq_getElem_cons hk, List.append_assoc]
  rfl
theorem get_mid (o X : List Nat) (k a : Nat) (ho : o.length = k) (h : X[k]? = some a) : (o ++ X.drop k)[k]? = some a := by
  rw [List.getElem?_append_right (by omega), ho, Nat.sub_self, List.getElem?_drop]
  exact h
end Wo
end Go.Proofs.YtjhaogbopmhkoaaDoor

namespace Go.Proofs.YtjhaogbopmhkoaaDoor
open Go.RowKit
set_option linter.unusedVariables false
set_option maxRecDepth 100000
def encW (n : Nat) : Value := .int .u64 (n : Int)
def wds (l : List Nat) : List Value := l.map encW
theorem wds_length (l : List Nat) : (wds l).length = l.length := List.length_map _
theorem Sl.wd {w : World} {B : Nat} {A : Option Addr} {l : List Nat} (h : Sl w B A (wds l)) {k : Nat} {b : Nat} (hk : l[k]? = some b) : ∃ ad, A = some ad ∧ ad.block < B ∧ w.cell? (ad.add k) = some (.int .u64 (b : Int)) := by
  have hlt := get_lt hk
  obtain ⟨ad, e, hb, hc⟩ := h (by rw [wds_length]; omega)
  exact ⟨ad, e, hb, hc k _ (by unfold wds; rw [List.getElem?_map, hk]; rfl)⟩
theorem infoW : (Tryd.prog.info? 155).map (fun i => (i.zero, i.size, i.bytes)) = some (some (.int .u64 0), 1, 8) := by kernel_rfl
/-- the table of trailing zeros lies in the library's variable -/
def Tab (w : World) : Prop := 0 < w.heap.size ∧ ∀ k v : Nat, Lib.deBruijn64tab[k]? = some v → w.cell? ⟨0, k, none⟩ = some (.int .u8 (v : Int))
theorem Tab.below {w w' : World} (h : Tab w) (hb : Below w.heap.size w w') : Tab w' := ⟨Nat.lt_of_lt_of_le h.1 hb.size, fun k v hk => (hb.cell (p := ⟨0, k, none⟩) h.1).trans (h.2 k v hk)⟩
set_option maxHeartbeats 1000000 in
theorem tz_any (x : Nat) (w : World) (h0 : 0 < x) (hx : x < 18446744073709551616) (ht : Tab w) : Calls Tryd.prog 175 #[.int .u64 (x : Int)] w fun e w' => e = .returned (.int .i64 (Lib.ctz 64 x : Int)) ∧ w = w' := by
  have hne : ((x : Int) == 0) = false := nat_ne0 h0
  obtain ⟨k, hk⟩ : ∃ k, Lib.ctz 64 x = k := ⟨_, rfl⟩
  obtain ⟨hlow, hk64⟩ := Lib.lowest_bit 64 x (by omega) hx
  rw [hk] at hlow hk64 ⊢
  obtain ⟨y, hy⟩ : ∃ y : Nat, 18446744073709551616 - x = y := ⟨_, rfl⟩
  have HNeg : Hid (IntKind.u64.wrap (-(x : Int)) = (y : Int)) := by
    unfold Hid
    rw [IntKind.wrap_u64]
    omega
  obtain ⟨t, ht2⟩ : ∃ t : Nat, 2 ^ k = t := ⟨_, rfl⟩
  have HAnd : Hid (bits .and .u64 (x : Int) (y : Int) = (t : Int)) := by
    unfold Hid
    rw [u64_and_nat x y hx (by omega), ← ht2, ← hlow, ← hy]
  obtain ⟨hq, hv⟩ := Lib.deBruijn64_at k hk64
  rw [ht2] at hq hv
  obtain ⟨p, hp⟩ : ∃ p : Nat, t * 285870213051353865 % 18446744073709551616 = p := ⟨_, rfl⟩
  rw [hp] at hq hv
  have HMul : Hid (IntKind.u64.wrap ((t : Int) * 285870213051353865) = (p : Int)) := by
    unfold Hid
    rw [IntKind.wrap_u64]
    omega
  obtain ⟨q, hq2⟩ : ∃ q : Nat, p / 288230376151711744 = q := ⟨_, rfl⟩
  rw [hq2] at hq hv
  have hshr : (p : Int) / 288230376151711744 = (q : Int) := by omega
  have hc := ht.2 q k (by rw [List.getElem?_eq_getElem (by exact hq)]; rw [List.getD_eq_getElem?_getD, List.getElem?_eq_getElem (by exact hq)] at hv; exact congrArg some hv)
  have hq64 : (q : Int) < 64 := by omega
  clear hlow hy ht2 hp hq2 hv hk
  have hneg := HNeg.out
  have hand := HAnd.out
  have hmul := HMul.out
  go_enter Tryd.func175, Tryd.ntmps175
  go_wp2_with fail
  go_ret
  exact ⟨rfl, rfl⟩
end Go.Proofs.YtjhaogbopmhkoaaDoor

namespace Go.Proofs.YtjhaogbopmhkoaaDoor
open Go.RowKit
set_option linter.unusedVariables false
set_option maxRecDepth 100000
/-- a slice of words somewhere in a block -/
structure Wn (W : World) (base g o n c : Nat) (l : List Nat) : Prop where
  len : l.length = n
  cap : n ≤ c
  big : n ≤ 1000
  cbig : c ≤ 9223372036854775807
  blk : base ≤ g ∧ g < W.heap.size
  cel : ∀ k x : Nat, l[k]? = some x → W.cell? ⟨g, o + k, none⟩ = some (.int .u64 (x : Int))
  frz : ∀ k : Nat, k < n → W.frozen? ⟨g, o + k, none⟩ = false
  lim : Wo.Lim l
section
variable {W W' : World} {base g o n c : Nat} {l : List Nat}
theorem Wn.keep (h : Wn W base g o n c l) (hs : W.heap.size ≤ W'.heap.size) (hb : W'.heap[g]? = W.heap[g]?) : Wn W' base g o n c l :=
  ⟨h.len, h.cap, h.big, h.cbig, ⟨h.blk.1, Nat.lt_of_lt_of_le h.blk.2 hs⟩, fun k x hk => (World.cell?_of_block (a := ⟨g, o + k, none⟩) hb).trans (h.cel k x hk), fun k hk => (World.frozen?_of_block (a := ⟨g, o + k, none⟩) hb).trans (h.frz k hk), h.lim⟩
theorem Wn.below (h : Wn W base g o n c l) (hb : Below W.heap.size W W') : Wn W' base g o n c l := h.keep hb.size (hb.block g h.blk.2)
theorem Wn.other (h : Wn W base g o n c l) {r : Option Nat} (hg : W.grownBy W' r) (hr : r ≠ some g) : Wn W' base g o n c l := h.keep hg.size (hg.block g h.blk.2 (fun e => hr e.symm))
theorem Wn.drewN (h : Wn W base g o n c l) (k : Nat) : Wn (W.drewN k) base g o n c l := h.below (below_drewN (Below.refl _ _) k)
theorem Wn.take (h : Wn W base g o n c l) {k : Nat} (hk : k ≤ n) : Wn W base g o k c (l.take k) :=
  ⟨by rw [List.length_take, h.len]; omega, by have := h.cap; omega, by have := h.big; omega, h.cbig, h.blk, (fun i x hi => by
    rw [List.getElem?_take] at hi
    by_cases e : i < k
    · rw [if_pos e] at hi; exact h.cel i x hi
    · rw [if_neg e] at hi; cases hi), fun i hi => h.frz i (by omega), h.lim.take k⟩
theorem Wn.drop (h : Wn W base g o n c l) {k : Nat} (hk : k ≤ n) : Wn W base g (o + k) (n - k) (c - k) (l.drop k) :=
  ⟨by rw [List.length_drop, h.len], by have := h.cap; omega, by have := h.big; omega, by have := h.cbig; omega, h.blk, (fun i x hi => by
    rw [List.getElem?_drop] at hi
    rw [Nat.add_assoc]
    exact h.cel _ x hi), fun i hi => by rw [Nat.add_assoc]; exact h.frz _ (by omega), h.lim.drop k⟩
theorem Wn.put (h : Wn W base g o n c l) (k x : Nat) (hk : k < n) (hx : x < 18446744073709551616) : Wn (W.setCell ⟨g, o + k, none⟩ (.int .u64 (x : Int))) base g o n c (l.set k x) := by
  refine ⟨by rw [List.length_set]; exact h.len, h.cap, h.big, h.cbig, ⟨h.blk.1, by simpa [World.setCell] using h.blk.2⟩, fun i y hi => ?_, fun i hi => by rw [World.frozen?_setCell]; exact h.frz i hi, h.lim.set k hx⟩
  obtain ⟨z, hz⟩ : ∃ z, l[k]? = some z := ⟨_, List.getElem?_eq_getElem (by rw [h.len]; exact hk)⟩
  by_cases e : i = k
  · subst e
    rw [List.getElem?_set_self (by rw [h.len]; exact hk)] at hi
    obtain rfl := Option.some.inj hi
    exact cell_of_set _ (h.cel i z hz)
  · rw [List.getElem?_set_ne (fun e' => e e'.symm)] at hi
    rw [World.cell?_setCell_other _ _ _ _ (fun e2 => by have := congrArg Addr.off e2; simp only at this; omega)]
    exact h.cel i y hi
end
set_option maxHeartbeats 1000000 in
theorem nclip_any (base g o n c : Nat) (l : List Nat) (w : World) (h : Wn w base g o n c l) :
    Calls Tryd.prog 151 #[.slice (some ⟨g, o, none⟩) n c] w fun e w' => e = .returned (.slice (some ⟨g, o, none⟩) (Wo.tl l n) c) ∧ w = w' := by
  have hnc := h.cap
  have hnb := h.big
  have hcb := h.cbig
  have H := Lib.hid h
  clear h
  go_enter Tryd.func151, Tryd.ntmps151
  go_wp2_with fail
  go_loop [0] (fun v => ∃ k : Nat, k ≤ n ∧ v = .slice (some ⟨g, o, none⟩) k c ∧ Hid (Wo.tl l k = Wo.tl l n)) (fun v => slen v)
  case atStart => exact ⟨n, Nat.le_refl _, rfl, rfl⟩
  case round =>
    obtain ⟨k, hk, rfl, HT⟩ := hrel
    rcases Nat.eq_zero_or_pos k with rfl | hk0
    · go_wp2_with fail
      go_ret
      have := HT.out
      exact ⟨by rw [← this]; rfl, rfl⟩
    · have hd : decide (0 < (k : Int)) = true := decide_eq_true (by omega)
      obtain ⟨b, hb⟩ := nat_at l (k - 1) (by rw [H.out.len]; omega)
      have hc := H.out.cel _ _ hb
      by_cases hb0 : b = 0
      · have ht : Hid (Wo.tl l (k - 1) = Wo.tl l n) := by
          unfold Hid
          rw [← HT.out, ← Wo.tl_zero l (k - 1) (by rw [hb, hb0]), show k - 1 + 1 = k from by omega]
        subst hb0
        clear hb
        go_wp2_with fail
        go_round
        case rel => exact ⟨k - 1, by omega, rfl, ht⟩
        case measure => simp [slen]; omega
      · have ht : Hid (Wo.tl l n = k) := by
          unfold Hid
          rw [← HT.out, show k = k - 1 + 1 from by omega]
          exact Wo.tl_stop l (k - 1) (by rw [hb]; intro e; exact hb0 (Option.some.inj e))
        have hne : ((b : Int) == 0) = false := by rw [beq_eq_false_iff_ne]; omega
        clear hb hb0
        go_wp2_with fail
        go_ret
        exact ⟨by rw [ht.out]; rfl, rfl⟩
namespace Wo
/-- an odd number times a power of two -/
def Odd2 (Z z : Nat) : Prop := ∃ m, Z = 2 ^ z * (2 * m + 1)
theorem odd2_word (k t x v Z m : Nat) (hx : x = 2 ^ t * (2 * m + 1)) (ht : t < 64) (hZ : Z = 18446744073709551616 ^ k * (x + 18446744073709551616 * v)) : Odd2 Z (64 * k + t) := by
  refine ⟨m + 2 ^ (63 - t) * v, ?_⟩
  have e1 : 18446744073709551616 ^ k = 2 ^ (64 * k) := by rw [Nat.pow_mul]
  have e2 : (18446744073709551616 : Nat) = 2 ^ t * (2 * 2 ^ (63 - t)) := by
    rw [← Nat.pow_succ', ← Nat.pow_add, show t + (63 - t + 1) = 64 by omega]
  have e3 : x + 18446744073709551616 * v = 2 ^ t * (2 * (m + 2 ^ (63 - t) * v) + 1) := by
    rw [hx]
    conv => lhs; rhs; rw [e2]
    rw [Nat.mul_assoc, ← Nat.mul_add]
    congr 1
    rw [Nat.mul_add, Nat.mul_assoc]
    omega
  rw [hZ, e1, e3, Nat.pow_add, Nat.mul_assoc]
theorem odd2_ctz (x : Nat) (h0 : 0 < x) (hx : x < 18446744073709551616) : ∃ m, x = 2 ^ Lib.ctz 64 x * (2 * m + 1) ∧ Lib.ctz 64 x < 64 := by
  obtain ⟨m, hm, hk⟩ := Lib.ctzFrom_spec 64 x h0 hx
  have e : Lib.ctz 64 x = Lib.ctzFrom 64 x := by unfold Lib.ctz; rw [if_neg (by omega)]
  exact ⟨m, by rw [e]; exact hm, by rw [e]; exact hk⟩
end Wo
set_option maxHeartbeats 1000000 in
theorem nzeros_any (base g o n c : Nat) (l : List Nat) (w : World) (h : Wn w base g o n c l) (ht : Tab w) (h0 : 0 < Wo.val l) :
    Calls Tryd.prog 152 #[.slice (some ⟨g, o, none⟩) n c] w fun e w' => ∃ z : Nat, e = .returned (.int .i64 (z : Int)) ∧ Wo.Odd2 (Wo.val l) z ∧ z < 64 * n ∧ w = w' := by
  have hnb := h.big
  have H := Lib.hid h
  have HTb := Lib.hid ht
  have HV0 := Lib.hid h0
  clear h ht h0
  go_enter Tryd.func152, Tryd.ntmps152
  go_wp2_with fail
  go_loop [8, 3] (fun i s => ∃ k : Nat, k ≤ n ∧ i = .int .i64 (k : Int) ∧ s = .int .i64 ((64 * k : Nat) : Int) ∧ Hid (Wo.val l = 18446744073709551616 ^ k * Wo.val (l.drop k))) (fun i _ => n - (intOf i).toNat)
  case atStart => exact ⟨0, Nat.zero_le _, rfl, rfl, by unfold Hid; simp⟩
  case round =>
    obtain ⟨k, hk, rfl, rfl, HE⟩ := hrel
    rcases Nat.lt_or_ge k n with hkn | hkn
    · obtain ⟨x, hx⟩ := nat_at l k (by rw [H.out.len]; exact hkn)
      have hc := H.out.cel _ _ hx
      have hxl := H.out.lim.at hx
      have hd := Wo.val_drop_cons l k x hx
      rcases Nat.eq_zero_or_pos x with rfl | hx0
      · have HE2 : Hid (Wo.val l = 18446744073709551616 ^ (k + 1) * Wo.val (l.drop (k + 1))) := by
          unfold Hid
          rw [HE.out, hd, Nat.pow_succ, Nat.zero_add, Nat.mul_assoc]
        clear hx hd
        go_wp2_with fail
        go_round
        case rel => exact ⟨k + 1, by omega, by go_num, int_eqv (by omega), HE2⟩
        case measure => simp [intOf]; omega
      · obtain ⟨m, hm, hm64⟩ := Wo.odd2_ctz x hx0 hxl
        have HO := Lib.hid (Wo.odd2_word k (Lib.ctz 64 x) x _ (Wo.val l) m hm hm64 (by rw [HE.out, hd]))
        have HTz := Lib.hid (tz_any x w hx0 hxl HTb.out)
        obtain ⟨t, ht⟩ : ∃ t, Lib.ctz 64 x = t := ⟨_, rfl⟩
        rw [ht] at HO HTz hm64
        have hne : ((x : Int) != 0) = true := by rw [bne_iff_ne]; omega
        clear hx hd hm ht
        go_wp2_with fail
        refine HTz.out.mono ?_
        rintro e w' ⟨rfl, rfl⟩
        go_wp2_with fail
        go_ret
        exact ⟨64 * k + t, ret_int (by omega), HO.out, by omega, rfl⟩
    · exfalso
      have e := HE.out
      rw [List.drop_of_length_le (by rw [H.out.len]; exact hkn)] at e
      have := HV0.out
      simp [Wo.val] at e
      omega
end Go.Proofs.YtjhaogbopmhkoaaDoor

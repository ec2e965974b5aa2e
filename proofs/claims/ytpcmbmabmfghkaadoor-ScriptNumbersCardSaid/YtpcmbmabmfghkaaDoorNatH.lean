/- strings.TrimLeft at "0", slices.Reverse over bytes. -/
import Derived.Test.YtpcmbmabmfghkaaDoorNatG
import Derived.Test.YtpcmbmabmfghkaaDoorNp
import Derived.Lib.IndexBytes
import Derived.Lib.BufferRead
import Derived.RegionTactic
import Derived.ChangeAlike
namespace Go.Proofs.YtpcmbmabmfghkaaDoor
open Go.RowKit
set_option linter.unusedVariables false
set_option maxRecDepth 100000
/-- a list of bytes as a string -/
def str (l : List UInt8) : ByteArray := ⟨l.toArray⟩
theorem str_size (l : List UInt8) : (str l).size = l.length := by unfold str; simp [ByteArray.size]
theorem str_list (l : List UInt8) : (str l).data.toList = l := by unfold str; simp
theorem str_tail (b : UInt8) (l : List UInt8) : (str (b :: l)).extract 1 (str (b :: l)).size = str l := by
  have h := Lib.extract_to_end (str (b :: l)) 1
  rw [str_list] at h
  have h2 : ((str (b :: l)).extract 1 (str (b :: l)).size).data = l.toArray := Array.ext' (h.trans (by simp))
  cases hx : (str (b :: l)).extract 1 (str (b :: l)).size with
  | mk d =>
    rw [hx] at h2
    unfold str
    rw [← h2]
theorem str_get (l : List UInt8) (k : Nat) (b : UInt8) (h : l[k]? = some b) (hk : k < (str l).size) : (str l)[k] = b := by
  have h1 := get_lt h
  rw [List.getElem?_eq_getElem h1] at h
  exact Option.some.inj h
theorem ret_str {a b : List UInt8} (h : a = b) : Ending.returned (.string (str a)) = .returned (.string (str b)) := by rw [h]
theorem str_toList (l : List UInt8) : (str l).toList = l := by rw [ByteArray.toList_eq, str_list]
theorem str_empty {l : List UInt8} (h : l ≠ []) : (str l).toList.isEmpty = false := by
  rw [str_toList]
  cases l with
  | nil => exact absurd rfl h
  | cons b t => rfl
namespace De
/-- so many places at both ends exchanged -/
def rv (l : List UInt8) (k : Nat) : List UInt8 := (l.reverse.take k) ++ ((l.drop k).take (l.length - 2 * k)) ++ (l.reverse.drop (l.length - k))
theorem rv_length (l : List UInt8) (k : Nat) (h : 2 * k ≤ l.length) : (rv l k).length = l.length := by
  unfold rv
  simp
  omega
theorem rv_get (l : List UInt8) (k i : Nat) (h : 2 * k ≤ l.length) (hi : i < l.length) : (rv l k)[i]? = if i < k ∨ l.length - k ≤ i then l[l.length - 1 - i]? else l[i]? := by
  unfold rv
  rcases Nat.lt_or_ge i k with h1 | h1
  · rw [if_pos (.inl h1), List.getElem?_append_left (by simp; omega), List.getElem?_append_left (by simp; omega), List.getElem?_take, if_pos h1, List.getElem?_reverse hi]
  · rcases Nat.lt_or_ge i (l.length - k) with h2 | h2
    · rw [if_neg (by omega), List.getElem?_append_left (by simp; omega), List.getElem?_append_right (by simp; omega), List.getElem?_take, if_pos (by simp; omega), List.getElem?_drop]
      congr 1
      simp
      omega
    · rw [if_pos (.inr h2), List.getElem?_append_right (by simp; omega), List.getElem?_drop, List.getElem?_reverse (by simp; omega)]
      congr 1
      simp
      omega
theorem rv_zero (l : List UInt8) : rv l 0 = l := by unfold rv; simp
theorem rv_next (l : List UInt8) (k : Nat) (a b : UInt8) (h : 2 * (k + 1) ≤ l.length) (ha : l[k]? = some a) (hb : l[l.length - 1 - k]? = some b) : ((rv l k).set k b).set (l.length - 1 - k) a = rv l (k + 1) := by
  apply List.ext_getElem?
  intro i
  rcases Nat.lt_or_ge i l.length with hi | hi
  · rw [rv_get l (k + 1) i h hi]
    by_cases h1 : i = l.length - 1 - k
    · subst h1
      rw [List.getElem?_set_self (by rw [List.length_set, rv_length l k (by omega)]; omega), if_pos (.inr (by omega)), show l.length - 1 - (l.length - 1 - k) = k by omega, ha]
    · rw [List.getElem?_set_ne (fun e => h1 e.symm)]
      by_cases h2 : i = k
      · subst h2
        rw [List.getElem?_set_self (by rw [rv_length l i (by omega)]; omega), if_pos (.inl (by omega)), hb]
      · rw [List.getElem?_set_ne (fun e => h2 e.symm), rv_get l k i (by omega) hi]
        by_cases h3 : i < k ∨ l.length - k ≤ i
        · rw [if_pos h3, if_pos (by omega)]
        · rw [if_neg h3, if_neg (by omega)]
  · rw [List.getElem?_eq_none (by rw [List.length_set, List.length_set, rv_length l k (by omega)]; exact hi), List.getElem?_eq_none (by rw [rv_length l (k + 1) h]; exact hi)]
theorem rv_end (l : List UInt8) (k : Nat) (h : 2 * k ≤ l.length) (h2 : l.length ≤ 2 * k + 1) : rv l k = l.reverse := by
  apply List.ext_getElem?
  intro i
  rcases Nat.lt_or_ge i l.length with hi | hi
  · rw [rv_get l k i h hi, List.getElem?_reverse hi]
    by_cases h3 : i < k ∨ l.length - k ≤ i
    · rw [if_pos h3]
    · rw [if_neg h3, show l.length - 1 - i = i by omega]
  · rw [List.getElem?_eq_none (by rw [rv_length l k h]; exact hi), List.getElem?_eq_none (by simp; exact hi)]
end De
theorem bys_set (l : List UInt8) (k : Nat) (b : UInt8) : (bys l).set k (.int .u8 (b.toNat : Int)) = bys (l.set k b) := by unfold bys; rw [List.map_set]; rfl
end Go.Proofs.YtpcmbmabmfghkaaDoor

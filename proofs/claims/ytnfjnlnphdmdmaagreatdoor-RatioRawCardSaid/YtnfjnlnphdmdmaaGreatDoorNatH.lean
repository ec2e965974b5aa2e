/- strings.TrimLeft at "0", slices.Reverse over bytes. -/
import Derived.Test.YtnfjnlnphdmdmaaGreatDoorNatG
import Derived.Test.YtnfjnlnphdmdmaaGreatDoorNp
import Derived.Lib.IndexBytes
import Derived.Lib.BufferRead
import Derived.RegionTactic
import Derived.ChangeAlike
namespace Go.Proofs.YtnfjnlnphdmdmaaGreatDoor
open Go.RowKit
set_option linter.unusedVariables false
set_option maxRecDepth 100000
/-- a list of bytes as a string -/
def str (l : List UInt8) : ByteArray := ⟨l.toArray⟩
theorem str_size (l : List UInt8) : (str l).size = l.length := by unfold str; simp [ByteArray.size]
theorem str_list (l : List UInt8) : (str l).data.toList = l := by unfold str; simp
theorem str_tail (b : UInt8) (l : List UInt8) : (str (b :: l)).extract 1 (str (b :: l)).size = str l := by
  have h := Lib.extract_to_end (str (b :: l)) 1
  rw [str_list] at h
  have h2 : ((str (b :: l)).extract 1 (str (b :: l)).size).data = l.toArray := Array.ext' (h.trans (by simp))
  cases hx : (str (b :: l)).extract 1 (str (b :: l)).size with
  | mk d =>
    rw [hx] at h2
    unfold str
    rw [← h2]
theorem str_get (l : List UInt8) (k : Nat) (b : UInt8) (h : l[k]? = some b) (hk : k < (str l).size) : (str l)[k] = b := by
  have h1 := get_lt h
  rw [List.getElem?_eq_getElem h1] at h
  exact Option.some.inj h
theorem ret_str {a b : List UInt8} (h : a = b) : Ending.returned (.string (str a)) = .returned (.string (str b)) := by rw [h]
set_option maxHeartbeats 1000000 in
theorem trimLeftByte_any (l : List UInt8) (w : World) (hl : l.length ≤ 9223372036854775807) : Calls Tryz.prog 89 #[.string (str l), .int .u8 48] w fun e w' => e = .returned (.string (str (De.strip l))) ∧ w = w' := by
  go_enter Tryz.func89, Tryz.ntmps89
  go_wp2_with fail
  go_loop [0] (fun v => ∃ l' : List UInt8, l'.length ≤ l.length ∧ v = .string (str l') ∧ Hid (De.strip l' = De.strip l)) (fun v => match v with | .string s => s.size | _ => 0)
  case atStart => exact ⟨l, Nat.le_refl _, rfl, rfl⟩
  case round =>
    obtain ⟨l', hl', rfl, HS⟩ := hrel
    cases l' with
    | nil =>
      have hz : (str []).size = 0 := str_size []
      go_wp2_with fail
      go_ret
      exact ⟨ret_str (by rw [← HS.out]; rfl), rfl⟩
    | cons b t =>
      have HT := Lib.hid (str_tail b t)
      have HG := Lib.hid (str_get (b :: t) 0 b rfl)
      have hz := str_size (b :: t)
      rw [List.length_cons] at hl' hz
      have hzt := Lib.hid (str_size t)
      obtain ⟨S, hS⟩ : ∃ S, str (b :: t) = S := ⟨_, rfl⟩
      rw [hS] at HT hz HG ⊢
      have hp : 0 < S.size := by omega
      have hp2 : (S.size : Int) ≤ 9223372036854775807 := by omega
      have hidx : ∀ w, (Instr.index 9 (.string S) (.int .i64 0)).run Tryz.prog w = .ok (.int .u8 (b.toNat : Int)) w := fun w => by
        rw [run_index_string w _ _ _ _ (by kernel_rfl), dif_pos ⟨by omega, by omega⟩]
        have := HG.out hp
        simp only [Int.toNat_zero]
        rw [this]
      have HZ := Lib.hid hz
      clear hz
      by_cases hb : b = 48
      · have HS2 : Hid (De.strip t = De.strip l) := by unfold Hid; rw [← HS.out, hb, De.strip_zero]
        subst hb
        clear hS
        go_wp2_with fail
        rw [HT.out]
        go_round
        case rel => exact ⟨t, by omega, rfl, HS2⟩
        case measure => simp only [hzt.out, HZ.out]; omega
      · have hne : ((b.toNat : Int) == 48) = false := u8_ne hb
        have HS2 : Hid (b :: t = De.strip l) := by unfold Hid; rw [← HS.out, De.strip_stop hb]
        have HSS := Lib.hid hS
        clear hS hb
        go_wp2_with fail
        go_ret
        exact ⟨by rw [← HSS.out]; exact ret_str HS2.out, rfl⟩
theorem str_toList (l : List UInt8) : (str l).toList = l := by rw [ByteArray.toList_eq, str_list]
theorem str_empty {l : List UInt8} (h : l ≠ []) : (str l).toList.isEmpty = false := by
  rw [str_toList]
  cases l with
  | nil => exact absurd rfl h
  | cons b t => rfl
theorem trimLeft_any (l : List UInt8) (w : World) (hl : l.length ≤ 9223372036854775807) : Calls Tryz.prog 73 #[.string (str l), .string ⟨#[48]⟩] w fun e w' => e = .returned (.string (str (De.strip l))) ∧ w = w' := by
  have HT := Lib.hid (trimLeftByte_any l w hl)
  have hidx48 : ∀ w, (Instr.index 9 (.string ⟨#[48]⟩) (.int .i64 0)).run Tryz.prog w = .ok (.int .u8 48) w := fun _ => by kernel_rfl
  cases l with
  | nil =>
    have hne : (str []).toList.isEmpty = true := by rw [str_toList]; rfl
    go_enter Tryz.func73, Tryz.ntmps73
    go_wp2_with fail
    go_ret
    exact ⟨rfl, rfl⟩
  | cons b t =>
    have hne : (str (b :: t)).toList.isEmpty = false := str_empty (by simp)
    go_enter Tryz.func73, Tryz.ntmps73
    go_wp2_with fail
    refine HT.out.mono ?_
    rintro e w1 ⟨rfl, rfl⟩
    go_wp2_with fail
    go_ret
    exact ⟨rfl, rfl⟩
namespace De
/-- so many places at both ends exchanged -/
def rv (l : List UInt8) (k : Nat) : List UInt8 := (l.reverse.take k) ++ ((l.drop k).take (l.length - 2 * k)) ++ (l.reverse.drop (l.length - k))
theorem rv_length (l : List UInt8) (k : Nat) (h : 2 * k ≤ l.length) : (rv l k).length = l.length := by
  unfold rv
  simp
  omega
theorem rv_get (l : List UInt8) (k i : Nat) (h : 2 * k ≤ l.length) (hi : i < l.length) : (rv l k)[i]? = if i < k ∨ l.length - k ≤ i then l[l.length - 1 - i]? else l[i]? := by
  unfold rv
  rcases Nat.lt_or_ge i k with h1 | h1
  · rw [if_pos (.inl h1), List.getElem?_append_left (by simp; omega), List.getElem?_append_left (by simp; omega), List.getElem?_take, if_pos h1, List.getElem?_reverse hi]
  · rcases Nat.lt_or_ge i (l.length - k) with h2 | h2
    · rw [if_neg (by omega), List.getElem?_append_left (by simp; omega), List.getElem?_append_right (by simp; omega), List.getElem?_take, if_pos (by simp; omega), List.getElem?_drop]
      congr 1
      simp
      omega
    · rw [if_pos (.inr h2), List.getElem?_append_right (by simp; omega), List.getElem?_drop, List.getElem?_reverse (by simp; omega)]
      congr 1
      simp
      omega
theorem rv_zero (l : List UInt8) : rv l 0 = l := by unfold rv; simp
theorem rv_next (l : List UInt8) (k : Nat) (a b : UInt8) (h : 2 * (k + 1) ≤ l.length) (ha : l[k]? = some a) (hb : l[l.length - 1 - k]? = some b) : ((rv l k).set k b).set (l.length - 1 - k) a = rv l (k + 1) := by
  apply List.ext_getElem?
  intro i
  rcases Nat.lt_or_ge i l.length with hi | hi
  · rw [rv_get l (k + 1) i h hi]
    by_cases h1 : i = l.length - 1 - k
    · subst h1
      rw [List.getElem?_set_self (by rw [List.length_set, rv_length l k (by omega)]; omega), if_pos (.inr (by omega)), show l.length - 1 - (l.length - 1 - k) = k by omega, ha]
    · rw [List.getElem?_set_ne (fun e => h1 e.symm)]
      by_cases h2 : i = k
      · subst h2
        rw [List.getElem?_set_self (by rw [rv_length l i (by omega)]; omega), if_pos (.inl (by omega)), hb]
      · rw [List.getElem?_set_ne (fun e => h2 e.symm), rv_get l k i (by omega) hi]
        by_cases h3 : i < k ∨ l.length - k ≤ i
        · rw [if_pos h3, if_pos (by omega)]
        · rw [if_neg h3, if_neg (by omega)]
  · rw [List.getElem?_eq_none (by rw [List.length_set, List.length_set, rv_length l k (by omega)]; exact hi), List.getElem?_eq_none (by rw [rv_length l (k + 1) h]; exact hi)]
theorem rv_end (l : List UInt8) (k : Nat) (h : 2 * k ≤ l.length) (h2 : l.length ≤ 2 * k + 1) : rv l k = l.reverse := by
  apply List.ext_getElem?
  intro i
  rcases Nat.lt_or_ge i l.length with hi | hi
  · rw [rv_get l k i h hi, List.getElem?_reverse hi]
    by_cases h3 : i < k ∨ l.length - k ≤ i
    · rw [if_pos h3]
    · rw [if_neg h3, show l.length - 1 - i = i by omega]
  · rw [List.getElem?_eq_none (by rw [rv_length l k h]; exact hi), List.getElem?_eq_none (by simp; exact hi)]
end De
theorem bys_set (l : List UInt8) (k : Nat) (b : UInt8) : (bys l).set k (.int .u8 (b.toNat : Int)) = bys (l.set k b) := by unfold bys; rw [List.map_set]; rfl
set_option maxHeartbeats 2000000 in
theorem reverse_any (A : Option Addr) (n c base : Nat) (l : List UInt8) (w : World) (hn : l.length = n) (ho : w.ownsRow base 5 1 (.slice A n c) n (bys l)) (hl : n ≤ 140737488355328) (hbase : base ≤ w.heap.size) :
    Calls Tryz.prog 72 #[.slice A n c] w fun e w' => e = .returned (.tuple #[]) ∧ w'.ownsRow base 5 1 (.slice A n c) n (bys l.reverse) ∧ Below base w w' := by
  have HN := Lib.hid hn
  have HO0 := Lib.hid ho
  clear hn ho
  go_enter Tryz.func72, Tryz.ntmps72
  go_wp2_with fail
  go_loopw [2, 3] (fun i j wr => ∃ k : Nat, 2 * k ≤ n ∧ i = .int .i64 (k : Int) ∧ j = .int .i64 ((n : Int) - 1 - k) ∧ wr.ownsRow base 5 1 (.slice A n c) n (bys (De.rv l k)) ∧ Below base w wr ∧ base ≤ wr.heap.size) (fun i _ _ => n - (intOf i).toNat)
  case atStart => exact ⟨0, Nat.zero_le _, rfl, by simp, by rw [De.rv_zero]; exact HO0.out, Below.refl _ _, hbase⟩
  case round =>
    clear HO0 hbase
    obtain ⟨k, hk, rfl, rfl, ho, hb, hbs⟩ := hrel
    have HB := Lib.hid hb
    have HBS := Lib.hid hbs
    rcases Nat.lt_or_ge (2 * k + 1) n with hlt | hge
    · obtain ⟨g, rfl, hgb, hgw⟩ := own_form ho (by omega)
      obtain ⟨j, hj⟩ : ∃ j, n - 1 - k = j := ⟨_, rfl⟩
      have hj1 : (n : Int) - 1 - (k : Int) = (j : Int) := by omega
      obtain ⟨a, ha⟩ := byte_at l k (by rw [HN.out]; omega)
      obtain ⟨b, hbb⟩ := byte_at l j (by rw [HN.out]; omega)
      have hca := own_byte ho (k := k) (b := a) (by rw [De.rv_get l k k (by rw [HN.out]; omega) (by rw [HN.out]; omega), if_neg (by rw [HN.out]; omega)]; exact ha)
      have hcb := own_byte ho (k := j) (b := b) (by rw [De.rv_get l k j (by rw [HN.out]; omega) (by rw [HN.out]; omega), if_neg (by rw [HN.out]; omega)]; exact hbb)
      have hf1 := ho.frozenAt k
      have hf2 := ho.frozenAt j
      have HNx := Lib.hid (De.rv_next l k a b (by rw [HN.out]; omega) ha (by rw [HN.out, hj]; exact hbb))
      rw [HN.out, hj] at HNx
      have HO := Lib.hid ho
      have hkn : (k : Int) < (n : Int) := by omega
      have hjn : (j : Int) < (n : Int) := by omega
      have hkj : k < j := by omega
      have hkj1 : (k : Int) < (j : Int) := by omega
      have HJ := Lib.hid hj
      rw [hj1]
      clear ho hb hbs ha hbb hj hj1
      go_wp2_with fail
      go_region
      all_goals
        go_wp2_with fail
        go_roundw
        case rel =>
          have o1 := own_put (own_put HO.out k (.int .u8 (b.toNat : Int))) j (.int .u8 (a.toNat : Int))
          rw [bys_set, bys_set, HNx.out] at o1
          have b1 := (HB.out.setCell (p := ⟨g, k, none⟩) hgb (.int .u8 (b.toNat : Int))).setCell (p := ⟨g, j, none⟩) hgb (.int .u8 (a.toNat : Int))
          have hj := HJ.out
          exact ⟨k + 1, by omega, by go_num, int_eqv (by omega), o1.drew, b1.drew, by simpa [World.setCell] using HBS.out⟩
        case measure => simp [intOf]; omega
    · have hjk : (n : Int) - 1 - (k : Int) ≤ (k : Int) := by omega
      have HEnd := Lib.hid (De.rv_end l k (by rw [HN.out]; omega) (by rw [HN.out]; omega))
      have HO := Lib.hid ho
      clear ho hb hbs
      go_wp2_with fail
      go_end0
      exact ⟨rfl, by rw [← HEnd.out]; exact HO.out, HB.out⟩
end Go.Proofs.YtnfjnlnphdmdmaaGreatDoor

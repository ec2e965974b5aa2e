/- Decimal digits, and the library's calls at the lines of a time. -/
import Derived.Test.YtpcmbmabmfghkaaDoorScR
import Derived.Test.YtpcmbmabmfghkaaDoorNatH
import Derived.Lib.AtoiTie
import Derived.Lib.ItoaMem
import Derived.Lib.SplitLaws
import Derived.Lib.CountLaws
import Derived.Lib.AppendIntMem
namespace Go.Proofs.YtpcmbmabmfghkaaDoor
open Go.RowKit
set_option linter.unusedVariables false
theorem ofNat_toNat {k : Nat} (h : k < 256) : (UInt8.ofNat k).toNat = k := by simp; omega
theorem dd_digits : ∀ (u : Nat), ∀ b ∈ Lib.decDigits u, 48 ≤ b.toNat ∧ b.toNat ≤ 57 := by
  intro u
  induction u using Nat.strongRecOn with
  | _ u ih =>
    intro b hb
    rw [Lib.decDigits] at hb
    split at hb
    · next h =>
      rw [List.mem_singleton] at hb
      subst hb
      rw [ofNat_toNat (by omega)]
      omega
    · next h =>
      rcases List.mem_append.1 hb with h1 | h1
      · exact ih (u / 10) (by omega) b h1
      · rw [List.mem_singleton] at h1
        subst h1
        rw [ofNat_toNat (by omega)]
        omega
theorem df_append : ∀ (a b : List UInt8) (acc : Nat), Lib.decFrom acc (a ++ b) = (Lib.decFrom acc a).bind (fun m => Lib.decFrom m b)
  | [], b, acc => rfl
  | x :: a, b, acc => by
    simp only [List.cons_append, Lib.decFrom]
    cases Lib.digitVal x with
    | none => rfl
    | some d => exact df_append a b _
theorem dv_digit {k : Nat} (h : k < 10) : Lib.digitVal (UInt8.ofNat (48 + k)) = some k := by
  unfold Lib.digitVal
  rw [ofNat_toNat (by omega), if_pos (by omega)]
  congr 1
  omega
theorem df_dd : ∀ u, Lib.decFrom 0 (Lib.decDigits u) = some u := by
  intro u
  induction u using Nat.strongRecOn with
  | _ u ih =>
    rw [Lib.decDigits]
    split
    · next h =>
      simp only [Lib.decFrom, dv_digit h]
      congr 1
      omega
    · next h =>
      rw [df_append, ih (u / 10) (by omega)]
      simp only [Option.bind_some, Lib.decFrom, dv_digit (show u % 10 < 10 by omega)]
      congr 1
      omega
theorem dd_ne (u : Nat) : Lib.decDigits u ≠ [] := by
  rw [Lib.decDigits]
  split <;> simp
theorem nd_le : ∀ (k u : Nat), u < 10 ^ (k + 1) → Lib.nDigits u ≤ k + 1
  | 0, u, h => by
    rw [Lib.nDigits_small (by simpa using h)]
    omega
  | k + 1, u, h => by
    by_cases h10 : u < 10
    · rw [Lib.nDigits_small h10]; omega
    · rw [Lib.nDigits_big h10]
      have := nd_le k (u / 10) (by rw [Nat.pow_succ] at h; omega)
      omega
theorem dd_len {u : Nat} (h : u ≤ 1099511627776) : (Lib.decDigits u).length ≤ 13 := by
  rw [Lib.decDigits_length]
  exact nd_le 12 u (by omega)
theorem ib_none {c : UInt8} : ∀ {l : List UInt8}, (∀ b ∈ l, b ≠ c) → Lib.indexByte l c = -1
  | [], _ => rfl
  | b :: l, h => by
    have h1 : (b == c) = false := by simpa using h b (List.mem_cons_self ..)
    simp [Lib.indexByte, h1, ib_none (fun x hx => h x (List.mem_cons_of_mem _ hx))]
theorem ib_at {c : UInt8} {r : List UInt8} : ∀ {l : List UInt8}, (∀ b ∈ l, b ≠ c) → Lib.indexByte (l ++ c :: r) c = l.length
  | [], _ => by simp [Lib.indexByte]
  | b :: l, h => by
    have h1 : (b == c) = false := by simpa using h b (List.mem_cons_self ..)
    have h2 := ib_at (r := r) (fun x hx => h x (List.mem_cons_of_mem _ hx))
    simp only [List.cons_append, Lib.indexByte, h1, h2]
    have h3 : (((l.length : Nat) : Int) == -1) = false := by simp
    simp [h3]
theorem dd_no {u : Nat} {c : UInt8} (hc : c.toNat < 48 ∨ 57 < c.toNat) : ∀ b ∈ Lib.decDigits u, b ≠ c := by
  intro b hb e
  subst e
  have := dd_digits u b hb
  omega
theorem decNat_dd (u : Nat) : Lib.decNat (Lib.decDigits u) = some u := by
  unfold Lib.decNat
  rw [if_neg (by simpa using dd_ne u), df_dd]
theorem atoi_dd (u : Nat) : Lib.atoi (Lib.decDigits u) = some (u : Int) := by
  have h := dd_digits u
  have hd := decNat_dd u
  cases e : Lib.decDigits u with
  | nil => exact absurd e (dd_ne u)
  | cons b r =>
    rw [e] at h hd
    have hb := h b (List.mem_cons_self ..)
    have h45 : (b == 45) = false := by
      rw [beq_eq_false_iff_ne]
      rintro rfl
      exact absurd hb.1 (by decide)
    have h43 : (b == 43) = false := by
      rw [beq_eq_false_iff_ne]
      rintro rfl
      exact absurd hb.1 (by decide)
    unfold Lib.atoi
    dsimp only
    rw [h45, h43, hd]
    rfl
theorem atoi_zero_dd (u : Nat) : Lib.atoi (48 :: Lib.decDigits u) = some (u : Int) := by
  unfold Lib.atoi
  have h1 : ((48 : UInt8) == 45) = false := rfl
  have h2 : ((48 : UInt8) == 43) = false := rfl
  have h3 : Lib.decNat (48 :: Lib.decDigits u) = some u := by
    unfold Lib.decNat
    have h4 : Lib.digitVal 48 = some 0 := rfl
    rw [if_neg (by simp)]
    simp only [Lib.decFrom, h4]
    exact df_dd u
  dsimp only
  rw [h1, h2, h3]
  rfl
theorem atoi_plus_dd (u : Nat) : Lib.atoi (43 :: Lib.decDigits u) = some (u : Int) := by
  unfold Lib.atoi
  have h1 : ((43 : UInt8) == 45) = false := rfl
  have h2 : ((43 : UInt8) == 43) = true := rfl
  dsimp only
  rw [h1, h2, decNat_dd]
  rfl
theorem call_atoi {l : List UInt8} {n : Int} (hl : l.length ≤ 18) (h : Lib.atoi l = some n) (w : World) :
    Calls Tryd.prog 52 #[.string (str l)] w fun e w' => e = .returned (.tuple #[.int .i64 n, .nilIface]) ∧ Below w.heap.size w w' := by
  refine (Tryd.strconv_Atoi_ok (str l) (by show l.length ≤ _; omega) n (by
    show Lib.atoiAll l = _
    rw [Lib.atoiAll_short l hl, h]
    rfl) w).mono ?_
  rintro e w1 ⟨rfl, h⟩
  refine ⟨rfl, ?_⟩
  rcases h with rfl | ⟨t, rfl⟩
  · exact Below.refl _ _
  · exact Joins.below_bytesWorld _ _ _ _ (Nat.le_refl _)
theorem call_itoa {u : Nat} (hu : u ≤ 1099511627776) (w : World) (htab : Lib.TabIs Tryd.prog w "internal/strconv.uint64pow10" .u64 Lib.pow10Tab) :
    Calls Tryd.prog 24 #[.int .i64 (u : Int)] w fun e w' => e = .returned (.string (str (Lib.decDigits u))) ∧ Below w.heap.size w w' := by
  refine (Tryd.strconv_Itoa (u : Int) (by omega) (by omega) w htab).mono ?_
  rintro e w1 ⟨rfl, k, os, rfl⟩
  rw [Lib.itoa_nonneg]
  exact ⟨rfl, Lib.below_grow _ _ (Nat.le_refl _) _ _⟩
theorem call_cut {x : List UInt8} (hx : ∀ b ∈ x, b ≠ 10) (hl : x.length ≤ 1000) (w : World) (m : Int) (hm : w.cell? ⟨0, 0, none⟩ = some (.int .i64 m)) :
    Calls Tryd.prog 15 #[.string (str (x ++ [10])), .string ⟨#[10]⟩] w fun e w' => e = .returned (.tuple #[.string (str x), .string ⟨#[]⟩, .bool true]) ∧ Below w.heap.size w w' := by
  have h := Tryd.strings_Cut (str (x ++ [10])) ⟨#[10]⟩ m w (by show (x ++ [10]).length < _; simp; omega) hm
  have hi : Lib.index (x ++ [10]) [10] = (x.length : Int) := by
    rw [Lib.index_one]
    exact ib_at hx
  have hc : Lib.cut (str (x ++ [10])).data.toList (⟨#[10]⟩ : ByteArray).data.toList = (x, [], true) := by
    show Lib.cut (x ++ [10]) [10] = _
    unfold Lib.cut
    rw [hi, if_pos (by omega)]
    simp
  rw [hc] at h
  refine h.mono ?_
  rintro e w1 ⟨rfl, n, rfl⟩
  exact ⟨rfl, below_drewN (Below.refl _ _) n⟩
theorem call_split {l : List UInt8} (hl : ∀ b ∈ l, b ≠ 32) (hn : l.length ≤ 1000) (w : World) (m : Int) (hm : w.cell? ⟨0, 0, none⟩ = some (.int .i64 m)) :
    Calls Tryd.prog 16 #[.string (str (116 :: 105 :: 109 :: 101 :: 32 :: l)), .string ⟨#[32]⟩] w fun e w' => e = .returned (.slice (some ⟨w.heap.size, 0, none⟩) 2 2) ∧ w' = w.alloc (.cells #[.string ⟨#[116, 105, 109, 101]⟩, .string (str l)] 9) := by
  have h := Tryd.strings_Split (str (116 :: 105 :: 109 :: 101 :: 32 :: l)) ⟨#[32]⟩ m w (by show (116 :: 105 :: 109 :: 101 :: 32 :: l).length < _; simp; omega) hm (by decide)
  have hi : Lib.indexB (str (116 :: 105 :: 109 :: 101 :: 32 :: l)) ⟨#[32]⟩ = ((4 : Nat) : Int) := by
    show Lib.index (116 :: 105 :: 109 :: 101 :: 32 :: l) [32] = _
    rw [Lib.index_one]
    exact ib_at (l := [116, 105, 109, 101]) (by decide)
  have he : (str (116 :: 105 :: 109 :: 101 :: 32 :: l)).extract (4 + (⟨#[32]⟩ : ByteArray).size) (str (116 :: 105 :: 109 :: 101 :: 32 :: l)).size = str l := by
    apply ByteArray.ext
    apply Array.ext'
    rw [ByteArray.data_extract, Array.toList_extract]
    show ((116 :: 105 :: 109 :: 101 :: 32 :: l).extract 5 (116 :: 105 :: 109 :: 101 :: 32 :: l).length) = l
    simp [List.extract]
  have h0 : (str (116 :: 105 :: 109 :: 101 :: 32 :: l)).extract 0 (4 + 0) = ⟨#[116, 105, 109, 101]⟩ := by
    apply ByteArray.ext
    apply Array.ext'
    rw [ByteArray.data_extract, Array.toList_extract]
    show ((116 :: 105 :: 109 :: 101 :: 32 :: l).extract 0 4) = _
    simp [List.extract]
  have hm2 : Lib.indexB (str l) ⟨#[32]⟩ = -1 := by
    show Lib.index l [32] = _
    rw [Lib.index_one]
    exact ib_none hl
  have h1 : Lib.countB (str (116 :: 105 :: 109 :: 101 :: 32 :: l)) ⟨#[32]⟩ = 1 := by
    rw [Lib.countB_hit _ _ 4 (by decide) hi, he, Lib.countB_miss _ _ hm2]
  rw [h1] at h
  have h2 : Lib.splitB ⟨#[32]⟩ 0 1 (str (116 :: 105 :: 109 :: 101 :: 32 :: l)) = [⟨#[116, 105, 109, 101]⟩, str l] := by
    rw [Lib.splitB_hit _ 0 0 _ 4 hi, he, h0, Lib.splitB_zero]
  rw [h2] at h
  exact h
end Go.Proofs.YtpcmbmabmfghkaaDoor

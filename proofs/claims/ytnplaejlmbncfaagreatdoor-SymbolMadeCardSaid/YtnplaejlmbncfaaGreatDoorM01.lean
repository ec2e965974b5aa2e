/- Gf Sa Poly PolyH Kit Mem Mod -/
import Derived.WalkKit
import Derived.WalkLawsBesides
import Derived.WalkSpells
import Derived.Lib.Hide
import Derived.Laws.BitsAllLaws
import Derived.Deep.QuietTactic
import Derived.BigQuiet
import Derived.Below
import Derived.OwnWalk
import Derived.Laws.OwnMore
import Derived.Laws.Rows
import Derived.Deep.AppendLies
import Derived.Maps.AppendAt
import Derived.Test.YtnplaejlmbncfaaGreatDoorChecked
namespace Go.Proofs.YtnplaejlmbncfaaGreatDoor
namespace Gf
/-- 'a' if the bit is set, else 0 -/
def sel (c : Bool) (a : UInt8) : UInt8 := if c then a else 0
def bit (a : UInt8) (k : Nat) : Bool := a.toNat.testBit k
/-- the product with 2 -/
def dbl (a : UInt8) : UInt8 := (a <<< 1) ^^^ sel (bit a 7) 29
def dblN : Nat → UInt8 → UInt8
  | 0, a => a
  | k + 1, a => dbl (dblN k a)
/-- the product: the sum of the doublings of 'a' at the bits of 'c' -/
def gmul (a c : UInt8) : UInt8 :=
  sel (bit c 0) (dblN 0 a) ^^^ sel (bit c 1) (dblN 1 a) ^^^ sel (bit c 2) (dblN 2 a) ^^^ sel (bit c 3) (dblN 3 a) ^^^
  sel (bit c 4) (dblN 4 a) ^^^ sel (bit c 5) (dblN 5 a) ^^^ sel (bit c 6) (dblN 6 a) ^^^ sel (bit c 7) (dblN 7 a)

theorem all_of {p : UInt8 → Prop} (h : ∀ n, n < 256 → p (UInt8.ofNat n)) (a : UInt8) : p a := by
  have := h a.toNat (UInt8.toNat_lt a)
  rwa [UInt8.ofNat_toNat] at this
theorem bits0 : ∀ n, n < 256 → UInt8.ofNat n = sel (bit (UInt8.ofNat n) 0) 1 ^^^ sel (bit (UInt8.ofNat n) 1) 2 ^^^ sel (bit (UInt8.ofNat n) 2) 4 ^^^ sel (bit (UInt8.ofNat n) 3) 8 ^^^
    sel (bit (UInt8.ofNat n) 4) 16 ^^^ sel (bit (UInt8.ofNat n) 5) 32 ^^^ sel (bit (UInt8.ofNat n) 6) 64 ^^^ sel (bit (UInt8.ofNat n) 7) 128 := by decide +kernel
theorem bits_sum (a : UInt8) : a = sel (bit a 0) 1 ^^^ sel (bit a 1) 2 ^^^ sel (bit a 2) 4 ^^^ sel (bit a 3) 8 ^^^ sel (bit a 4) 16 ^^^ sel (bit a 5) 32 ^^^ sel (bit a 6) 64 ^^^ sel (bit a 7) 128 :=
  all_of (p := fun a => a = sel (bit a 0) 1 ^^^ sel (bit a 1) 2 ^^^ sel (bit a 2) 4 ^^^ sel (bit a 3) 8 ^^^ sel (bit a 4) 16 ^^^ sel (bit a 5) 32 ^^^ sel (bit a 6) 64 ^^^ sel (bit a 7) 128) bits0 a
def Lin (f : UInt8 → UInt8) : Prop := ∀ x y, f (x ^^^ y) = f x ^^^ f y
theorem Lin.zero {f : UInt8 → UInt8} (h : Lin f) : f 0 = 0 := by
  have := h 0 0
  simp at this
  exact this
theorem Lin.sel {f : UInt8 → UInt8} (h : Lin f) (c : Bool) (x : UInt8) : f (sel c x) = Gf.sel c (f x) := by
  cases c
  · exact h.zero
  · rfl
theorem Lin.ext {f g : UInt8 → UInt8} (hf : Lin f) (hg : Lin g) (h : ∀ k, k < 8 → f (UInt8.ofNat (2 ^ k)) = g (UInt8.ofNat (2 ^ k))) (a : UInt8) : f a = g a := by
  rw [bits_sum a]
  have h0 : f 1 = g 1 := h 0 (by decide)
  have h1 : f 2 = g 2 := h 1 (by decide)
  have h2 : f 4 = g 4 := h 2 (by decide)
  have h3 : f 8 = g 8 := h 3 (by decide)
  have h4 : f 16 = g 16 := h 4 (by decide)
  have h5 : f 32 = g 32 := h 5 (by decide)
  have h6 : f 64 = g 64 := h 6 (by decide)
  have h7 : f 128 = g 128 := h 7 (by decide)
  simp only [hf _ _, hg _ _, hf.sel, hg.sel, h0, h1, h2, h3, h4, h5, h6, h7]
theorem bit_xor (a c : UInt8) (k : Nat) : bit (a ^^^ c) k = (bit a k ^^ bit c k) := by
  unfold bit
  rw [UInt8.toNat_xor, Nat.testBit_xor]
theorem sel_xor (c d : Bool) (a : UInt8) : sel (c ^^ d) a = sel c a ^^^ sel d a := by
  cases c <;> cases d <;> simp [sel]
theorem sel_xor' (c : Bool) (a d : UInt8) : sel c (a ^^^ d) = sel c a ^^^ sel c d := by
  cases c <;> simp [sel]
theorem xor4 (a b c d : UInt8) : (a ^^^ b) ^^^ (c ^^^ d) = (a ^^^ c) ^^^ (b ^^^ d) := by
  rw [UInt8.xor_assoc, UInt8.xor_assoc, ← UInt8.xor_assoc b, ← UInt8.xor_assoc c, UInt8.xor_comm b c]
theorem shl_xor (a c : UInt8) : (a ^^^ c) <<< (1 : UInt8) = (a <<< 1) ^^^ (c <<< 1) := by
  exact UInt8.shiftLeft_xor
theorem dbl_lin : Lin dbl := by
  intro x y
  unfold dbl
  rw [shl_xor, bit_xor, sel_xor, xor4]
theorem dblN_lin (k : Nat) : Lin (dblN k) := by
  induction k with
  | zero => intro x y; rfl
  | succ k ih => intro x y; show dbl _ = dbl _ ^^^ dbl _; rw [ih, dbl_lin]
theorem lin_sum {f g : UInt8 → UInt8} (hf : Lin f) (hg : Lin g) : Lin (fun a => f a ^^^ g a) := by
  intro x y
  show f (x ^^^ y) ^^^ g (x ^^^ y) = _
  rw [hf, hg, xor4]
theorem lin_sel {f : UInt8 → UInt8} (hf : Lin f) (c : Bool) : Lin (fun a => sel c (f a)) := by
  intro x y
  show sel c (f (x ^^^ y)) = _
  rw [hf, sel_xor']
theorem mul_lin_left (c : UInt8) : Lin (fun a => gmul a c) :=
  lin_sum (lin_sum (lin_sum (lin_sum (lin_sum (lin_sum (lin_sum (lin_sel (dblN_lin 0) _) (lin_sel (dblN_lin 1) _)) (lin_sel (dblN_lin 2) _)) (lin_sel (dblN_lin 3) _)) (lin_sel (dblN_lin 4) _)) (lin_sel (dblN_lin 5) _)) (lin_sel (dblN_lin 6) _)) (lin_sel (dblN_lin 7) _)
theorem lin_bit (k : Nat) (x : UInt8) : Lin (fun c => sel (bit c k) x) := by
  intro c d
  show sel (bit (c ^^^ d) k) x = _
  rw [bit_xor, sel_xor]
theorem mul_lin_right (a : UInt8) : Lin (gmul a) :=
  lin_sum (lin_sum (lin_sum (lin_sum (lin_sum (lin_sum (lin_sum (lin_bit 0 _) (lin_bit 1 _)) (lin_bit 2 _)) (lin_bit 3 _)) (lin_bit 4 _)) (lin_bit 5 _)) (lin_bit 6 _)) (lin_bit 7 _)
theorem lin_comp {f g : UInt8 → UInt8} (hf : Lin f) (hg : Lin g) : Lin (fun a => f (g a)) := by
  intro x y
  show f (g (x ^^^ y)) = _
  rw [hg, hf]
theorem comm0 : ∀ j, j < 8 → ∀ k, k < 8 → gmul (UInt8.ofNat (2 ^ j)) (UInt8.ofNat (2 ^ k)) = gmul (UInt8.ofNat (2 ^ k)) (UInt8.ofNat (2 ^ j)) := by decide +kernel
theorem gmul_comm (a c : UInt8) : gmul a c = gmul c a :=
  (mul_lin_left c).ext (mul_lin_right c) (fun j hj => (mul_lin_right _).ext (mul_lin_left _) (fun k hk => comm0 j hj k hk) c) a
theorem dblmul0 : ∀ j, j < 8 → ∀ k, k < 8 → dbl (gmul (UInt8.ofNat (2 ^ j)) (UInt8.ofNat (2 ^ k))) = gmul (UInt8.ofNat (2 ^ j)) (dbl (UInt8.ofNat (2 ^ k))) := by decide +kernel
theorem dbl_mul (a c : UInt8) : dbl (gmul a c) = gmul a (dbl c) :=
  (lin_comp dbl_lin (mul_lin_left c)).ext (mul_lin_left (dbl c)) (fun j hj => (lin_comp dbl_lin (mul_lin_right _)).ext (lin_comp (mul_lin_right _) dbl_lin) (fun k hk => dblmul0 j hj k hk) c) a
theorem dblN_mul (k : Nat) (a c : UInt8) : dblN k (gmul a c) = gmul a (dblN k c) := by
  induction k with
  | zero => rfl
  | succ k ih => show dbl (dblN k _) = gmul a (dbl _); rw [ih, dbl_mul]
theorem gmul_pow2 (a : UInt8) : ∀ k, k < 8 → gmul a (UInt8.ofNat (2 ^ k)) = dblN k a := by
  intro k hk
  match k, hk with
  | 0, _ => simp [gmul, sel, bit, Nat.testBit]
  | 1, _ => simp [gmul, sel, bit, Nat.testBit]
  | 2, _ => simp [gmul, sel, bit, Nat.testBit]
  | 3, _ => simp [gmul, sel, bit, Nat.testBit]
  | 4, _ => simp [gmul, sel, bit, Nat.testBit]
  | 5, _ => simp [gmul, sel, bit, Nat.testBit]
  | 6, _ => simp [gmul, sel, bit, Nat.testBit]
  | 7, _ => simp [gmul, sel, bit, Nat.testBit]
theorem gmul_assoc (a c d : UInt8) : gmul (gmul a c) d = gmul a (gmul c d) :=
  (mul_lin_right _).ext (lin_comp (mul_lin_right a) (mul_lin_right c)) (fun k hk => by rw [gmul_pow2 _ k hk, gmul_pow2 _ k hk, dblN_mul]) d
theorem gmul_one (a : UInt8) : gmul a 1 = a := gmul_pow2 a 0 (by decide)
theorem gmul_zero (a : UInt8) : gmul a 0 = 0 := (mul_lin_right a).zero
theorem gmul_two (a : UInt8) : gmul a 2 = dbl a := gmul_pow2 a 1 (by decide)
theorem gmul_add (a c d : UInt8) : gmul a (c ^^^ d) = gmul a c ^^^ gmul a d := mul_lin_right a c d
theorem gmul_add' (a c d : UInt8) : gmul (a ^^^ c) d = gmul a d ^^^ gmul c d := mul_lin_left d a c
theorem one_gmul (a : UInt8) : gmul 1 a = a := by rw [gmul_comm, gmul_one]
theorem zero_gmul (a : UInt8) : gmul 0 a = 0 := by rw [gmul_comm, gmul_zero]
theorem bit_shr (c : UInt8) (k : Nat) : bit (c >>> 1) k = bit c (k + 1) := by
  unfold bit
  rw [UInt8.toNat_shiftRight]
  simp [Nat.testBit_shiftRight, Nat.add_comm]
theorem bit_hi (c : UInt8) : bit c 8 = false := by
  unfold bit
  exact Nat.testBit_lt_two_pow (by have := UInt8.toNat_lt c; omega)
theorem sel_false (a : UInt8) : sel false a = 0 := rfl
theorem dblN_succ' (k : Nat) (a : UInt8) : dblN k (dbl a) = dblN (k + 1) a := by
  induction k with
  | zero => rfl
  | succ k ih => show dbl (dblN k (dbl a)) = dbl (dblN (k + 1) a); rw [ih]
theorem gmul_step (a c : UInt8) : gmul a c = sel (bit c 0) a ^^^ gmul (dbl a) (c >>> 1) := by
  unfold gmul
  simp only [bit_shr, dblN_succ', bit_hi, sel_false, Nat.zero_add, Nat.reduceAdd, UInt8.xor_zero]
  simp only [dblN, UInt8.xor_assoc]
/-- the first k bits' part of a product -/
def gpart : Nat → UInt8 → UInt8 → UInt8
  | 0, _, _ => 0
  | k + 1, a, c => gpart k a c ^^^ sel (bit c k) (dblN k a)
theorem gpart_all (a c : UInt8) : gpart 8 a c = gmul a c := by
  unfold gmul
  simp only [gpart, UInt8.zero_xor]

/-- powers -/
def gpow (a : UInt8) : Nat → UInt8
  | 0 => 1
  | n + 1 => gmul (gpow a n) a
theorem gpow_add (a : UInt8) (m n : Nat) : gpow a (m + n) = gmul (gpow a m) (gpow a n) := by
  induction n with
  | zero => rw [Nat.add_zero]; exact (gmul_one _).symm
  | succ n ih => show gmul (gpow a (m + n)) a = gmul _ (gmul _ a); rw [ih, gmul_assoc]
theorem gpow_mul (a : UInt8) (m n : Nat) : gpow a (m * n) = gpow (gpow a m) n := by
  induction n with
  | zero => rfl
  | succ n ih => rw [Nat.mul_succ, gpow_add, ih]; rfl
theorem gpow_one (a : UInt8) : gpow a 1 = a := one_gmul a
theorem gpow_two (a : UInt8) : gpow a 2 = gmul a a := by show gmul (gmul 1 a) a = _; rw [one_gmul]
theorem one_gpow (n : Nat) : gpow 1 n = 1 := by
  induction n with
  | zero => rfl
  | succ n ih => show gmul (gpow 1 n) 1 = 1; rw [ih, gmul_one]
theorem gmul_mul4 (a c d e : UInt8) : gmul (gmul a c) (gmul d e) = gmul (gmul a d) (gmul c e) := by
  rw [gmul_assoc, gmul_assoc, ← gmul_assoc c, ← gmul_assoc d, gmul_comm c d]
theorem mul_gpow (a c : UInt8) (n : Nat) : gpow (gmul a c) n = gmul (gpow a n) (gpow c n) := by
  induction n with
  | zero => exact (gmul_one 1).symm
  | succ n ih => show gmul (gpow _ n) _ = gmul (gmul _ a) (gmul _ c); rw [ih, gmul_mul4]
theorem dblN_gpow (k : Nat) : dblN k 1 = gpow 2 k := by
  induction k with
  | zero => rfl
  | succ k ih => show dbl (dblN k 1) = gmul (gpow 2 k) 2; rw [ih, gmul_two]
theorem exp_255 : gpow 2 255 = 1 := by rw [← dblN_gpow]; decide +kernel
theorem exp_ne0 : ∀ k, k < 255 → 0 < k → dblN k 1 ≠ 1 := by decide +kernel
/-- the first power of 2 from x on that is a, if it is less than so many doublings away -/
def find (a : UInt8) : Nat → Nat → UInt8 → Nat
  | 0, n, _ => n
  | f + 1, n, x => if x = a then n else find a f (n + 1) (dbl x)
def glog (a : UInt8) : Nat := find a 255 0 1
theorem log0 : ∀ n, n < 256 → 0 < n → glog (UInt8.ofNat n) < 255 := by decide +kernel
theorem find_exp (a : UInt8) : ∀ f n, find a f n (dblN n 1) < n + f → dblN (find a f n (dblN n 1)) 1 = a := by
  intro f
  induction f with
  | zero => intro n h; simp only [find] at h; omega
  | succ f ih =>
    intro n h
    simp only [find] at h ⊢
    split
    · assumption
    · rename_i hx
      rw [if_neg hx] at h
      have e : dbl (dblN n 1) = dblN (n + 1) 1 := rfl
      rw [e] at h ⊢
      exact ih (n + 1) (by omega)
theorem log_lt (a : UInt8) (h : a ≠ 0) : glog a < 255 :=
  all_of (p := fun a => a ≠ 0 → glog a < 255) (fun n hn h0 => log0 n hn (by
    rcases Nat.eq_zero_or_pos n with h' | h'
    · subst h'; exact absurd rfl h0
    · exact h')) a h
theorem exp_log (a : UInt8) (h : a ≠ 0) : gpow 2 (glog a) = a := by
  have := find_exp a 255 0 (by have := log_lt a h; unfold glog at this; exact this)
  rw [← dblN_gpow]
  exact this
theorem gpow_255 (a : UInt8) (h : a ≠ 0) : gpow a 255 = 1 := by
  rw [← exp_log a h, ← gpow_mul, Nat.mul_comm, gpow_mul, exp_255, one_gpow]
theorem gpow_mod (a : UInt8) (h : a ≠ 0) (n : Nat) : gpow a (n % 255) = gpow a n := by
  conv => rhs; rw [← Nat.div_add_mod n 255, gpow_add, gpow_mul, gpow_255 a h, one_gpow, one_gmul]
def ginv (a : UInt8) : UInt8 := gpow a 254
theorem gmul_inv (a : UInt8) (h : a ≠ 0) : gmul a (ginv a) = 1 := by
  have := gpow_255 a h
  rw [gmul_comm]
  exact this
theorem ginv_mul (a : UInt8) (h : a ≠ 0) : gmul (ginv a) a = 1 := gpow_255 a h
theorem one_ne : (1 : UInt8) ≠ 0 := by decide
theorem gmul_ne (a c : UInt8) (ha : a ≠ 0) (hc : c ≠ 0) : gmul a c ≠ 0 := by
  intro h
  have h1 : gmul (ginv a) (gmul a c) = c := by rw [← gmul_assoc, ginv_mul a ha, one_gmul]
  rw [h, gmul_zero] at h1
  exact hc h1.symm
theorem gmul_eq_zero (a c : UInt8) : gmul a c = 0 ↔ a = 0 ∨ c = 0 := by
  constructor
  · intro h
    by_cases ha : a = 0
    · exact Or.inl ha
    · by_cases hc : c = 0
      · exact Or.inr hc
      · exact absurd h (gmul_ne a c ha hc)
  · rintro (h | h)
    · rw [h, zero_gmul]
    · rw [h, gmul_zero]
theorem gpow_ne (a : UInt8) (h : a ≠ 0) (n : Nat) : gpow a n ≠ 0 := by
  induction n with
  | zero => exact one_ne
  | succ n ih => exact gmul_ne _ _ ih h
theorem ginv_ne (a : UInt8) (h : a ≠ 0) : ginv a ≠ 0 := gpow_ne a h 254
theorem exp_inj (i j : Nat) (hi : i < 255) (hj : j < 255) (h : gpow 2 i = gpow 2 j) : i = j := by
  have key : ∀ i j, i < j → j < 255 → gpow 2 i = gpow 2 j → False := by
    intro i j hij hj h
    have e : gpow 2 j = gmul (gpow 2 i) (gpow 2 (j - i)) := by rw [← gpow_add]; congr 1; omega
    have h1 : gpow 2 (j - i) = 1 := by
      have h2 : gmul (gpow 2 i) (gpow 2 (j - i)) = gmul (gpow 2 i) 1 := by rw [← e, ← h, gmul_one]
      have h3 := congrArg (gmul (ginv (gpow 2 i))) h2
      have hn : gpow 2 i ≠ 0 := gpow_ne 2 (by decide) i
      rwa [← gmul_assoc, ← gmul_assoc, ginv_mul _ hn, one_gmul, one_gmul] at h3
    rw [← dblN_gpow] at h1
    exact exp_ne0 (j - i) (by omega) (by omega) h1
  rcases Nat.lt_trichotomy i j with h' | h' | h'
  · exact (key i j h' hj h).elim
  · exact h'
  · exact (key j i h' hi h.symm).elim
theorem exp_ne_zero (n : Nat) : gpow 2 n ≠ 0 := gpow_ne 2 (by decide) n
/-- an exponent of whatever sign, from 0 to 254 -/
def emod (n : Int) : Nat := (n % 255).toNat
theorem emod_lt (n : Int) : emod n < 255 := by unfold emod; omega
theorem emod_cast (n : Int) : (emod n : Int) = n % 255 := by unfold emod; omega
/-- a power with an exponent of whatever sign, for an element that is not 0 -/
def zpow (a : UInt8) (n : Int) : UInt8 := gpow a (emod n)
theorem ginv_zero : ginv 0 = 0 := by decide +kernel
attribute [irreducible] gmul
end Gf
end Go.Proofs.YtnplaejlmbncfaaGreatDoor

namespace Go.Proofs.YtnplaejlmbncfaaGreatDoor
namespace Sy
open Gf
set_option linter.unusedVariables false
theorem x4 (a b c d : UInt8) : (a ^^^ b) ^^^ (c ^^^ d) = (a ^^^ c) ^^^ (b ^^^ d) := Gf.xor4 a b c d
/-- the sum over a list of places -/
def ls (f : Nat → UInt8) : List Nat → UInt8
  | [] => 0
  | p :: ps => f p ^^^ ls f ps
theorem ls_congr {f g : Nat → UInt8} {ps : List Nat} (h : ∀ p ∈ ps, f p = g p) : ls f ps = ls g ps := by
  induction ps with
  | nil => rfl
  | cons p ps ih =>
    show f p ^^^ ls f ps = g p ^^^ ls g ps
    rw [h p List.mem_cons_self, ih fun q hq => h q (List.mem_cons_of_mem _ hq)]
theorem ls_zero {f : Nat → UInt8} {ps : List Nat} (h : ∀ p ∈ ps, f p = 0) : ls f ps = 0 := by
  induction ps with
  | nil => rfl
  | cons p ps ih =>
    show f p ^^^ ls f ps = 0
    rw [h p List.mem_cons_self, ih fun q hq => h q (List.mem_cons_of_mem _ hq)]; rfl
theorem ls_add (f g : Nat → UInt8) (ps : List Nat) : ls (fun p => f p ^^^ g p) ps = ls f ps ^^^ ls g ps := by
  induction ps with
  | nil => exact UInt8.xor_self.symm
  | cons p ps ih =>
    show f p ^^^ g p ^^^ ls _ ps = (f p ^^^ ls f ps) ^^^ (g p ^^^ ls g ps)
    rw [ih, x4]
theorem ls_mul (c : UInt8) (f : Nat → UInt8) (ps : List Nat) : ls (fun p => gmul c (f p)) ps = gmul c (ls f ps) := by
  induction ps with
  | nil => exact (gmul_zero c).symm
  | cons p ps ih =>
    show gmul c (f p) ^^^ ls _ ps = gmul c (f p ^^^ ls f ps)
    rw [ih, gmul_add]
theorem ls_append (f : Nat → UInt8) (ps qs : List Nat) : ls f (ps ++ qs) = ls f ps ^^^ ls f qs := by
  induction ps with
  | nil => exact UInt8.zero_xor.symm
  | cons p ps ih =>
    show f p ^^^ ls f (ps ++ qs) = (f p ^^^ ls f ps) ^^^ ls f qs
    rw [ih, UInt8.xor_assoc]
theorem ls_filter (f : Nat → UInt8) (t : Nat → Bool) (ps : List Nat) (h : ∀ p ∈ ps, t p = false → f p = 0) : ls f (ps.filter t) = ls f ps := by
  induction ps with
  | nil => rfl
  | cons p ps ih =>
    have h1 := ih fun q hq => h q (List.mem_cons_of_mem _ hq)
    rw [List.filter_cons]
    cases e : t p with
    | true => rw [if_pos rfl]; show f p ^^^ _ = f p ^^^ _; rw [h1]
    | false =>
      rw [if_neg (by simp), h1]
      show _ = f p ^^^ _
      rw [h p List.mem_cons_self e, UInt8.zero_xor]
/-- few unknowns, as many powers: all are 0 -/
theorem vand (X : Nat → UInt8) : ∀ (ps : List Nat) (e : Nat → UInt8), ps.Pairwise (fun i j => X i ≠ X j) → (∀ k, k < ps.length → ls (fun i => gmul (e i) (gpow (X i) k)) ps = 0) → ∀ i ∈ ps, e i = 0
  | [], _, _, _ => fun i hi => by cases hi
  | p :: ps, e, hd, hk => by
    obtain ⟨hp, hd'⟩ := List.pairwise_cons.1 hd
    have key : ∀ k, k < ps.length → ls (fun i => gmul (gmul (e i) (X i ^^^ X p)) (gpow (X i) k)) ps = 0 := by
      intro k hlt
      have h0 := hk k (by simp; omega)
      have h1 := hk (k + 1) (by simp; omega)
      have h2 : ls (fun i => gmul (e i) (gpow (X i) (k + 1)) ^^^ gmul (X p) (gmul (e i) (gpow (X i) k))) (p :: ps) = 0 := by
        rw [ls_add, ls_mul, h0, h1, gmul_zero]; rfl
      have h3 : ∀ i, gmul (e i) (gpow (X i) (k + 1)) ^^^ gmul (X p) (gmul (e i) (gpow (X i) k)) = gmul (gmul (e i) (X i ^^^ X p)) (gpow (X i) k) := by
        intro i
        have e1 : gpow (X i) (k + 1) = gmul (gpow (X i) k) (X i) := by rw [gpow_add, gpow_one]
        rw [e1, gmul_assoc (e i), gmul_comm (X i ^^^ X p), gmul_add, gmul_add, ← gmul_assoc (e i) _ (X i), ← gmul_assoc (e i) _ (X p), gmul_comm (X p)]
      have h4 : gmul (gmul (e p) (X p ^^^ X p)) (gpow (X p) k) ^^^ ls (fun i => gmul (gmul (e i) (X i ^^^ X p)) (gpow (X i) k)) ps = 0 := by
        rw [← h2]
        show _ = (gmul (e p) (gpow (X p) (k + 1)) ^^^ gmul (X p) (gmul (e p) (gpow (X p) k))) ^^^ _
        rw [h3 p]
        congr 1
        exact ls_congr fun i _ => (h3 i).symm
      rw [UInt8.xor_self, gmul_zero, zero_gmul, UInt8.zero_xor] at h4
      exact h4
    have h5 := vand X ps (fun i => gmul (e i) (X i ^^^ X p)) hd' key
    have h6 : ∀ i ∈ ps, e i = 0 := fun i hi => by
      rcases (gmul_eq_zero _ _).1 (h5 i hi) with h | h
      · exact h
      · exact absurd (UInt8.xor_eq_zero_iff.1 h).symm (hp i hi)
    intro i hi
    rcases List.mem_cons.1 hi with rfl | hi
    · have h7 := hk 0 (by simp)
      have h8 : gmul (e i) (gpow (X i) 0) ^^^ ls (fun j => gmul (e j) (gpow (X j) 0)) ps = 0 := h7
      rw [ls_zero (fun j hj => by rw [h6 j hj, zero_gmul]), UInt8.xor_zero] at h8
      rcases (gmul_eq_zero _ _).1 h8 with h | h
      · exact h
      · exact absurd h one_ne
    · exact h6 i hi
/-- the value of a word: its first byte has the highest power -/
def hor (x : UInt8) (l : List UInt8) : UInt8 := l.foldl (fun v b => gmul v x ^^^ b) 0
theorem hor_snoc (x : UInt8) (l : List UInt8) (b : UInt8) : hor x (l ++ [b]) = gmul (hor x l) x ^^^ b := by simp [hor]
/-- an element, 0 behind the last one -/
def wd (l : List UInt8) (i : Nat) : UInt8 := l[i]?.getD 0
theorem wd_some {l : List UInt8} {i : Nat} {b : UInt8} (h : l[i]? = some b) : wd l i = b := by unfold wd; rw [h]; rfl
theorem wd_lt {l : List UInt8} {i : Nat} (h : i < l.length) : l[i]? = some (wd l i) := by unfold wd; rw [List.getElem?_eq_getElem h]; rfl
theorem wd_left {l r : List UInt8} {i : Nat} (h : i < l.length) : wd (l ++ r) i = wd l i := by unfold wd; rw [List.getElem?_append_left h]
theorem wd_right (l r : List UInt8) (i : Nat) : wd (l ++ r) (l.length + i) = wd r i := by unfold wd; rw [List.getElem?_append_right (by omega), Nat.add_sub_cancel_left]
theorem wd_ext {l r : List UInt8} (hl : l.length = r.length) (h : ∀ i, i < l.length → wd l i = wd r i) : l = r := by
  refine List.ext_getElem? fun i => ?_
  rcases Nat.lt_or_ge i l.length with h1 | h1
  · rw [wd_lt h1, wd_lt (by omega), h i h1]
  · rw [List.getElem?_eq_none h1, List.getElem?_eq_none (by omega)]
theorem ls_range_succ (f : Nat → UInt8) (n : Nat) : ls f (List.range (n + 1)) = ls f (List.range n) ^^^ f n := by
  rw [List.range_succ, ls_append]
  show _ ^^^ (f n ^^^ 0) = _
  rw [UInt8.xor_zero]
theorem snoc_ind {P : List UInt8 → Prop} (h0 : P []) (h1 : ∀ l b, P l → P (l ++ [b])) (l : List UInt8) : P l := by
  have : ∀ r : List UInt8, P r.reverse := by
    intro r
    induction r with
    | nil => exact h0
    | cons b r ih => rw [List.reverse_cons]; exact h1 _ _ ih
  have h2 := this l.reverse
  rwa [List.reverse_reverse] at h2
theorem hor_sum (x : UInt8) (l : List UInt8) : hor x l = ls (fun i => gmul (wd l i) (gpow x (l.length - 1 - i))) (List.range l.length) := by
  induction l using snoc_ind with
  | h0 => rfl
  | h1 l b ih =>
    rw [hor_snoc, ih, List.length_append, List.length_singleton, ls_range_succ, gmul_comm, ← ls_mul]
    congr 1
    · refine ls_congr fun i hi => ?_
      have hi := List.mem_range.1 hi
      rw [wd_left hi, show l.length + 1 - 1 - i = (l.length - 1 - i) + 1 by omega, gpow_add, gpow_one, ← gmul_assoc, gmul_comm x, gmul_assoc, gmul_comm x]
    · have h := wd_right l [b] 0
      rw [Nat.add_zero] at h
      rw [h, show l.length + 1 - 1 - l.length = 0 by omega]
      show b = gmul b 1
      rw [gmul_one]
/-- the power of 2 that stands for a place -/
def loc (n i : Nat) : UInt8 := gpow 2 (n - 1 - i)
theorem loc_ne (n i : Nat) : loc n i ≠ 0 := exp_ne_zero _
theorem loc_inj {n i j : Nat} (hn : n ≤ 255) (hi : i < n) (hj : j < n) (h : loc n i = loc n j) : i = j := by
  have := exp_inj (n - 1 - i) (n - 1 - j) (by omega) (by omega) h
  omega
/-- the values of a word at powers of 2 -/
def syn (l : List UInt8) (k : Nat) : UInt8 := hor (gpow 2 k) l
def dsyn (D : Nat → UInt8) (n k : Nat) : UInt8 := ls (fun i => gmul (D i) (gpow (loc n i) k)) (List.range n)
theorem syn_eq (l : List UInt8) (k : Nat) : syn l k = dsyn (wd l) l.length k := by
  unfold syn dsyn
  rw [hor_sum]
  refine ls_congr fun i _ => ?_
  unfold loc
  rw [← gpow_mul, ← gpow_mul, Nat.mul_comm]
theorem dsyn_congr {D E : Nat → UInt8} {n k : Nat} (h : ∀ i, i < n → D i = E i) : dsyn D n k = dsyn E n k := ls_congr fun i hi => by rw [h i (List.mem_range.1 hi)]
theorem dsyn_add (D E : Nat → UInt8) (n k : Nat) : dsyn (fun i => D i ^^^ E i) n k = dsyn D n k ^^^ dsyn E n k := by
  unfold dsyn
  rw [← ls_add]
  exact ls_congr fun i _ => gmul_add' _ _ _
/-- how many of the first n places are not 0 -/
def wt (D : Nat → UInt8) (n : Nat) : Nat := (List.range n).countP (fun i => D i != 0)
theorem pair_range (n : Nat) : (List.range n).Pairwise (fun i j => i < j) := List.pairwise_lt_range
/-- a word of few places that is 0 at so many powers is 0 -/
theorem dist {D : Nat → UInt8} {n m : Nat} (hn : n ≤ 255) (hc : wt D n ≤ m) (hs : ∀ k, k < m → dsyn D n k = 0) : ∀ i, i < n → D i = 0 := by
  intro i hi
  have hp : ((List.range n).filter (fun i => D i != 0)).Pairwise (fun i j => loc n i ≠ loc n j) := by
    refine List.Pairwise.imp_of_mem ?_ (List.Pairwise.filter _ (pair_range n))
    intro a b ha hb hab e
    have ha := List.mem_range.1 (List.mem_filter.1 ha).1
    have hb := List.mem_range.1 (List.mem_filter.1 hb).1
    have := loc_inj hn ha hb e
    omega
  have hl : ((List.range n).filter (fun i => D i != 0)).length ≤ m := by rw [← List.countP_eq_length_filter]; exact hc
  have h := vand (loc n) _ D hp (fun k hk => by
    rw [ls_filter _ _ _ (fun p _ hp => by
      have : D p = 0 := by simpa using hp
      rw [this, zero_gmul])]
    exact hs k (by omega))
  cases e : D i != 0 with
  | false => simpa using e
  | true => exact h i (List.mem_filter.2 ⟨List.mem_range.2 hi, e⟩)
end Sy
end Go.Proofs.YtnplaejlmbncfaaGreatDoor

namespace Go.Proofs.YtnplaejlmbncfaaGreatDoor
namespace Po
/-- P4.1 -/
def vld (l : List UInt8) : Bool := decide (l.length ≤ 255) && (l.getLast? != some 0)
/-- the length without zeros at the end -/
def tl (l : List UInt8) : Nat → Nat
  | 0 => 0
  | n + 1 => if l[n]? = some 0 then tl l n else n + 1
def trim (l : List UInt8) : List UInt8 := l.take (tl l l.length)
theorem tl_le (l : List UInt8) : ∀ n, tl l n ≤ n := by
  intro n
  induction n with
  | zero => exact Nat.le_refl _
  | succ n ih =>
    unfold tl
    split
    · omega
    · exact Nat.le_refl _
theorem tl_zero (l : List UInt8) (n : Nat) (h : l[n]? = some 0) : tl l (n + 1) = tl l n := by
  rw [tl, if_pos h]
theorem tl_stop (l : List UInt8) (n : Nat) (h : l[n]? ≠ some 0) : tl l (n + 1) = n + 1 := by
  rw [tl, if_neg h]
theorem trim_length (l : List UInt8) : (trim l).length = tl l l.length := by
  unfold trim
  rw [List.length_take]
  have := tl_le l l.length
  omega
theorem vld_big (l : List UInt8) (h : 255 < l.length) : vld l = false := by
  unfold vld
  simp
  omega
theorem vld_nil (l : List UInt8) (h : l.length = 0) : vld l = true := by
  have : l = [] := List.eq_nil_of_length_eq_zero h
  subst this
  rfl
theorem vld_last (l : List UInt8) (b : UInt8) (h1 : l.length ≤ 255) (hb : l[l.length - 1]? = some b) : vld l = (b != 0) := by
  unfold vld
  rw [List.getLast?_eq_getElem?, hb, decide_eq_true h1, Bool.true_and, Bool.eq_iff_iff]
  simp
theorem tl_last (l : List UInt8) : ∀ n, tl l n = 0 ∨ l[tl l n - 1]? ≠ some 0 := by
  intro n
  induction n with
  | zero => exact .inl rfl
  | succ n ih =>
    by_cases h : l[n]? = some 0
    · rw [tl_zero l n h]
      exact ih
    · rw [tl_stop l n h]
      exact .inr h
theorem take_vld (l : List UInt8) (k : Nat) (hk : k ≤ l.length) (h : k = 0 ∨ l[k - 1]? ≠ some 0) (h2 : k ≤ 255) : vld (l.take k) = true := by
  have hl : (l.take k).length = k := by rw [List.length_take]; omega
  unfold vld
  rw [hl, decide_eq_true h2, Bool.true_and, bne_iff_ne, List.getLast?_eq_getElem?, hl, List.getElem?_take]
  rcases h with h | h
  · subst h
    simp
  · split
    · exact h
    · simp
theorem trim_vld (l : List UInt8) (h : l.length ≤ 255) : vld (trim l) = true := by
  have h1 := tl_le l l.length
  exact take_vld l _ h1 (tl_last l l.length) (by omega)
/-- so many rounds of adding t times r, from 'at' on -/
def addTo (l r : List UInt8) (t : UInt8) (i : Nat) : Nat → List UInt8
  | 0 => l
  | k + 1 => (addTo l r t i k).set (i + k) (((addTo l r t i k)[i + k]?.getD 0) ^^^ Gf.gmul t (r[k]?.getD 0))
theorem addTo_length (l r : List UInt8) (t : UInt8) (i : Nat) : ∀ k, (addTo l r t i k).length = l.length := by
  intro k
  induction k with
  | zero => rfl
  | succ k ih => rw [addTo, List.length_set, ih]
theorem addTo_succ (l r : List UInt8) (t d b x : UInt8) (i k : Nat) (hd : (addTo l r t i k)[i + k]? = some d) (hb : r[k]? = some b) (hx : x = d ^^^ Gf.gmul t b) : addTo l r t i (k + 1) = (addTo l r t i k).set (i + k) x := by
  rw [addTo, hd, hb, hx]
  rfl
def addAt (l r : List UInt8) (t : UInt8) (i : Nat) : List UInt8 := addTo l r t i r.length
/-- P4.2: the sum, before zeros are cut off -/
def padd (p q : List UInt8) : List UInt8 := addAt (addAt (List.replicate (max p.length q.length) 0) p 1 0) q 1 0
theorem addAt_length (l r : List UInt8) (t : UInt8) (i : Nat) : (addAt l r t i).length = l.length := addTo_length l r t i _
theorem vld_len {p : List UInt8} (h : vld p = true) : p.length ≤ 255 := by
  unfold vld at h
  simp at h
  exact h.1
/-- P4.2: so many rounds of a product -/
def mulTo (p q : List UInt8) : Nat → List UInt8
  | 0 => List.replicate (p.length + q.length - 1) 0
  | k + 1 => addAt (mulTo p q k) q (p[k]?.getD 0) k
def mulA (p q : List UInt8) : List UInt8 := mulTo p q p.length
theorem mulTo_length (p q : List UInt8) : ∀ k, (mulTo p q k).length = p.length + q.length - 1 := by
  intro k
  induction k with
  | zero => exact List.length_replicate
  | succ k ih => rw [mulTo, addAt_length, ih]
theorem mulTo_succ (p q : List UInt8) (k : Nat) (b : UInt8) (hb : p[k]? = some b) : mulTo p q (k + 1) = addAt (mulTo p q k) q b k := by
  rw [mulTo, hb]
  rfl
def mulB (p q : List UInt8) : Bool := decide (p.length = 0) || decide (q.length = 0)
def mulR (p q : List UInt8) : List UInt8 := if vld p && vld q then (if mulB p q then [] else if p.length + q.length - 1 ≤ 255 then mulA p q else []) else []
def mulE (p q : List UInt8) : Int := if vld p && vld q then (if mulB p q then 0 else if p.length + q.length - 1 ≤ 255 then 0 else 3) else 1
theorem mul_no {p q : List UInt8} (h : (vld p && vld q) = false) : mulR p q = [] ∧ mulE p q = 1 := by
  unfold mulR mulE
  rw [h]
  exact ⟨rfl, rfl⟩
theorem mul_empty {p q : List UInt8} (h : (vld p && vld q) = true) (h0 : p.length = 0 ∨ q.length = 0) : mulR p q = [] ∧ mulE p q = 0 := by
  have hb : mulB p q = true := by
    unfold mulB
    rcases h0 with h0 | h0
    · rw [decide_eq_true h0]; rfl
    · rw [decide_eq_true h0]; simp
  unfold mulR mulE
  rw [h, hb]
  exact ⟨rfl, rfl⟩
theorem mul_some {p q : List UInt8} (h : (vld p && vld q) = true) (h0 : 0 < p.length) (h1 : 0 < q.length) (hl : p.length + q.length - 1 ≤ 255) : mulR p q = mulA p q ∧ mulE p q = 0 := by
  have hb : mulB p q = false := by
    unfold mulB
    rw [decide_eq_false (by omega), decide_eq_false (by omega)]; rfl
  unfold mulR mulE
  rw [h, hb]
  simp only [if_true, Bool.false_eq_true, if_false]
  rw [if_pos hl, if_pos hl]
  exact ⟨rfl, rfl⟩
theorem mul_long {p q : List UInt8} (h : (vld p && vld q) = true) (h0 : 0 < p.length) (h1 : 0 < q.length) (hl : ¬ p.length + q.length - 1 ≤ 255) : mulR p q = [] ∧ mulE p q = 3 := by
  have hb : mulB p q = false := by
    unfold mulB
    rw [decide_eq_false (by omega), decide_eq_false (by omega)]; rfl
  unfold mulR mulE
  rw [h, hb]
  simp only [if_true, Bool.false_eq_true, if_false]
  rw [if_neg hl, if_neg hl]
  exact ⟨rfl, rfl⟩
end Po
end Go.Proofs.YtnplaejlmbncfaaGreatDoor

namespace Go.Proofs.YtnplaejlmbncfaaGreatDoor
namespace Po
theorem addTo_take (l r : List UInt8) (t : UInt8) (i m : Nat) : ∀ k, i + k ≤ m → addTo (l.take m) r t i k = (addTo l r t i k).take m := by
  intro k
  induction k with
  | zero => intro _; rfl
  | succ k ih =>
    intro hk
    rw [addTo, addTo, ih (by omega), List.take_set, List.getElem?_take, if_pos (by omega)]
theorem addAt_take (l r : List UInt8) (t : UInt8) (i m : Nat) (h : i + r.length ≤ m) : addAt (l.take m) r t i = (addAt l r t i).take m := addTo_take l r t i m r.length h
/-- so many rounds of a division of p by q, the inverse of q's last element at hand: what is left of p, and the quotient -/
def dv (p q : List UInt8) (lead : UInt8) : Nat → List UInt8 × List UInt8
  | 0 => (p, List.replicate (p.length - q.length + 1) 0)
  | j + 1 =>
    (addAt (dv p q lead j).1 q (Gf.gmul ((dv p q lead j).1[p.length - q.length - j + q.length - 1]?.getD 0) lead) (p.length - q.length - j),
     (dv p q lead j).2.set (p.length - q.length - j) (Gf.gmul ((dv p q lead j).1[p.length - q.length - j + q.length - 1]?.getD 0) lead))
theorem dv_len (p q : List UInt8) (lead : UInt8) : ∀ j, (dv p q lead j).1.length = p.length ∧ (dv p q lead j).2.length = p.length - q.length + 1 := by
  intro j
  induction j with
  | zero => exact ⟨rfl, List.length_replicate⟩
  | succ j ih => exact ⟨by rw [dv, addAt_length, ih.1], by rw [dv, List.length_set, ih.2]⟩
theorem dv_succ (p q : List UInt8) (lead : UInt8) (j n m at_ : Nat) (b : UInt8) (hn : p.length = n) (hm : q.length = m) (ha : at_ = n - m - j) (hb : (dv p q lead j).1[at_ + m - 1]? = some b) :
    (dv p q lead (j + 1)).1 = addAt (dv p q lead j).1 q (Gf.gmul b lead) at_ ∧ (dv p q lead (j + 1)).2 = (dv p q lead j).2.set at_ (Gf.gmul b lead) := by
  subst hn hm ha
  rw [dv, hb]
  exact ⟨rfl, rfl⟩
def lastOf (q : List UInt8) : UInt8 := q[q.length - 1]?.getD 0
def dvAll (p q : List UInt8) : List UInt8 × List UInt8 := dv p q (Gf.ginv (lastOf q)) (p.length - q.length + 1)
def quo (p q : List UInt8) : List UInt8 := if p.length < q.length then [] else (dvAll p q).2
def rem (p q : List UInt8) : List UInt8 := if p.length < q.length then p else trim ((dvAll p q).1.take (q.length - 1))
theorem rem_lt (p q : List UInt8) (h : 0 < q.length) : (rem p q).length < q.length := by
  unfold rem
  split
  · assumption
  · rw [trim_length]
    have h1 := tl_le ((dvAll p q).1.take (q.length - 1)) ((dvAll p q).1.take (q.length - 1)).length
    have h2 : ((dvAll p q).1.take (q.length - 1)).length ≤ q.length - 1 := List.length_take_le _ _
    omega
def divE (p q : List UInt8) : Int := if vld p && vld q then (if q.length = 0 then 4 else 0) else 1
def divQ (p q : List UInt8) : List UInt8 := if (vld p && vld q) && decide (0 < q.length) then quo p q else []
def divR (p q : List UInt8) : List UInt8 := if (vld p && vld q) && decide (0 < q.length) then rem p q else []
theorem div_no {p q : List UInt8} (h : (vld p && vld q) = false) : divQ p q = [] ∧ divR p q = [] ∧ divE p q = 1 := by
  unfold divQ divR divE
  rw [h]
  exact ⟨rfl, rfl, rfl⟩
theorem div_zero {p q : List UInt8} (h : (vld p && vld q) = true) (h0 : q.length = 0) : divQ p q = [] ∧ divR p q = [] ∧ divE p q = 4 := by
  unfold divQ divR divE
  rw [h, decide_eq_false (by omega)]
  exact ⟨rfl, rfl, by simp [h0]⟩
theorem div_some {p q : List UInt8} (h : (vld p && vld q) = true) (h0 : 0 < q.length) : divQ p q = quo p q ∧ divR p q = rem p q ∧ divE p q = 0 := by
  unfold divQ divR divE
  rw [h, decide_eq_true h0]
  refine ⟨rfl, rfl, ?_⟩
  rw [if_pos rfl, if_neg (by omega)]
end Po
end Go.Proofs.YtnplaejlmbncfaaGreatDoor

namespace Go.Proofs.YtnplaejlmbncfaaGreatDoor
open Go.RowKit

/-- a quiet call in a region that draws: for contracts that state 'w = w'' -/
theorem quiet_left {P : Program} {f : FuncId} {args : Array Value} {w : World} {n : Nat} {v : Value}
    (h : Calls P f args (w.drewN n) fun e w' => e = .returned v ∧ w.drewN n = w') : Calls P f args (w.drewN n) fun e w'' => e = .returned v ∧ ∃ m, w'' = w.drewN m :=
  h.mono fun _ _ ⟨he, hm⟩ => ⟨he, n, hm.symm⟩
theorem below_drewN {B : Nat} {a w : World} (h : Below B a w) (n : Nat) : Below B a (w.drewN n) := ⟨h.os, h.tape, h.output, h.size, h.block⟩
end Go.Proofs.YtnplaejlmbncfaaGreatDoor

namespace Go.Proofs.YtnplaejlmbncfaaGreatDoor
open Go.RowKit

/-- The slice at A holds the values xs, in blocks below B. -/
def Sl (w : World) (B : Nat) (A : Option Addr) (xs : List Value) : Prop :=
  0 < xs.length → ∃ ad, A = some ad ∧ ad.block < B ∧ ∀ j u, xs[j]? = some u → w.cell? (ad.add j) = some u

theorem add_block (a : Addr) (n : Nat) : (a.add n).block = a.block := by unfold Addr.add; split <;> rfl
theorem add_add (a : Addr) (i j : Nat) : (a.add i).add j = a.add (i + j) := by
  unfold Addr.add
  rcases Nat.eq_zero_or_pos i with rfl | hi
  · simp
  · rcases Nat.eq_zero_or_pos j with rfl | hj
    · simp
    · rw [if_neg (by omega), if_neg (by omega), if_neg (by omega)]
      simp [Nat.add_assoc]

section
variable {w w' : World} {B B' : Nat} {A : Option Addr} {xs : List Value}
theorem Sl.nil (w : World) (B : Nat) (A : Option Addr) : Sl w B A [] := fun h => absurd h (by simp)
theorem Sl.at_ (h : Sl w B A xs) {k : Nat} (hk : k < xs.length) : ∃ ad, A = some ad ∧ ad.block < B ∧ w.cell? (ad.add k) = some xs[k] := by
  obtain ⟨ad, e, hb, hc⟩ := h (by omega)
  exact ⟨ad, e, hb, hc k _ (List.getElem?_eq_getElem hk)⟩
theorem Sl.keep (h : Sl w B A xs) (hk : ∀ p : Addr, p.block < B → w'.cell? p = w.cell? p) : Sl w' B A xs := fun hn => by
  obtain ⟨ad, e, hb, hc⟩ := h hn
  exact ⟨ad, e, hb, fun j u hu => (hk _ (by rw [add_block]; exact hb)).trans (hc j u hu)⟩
theorem Sl.more (h : Sl w B A xs) (hB : B ≤ B') : Sl w B' A xs := fun hn => by
  obtain ⟨ad, e, hb, hc⟩ := h hn
  exact ⟨ad, e, by omega, hc⟩
theorem Sl.below (h : Sl w B A xs) (hb : Below B w w') : Sl w' B A xs := h.keep fun _ hp => hb.cell hp
theorem Sl.drewN (h : Sl w B A xs) (k : Nat) : Sl (w.drewN k) B A xs := h
theorem Sl.alloc (h : Sl w B A xs) (hB : B ≤ w.heap.size) (o : Obj) : Sl (w.alloc o) B A xs := h.below ((Below.refl B w).alloc hB o)
theorem Sl.grown (h : Sl w B A xs) {row : Option Nat} (hg : w.grownBy w' row) (hB : B ≤ w.heap.size) (hr : ∀ g, row = some g → B ≤ g) : Sl w' B A xs :=
  h.keep fun p hp => World.cell?_of_block (hg.block p.block (by omega) (fun e => by have := hr _ e.symm; omega))
theorem Sl.take (h : Sl w B A xs) (k : Nat) : Sl w B A (xs.take k) := fun hn => by
  obtain ⟨ad, e, hb, hc⟩ := h (by rw [List.length_take] at hn; omega)
  refine ⟨ad, e, hb, fun j u hu => hc j u ?_⟩
  rw [List.getElem?_take] at hu
  split at hu
  · exact hu
  · cases hu
theorem Sl.drop (h : Sl w B A xs) (k : Nat) : Sl w B (A.map (·.add k)) (xs.drop k) := fun hn => by
  obtain ⟨ad, e, hb, hc⟩ := h (by rw [List.length_drop] at hn; omega)
  subst e
  refine ⟨ad.add k, rfl, by rw [add_block]; exact hb, fun j u hu => ?_⟩
  rw [add_add]
  exact hc _ u (by rw [← hu, List.getElem?_drop])
theorem Sl.of_own {base : Nat} {e : TypeId} {n c : Nat} (h : w.ownsRow base e 1 (.slice A n c) n xs) : Sl w w.heap.size A xs := fun hn => by
  have hl : 0 < n := by have := h.1; omega
  obtain ⟨g, cap, hv, _, hlt⟩ := h.form hl
  have hA : A = some ⟨g, 0, none⟩ := by injection hv
  subst hA
  exact ⟨_, rfl, hlt, h.cells (g := g) rfl⟩
end

section
variable {w w' : World} {base n c : Nat} {e : TypeId} {A : Option Addr} {xs : List Value}
theorem own_len (h : w.ownsRow base e 1 (.slice A n c) n xs) : xs.length = n := by have := h.1; omega
theorem own_form (h : w.ownsRow base e 1 (.slice A n c) n xs) (hn : 0 < n) : ∃ g, A = some ⟨g, 0, none⟩ ∧ base ≤ g ∧ g < w.heap.size := by
  obtain ⟨g, cap, hv, hb, hlt⟩ := h.form hn
  injection hv with h1 h2 h3
  exact ⟨g, h1, hb, hlt⟩
theorem own_cap (h : w.ownsRow base e 1 (.slice A n c) n xs) : n ≤ c ∧ c ≤ maxLen := by
  rcases h.2 with ⟨h', h0⟩ | ⟨g', cap', cur, h', hb, hg, hnc, hcm, hcs, htake⟩
  · injection h' with h1 h2 h3
    subst h0 h3
    exact ⟨Nat.le_refl _, by unfold maxLen; omega⟩
  · injection h' with h1 h2 h3
    subst h3
    exact ⟨hnc, hcm⟩
theorem own_block (h : w.ownsRow base e 1 (.slice A n c) n xs) : ∀ g, (Value.slice A n c).ownBlock = some g → base ≤ g := fun g hg => (h.lt g hg).1
/-- a shorter piece from the head on -/
theorem own_take (h : w.ownsRow base e 1 (.slice A n c) n xs) {k : Nat} (hk : k ≤ n) : w.ownsRow base e 1 (.slice A k c) k (xs.take k) := by
  have hl := own_len h
  refine ⟨by rw [List.length_take, hl]; omega, ?_⟩
  rcases h.2 with ⟨h', h0⟩ | ⟨g', cap', cur, h', hb, hg, hnc, hcm, hcs, htake⟩
  · injection h' with h1 h2 h3
    subst h0 h1 h3
    left
    have : k = 0 := by omega
    subst this
    exact ⟨rfl, rfl⟩
  · injection h' with h1 h2 h3
    subst h1 h3
    right
    refine ⟨g', c, cur, rfl, hb, hg, by omega, hcm, hcs, ?_⟩
    rw [← htake, List.take_take]
    congr 1
    omega
theorem own_more {base' : Nat} (h : w.ownsRow base e 1 (.slice A n c) n xs) (hb : base' ≤ base) : w.ownsRow base' e 1 (.slice A n c) n xs := by
  refine ⟨h.1, ?_⟩
  rcases h.2 with h' | ⟨g', cap', cur, h', hb', r⟩
  · exact .inl h'
  · exact .inr ⟨g', cap', cur, h', by omega, r⟩
/-- a nil or fresh row is not touched by what turns another block -/
theorem own_keep (h : w.ownsRow base e 1 (.slice A n c) n xs) {row : Option Nat} (hg : w.grownBy w' row) (hne : (Value.slice A n c).ownBlock = none ∨ (Value.slice A n c).ownBlock ≠ row) : w'.ownsRow base e 1 (.slice A n c) n xs := h.kept hg hne
theorem own_below (h : w.ownsRow base e 1 (.slice A n c) n xs) (hb : Below w.heap.size w w') : w'.ownsRow base e 1 (.slice A n c) n xs :=
  h.kept (row := none) ⟨hb.os, hb.tape, hb.output, hb.size, fun k hk _ => hb.block k hk⟩ (by
    by_cases he : (Value.slice A n c).ownBlock = none
    · exact .inl he
    · exact .inr he)
end

section
variable {P : Program} (w : World)
theorem run_append_sl (base : Nat) (t ty e : TypeId) (i : TypeInfo) (z : Value) (bytes : Nat) (ht : P.underlying t = some (.slice e)) (hi : P.info? e = some i) (hz : i.zero = some z)
    (hsize : i.size = 1) (hby : i.bytes = bytes) (hzs : z.cells.size = 1)
    (A : Option Addr) (n c : Nat) (xs : List Value) (hown : w.ownsRow base e 1 (.slice A n c) n xs)
    (B : Nat) (A2 : Option Addr) (m c2 : Nat) (news : List Value) (hm : news.length = m) (hr : Sl w B A2 news) (h1 : ∀ u ∈ news, u.oneCell' = true)
    (h63 : n + m ≤ maxLen) (hbytes : (n + m) * bytes ≤ 140737488355328) (hbase : base ≤ w.heap.size) :
    ∃ A' c' w', (Builtin.append_ #[t, t] ty #[.slice A n c, .slice A2 m c2]).run P w = .ok (.slice A' (n + m) c') w' ∧ w'.ownsRow base e 1 (.slice A' (n + m) c') (n + m) (xs ++ news) ∧ w.grownBy w' (Value.slice A n c).ownBlock ∧
      ((Value.slice A' (n + m) c').ownBlock = (Value.slice A n c).ownBlock ∨ (Value.slice A' (n + m) c').ownBlock = some w.heap.size) := by
  rcases A2 with _ | ad
  · have h0 : m = 0 := by
      rcases Nat.eq_zero_or_pos m with h0 | h0
      · exact h0
      · obtain ⟨ad, h, _⟩ := hr (by omega)
        cases h
    subst h0
    have hn : news = [] := List.eq_nil_of_length_eq_zero hm
    subst hn
    refine ⟨A, c, w, ?_, by simpa using hown, World.grownBy.refl w _, .inl rfl⟩
    rcases hown.2 with ⟨h', h0⟩ | ⟨g, cap, cur, h', _, _, hnc, _⟩
    · injection h' with a1 a2 a3
      subst a1 a2 a3
      simp [Builtin.append_, run_underlying ht, sizeOf, typeInfo, hi, Builtin.lenOf, Builtin.firstCells]
    · injection h' with a1 a2 a3
      subst a1 a3
      simp [Builtin.append_, run_underlying ht, sizeOf, typeInfo, hi, Builtin.lenOf, Builtin.firstCells, hnc, storeCells]
  · have hc : ∀ j u, news[j]? = some u → w.cell? (ad.add j) = some u := by
      rcases Nat.eq_zero_or_pos m with h0 | h0
      · have hn : news = [] := List.eq_nil_of_length_eq_zero (hm.trans h0)
        subst hn
        intro j u hu
        simp at hu
      · obtain ⟨ad', h, _, hc⟩ := hr (by omega)
        injection h with h
        subst h
        exact hc
    obtain ⟨v', w', hrun, h2, h3, _, h5⟩ := run_append_own_at (P := P) w base t ty e i z 1 bytes ht hi hz hsize hby hzs (by omega) _ n xs hown ad m c2 news (by omega) hc h1 h63 hbytes hbase
    have hf : ∃ A' c', v' = .slice A' (n + m) c' := by
      rcases h2.2 with ⟨h', h0⟩ | ⟨g, cap, cur, h', _⟩
      · exact ⟨none, 0, by rw [h', h0]⟩
      · exact ⟨_, _, h'⟩
    obtain ⟨A', c', rfl⟩ := hf
    exact ⟨_, _, w', hrun, h2, h3, h5⟩

theorem wp_append_sl {o : Oper} {a : Act} {K : Act → World → Prop} {Q : Exit → Act → World → Prop} (s x : Operand) (t : TypeId)
    (ho : o.op = .call { callee := .builtin .append, args := #[s, x], argTypes := #[t, t] })
    (base : Nat) (e : TypeId) (i : TypeInfo) (z : Value) (bytes : Nat) (ht : P.underlying t = some (.slice e)) (hi : P.info? e = some i) (hz : i.zero = some z)
    (hsize : i.size = 1) (hby : i.bytes = bytes) (hzs : z.cells.size = 1)
    (A : Option Addr) (n c : Nat) (xs : List Value) (hs : a.eval s = .slice A n c) (hown : w.ownsRow base e 1 (.slice A n c) n xs)
    (B : Nat) (A2 : Option Addr) (m c2 : Nat) (news : List Value) (hx : a.eval x = .slice A2 m c2) (hm : news.length = m) (hr : Sl w B A2 news) (h1 : ∀ u ∈ news, u.oneCell' = true)
    (h63 : n + m ≤ maxLen) (hbytes : (n + m) * bytes ≤ 140737488355328) (hbase : base ≤ w.heap.size)
    (h : ∀ A' c' w', w'.ownsRow base e 1 (.slice A' (n + m) c') (n + m) (xs ++ news) → w.grownBy w' (Value.slice A n c).ownBlock → ((Value.slice A' (n + m) c').ownBlock = (Value.slice A n c).ownBlock ∨ (Value.slice A' (n + m) c').ownBlock = some w.heap.size) → K (a.put o.dst (.slice A' (n + m) c')) w') : o.wp P a w K Q := by
  obtain ⟨A', c', w', hrun, h2, h3, h4⟩ := run_append_sl (P := P) w base t o.type e i z bytes ht hi hz hsize hby hzs A n c xs hown B A2 m c2 news hm hr h1 h63 hbytes hbase
  unfold Oper.wp execOp
  simp only [ho, resolve, invoke, builtin, Sem.run_bind, Sem.run_pure, Result.andThen_ok, List.map_toArray, List.map_cons, List.map_nil, hs, hx, hrun]
  exact h A' c' w' h2 h3 h4

theorem wpList_append_sl {ops : Array Oper} {rest : List Oper} {o : Oper} {a : Act} {Q : Exit → Act → World → Prop} (hgd : o.guard = none) (s x : Operand) (t : TypeId)
    (ho : o.op = .call { callee := .builtin .append, args := #[s, x], argTypes := #[t, t] })
    (base : Nat) (e : TypeId) (i : TypeInfo) (z : Value) (bytes : Nat) (ht : P.underlying t = some (.slice e)) (hi : P.info? e = some i) (hz : i.zero = some z)
    (hsize : i.size = 1) (hby : i.bytes = bytes) (hzs : z.cells.size = 1)
    (A : Option Addr) (n c : Nat) (xs : List Value) (hs : a.eval s = .slice A n c) (hown : w.ownsRow base e 1 (.slice A n c) n xs)
    (B : Nat) (A2 : Option Addr) (m c2 : Nat) (news : List Value) (hx : a.eval x = .slice A2 m c2) (hm : news.length = m) (hr : Sl w B A2 news) (h1 : ∀ u ∈ news, u.oneCell' = true)
    (h63 : n + m ≤ maxLen) (hbytes : (n + m) * bytes ≤ 140737488355328) (hbase : base ≤ w.heap.size)
    (h : ∀ A' c' w', w'.ownsRow base e 1 (.slice A' (n + m) c') (n + m) (xs ++ news) → w.grownBy w' (Value.slice A n c).ownBlock → ((Value.slice A' (n + m) c').ownBlock = (Value.slice A n c).ownBlock ∨ (Value.slice A' (n + m) c').ownBlock = some w.heap.size) → wpList P ops Q rest (a.put o.dst (.slice A' (n + m) c')) w') :
    wpList P ops Q (o :: rest) a w :=
  wpList_plain hgd fun _ hK => wp_append_sl w s x t ho base e i z bytes ht hi hz hsize hby hzs A n c xs hs hown B A2 m c2 news hx hm hr h1 h63 hbytes hbase fun A' c' w' h2 h3 h4 => hK _ _ (h A' c' w' h2 h3 h4)
end

/-- bytes as values -/
def encB (b : UInt8) : Value := .int .u8 (b.toNat : Int)
def bys (l : List UInt8) : List Value := l.map encB
theorem bys_length (l : List UInt8) : (bys l).length = l.length := List.length_map _
theorem bys_one (l : List UInt8) : ∀ u ∈ bys l, u.oneCell' = true := by
  intro u hu
  obtain ⟨b, _, rfl⟩ := List.mem_map.1 hu
  rfl
theorem Sl.byte {w : World} {B : Nat} {A : Option Addr} {l : List UInt8} (h : Sl w B A (bys l)) {k : Nat} {b : UInt8} (hk : l[k]? = some b) : ∃ ad, A = some ad ∧ ad.block < B ∧ w.cell? (ad.add k) = some (.int .u8 (b.toNat : Int)) := by
  have hlt : k < l.length := by
    rcases Nat.lt_or_ge k l.length with h | h
    · exact h
    · rw [List.getElem?_eq_none h] at hk; cases hk
  obtain ⟨ad, e, hb, hc⟩ := h (by rw [bys_length]; omega)
  exact ⟨ad, e, hb, hc k _ (by unfold bys; rw [List.getElem?_map, hk]; rfl)⟩
theorem own_byte {w : World} {base n c g : Nat} {e : TypeId} {l : List UInt8} (h : w.ownsRow base e 1 (.slice (some ⟨g, 0, none⟩) n c) n (bys l)) {k : Nat} {b : UInt8} (hk : l[k]? = some b) : w.cell? ⟨g, k, none⟩ = some (.int .u8 (b.toNat : Int)) := by
  have hl := own_len h
  rw [bys_length] at hl
  have hlt : k < l.length := by
    rcases Nat.lt_or_ge k l.length with h | h
    · exact h
    · rw [List.getElem?_eq_none h] at hk; cases hk
  rw [h.cellAt k (by omega)]
  unfold bys
  rw [List.getElem?_map, hk]
  rfl
theorem byte_at (l : List UInt8) (k : Nat) (h : k < l.length) : ∃ b : UInt8, l[k]? = some b := ⟨_, List.getElem?_eq_getElem h⟩
theorem int_eqv {k : IntKind} {a b : Int} (h : a = b) : (Value.int k a) = .int k b := by rw [h]
theorem u8_lt' (a : UInt8) : ((a.toNat : Nat) : Int) < 256 := by have := UInt8.toNat_lt a; omega
theorem ret_bool {a b : Bool} (h : a = b) : Ending.returned (.bool a) = .returned (.bool b) := by rw [h]
theorem u8_bne0 (b : UInt8) : ((b.toNat : Int) != 0) = (b != 0) := by
  rw [Bool.eq_iff_iff, bne_iff_ne, bne_iff_ne]
  constructor
  · intro h e
    subst e
    exact h rfl
  · intro h e
    exact h (UInt8.toNat_inj.1 (by simpa using e))
/-- the length of a slice value -/
def slen : Value → Nat
  | .slice _ n _ => n
  | _ => 0
theorem nat_ne0 {n : Nat} (h : 0 < n) : ((n : Int) == 0) = false := by rw [beq_eq_false_iff_ne]; omega

/-- what a call leaves that hands back a slice of its own -/
def Fresh (e : TypeId) (w : World) (n : Nat) (xs : List Value) (en : Ending) (w' : World) : Prop := ∃ A c, en = .returned (.slice A n c) ∧ w'.ownsRow w.heap.size e 1 (.slice A n c) n xs ∧ Below w.heap.size w w'
theorem ret_fresh {e : TypeId} {w w' : World} {n m : Nat} {xs : List Value} {A : Option Addr} {c : Nat} (h : w'.ownsRow w.heap.size e 1 (.slice A m c) m xs) (hb : Below w.heap.size w w') (hm : m = n) : Fresh e w n xs (.returned (.slice A m c)) w' := by
  subst hm
  exact ⟨A, c, rfl, h, hb⟩
/-- an empty slice literal -/
theorem own_empty (w : World) (e : TypeId) : (w.alloc (.cells #[] e)).ownsRow w.heap.size e 1 (.slice (some ⟨w.heap.size, 0, none⟩) 0 0) 0 [] :=
  World.ownsRow_made w #[] 0 (Nat.le_refl _) (Nat.zero_le _) (by simp)
theorem below_only {w w' : World} {g : Nat} {B : Nat} (h : w.grownBy w' (some g)) (hB : B ≤ w.heap.size) (hg : B ≤ g) : Below B w w' := (Below.refl B w).grown h hB (fun k e => by cases e; exact hg)
theorem grown_trans {a b c : World} {row : Option Nat} (h : a.grownBy b row) (k : b.grownBy c row) : a.grownBy c row :=
  ⟨k.os.trans h.os, k.tape.trans h.tape, k.output.trans h.output, Nat.le_trans h.size k.size, fun i hi hn => (k.block i (Nat.lt_of_lt_of_le hi h.size) hn).trans (h.block i hi hn)⟩
theorem grown_drewN {a b : World} {row : Option Nat} (h : a.grownBy b row) (n : Nat) : a.grownBy (b.drewN n) row := ⟨h.os, h.tape, h.output, h.size, h.block⟩
theorem grown_drew {a b : World} {row : Option Nat} (h : a.grownBy b row) : a.grownBy b.drew row := ⟨h.os, h.tape, h.output, h.size, h.block⟩
theorem grown_far {a b c : World} {g : Option Nat} {row : Option Nat} (h : a.grownBy b g) (k : b.grownBy c row) (hr : ∀ x, row = some x → a.heap.size ≤ x) : a.grownBy c g :=
  ⟨k.os.trans h.os, k.tape.trans h.tape, k.output.trans h.output, Nat.le_trans h.size k.size, fun i hi hn => (k.block i (Nat.lt_of_lt_of_le hi h.size) (fun e => by have := hr i e.symm; omega)).trans (h.block i hi hn)⟩
theorem grown_alloc {a b : World} {g : Option Nat} (h : a.grownBy b g) (o : Obj) : a.grownBy (b.alloc o) g := grown_far h (World.grownBy_alloc b o none) (fun x e => by cases e)
theorem own_alloc {w : World} {base n c : Nat} {e : TypeId} {A : Option Addr} {xs : List Value} (h : w.ownsRow base e 1 (.slice A n c) n xs) (o : Obj) : (w.alloc o).ownsRow base e 1 (.slice A n c) n xs := h.alloc o
theorem own_grown {w w' : World} {base n c g : Nat} {e : TypeId} {A : Option Addr} {xs : List Value} (h : w.ownsRow base e 1 (.slice A n c) n xs) (hg : w.grownBy w' (some g)) (hb : g < base) : w'.ownsRow base e 1 (.slice A n c) n xs :=
  own_keep h hg (.inr (fun e => by have := own_block h _ e; omega))
theorem sl_new1 (w : World) (e : TypeId) (u : Value) : Sl (w.alloc (.cells #[u] e)) (w.heap.size + 1) (some ⟨w.heap.size, 0, none⟩) [u] := fun _ =>
  ⟨_, rfl, Nat.lt_succ_self _, cell_one_new _ _ _⟩
theorem below_of_grown {w w' : World} (h : w.grownBy w' none) : Below w.heap.size w w' := ⟨h.os, h.tape, h.output, h.size, fun k hk => h.block k hk (by simp)⟩
theorem bys_take (l : List UInt8) (k : Nat) : (bys l).take k = bys (l.take k) := by simp [bys, List.map_take]
theorem bys_snoc (l : List UInt8) (b : UInt8) : bys l ++ [.int .u8 (b.toNat : Int)] = bys (l ++ [b]) := by simp [bys, encB]
/-- 'make' of one-cell elements, for every world: an equation for a region that draws -/
theorem run_make_one {P : Program} (t e : TypeId) (i : TypeInfo) (z : Value) (ht : P.underlying t = some (.slice e)) (hi : P.info? e = some i) (hz : i.zero = some z) (hsz : i.size = 1)
    (kl kc : IntKind) (L C : Int) (n c : Nat) (hL : L = (n : Int)) (hC : C = (c : Int)) (hnc : n ≤ c) (hbytes : i.bytes * c ≤ 281474976710656) (h63 : c ≤ 9223372036854775807) (w : World) :
    (Instr.makeSlice t (.int kl L) (.int kc C)).run P w = .ok (.slice (some ⟨w.heap.size, 0, none⟩) n c) (w.alloc (.cells (madeCells z.cells c) e)) := by
  subst hL hC
  have hb : (i.bytes : Int) * (c : Int) ≤ 281474976710656 := by
    have h : ((i.bytes * c : Nat) : Int) ≤ 281474976710656 := by omega
    rwa [Int.natCast_mul] at h
  have hr := run_make (P := P) w t e i z ht hi hz kl kc n c (by omega) (by omega) hb (by omega)
  simp only [Int.toNat_natCast, hsz, Nat.mul_one] at hr
  exact hr
theorem own_made (w : World) (e : TypeId) (z : Value) (n c : Nat) (hz : z.cells = #[z]) (hnc : n ≤ c) (hc : c ≤ maxLen) :
    (w.alloc (.cells (madeCells z.cells c) e)).ownsRow w.heap.size e 1 (.slice (some ⟨w.heap.size, 0, none⟩) n c) n (List.replicate n z) := by
  have h := World.ownsRow_lit (base := w.heap.size) (e := e) (size := 1) w (madeCells z.cells c) c (Nat.le_refl _) hc (by rw [size_madeCells, Nat.mul_one])
  have h2 := own_take h hnc
  rw [hz, toList_madeCells_one, List.take_replicate, Nat.min_eq_left hnc] at h2
  rw [hz]
  exact h2
end Go.Proofs.YtnplaejlmbncfaaGreatDoor

namespace Go.Proofs.YtnplaejlmbncfaaGreatDoor
open Go.RowKit
set_option linter.unusedVariables false
set_option maxRecDepth 100000
theorem ret_int {k : IntKind} {a b : Int} (h : a = b) : Ending.returned (.int k a) = .returned (.int k b) := by rw [h]

theorem mod_num (n m : Int) (h : 1 ≤ m) (h' : n.tmod m < 0) : n.tmod m + m = n % m := by
  have h1 := Int.tmod_eq_emod (a := n) (b := m)
  have h2 := Int.emod_nonneg n (show m ≠ 0 by omega)
  have h3 := Int.emod_lt_of_pos n (show 0 < m by omega)
  split at h1 <;> omega
theorem mod_num' (n m : Int) (h : 1 ≤ m) (h' : 0 ≤ n.tmod m) : n.tmod m = n % m := by
  have h1 := Int.tmod_eq_emod (a := n) (b := m)
  have h2 := Int.emod_nonneg n (show m ≠ 0 by omega)
  have h3 := Int.emod_lt_of_pos n (show 0 < m by omega)
  split at h1
  · omega
  · rename_i h4
    have : (m.natAbs : Int) = m := by omega
    omega
theorem tmod_lt (n m : Int) (h : 1 ≤ m) : - m < n.tmod m ∧ n.tmod m < m := by
  have h1 := Int.tmod_eq_emod (a := n) (b := m)
  have h2 := Int.emod_nonneg n (show m ≠ 0 by omega)
  have h3 := Int.emod_lt_of_pos n (show 0 < m by omega)
  have h5 : (m.natAbs : Int) = m := by omega
  split at h1
  · omega
  · rename_i h4
    rw [Int.dvd_iff_emod_eq_zero] at h4
    omega
/-- 'Mod(n, m)' for an m from 1 on. -/
theorem mod_any (n m : Int) (w : World) (h1 : 1 ≤ m) (h2 : m ≤ 9223372036854775807) : Calls Tryz.prog 34 #[.int .i64 n, .int .i64 m] w fun e w' => e = .returned (.int .i64 (n % m)) ∧ w = w' := by
  obtain ⟨hb, hb'⟩ := tmod_lt n m h1
  rcases Int.lt_or_le (n.tmod m) 0 with hn | hn
  · have H := Lib.hid (mod_num n m h1 hn)
    go_enter Tryz.func34, Tryz.ntmps34
    go_wp2_with fail
    go_ret
    exact ⟨ret_int H.out, rfl⟩
  · have H := Lib.hid (mod_num' n m h1 hn)
    go_enter Tryz.func34, Tryz.ntmps34
    go_wp2_with fail
    go_ret
    exact ⟨ret_int H.out, rfl⟩

theorem u8_ne' {a c : UInt8} (h : a ≠ c) : ((a.toNat : Int) != (c.toNat : Int)) = true := by
  rw [bne_iff_ne]
  intro e
  exact h (UInt8.toNat_inj.1 (by omega))
end Go.Proofs.YtnplaejlmbncfaaGreatDoor

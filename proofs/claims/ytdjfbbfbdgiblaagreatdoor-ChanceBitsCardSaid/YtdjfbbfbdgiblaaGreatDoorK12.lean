/- PolyQ Sb Sc Sd Se Sf Sg FieldC Sh Si So Sq Dy Dg Ca Cb Cc Cd Ce -/
import Derived.Test.YtdjfbbfbdgiblaaGreatDoorK01
import Derived.Test.YtdjfbbfbdgiblaaGreatDoorK02
import Derived.Test.YtdjfbbfbdgiblaaGreatDoorK03
import Derived.Test.YtdjfbbfbdgiblaaGreatDoorK04
import Derived.Test.YtdjfbbfbdgiblaaGreatDoorK10
import Derived.Test.YtdjfbbfbdgiblaaGreatDoorK11
import Derived.Lib.AppendZeros
import Derived.BigQuiet
import Derived.RegionTactic
import Derived.ChangeAlike
import Derived.Deep.RegionWith
import Derived.BigRegion
namespace Go.Proofs.YtdjfbbfbdgiblaaGreatDoor
namespace Po
open Gf
theorem cv_delta (f : UInt8) (a : Nat) (g : Nat → UInt8) (n : Nat) : cv (fun i => if i = a then f else 0) g n = if a ≤ n then gmul f (g (n - a)) else 0 := by
  unfold cv
  by_cases h : a ≤ n
  · rw [if_pos h, sumX_single _ _ a (by omega) (fun i _ hi => by show gmul (if i = a then f else 0) _ = 0; rw [if_neg hi, zero_gmul])]
    show gmul (if a = a then f else 0) _ = _
    rw [if_pos rfl]
  · rw [if_neg h, sumX_congr (g := fun _ => 0) (fun i hi => by show gmul (if i = a then f else 0) _ = 0; rw [if_neg (by omega), zero_gmul]), sumX_zero]
section
variable (p q : List UInt8) (lead : UInt8) (hq : 0 < q.length) (hpq : q.length ≤ p.length)
/-- the quotient's places that are still to come are 0 -/
theorem dv_quot_zero : ∀ j, ∀ i, i + j ≤ p.length - q.length → co (dv p q lead j).2 i = 0 := by
  intro j
  induction j with
  | zero => intro i _; rw [dv]; exact co_replicate _ _
  | succ j ih =>
    intro i hi
    rw [dv]
    simp only
    rw [co_set _ _ _ _ (by rw [(dv_len p q lead j).2]; omega), if_neg (by omega)]
    exact ih i (by omega)
include hpq in
theorem dv_id : ∀ j, j ≤ p.length - q.length + 1 → ∀ i, co p i = co (dv p q lead j).1 i ^^^ cv (co (dv p q lead j).2) (co q) i := by
  intro j
  induction j with
  | zero =>
    intro _ i
    rw [dv]
    simp only
    rw [cv_congr (f' := co []) (g' := co q) (fun k => co_replicate _ k) (fun _ => rfl), cv_nil, UInt8.xor_zero]
  | succ j ih =>
    intro hj i
    obtain ⟨l1, l2⟩ := dv_len p q lead j
    have hz := dv_quot_zero p q lead j (p.length - q.length - j) (by omega)
    rw [dv]
    simp only
    generalize gmul ((dv p q lead j).1[p.length - q.length - j + q.length - 1]?.getD 0) lead = f
    rw [co_addAt _ _ _ _ (by rw [l1]; omega)]
    have e1 : cv (co ((dv p q lead j).2.set (p.length - q.length - j) f)) (co q) i = cv (co (dv p q lead j).2) (co q) i ^^^ (if p.length - q.length - j ≤ i then gmul f (co q (i - (p.length - q.length - j))) else 0) := by
      rw [← cv_delta, ← cv_add_left]
      refine cv_congr (fun k => ?_) (fun _ => rfl) i
      rw [co_set _ _ _ _ (by rw [l2]; omega)]
      by_cases hk : k = p.length - q.length - j
      · rw [if_pos hk, if_pos hk, hk, hz, UInt8.zero_xor]
      · rw [if_neg hk, if_neg hk, UInt8.xor_zero]
    rw [e1, ih (by omega) i]
    generalize (if p.length - q.length - j ≤ i then gmul f (co q (i - (p.length - q.length - j))) else 0) = z
    rw [UInt8.xor_assoc, UInt8.xor_comm z, UInt8.xor_assoc, UInt8.xor_self, UInt8.xor_zero]
include hq hpq in
theorem dv_rest_zero (hl : lead = ginv (co q (q.length - 1))) (hne : co q (q.length - 1) ≠ 0) : ∀ j, j ≤ p.length - q.length + 1 → ∀ i, p.length ≤ i + j → co (dv p q lead j).1 i = 0 := by
  intro j
  induction j with
  | zero => intro _ i hi; rw [dv]; exact co_big _ _ (by simpa using hi)
  | succ j ih =>
    intro hj i hi
    obtain ⟨l1, l2⟩ := dv_len p q lead j
    rw [dv]
    simp only
    rw [co_addAt _ _ _ _ (by rw [l1]; omega)]
    have hb : (dv p q lead j).1[p.length - q.length - j + q.length - 1]?.getD 0 = co (dv p q lead j).1 (p.length - j - 1) := by
      unfold co
      rw [show p.length - q.length - j + q.length - 1 = p.length - j - 1 by omega]
    rw [hb]
    by_cases h1 : i = p.length - j - 1
    · rw [if_pos (by omega), h1, show p.length - j - 1 - (p.length - q.length - j) = q.length - 1 by omega, hl, gmul_assoc, ginv_mul _ hne, gmul_one, UInt8.xor_self]
    · rw [ih (by omega) i (by omega)]
      rw [co_big q _ (by omega), gmul_zero]
      split <;> rfl
end
theorem div_co (p q : List UInt8) (hq : 0 < q.length) (hne : co q (q.length - 1) ≠ 0) (i : Nat) : co p i = co (rem p q) i ^^^ cv (co (quo p q)) (co q) i := by
  unfold rem quo
  by_cases h : p.length < q.length
  · rw [if_pos h, if_pos h, cv_nil, UInt8.xor_zero]
  · rw [if_neg h, if_neg h, co_trim, co_take]
    have h1 := dv_id p q (ginv (lastOf q)) (by omega) (p.length - q.length + 1) (Nat.le_refl _) i
    have h2 := dv_rest_zero p q (ginv (lastOf q)) hq (by omega) rfl hne (p.length - q.length + 1) (Nat.le_refl _) i
    unfold dvAll
    by_cases hi : i < q.length - 1
    · rw [if_pos hi]; exact h1
    · rw [if_neg hi, UInt8.zero_xor]
      rw [h2 (by omega), UInt8.zero_xor] at h1
      exact h1
theorem rem_vld (p q : List UInt8) (hp : vld p = true) (hq : q.length ≤ 255) : vld (rem p q) = true := by
  unfold rem
  split
  · exact hp
  · refine trim_vld _ ?_
    have : ((dvAll p q).1.take (q.length - 1)).length ≤ q.length - 1 := List.length_take_le _ _
    omega
/-- c divides x -/
def Dv (c x : List UInt8) : Prop := ∃ k : List UInt8, ∀ i, co x i = cv (co k) (co c) i
theorem dv_refl (c : List UInt8) : Dv c c := ⟨[1], fun i => by rw [cv_cons, one_gmul]; cases i with
  | zero => simp [shift]
  | succ i => simp [shift, cv_nil]⟩
theorem dv_nil (c : List UInt8) : Dv c [] := ⟨[], fun i => by rw [cv_nil]; rfl⟩
theorem dv_comb {a b r k : List UInt8} {c : List UInt8} (h : ∀ i, co a i = co r i ^^^ cv (co k) (co b) i) (hb : Dv c b) (hr : Dv c r) : Dv c a := by
  obtain ⟨k2, h2⟩ := hb
  obtain ⟨k1, h1⟩ := hr
  refine ⟨addV k1 (mulV k k2), fun i => ?_⟩
  rw [h, h1, cv_congr (fun _ => rfl) h2, cv_assoc, cv_congr (co_addV k1 (mulV k k2)) (fun _ => rfl), cv_add_left, cv_congr (co_mulV k k2) (fun _ => rfl)]
theorem gcd_div : ∀ (f : Nat) (a b : List UInt8), b.length ≤ f → vld a = true → vld b = true → Dv (gcdF b.length a b) a ∧ Dv (gcdF b.length a b) b := by
  intro f
  induction f with
  | zero =>
    intro a b hf _ _
    have h0 : b.length = 0 := Nat.le_zero.1 hf
    rw [gcd_end a b h0, List.eq_nil_of_length_eq_zero h0]
    exact ⟨dv_refl a, dv_nil a⟩
  | succ f ih =>
    intro a b hf ha hb
    rcases Nat.eq_zero_or_pos b.length with h0 | h0
    · rw [gcd_end a b h0, List.eq_nil_of_length_eq_zero h0]
      exact ⟨dv_refl a, dv_nil a⟩
    · have hlt := rem_lt a b h0
      rw [gcd_step a b h0]
      obtain ⟨d1, d2⟩ := ih b (rem a b) (by omega) hb (rem_vld a b ha (vld_len hb))
      exact ⟨dv_comb (div_co a b h0 (vld_top b hb h0)) d1 d2, d1⟩
end Po
end Go.Proofs.YtdjfbbfbdgiblaaGreatDoor

namespace Go.Proofs.YtdjfbbfbdgiblaaGreatDoor
namespace Sy
open Gf
set_option linter.unusedVariables false
/-- the product of x - 2^k -/
def gen : Nat → List UInt8
  | 0 => [1]
  | k + 1 => Po.mulV (gen k) [gpow 2 k, 1]
/-- the dividend: the data at the high powers -/
def high (m : Nat) (data : List UInt8) : List UInt8 := (data ++ List.replicate m 0).reverse
def rest (m : Nat) (data : List UInt8) : List UInt8 := Po.rem (Po.trim (high m data)) (gen m)
/-- the code word -/
def enc (m : Nat) (data : List UInt8) : List UInt8 := data ++ (List.range m).map fun i => Po.co (rest m data) (m - 1 - i)
end Sy
end Go.Proofs.YtdjfbbfbdgiblaaGreatDoor

namespace Go.Proofs.YtdjfbbfbdgiblaaGreatDoor
namespace Sy
open Gf
set_option linter.unusedVariables false
/-- a row, none behind the last one -/
def rw_ (rows : List (List UInt8)) (k : Nat) : List UInt8 := rows[k]?.getD []
theorem rw_lt {rows : List (List UInt8)} {k : Nat} (h : k < rows.length) : rows[k]? = some (rw_ rows k) := by unfold rw_; rw [List.getElem?_eq_getElem h]; rfl
/-- the row times t -/
def scl (t : UInt8) (r : List UInt8) : List UInt8 := r.map fun a => gmul a t
/-- the row and t times another -/
def addRow (t : UInt8) (p r : List UInt8) : List UInt8 := (List.range r.length).map fun q => wd r q ^^^ gmul t (wd p q)
/-- the first row from c on with something in column c -/
def piv (c : Nat) (rows : List (List UInt8)) : Option Nat := ((rows.drop c).findIdx? fun r => wd r c != 0).map (c + ·)
def swapR (rows : List (List UInt8)) (c p : Nat) : List (List UInt8) := (rows.set c (rw_ rows p)).set p (rw_ rows c)
def leadOf (rows : List (List UInt8)) (c : Nat) : UInt8 := ginv (wd (rw_ rows c) c)
def clearC (rows : List (List UInt8)) (c : Nat) (p : List UInt8) : List (List UInt8) := rows.mapIdx fun k r => if k = c then r else addRow (wd r c) p r
def stepC (rows : List (List UInt8)) (c p : Nat) : List (List UInt8) :=
  let R := swapR rows c p
  let S := R.set c (scl (leadOf R c) (rw_ R c))
  clearC S c (rw_ S c)
def elim (rows : List (List UInt8)) : Nat → Option (List (List UInt8))
  | 0 => some rows
  | c + 1 => match elim rows c with
    | none => none
    | some R => match piv c R with
      | none => none
      | some p => some (stepC R c p)
def outR (rows : List (List UInt8)) (w : Nat) : List UInt8 := (rows.take w).map fun r => wd r w
theorem swap_length (rows : List (List UInt8)) (c p : Nat) : (swapR rows c p).length = rows.length := by unfold swapR; simp
end Sy
end Go.Proofs.YtdjfbbfbdgiblaaGreatDoor

namespace Go.Proofs.YtdjfbbfbdgiblaaGreatDoor
namespace Sy
open Gf Po
set_option linter.unusedVariables false
structure Bm where
  now : List UInt8
  old : List UInt8
  len : Nat
  gap : Nat
  last : UInt8
/-- the next value and what the recursion says of it: so many elements -/
def discTo (now s : List UInt8) (k : Nat) : Nat → UInt8
  | 0 => 0
  | j + 1 => if j ≤ k then discTo now s k j ^^^ gmul (wd now j) (wd s (k - j)) else discTo now s k j
def disc (now s : List UInt8) (k : Nat) : UInt8 := discTo now s k now.length
def nextR (now old : List UInt8) (gap : Nat) (t : UInt8) : List UInt8 := addAt (now ++ List.replicate (gap + old.length - now.length) 0) old t gap
def bmStep (s : List UInt8) (k : Nat) (b : Bm) : Bm :=
  if disc b.now s k = 0 then { b with gap := b.gap + 1 }
  else if k < 2 * b.len then { b with now := nextR b.now b.old b.gap (gmul (disc b.now s k) (ginv b.last)), gap := b.gap + 1 }
  else ⟨nextR b.now b.old b.gap (gmul (disc b.now s k) (ginv b.last)), b.now, k + 1 - b.len, 1, disc b.now s k⟩
def bm (s : List UInt8) : Nat → Bm
  | 0 => ⟨[1], [1], 0, 1, 1⟩
  | k + 1 => bmStep s k (bm s k)
/-- what holds behind k rounds -/
structure Bi (s : List UInt8) (k : Nat) (b : Bm) : Prop where
  le : b.len ≤ k
  one : co b.now 0 = 1
  deg : ∀ i, b.len < i → co b.now i = 0
  gen : ∀ j, b.len ≤ j → j < k → cv (co b.now) (co s) j = 0
  ne : b.last ≠ 0
  gp : 1 ≤ b.gap
  was : (b.len = 0 ∧ b.old = [1] ∧ b.gap = k + 1 ∧ b.last = 1) ∨ (b.gap ≤ k ∧ b.len ≤ k - b.gap + 1 ∧ (∀ i, k - b.gap + 1 - b.len < i → co b.old i = 0) ∧ (∀ j, k - b.gap + 1 - b.len ≤ j → j < k - b.gap → cv (co b.old) (co s) j = 0) ∧ cv (co b.old) (co s) (k - b.gap) = b.last)
  long : b.now.length ≤ k + 1 ∧ b.old.length + b.gap ≤ k + 2 ∧ 1 ≤ b.now.length ∧ 1 ≤ b.old.length
theorem bi_zero (s : List UInt8) : Bi s 0 (bm s 0) :=
  ⟨Nat.le_refl _, rfl, fun i hi => co_big [1] i (by have hi : 0 < i := hi; show 1 ≤ i; omega), fun j _ h => by omega, one_ne, Nat.le_refl _, .inl ⟨rfl, rfl, rfl, rfl⟩, by simp [bm]⟩
end Sy
end Go.Proofs.YtdjfbbfbdgiblaaGreatDoor

namespace Go.Proofs.YtdjfbbfbdgiblaaGreatDoor
namespace Sy
open Gf Po
set_option linter.unusedVariables false
/-- the value at 1 / x, times x^L -/
def rv (C : List UInt8) (L : Nat) (x : UInt8) : UInt8 := sumX (fun i => gmul (co C i) (gpow x (L - i))) (L + 1)
end Sy
end Go.Proofs.YtdjfbbfbdgiblaaGreatDoor

namespace Go.Proofs.YtdjfbbfbdgiblaaGreatDoor
namespace Sy
open Gf
set_option linter.unusedVariables false
/-- an element, 0 behind the last one -/
def pl (P : List Nat) (j : Nat) : Nat := P[j]?.getD 0
def strip (x : UInt8) (u : List UInt8) : List UInt8 := (List.range (u.length - 1)).map fun k => wd u (k + 1) ^^^ gmul x (wd u k)
end Sy
end Go.Proofs.YtdjfbbfbdgiblaaGreatDoor

namespace Go.Proofs.YtdjfbbfbdgiblaaGreatDoor
open Go.RowKit
set_option linter.unusedVariables false
set_option maxRecDepth 100000
section
variable {P : Program} {w w' : World}
end
section
variable {P : Program} {w0 w : World} {g : Option Nat} {M : List (Nat × Value)} {L : List Ob} {O : List Rw} {t tn e : TypeId} {z : Value} {bytes : Nat}
end
theorem elemB : Elem Tryz.prog 46 5 (.int .u8 0) 1 := by
  obtain ⟨i0, hi, hz0, hz1, hz2⟩ := info_parts infoB
  exact ⟨Tryz.underlying46, rfl, i0, hi, hz0, hz1, hz2⟩
end Go.Proofs.YtdjfbbfbdgiblaaGreatDoor

namespace Go.Proofs.YtdjfbbfbdgiblaaGreatDoor
open Go.RowKit
set_option linter.unusedVariables false
set_option maxRecDepth 100000

namespace Gf
/-- a power as the packages give it -/
def pw (a : UInt8) (n : Int) : UInt8 := if a = 0 then (if n = 0 then 1 else 0) else zpow a n
def lg (a : UInt8) : Int := if a = 0 then 0 else (glog a : Int)
end Gf

theorem zero_or (a : UInt8) : a = 0 ∨ (a ≠ 0 ∧ ((a.toNat : Int) == 0) = false) := by
  by_cases h : a = 0
  · exact .inl h
  · exact .inr ⟨h, by have := u8_pos h; rw [beq_eq_false_iff_ne]; omega⟩

end Go.Proofs.YtdjfbbfbdgiblaaGreatDoor

namespace Go.Proofs.YtdjfbbfbdgiblaaGreatDoor
open Go.RowKit
set_option linter.unusedVariables false
set_option maxRecDepth 100000
section
variable {w0 w w' : World} {g : Option Nat} {M : List (Nat × Value)} {L : List Ob} {O : List Rw} {A : Option Addr} {n c gb k : Nat} {e : TypeId} {l : List UInt8} {b : UInt8}
theorem Ow.frzO (h : Ow w0 w g M L O) (i : Nat) {vs : List Value} (hi : O[i]? = some ⟨some ⟨gb, 0, none⟩, n, c, e, vs⟩) (k : Nat) : w.frozen? ⟨gb, k, none⟩ = false := (h.row i hi).frozenAt k
end
namespace Sy
end Sy
end Go.Proofs.YtdjfbbfbdgiblaaGreatDoor

namespace Go.Proofs.YtdjfbbfbdgiblaaGreatDoor
open Go.RowKit
set_option linter.unusedVariables false
set_option maxRecDepth 100000
/-- the cells of a code in a variable -/
structure Cd (d m f : Nat) : Prop where
  d1 : 1 ≤ d
  d2 : d ≤ 32
  m1 : 1 ≤ m
  m2 : m ≤ 8
  f2 : f ≤ 100
def cdv (d m f : Nat) : Array Value := #[.int .i64 2, .int .i64 (d : Int), .int .i64 (m : Int), .int .i64 (f : Int)]
set_option maxHeartbeats 2000000 in
theorem validcode_any {d m f : Nat} (h : Cd d m f) (w : World) : Calls Tryz.prog 83 #[.agg #[.int .i64 2, .int .i64 (d : Int), .int .i64 (m : Int), .int .i64 (f : Int)]] w fun e w' => e = .returned (.bool (decide (f ≤ m / 2))) ∧ Below w.heap.size w w' := by
  obtain ⟨h1, h2, h3, h4, h5⟩ := h
  have H1 := (Ow.of (St.refl w)).arr (cdv d m f) 4 rfl (by omega) 26
  have hc0 : (w.alloc (.cells #[.int .i64 2, .int .i64 (d : Int), .int .i64 (m : Int), .int .i64 (f : Int)] 26)).cell? ⟨w.heap.size, 0, none⟩ = some (.int .i64 2) := (H1.row 0 rfl).cellAt 0 (by decide)
  have hc1 : (w.alloc (.cells #[.int .i64 2, .int .i64 (d : Int), .int .i64 (m : Int), .int .i64 (f : Int)] 26)).cell? ⟨w.heap.size, 1, none⟩ = some (.int .i64 (d : Int)) := (H1.row 0 rfl).cellAt 1 (by decide)
  have hc2 : (w.alloc (.cells #[.int .i64 2, .int .i64 (d : Int), .int .i64 (m : Int), .int .i64 (f : Int)] 26)).cell? ⟨w.heap.size, 2, none⟩ = some (.int .i64 (m : Int)) := (H1.row 0 rfl).cellAt 2 (by decide)
  have hc3 : (w.alloc (.cells #[.int .i64 2, .int .i64 (d : Int), .int .i64 (m : Int), .int .i64 (f : Int)] 26)).cell? ⟨w.heap.size, 3, none⟩ = some (.int .i64 (f : Int)) := (H1.row 0 rfl).cellAt 3 (by decide)
  have HB : Hid (Below w.heap.size w (w.alloc (.cells #[.int .i64 2, .int .i64 (d : Int), .int .i64 (m : Int), .int .i64 (f : Int)] 26))) := H1.below
  have t1 : decide ((1 : Int) ≤ (d : Int)) = true := decide_eq_true (by omega)
  have t2 : decide ((d : Int) ≤ 32) = true := decide_eq_true (by omega)
  have t3 : decide ((1 : Int) ≤ (m : Int)) = true := decide_eq_true (by omega)
  have t4 : decide ((m : Int) ≤ 8) = true := decide_eq_true (by omega)
  have t5 : decide ((0 : Int) ≤ (f : Int)) = true := decide_eq_true (by omega)
  have HD : Hid (decide ((f : Int) ≤ (m : Int) / 2) = decide (f ≤ m / 2)) := by
    unfold Hid
    rw [decide_eq_decide]
    omega
  clear H1
  go_enter Tryz.func83, Tryz.ntmps83
  go_wp2_with fail
  go_ret
  exact ⟨ret_bool HD.out, HB.out⟩
section
variable {w0 w w' : World} {g : Option Nat} {M : List (Nat × Value)} {L : List Ob} {O : List Rw}
theorem Ow.code (h : Ow w0 w g M L O) (d m f : Nat) : Ow w0 (w.alloc (.cells #[.int .i64 2, .int .i64 (d : Int), .int .i64 (m : Int), .int .i64 (f : Int)] 26)) g M L (O ++ [⟨some ⟨w.heap.size, 0, none⟩, 4, 4, 26, (cdv d m f).toList⟩]) := h.arr (cdv d m f) 4 rfl (by omega) _
theorem Ow.cdc (h : Ow w0 w g M L O) (i : Nat) {b d m f : Nat} (hi : O[i]? = some ⟨some ⟨b, 0, none⟩, 4, 4, 26, (cdv d m f).toList⟩) : w.cell? ⟨b, 0, none⟩ = some (.int .i64 2) ∧ w.cell? ⟨b, 1, none⟩ = some (.int .i64 (d : Int)) ∧ w.cell? ⟨b, 2, none⟩ = some (.int .i64 (m : Int)) ∧ w.cell? ⟨b, 3, none⟩ = some (.int .i64 (f : Int)) :=
  ⟨(h.row i hi).cellAt 0 (by decide), (h.row i hi).cellAt 1 (by decide), (h.row i hi).cellAt 2 (by decide), (h.row i hi).cellAt 3 (by decide)⟩
end
end Go.Proofs.YtdjfbbfbdgiblaaGreatDoor

namespace Go.Proofs.YtdjfbbfbdgiblaaGreatDoor
open Go.RowKit
set_option linter.unusedVariables false
set_option maxRecDepth 100000
theorem zip_set {α β γ : Type} {f : α → β → γ} : ∀ (a : List α) (b : List β) (k : Nat) (x : α) (y : β), List.zipWith f (a.set k x) (b.set k y) = (List.zipWith f a b).set k (f x y)
  | [], b, k, x, y => by simp
  | a :: l1, [], k, x, y => by cases k <;> simp
  | a :: l1, b :: l2, 0, x, y => rfl
  | a :: l1, b :: l2, k + 1, x, y => by simp [zip_set l1 l2 k x y]
def mkR (h : Option Addr × Nat) (r : List UInt8) : Rw := ⟨h.1, r.length, h.2, 5, bys r⟩
def mkRs (H : List (Option Addr × Nat)) (R : List (List UInt8)) : List Rw := List.zipWith mkR H R
def hdr (h : Option Addr × Nat) (r : List UInt8) : Value := .slice h.1 r.length h.2
def hdrs (H : List (Option Addr × Nat)) (R : List (List UInt8)) : List Value := List.zipWith hdr H R
def hAt (H : List (Option Addr × Nat)) (k : Nat) : Option Addr × Nat := H[k]?.getD (none, 0)
theorem hAt_lt {H : List (Option Addr × Nat)} {k : Nat} (h : k < H.length) : H[k]? = some (hAt H k) := by unfold hAt; rw [List.getElem?_eq_getElem h]; rfl
abbrev outR (g m : Nat) (H : List (Option Addr × Nat)) (R : List (List UInt8)) : Rw := ⟨some ⟨g, 0, none⟩, m, m, 46, hdrs H R⟩
structure Mx (w0 w : World) (M : List (Nat × Value)) (L : List Ob) (g m : Nat) (H : List (Option Addr × Nat)) (R : List (List UInt8)) (X : List Rw) : Prop where
  ow : Ow w0 w none M L (outR g m H R :: (mkRs H R ++ X))
  hl : H.length = m
  rl : R.length = m
section
variable {w0 w w' : World} {M : List (Nat × Value)} {L : List Ob} {g m : Nat} {H : List (Option Addr × Nat)} {R : List (List UInt8)} {X : List Rw}
theorem Mx.get (h : Mx w0 w M L g m H R X) {k : Nat} (hk : k < m) : (mkRs H R)[k]? = some (mkR (hAt H k) (Sy.rw_ R k)) ∧ (hdrs H R)[k]? = some (hdr (hAt H k) (Sy.rw_ R k)) := by
  have e1 := hAt_lt (H := H) (k := k) (by rw [h.hl]; exact hk)
  have e2 := Sy.rw_lt (rows := R) (k := k) (by rw [h.rl]; exact hk)
  unfold mkRs hdrs
  rw [List.getElem?_zipWith, List.getElem?_zipWith, e1, e2]
  exact ⟨rfl, rfl⟩
theorem Mx.len (h : Mx w0 w M L g m H R X) : (mkRs H R).length = m := by unfold mkRs; rw [List.length_zipWith, h.hl, h.rl]; omega
theorem Mx.at_ (h : Mx w0 w M L g m H R X) {k : Nat} (hk : k < m) : (outR g m H R :: (mkRs H R ++ X))[k + 1]? = some (mkR (hAt H k) (Sy.rw_ R k)) := by
  rw [List.getElem?_cons_succ, List.getElem?_append_left (by rw [h.len]; exact hk)]
  exact (h.get hk).1
theorem Mx.go (h : Mx w0 w M L g m H R X) (hb : Below w.heap.size w w') : Mx w0 w' M L g m H R X := ⟨h.ow.go hb, h.hl, h.rl⟩
theorem Mx.hd (h : Mx w0 w M L g m H R X) {k : Nat} (hk : k < m) : w.cell? ⟨g, k, none⟩ = some (.slice (hAt H k).1 (Sy.rw_ R k).length (hAt H k).2) := by
  have ho := h.ow.row 0 rfl
  rw [ho.cellAt k (by omega)]
  exact (h.get hk).2
theorem Mx.hf (h : Mx w0 w M L g m H R X) (k : Nat) : w.frozen? ⟨g, k, none⟩ = false := (h.ow.row 0 rfl).frozenAt k
theorem Mx.row (h : Mx w0 w M L g m H R X) {k : Nat} (hk : k < m) : w.ownsRow w0.heap.size 5 1 (.slice (hAt H k).1 (Sy.rw_ R k).length (hAt H k).2) (Sy.rw_ R k).length (bys (Sy.rw_ R k)) := h.ow.own (k + 1) _ (h.at_ hk)
theorem Mx.form (h : Mx w0 w M L g m H R X) {k : Nat} (hk : k < m) (h0 : 0 < (Sy.rw_ R k).length) : ∃ gk ck, hAt H k = (some ⟨gk, 0, none⟩, ck) := by
  obtain ⟨gk, e, _, _⟩ := own_form (h.row hk) h0
  exact ⟨gk, (hAt H k).2, by rw [← e]⟩
theorem Mx.byte (h : Mx w0 w M L g m H R X) {k : Nat} (hk : k < m) {gk ck : Nat} (hg : hAt H k = (some ⟨gk, 0, none⟩, ck)) {q : Nat} {b : UInt8} (hq : (Sy.rw_ R k)[q]? = some b) : w.cell? ⟨gk, q, none⟩ = some (.int .u8 (b.toNat : Int)) := by
  have ho := h.row hk
  rw [hg] at ho
  exact own_byte ho hq
theorem Mx.frz (h : Mx w0 w M L g m H R X) {k : Nat} (hk : k < m) {gk ck : Nat} (hg : hAt H k = (some ⟨gk, 0, none⟩, ck)) (q : Nat) : w.frozen? ⟨gk, q, none⟩ = false := by
  have ho := h.row hk
  rw [hg] at ho
  exact ho.frozenAt q
theorem hdrs_same {k : Nat} {r : List UInt8} (hk : k < R.length) (hr : r.length = (Sy.rw_ R k).length) : hdrs H (R.set k r) = hdrs H R := by
  unfold hdrs
  refine List.ext_getElem? fun i => ?_
  rw [List.getElem?_zipWith, List.getElem?_zipWith, List.getElem?_set]
  by_cases e : k = i
  · subst e
    rw [if_pos rfl, if_pos hk, Sy.rw_lt hk]
    cases H[k]? with
    | none => rfl
    | some h =>
      show some (Value.slice h.1 r.length h.2) = some (Value.slice h.1 (Sy.rw_ R k).length h.2)
      rw [hr]
  · rw [if_neg e]
theorem mkRs_set1 {k : Nat} {r : List UInt8} (hk : k < H.length) : (mkRs H R).set k (mkR (hAt H k) r) = mkRs H (R.set k r) := by
  unfold mkRs
  rw [← zip_set]
  congr 1
  have e := hAt_lt hk
  obtain ⟨h1, h2⟩ := List.getElem?_eq_some_iff.1 e
  rw [← h2]
  exact List.set_getElem_self h1
theorem Mx.turn (h : Mx w0 w M L g m H R X) {k : Nat} (hk : k < m) {r : List UInt8} (hr : r.length = (Sy.rw_ R k).length) (ho : Ow w0 w' none M L ((outR g m H R :: (mkRs H R ++ X)).set (k + 1) (mkR (hAt H k) r))) : Mx w0 w' M L g m H (R.set k r) X := by
  refine ⟨?_, h.hl, by rw [List.length_set]; exact h.rl⟩
  have e : (outR g m H R :: (mkRs H R ++ X)).set (k + 1) (mkR (hAt H k) r) = outR g m H (R.set k r) :: (mkRs H (R.set k r) ++ X) := by
    rw [List.set_cons_succ, List.set_append_left _ _ (by rw [h.len]; exact hk), mkRs_set1 (by rw [h.hl]; exact hk)]
    show (outR g m H R :: _) = _
    unfold outR
    rw [hdrs_same (by rw [h.rl]; exact hk) hr]
  rw [e] at ho
  exact ho
/-- a row is made longer, and its head is stored -/
theorem Mx.grow (h : Mx w0 w M L g m H R X) {k : Nat} (hk : k < m) {A' : Option Addr} {n' c' : Nat} {r : List UInt8} (hr : r.length = n') (ho : Ow w0 w' none M L ((outR g m H R :: (mkRs H R ++ X)).set (k + 1) ⟨A', n', c', 5, bys r⟩)) : Mx w0 (w'.setCell ⟨g, k, none⟩ (.slice A' n' c')) M L g m (H.set k (A', c')) (R.set k r) X := by
  subst hr
  refine ⟨?_, by rw [List.length_set]; exact h.hl, by rw [List.length_set]; exact h.rl⟩
  have e : (outR g m H R :: (mkRs H R ++ X)).set (k + 1) ⟨A', r.length, c', 5, bys r⟩ = outR g m H R :: (mkRs (H.set k (A', c')) (R.set k r) ++ X) := by
    rw [List.set_cons_succ, List.set_append_left _ _ (by rw [h.len]; exact hk)]
    unfold mkRs
    rw [zip_set]
    rfl
  rw [e] at ho
  have h5 := ho.put 0 rfl k (.slice A' r.length c')
  have e2 : (hdrs H R).set k (.slice A' r.length c') = hdrs (H.set k (A', c')) (R.set k r) := by
    unfold hdrs
    rw [zip_set]
    rfl
  rw [e2] at h5
  exact h5
def swpA {α : Type} (l : List α) (d : α) (c p : Nat) : List α := (l.set c (l[p]?.getD d)).set p (l[c]?.getD d)
theorem swpA_at {α : Type} {l : List α} {d : α} {c p : Nat} (hc : c < l.length) (hp : p < l.length) (k : Nat) : (swpA l d c p)[k]? = if k = p then l[c]? else if k = c then l[p]? else l[k]? := by
  unfold swpA
  rw [List.getElem?_set, List.getElem?_set, List.length_set]
  by_cases h1 : p = k
  · subst h1
    rw [if_pos rfl, if_pos hp, if_pos rfl, List.getElem?_eq_getElem hc]; rfl
  · rw [if_neg h1, if_neg (show ¬ k = p from fun e => h1 e.symm)]
    by_cases h2 : c = k
    · subst h2
      rw [if_pos rfl, if_pos hc, if_pos rfl, List.getElem?_eq_getElem hp]; rfl
    · rw [if_neg h2, if_neg (show ¬ k = c from fun e => h2 e.symm)]
theorem zip_swp {α β γ : Type} {f : α → β → γ} {a : List α} {b : List β} {d : α} {d' : β} {c p : Nat} (hl : a.length = b.length) (hc : c < a.length) (hp : p < a.length) (k : Nat) : (List.zipWith f (swpA a d c p) (swpA b d' c p))[k]? = if k = p then (List.zipWith f a b)[c]? else if k = c then (List.zipWith f a b)[p]? else (List.zipWith f a b)[k]? := by
  rw [List.getElem?_zipWith, swpA_at hc hp, swpA_at (by omega) (by omega)]
  by_cases h1 : k = p
  · rw [if_pos h1, if_pos h1, if_pos h1, List.getElem?_zipWith]
  · rw [if_neg h1, if_neg h1, if_neg h1]
    by_cases h2 : k = c
    · rw [if_pos h2, if_pos h2, if_pos h2, List.getElem?_zipWith]
    · rw [if_neg h2, if_neg h2, if_neg h2, List.getElem?_zipWith]
theorem swapR_eq (rows : List (List UInt8)) (c p : Nat) : Sy.swapR rows c p = swpA rows [] c p := rfl
/-- two rows change places: their heads are stored -/
theorem Mx.swap (h : Mx w0 w M L g m H R X) {c p : Nat} (hc : c < m) (hp : p < m) (w' : World) (hw : w' = (w.setCell ⟨g, c, none⟩ (hdr (hAt H p) (Sy.rw_ R p))).setCell ⟨g, p, none⟩ (hdr (hAt H c) (Sy.rw_ R c))) : Mx w0 w' M L g m (swpA H (none, 0) c p) (Sy.swapR R c p) X := by
  subst hw
  have hHc : c < H.length := by rw [h.hl]; exact hc
  have hHp : p < H.length := by rw [h.hl]; exact hp
  have hlen : H.length = R.length := by rw [h.hl, h.rl]
  have hl' : (swpA H (none, 0) c p).length = m := by unfold swpA; simp [h.hl]
  have hr' : (Sy.swapR R c p).length = m := by rw [Sy.swap_length]; exact h.rl
  refine ⟨?_, hl', hr'⟩
  have h5 := (h.ow.put 0 rfl c (hdr (hAt H p) (Sy.rw_ R p))).put 0 rfl p (hdr (hAt H c) (Sy.rw_ R c))
  have e1 : ((hdrs H R).set c (hdr (hAt H p) (Sy.rw_ R p))).set p (hdr (hAt H c) (Sy.rw_ R c)) = hdrs (swpA H (none, 0) c p) (Sy.swapR R c p) := by
    refine List.ext_getElem? fun k => ?_
    unfold hdrs
    rw [swapR_eq, zip_swp hlen hHc hHp, List.getElem?_set, List.getElem?_set, List.length_set]
    have hz : (List.zipWith hdr H R).length = m := by rw [List.length_zipWith, h.hl, h.rl]; omega
    have g1 := (h.get hc).2
    have g2 := (h.get hp).2
    unfold hdrs at g1 g2
    by_cases e1 : p = k
    · subst e1
      rw [if_pos rfl, if_pos (by omega), if_pos rfl, g1]
    · rw [if_neg e1, if_neg (show ¬ k = p from fun e => e1 e.symm)]
      by_cases e2 : c = k
      · subst e2
        rw [if_pos rfl, if_pos (by omega), if_pos rfl, g2]
      · rw [if_neg e2, if_neg (show ¬ k = c from fun e => e2 e.symm)]
  have h6 : Ow w0 ((w.setCell ⟨g, c, none⟩ (hdr (hAt H p) (Sy.rw_ R p))).setCell ⟨g, p, none⟩ (hdr (hAt H c) (Sy.rw_ R c))) none M L (outR g m (swpA H (none, 0) c p) (Sy.swapR R c p) :: (mkRs H R ++ X)) := by
    unfold outR
    rw [← e1]
    exact h5
  have hml : (mkRs (swpA H (none, 0) c p) (Sy.swapR R c p)).length = m := by unfold mkRs; rw [List.length_zipWith, hl', hr']; omega
  refine h6.re (fun i => if i = c + 1 then p + 1 else if i = p + 1 then c + 1 else i) (fun i j _ _ e => ?_) (fun i r hi => ?_)
  · split at e <;> split at e <;> (try split at e) <;> (try split at e) <;> omega
  · cases i with
    | zero => rw [if_neg (by omega), if_neg (by omega)]; exact hi
    | succ k =>
      rw [List.getElem?_cons_succ] at hi
      rcases Nat.lt_or_ge k m with hk | hk
      · rw [List.getElem?_append_left (by rw [hml]; exact hk)] at hi
        unfold mkRs at hi
        rw [swapR_eq, zip_swp hlen hHc hHp] at hi
        have key : ∀ j, j < m → (outR g m (swpA H (none, 0) c p) (Sy.swapR R c p) :: (mkRs H R ++ X))[j + 1]? = (List.zipWith mkR H R)[j]? := fun j hj => by
          rw [List.getElem?_cons_succ, List.getElem?_append_left (by rw [h.len]; exact hj)]
          rfl
        by_cases e1 : k = c
        · subst e1
          rw [if_pos rfl, key p hp]
          by_cases e2 : k = p
          · subst e2; rw [if_pos rfl] at hi; exact hi
          · rw [if_neg e2, if_pos rfl] at hi; exact hi
        · rw [if_neg (by omega)]
          by_cases e2 : k = p
          · subst e2
            rw [if_pos rfl, key c hc]
            rw [if_pos rfl] at hi; exact hi
          · rw [if_neg (by omega), key k hk]
            rw [if_neg e2, if_neg e1] at hi; exact hi
      · rw [if_neg (by omega), if_neg (by omega), List.getElem?_cons_succ]
        rw [List.getElem?_append_right (by rw [hml]; exact hk), hml] at hi
        rw [List.getElem?_append_right (by rw [h.len]; exact hk), h.len]
        exact hi
end
namespace Sy
end Sy
end Go.Proofs.YtdjfbbfbdgiblaaGreatDoor

namespace Go.Proofs.YtdjfbbfbdgiblaaGreatDoor
open Go.RowKit
set_option linter.unusedVariables false
set_option maxRecDepth 100000
namespace Sy
open Gf
end Sy
section
variable {w0 w w' : World} {M : List (Nat × Value)} {L : List Ob} {g m : Nat} {H : List (Option Addr × Nat)} {R : List (List UInt8)} {X : List Rw}
theorem Ow.nils {O : List Rw} {g0 : Option Nat} (h : Ow w0 w g0 M L O) (e : TypeId) : ∀ m, Ow w0 w g0 M L (O ++ List.replicate m ⟨none, 0, 0, e, []⟩)
  | 0 => by simpa using h
  | m + 1 => by
    have h5 := (Ow.nils h e m).nil e
    rw [List.append_assoc] at h5
    rw [List.replicate_succ']
    exact h5
theorem zip_rep {α β γ : Type} (f : α → β → γ) (a : α) (b : β) : ∀ m, List.zipWith f (List.replicate m a) (List.replicate m b) = List.replicate m (f a b)
  | 0 => rfl
  | m + 1 => by rw [List.replicate_succ, List.replicate_succ, List.replicate_succ, List.zipWith_cons_cons, zip_rep f a b m]
theorem Mx.start (h : Ow w0 w none M L [⟨some ⟨g, 0, none⟩, m, m, 46, List.replicate m (.slice none 0 0)⟩]) : Mx w0 w M L g m (List.replicate m (none, 0)) (List.replicate m []) [] := by
  refine ⟨?_, by simp, by simp⟩
  have h5 := h.nils 5 m
  unfold outR hdrs mkRs
  rw [zip_rep, zip_rep, List.append_nil]
  exact h5
theorem Mx.boxed (h : Mx w0 w M L g m H R X) (v : Value) (t : TypeId) : Mx w0 (w.alloc (.cells #[v] t)) (M ++ [(w.heap.size, v)]) L g m H R X := ⟨h.ow.boxed v t, h.hl, h.rl⟩
theorem Mx.setv (h : Mx w0 w M L g m H R X) (i : Nat) {b : Nat} {v : Value} (hi : M[i]? = some (b, v)) (u : Value) : Mx w0 (w.setCell ⟨b, 0, none⟩ u) (M.set i (b, u)) L g m H R X := ⟨h.ow.setv i hi u, h.hl, h.rl⟩
theorem Mx.fewM {l : List (Nat × Value)} (h : Mx w0 w (M ++ l) L g m H R X) : Mx w0 w M L g m H R X := ⟨h.ow.fewM, h.hl, h.rl⟩
theorem Mx.drewN (h : Mx w0 w M L g m H R X) (k : Nat) : Mx w0 (w.drewN k) M L g m H R X := ⟨h.ow.drewN k, h.hl, h.rl⟩
theorem Mx.more (h : Mx w0 w M L g m H R []) (e : TypeId) : Mx w0 w M L g m H R [⟨none, 0, 0, e, []⟩] := by
  have h5 := h.ow.nil e
  rw [List.append_nil] at h5
  exact ⟨h5, h.hl, h.rl⟩
end
end Go.Proofs.YtdjfbbfbdgiblaaGreatDoor

namespace Go.Proofs.YtdjfbbfbdgiblaaGreatDoor
open Go.RowKit Go.Sort
set_option linter.unusedVariables false
set_option maxRecDepth 100000
theorem light_yes (A : Option Addr) (n c : Nat) (w : World) (h : n ≤ 400) : Calls Tryz.prog 11 #[.slice A n c] w fun e w' => e = .returned (.bool true) ∧ w = w' := by
  have := light_any A n c w (by omega)
  rwa [decide_eq_true (show (n : Int) ≤ 400 by omega)] at this
theorem light_no (A : Option Addr) (n c : Nat) (w : World) (h : 400 < n) (hl : n ≤ 9223372036854775807) : Calls Tryz.prog 11 #[.slice A n c] w fun e w' => e = .returned (.bool false) ∧ w = w' := by
  have := light_any A n c w hl
  rwa [decide_eq_false (show ¬ (n : Int) ≤ 400 by omega)] at this
theorem rollB_any (A : Option Addr) (n c B : Nat) (ts : List Int) (w : World) (hn : ts.length = n) (hl : n ≤ 140737488355328) (hs : Sl w B A (ints ts)) (hB : B ≤ w.heap.size) :
    Calls Tryz.prog 13 #[.slice A n c] w fun e w' => e = .returned (.pointer (some ⟨w.heap.size, 0, none⟩)) ∧ Dice w' w.heap.size B ∧ w'.heap.size = w.heap.size + 1 ∧ Below w.heap.size w w' := by
  have HD : Hid (Dice (w.alloc (.cells #[.slice A n c, .int .i64 0] 64)) w.heap.size B) :=
    ⟨A, n, c, 0, ts, heap_alloc_new w _, hn, Nat.zero_le _, hl, hs.below ((Below.refl _ _).alloc hB _), hB⟩
  clear hn hs
  go_enter Tryz.func13, Tryz.ntmps13
  go_wp2_with fail
  go_ret
  exact ⟨rfl, HD.out, by simp, (Below.refl _ _).alloc (Nat.le_refl _) _⟩
/-- dice over a list that lay there at the beginning -/
theorem roll_at {w0 w : World} {M : List (Nat × Value)} {L : List Ob} (h : St w0 w none M L) (A : Option Addr) (n c B : Nat) (ts : List Int) (hn : ts.length = n) (hl : n ≤ 140737488355328) (hB : B ≤ w0.heap.size) (hs : Sl w B A (ints ts)) :
    Calls Tryz.prog 13 #[.slice A n c] w fun e w' => ∃ g, e = .returned (.pointer (some ⟨g, 0, none⟩)) ∧ Dice w' g B ∧ St w0 w' (some g) M L := by
  refine (rollB_any A n c B ts w hn hl hs (Nat.le_trans hB h.size)).mono ?_
  rintro e w' ⟨he, hd, hz, hb⟩
  have h' := h.go hb
  refine ⟨_, he, hd, ⟨h'.below, fun x e => by cases e; exact ⟨by omega, h.size⟩, fun i b v hi => ?_, h'.one, fun o ho => ?_⟩⟩
  · obtain ⟨h1, h2, h3, h4, _⟩ := h'.box i b v hi
    exact ⟨h1, h2, h3, h4, fun e => by cases e; have := (h.box i _ v hi).1; omega⟩
  · obtain ⟨h1, h2, h3, B, hB, hs2, hne⟩ := h.held o ho
    refine ⟨h1, h2, h3, B, Nat.le_trans hB hb.size, hs2.below (hb.mono hB), fun ad e h0 => ⟨fun e2 => ?_, (hne ad e h0).2⟩⟩
    obtain ⟨ad', e', hbk, _⟩ := hs2 (by omega)
    rw [e] at e'
    obtain rfl := Option.some.inj e'
    have := Option.some.inj e2
    omega
section
variable {w0 w w' : World} {g B : Nat} {M : List (Nat × Value)} {L : List Ob} {O : List Rw} {A : Option Addr} {n c : Nat}
theorem Ow.roll (h : Ow w0 w (some g) M L O) (hg : w.grownBy w' (some g)) : Ow w0 w' (some g) M L O := by
  refine ⟨h.st.roll hg, fun i r hi => own_keep (h.own i r hi) hg ?_, h.ap, h.two⟩
  by_cases e : (Value.slice r.A r.n r.c).ownBlock = none
  · exact .inl e
  · exact .inr fun e2 => (h.ap i r hi g e2).1 rfl
theorem next_ow (h : Ow w0 w (some g) M L O) (hd : Dice w g B) (m : Nat) (hm : 0 < m) (hm2 : m ≤ 9223372036854775807) :
    Calls Tryz.prog 21 #[.pointer (some ⟨g, 0, none⟩), .int .i64 (m : Int)] w fun e w' => ∃ r : Nat, e = .returned (.int .i64 (r : Int)) ∧ r < m ∧ Dice w' g B ∧ Ow w0 w' (some g) M L O ∧ w.grownBy w' (some g) :=
  (next_any g B m w (by omega) (by omega) hd).mono fun e w' ⟨r, he, h0, h1, hd', hg⟩ => ⟨r.toNat, by rw [he]; congr 2; omega, by omega, hd', h.roll hg, hg⟩
theorem Dice.turned (hd : Dice w g B) (hB : B ≤ w0.heap.size) (h : Ow w0 w (some g) M L O) {i : Nat} {r : Rw} (hi : O[i]? = some r) (hg : w.grownBy w' r.blk) : Dice w' g B := by
  have hlt := hd.lt
  obtain ⟨A, n, c, at_, ts, hh, h1, h2, h3, hs, hBg⟩ := hd
  refine ⟨A, n, c, at_, ts, (hg.block g hlt (fun e => (h.ap i r hi g e.symm).1 rfl)).trans hh, h1, h2, h3, hs.keep fun p hp => World.cell?_of_block (hg.block p.block (by omega) (fun e => ?_)), hBg⟩
  have := (h.lt hi e.symm).2
  omega
theorem Dice.set (hd : Dice w g B) (hB : B ≤ w0.heap.size) (h : Ow w0 w (some g) M L O) {i b : Nat} {v : Value} (hi : M[i]? = some (b, v)) (u : Value) : Dice (w.setCell ⟨b, 0, none⟩ u) g B := by
  have hlt := hd.lt
  have hg := grown_set w ⟨b, 0, none⟩ u
  obtain ⟨h1, h2, h3, h4, h5⟩ := h.st.box i b v hi
  obtain ⟨A, n, c, at_, ts, hh, k1, k2, k3, hs, hBg⟩ := hd
  exact ⟨A, n, c, at_, ts, (hg.block g hlt (fun e => h5 e)).trans hh, k1, k2, k3, hs.keep fun p hp => World.cell?_of_block (hg.block p.block (by omega) (fun e => by have := Option.some.inj e; simp only at this; omega)), hBg⟩
end
end Go.Proofs.YtdjfbbfbdgiblaaGreatDoor

namespace Go.Proofs.YtdjfbbfbdgiblaaGreatDoor
open Go.RowKit Go.Sort
set_option linter.unusedVariables false
set_option maxRecDepth 100000
theorem bin_two (n k : Nat) : Na.bin n k ≤ 2 ^ n := by
  induction n generalizing k with
  | zero =>
    cases k with
    | zero => exact Nat.le_refl _
    | succ k => exact Nat.zero_le _
  | succ n ih =>
    cases k with
    | zero => rw [Na.bin_zero]; exact Nat.one_le_two_pow
    | succ k =>
      rw [Na.bin_succ, Nat.pow_succ]
      have h1 := ih k
      have h2 := ih (k + 1)
      omega
/-- a valid code, a number of bytes -/
structure Cv (d m f n : Nat) : Prop where
  cd : Cd d m f
  fm : f ≤ m / 2
  sum : d + m = n
  n40 : n ≤ 40
  f4 : f ≤ 4
  ni : (d : Int) + (m : Int) = (n : Int)
theorem Cv.of {d m f : Nat} (h : Cd d m f) (hf : f ≤ m / 2) : Cv d m f (d + m) := ⟨h, hf, rfl, by have := h.d2; have := h.m2; omega, by have := h.m2; omega, by simp⟩
section
variable {w0 w w' : World} {g : Option Nat} {M M2 : List (Nat × Value)} {L : List Ob} {O : List Rw} {A A2 A3 A4 : Option Addr} {b n c m c2 n3 c3 n4 c4 x y d v f : Nat} {p q r s : List Int}
theorem c_times2 {vs : List Value} {a b : Nat} (h : Ow w0 w g M L O) (i : Nat) (hi : L[i]? = some ⟨A, 2, 2, vs⟩) (hN : Nums L vs [a, b]) (ha : a < Na.top) (hb : b < Na.top) (h1 : a * b < Na.top) :
    Calls Tryz.prog 45 #[.slice A 2 2] w (GotU w0 g M L O (Na.dig (a * b))) := by
  have := c_times h i hi [a, b] rfl hN (fun x hx => by
    simp only [List.mem_cons, List.mem_nil_iff, or_false] at hx
    rcases hx with rfl | rfl <;> assumption) (fun k hk => by
    have hk' : k = 0 ∨ k = 1 ∨ k = 2 := by omega
    have ht : 1 < Na.top := byte_top (by omega)
    rcases hk' with rfl | rfl | rfl
    · exact ht
    · show a * 1 < Na.top
      rwa [Nat.mul_one]
    · show a * (b * 1) < Na.top
      rwa [Nat.mul_one])
  rwa [show pr [a, b] = a * b by show a * (b * 1) = _; rw [Nat.mul_one]] at this
set_option maxHeartbeats 4000000 in
theorem c_wrong (h : Ow w0 w g M L O) (hc : Cv d m f n) (hv : v ≤ n) :
    Calls Tryz.prog 39 #[.agg #[.int .i64 2, .int .i64 (d : Int), .int .i64 (m : Int), .int .i64 (f : Int)], .int .i64 (v : Int)] w fun e w' => e = .returned (.int .i64 0) ∧ Ow w0 w' g M L O := by
  have H0 := h.code d m f
  obtain ⟨k0, k1, k2, k3⟩ := H0.cdc (O.length + 0) (by rw [get_r]; rfl)
  have HV := Lib.hid (fun W => validcode_any hc.cd W)
  rw [show decide (f ≤ m / 2) = true from decide_eq_true hc.fm] at HV
  have HO := Lib.hid H0
  have hni := hc.ni
  have hn40 := hc.n40
  have t1 : decide ((v : Int) < 0) = false := decide_eq_false (by omega)
  have t2 : decide ((n : Int) < (v : Int)) = false := decide_eq_false (by omega)
  have t3 : decide (n < v) = false := decide_eq_false (by omega)
  clear h H0
  go_enter Tryz.func39, Tryz.ntmps39
  go_wp2_with (go_at_call 83; refine (HV.out _).mono ?_; rintro e w1 ⟨rfl, hb⟩; have HO1 := Lib.hid (HO.out.go hb); obtain ⟨q0, q1, q2, q3⟩ := HO1.out.cdc (O.length + 0) (by rw [get_r]; rfl); clear hb)
  go_ret
  exact ⟨rfl, HO1.out.fewO⟩
theorem er_top {n v : Nat} (hn : n ≤ 40) (hv : v ≤ 40) : Na.bin n v * 255 ^ v < Na.top := by
  have h1 : Na.bin n v ≤ 2 ^ 40 := Nat.le_trans (bin_two n v) (Nat.pow_le_pow_right (by omega) hn)
  have h2 : 255 ^ v ≤ 255 ^ 40 := Nat.pow_le_pow_right (by omega) hv
  exact Nat.lt_of_le_of_lt (Nat.mul_le_mul h1 h2) (by decide +kernel)
set_option maxHeartbeats 4000000 in
theorem c_errors (h : Ow w0 w g M L O) (hc : Cv d m f n) (hv : v ≤ n) :
    Calls Tryz.prog 41 #[.agg #[.int .i64 2, .int .i64 (d : Int), .int .i64 (m : Int), .int .i64 (f : Int)], .int .i64 (v : Int)] w (GotU w0 g M L O (Na.dig (Na.bin n v * 255 ^ v))) := by
  have H0 := (h.code d m f).boxed (.slice none 0 0) 31
  obtain ⟨k0, k1, k2, k3⟩ := H0.cdc (O.length + 0) (by rw [get_r]; rfl)
  have hni := hc.ni
  have hn40 := hc.n40
  have HC := Lib.hid (c_choose H0 n v (by omega))
  have HB : Hid (Na.bin n v < Na.top ∧ 255 ^ v < Na.top ∧ Na.bin n v * 255 ^ v < Na.top) := ⟨(Na.bin_top n v (by omega)).1, num_top (by omega) (by omega), er_top (by omega) (by omega)⟩
  have HN : Hid (v ≤ n) := hv
  clear h H0 hv
  go_enter Tryz.func41, Tryz.ntmps41
  go_wp2_with fail
  refine HC.out.mono ?_
  rintro e w1 ⟨B1, m1, d1, rfl, G1⟩
  have HP := Lib.hid (c_power G1 255 v (by omega) (by have := HN.out; omega))
  clear HC G1 k0 k1 k2 k3
  go_wp2_with fail
  refine HP.out.mono ?_
  rintro e w2 ⟨B2, m2, d2, rfl, G2⟩
  have G3 := G2.push (World.ownsRow_lit (base := w2.heap.size) (e := 31) (size := 1) w2 #[.slice B1 m1 d1, .slice B2 m2 d2] 2 (Nat.le_refl _) (by decide) rfl) (by omega) (own_box1 _ _)
  try simp only [World.size_alloc] at G3
  try simp only [List.append_assoc] at G3
  try simp only [List.cons_append] at G3
  try simp only [List.nil_append] at G3
  have HT := Lib.hid (c_times2 G3 (L.length + 2) (by rw [get_r]; rfl) (Nums.two (t1 := L.length + 0) (t2 := L.length + 1) (by rw [get_r]; rfl) (by rw [get_r]; rfl)) HB.out.1 HB.out.2.1 HB.out.2.2)
  clear HP G2 G3
  go_wp2_with fail
  refine HT.out.mono ?_
  rintro e w3 ⟨B3, m3, d3, rfl, G4⟩
  try simp only [World.size_alloc] at G4
  try simp only [List.append_assoc] at G4
  try simp only [List.cons_append] at G4
  try simp only [List.nil_append] at G4
  have r0 := G4.cell (M.length + 0) (by rw [get_r]; rfl)
  have f0 := G4.free (M.length + 0) (by rw [get_r]; rfl)
  have Z := G4.setv (M.length + 0) (by rw [get_r]; rfl) (.slice B3 m3 d3)
  rw [set_r] at Z
  try simp only [List.set_cons_zero] at Z
  have s0 := Z.cell (M.length + 0) (by rw [get_r]; rfl)
  have HF := Lib.hid (Z.fewM.fewO.less (L' := L ++ [⟨B3, m3, d3, nats (Na.dig (Na.bin n v * 255 ^ v))⟩]) (fun o ho => by
    rcases List.mem_append.1 ho with h | h
    · exact List.mem_append_left _ h
    · rw [List.mem_singleton] at h
      subst h
      exact List.mem_append_right _ (List.mem_of_getElem? (i := 3) rfl)))
  clear HT G4 Z
  go_wp2_with fail
  refine bodyPost_ret (v := .agg #[.slice B3 m3 d3]) (by simp [results, Tryz.results41, go_sem, s0]) rfl ?_
  exact ⟨B3, m3, d3, rfl, HF.out⟩
set_option maxHeartbeats 4000000 in
theorem c_Errors (h : Ow w0 w g M L O) (hc : Cv d m f n) (hv : v ≤ n) :
    Calls Tryz.prog 18 #[.agg #[.int .i64 2, .int .i64 (d : Int), .int .i64 (m : Int), .int .i64 (f : Int)], .int .i64 (v : Int)] w (GotO w0 g M L O (Na.dig (Na.bin n v * 255 ^ v)) 0) := by
  have H0 := (h.code d m f).boxed (.slice none 0 0) 31
  simp only [World.size_alloc] at H0
  obtain ⟨k0, k1, k2, k3⟩ := H0.cdc (O.length + 0) (by rw [get_r]; rfl)
  have HC := Lib.hid (c_wrong H0 hc hv)
  have HK := Lib.hid hc
  have HN := Lib.hid hv
  obtain ⟨l0, hl0⟩ : ∃ z, Na.dig (Na.bin n v * 255 ^ v) = z := ⟨_, rfl⟩
  rw [hl0]
  have HL := Lib.hid hl0
  clear h H0 hl0 hc hv
  go_enter Tryz.func18, Tryz.ntmps18
  go_wp2_with fail
  refine HC.out.mono ?_
  rintro e w1 ⟨rfl, H1⟩
  obtain ⟨q0, q1, q2, q3⟩ := H1.cdc (O.length + 0) (by rw [get_r]; rfl)
  have HE := Lib.hid (c_errors H1 HK.out HN.out)
  rw [HL.out] at HE
  clear HC H1 k0 k1 k2 k3
  go_wp2_with fail
  refine HE.out.mono ?_
  rintro e w2 ⟨B3, m3, d3, rfl, G4⟩
  have r0 := G4.cell (M.length + 0) (by rw [get_r]; rfl)
  have f0 := G4.free (M.length + 0) (by rw [get_r]; rfl)
  have Z := G4.setv (M.length + 0) (by rw [get_r]; rfl) (.slice B3 m3 d3)
  rw [set_r] at Z
  try simp only [List.set_cons_zero] at Z
  have s0 := Z.cell (M.length + 0) (by rw [get_r]; rfl)
  have HF := Lib.hid Z.fewM.fewO
  clear HE G4 Z q0 q1 q2 q3
  go_wp2_with fail
  refine bodyPost_ret (v := .tuple #[.agg #[.slice B3 m3 d3], .int .i64 0]) (by simp [results, Tryz.results18, go_sem, s0]) rfl ?_
  exact ⟨B3, m3, d3, rfl, HF.out⟩
end
end Go.Proofs.YtdjfbbfbdgiblaaGreatDoor

namespace Go.Proofs.YtdjfbbfbdgiblaaGreatDoor
set_option linter.unusedVariables false
namespace Ch
/-- f 0 + .. + f (n - 1) -/
def sm (f : Nat → Int) : Nat → Int
  | 0 => 0
  | n + 1 => sm f n + f n
theorem sm_congr {f g : Nat → Int} : ∀ n, (∀ i, i < n → f i = g i) → sm f n = sm g n
  | 0, _ => rfl
  | n + 1, h => by
    show sm f n + f n = sm g n + g n
    rw [sm_congr n fun i hi => h i (by omega), h n (by omega)]
theorem sm_add (f g : Nat → Int) : ∀ n, sm (fun i => f i + g i) n = sm f n + sm g n
  | 0 => rfl
  | n + 1 => by
    show sm _ n + (f n + g n) = (sm f n + f n) + (sm g n + g n)
    rw [sm_add f g n]; omega
theorem sm_zero : ∀ n, sm (fun _ => 0) n = 0
  | 0 => rfl
  | n + 1 => by show sm _ n + 0 = 0; rw [sm_zero n]; rfl
theorem sm_mul (c : Int) (f : Nat → Int) : ∀ n, sm (fun i => c * f i) n = c * sm f n
  | 0 => (Int.mul_zero c).symm
  | n + 1 => by
    show sm _ n + c * f n = c * (sm f n + f n)
    rw [sm_mul c f n, Int.mul_add]
theorem sm_first (f : Nat → Int) : ∀ n, sm f (n + 1) = f 0 + sm (fun i => f (i + 1)) n
  | 0 => by show (0 : Int) + f 0 = f 0 + 0; omega
  | n + 1 => by
    show sm f (n + 1) + f (n + 1) = f 0 + (sm _ n + f (n + 1))
    rw [sm_first f n]; omega
theorem sm_split (f : Nat → Int) (a : Nat) : ∀ n, sm f (a + n) = sm f a + sm (fun i => f (a + i)) n
  | 0 => by show sm f a = sm f a + 0; omega
  | n + 1 => by
    show sm f (a + n) + f (a + n) = sm f a + (sm _ n + f (a + n))
    rw [sm_split f a n]; omega
theorem sm_swap (f : Nat → Nat → Int) (m : Nat) : ∀ n, sm (fun i => sm (fun j => f i j) m) n = sm (fun j => sm (fun i => f i j) n) m
  | 0 => by show (0 : Int) = sm (fun _ => 0) m; rw [sm_zero]
  | n + 1 => by
    show sm _ n + sm _ m = _
    rw [sm_swap f m n, ← sm_add]
    rfl
theorem sm_one {f : Nat → Int} {k : Nat} : ∀ n, k < n → (∀ i, i < n → i ≠ k → f i = 0) → sm f n = f k
  | 0, h, _ => by omega
  | n + 1, h, h0 => by
    show sm f n + f n = f k
    by_cases e : k = n
    · subst e
      rw [sm_congr (g := fun _ => 0) k fun i hi => h0 i (by omega) (by omega), sm_zero]; omega
    · rw [sm_one n (by omega) fun i hi hn => h0 i (by omega) hn, h0 n (by omega) (by omega)]; omega
/-- the w-th difference of N at 0 -/
def D : Nat → (Nat → Int) → Int
  | 0, N => N 0
  | w + 1, N => D w (fun i => N (i + 1) - N i)
def bi (n k : Nat) : Int := (Na.bin n k : Int)
theorem bi_succ (n k : Nat) : bi (n + 1) (k + 1) = bi n k + bi n (k + 1) := by unfold bi; rw [Na.bin_succ]; omega
theorem bi_zero (n : Nat) : bi n 0 = 1 := by unfold bi; rw [Na.bin_zero]; rfl
theorem bi_more {n k : Nat} (h : n < k) : bi n k = 0 := by unfold bi; rw [Na.bin_more h]; rfl
/-- Newton: a function is the sum of its differences -/
theorem newton : ∀ (n : Nat) (N : Nat → Int), sm (fun w => bi n w * D w N) (n + 1) = N n
  | 0, N => by show 0 + bi 0 0 * N 0 = N 0; rw [bi_zero]; omega
  | n + 1, N => by
    have h1 := newton n N
    have h2 := newton n (fun i => N (i + 1) - N i)
    rw [sm_first]
    have e : sm (fun i => bi (n + 1) (i + 1) * D (i + 1) N) (n + 1) = sm (fun i => bi n i * D i (fun i => N (i + 1) - N i)) (n + 1) + sm (fun i => bi n (i + 1) * D (i + 1) N) (n + 1) := by
      rw [← sm_add]
      refine sm_congr _ fun i _ => ?_
      rw [bi_succ, Int.add_mul]
      rfl
    rw [e, h2]
    have h3 := sm_first (fun w => bi n w * D w N) n
    have h4 : sm (fun i => bi n (i + 1) * D (i + 1) N) (n + 1) = sm (fun i => bi n (i + 1) * D (i + 1) N) n := by
      show _ + bi n (n + 1) * _ = _
      rw [bi_more (by omega)]; omega
    rw [h4]
    rw [h1] at h3
    rw [bi_zero] at h3 ⊢
    omega
def sg (k : Nat) : Int := if k % 2 = 0 then 1 else -1
theorem sg_succ (k : Nat) : sg (k + 1) = - sg k := by
  unfold sg
  split <;> split <;> omega
/-- the difference by a sum with signs -/
theorem diff_sum : ∀ (w : Nat) (N : Nat → Int), D w N = sm (fun i => sg (w - i) * (bi w i * N i)) (w + 1)
  | 0, N => by
    show N 0 = 0 + sg (0 - 0) * (bi 0 0 * N 0)
    rw [bi_zero]
    show N 0 = 0 + 1 * (1 * N 0)
    omega
  | w + 1, N => by
    show D w (fun i => N (i + 1) - N i) = _
    rw [diff_sum w]
    have e1 : sm (fun i => sg (w - i) * (bi w i * (N (i + 1) - N i))) (w + 1) = sm (fun i => sg (w - i) * (bi w i * N (i + 1))) (w + 1) + sm (fun i => - (sg (w - i) * (bi w i * N i))) (w + 1) := by
      rw [← sm_add]
      refine sm_congr _ fun i _ => ?_
      rw [Int.mul_sub, Int.mul_sub]; omega
    rw [e1, sm_first (fun i => sg (w + 1 - i) * (bi (w + 1) i * N i)) (w + 1)]
    have e2 : sm (fun i => sg (w + 1 - (i + 1)) * (bi (w + 1) (i + 1) * N (i + 1))) (w + 1) = sm (fun i => sg (w - i) * (bi w i * N (i + 1))) (w + 1) + sm (fun i => sg (w - i) * (bi w (i + 1) * N (i + 1))) (w + 1) := by
      rw [← sm_add]
      refine sm_congr _ fun i _ => ?_
      rw [bi_succ, Int.add_mul, Int.mul_add, show w + 1 - (i + 1) = w - i by omega]
    rw [e2]
    have e3 : sm (fun i => - (sg (w - i) * (bi w i * N i))) (w + 1) = - (sg w * (bi w 0 * N 0)) + sm (fun i => sg (w - i) * (bi w (i + 1) * N (i + 1))) w := by
      rw [sm_first]
      congr 1
      refine sm_congr _ fun i hi => ?_
      rw [show w - i = (w - (i + 1)) + 1 by omega, sg_succ, Int.neg_mul]
    have e4 : sm (fun i => sg (w - i) * (bi w (i + 1) * N (i + 1))) (w + 1) = sm (fun i => sg (w - i) * (bi w (i + 1) * N (i + 1))) w := by
      show _ + sg (w - w) * (bi w (w + 1) * _) = _
      rw [bi_more (by omega)]; simp
    rw [e3, e4]
    show _ = sg (w + 1) * (bi (w + 1) 0 * N 0) + _
    rw [sg_succ, bi_zero, bi_zero, Int.neg_mul]
    omega
/-- alternating sums of binomials vanish -/
theorem alt_zero (w : Nat) (hw : 0 < w) : sm (fun i => sg (w - i) * bi w i) (w + 1) = 0 := by
  have h := diff_sum w (fun _ => 1)
  have e : ∀ w, 0 < w → D w (fun _ => 1) = 0 := by
    intro w hw
    obtain ⟨v, rfl⟩ : ∃ v, w = v + 1 := ⟨w - 1, by omega⟩
    show D v (fun _ => 1 - 1) = 0
    have : ∀ v, D v (fun _ => (0 : Int)) = 0 := by
      intro v
      induction v with
      | zero => rfl
      | succ v ih => exact ih
    exact this v
  rw [e w hw] at h
  rw [h]
  refine sm_congr _ fun i _ => ?_
  rw [Int.mul_one]
/-- sums turned round -/
theorem sm_rev (f : Nat → Int) : ∀ n, sm (fun i => f (n - 1 - i)) n = sm f n
  | 0 => rfl
  | n + 1 => by
    rw [sm_first]
    show f (n + 1 - 1 - 0) + _ = sm f n + f n
    have : sm (fun i => f (n + 1 - 1 - (i + 1))) n = sm (fun i => f (n - 1 - i)) n := sm_congr _ fun i _ => by rw [show n + 1 - 1 - (i + 1) = n - 1 - i by omega]
    rw [this, sm_rev f n, show n + 1 - 1 - 0 = n by omega]
    omega
end Ch
end Go.Proofs.YtdjfbbfbdgiblaaGreatDoor

namespace Go.Proofs.YtdjfbbfbdgiblaaGreatDoor
set_option linter.unusedVariables false
namespace Ch
/-- code words that vanish outside of i places -/
def cw (c i : Nat) : Nat := if i ≤ c then 1 else 256 ^ (i - c)
def tm (c w j : Nat) : Nat := Na.bin w j * (256 ^ (w - c - j) - 1)
/-- the terms with a plus, those with a minus -/
def pl (t : Nat → Nat) : Nat → Nat
  | 0 => 0
  | n + 1 => if n % 2 = 0 then pl t n + t n else pl t n
def mi (t : Nat → Nat) : Nat → Nat
  | 0 => 0
  | n + 1 => if n % 2 = 0 then mi t n else mi t n + t n
theorem pm_sum (t : Nat → Nat) : ∀ n, (pl t n : Int) - (mi t n : Int) = sm (fun j => sg j * (t j : Int)) n
  | 0 => rfl
  | n + 1 => by
    have h := pm_sum t n
    show ((if n % 2 = 0 then pl t n + t n else pl t n : Nat) : Int) - ((if n % 2 = 0 then mi t n else mi t n + t n : Nat) : Int) = sm _ n + sg n * (t n : Int)
    rw [← h]
    unfold sg
    split <;> omega
theorem pl_first (t : Nat → Nat) : ∀ n, pl t (n + 1) = t 0 + mi (fun j => t (j + 1)) n ∧ mi t (n + 1) = pl (fun j => t (j + 1)) n
  | 0 => by
    constructor
    · show (if 0 % 2 = 0 then 0 + t 0 else 0) = t 0 + 0
      simp
    · rfl
  | n + 1 => by
    obtain ⟨h1, h2⟩ := pl_first t n
    constructor
    · show (if (n + 1) % 2 = 0 then pl t (n + 1) + t (n + 1) else pl t (n + 1)) = t 0 + (if n % 2 = 0 then mi (fun j => t (j + 1)) n else mi (fun j => t (j + 1)) n + t (n + 1))
      rw [h1]
      split <;> split <;> omega
    · show (if (n + 1) % 2 = 0 then mi t (n + 1) else mi t (n + 1) + t (n + 1)) = (if n % 2 = 0 then pl (fun j => t (j + 1)) n + t (n + 1) else pl (fun j => t (j + 1)) n)
      rw [h2]
      split <;> split <;> omega
/-- an alternating sum of terms that become less is not negative -/
theorem mi_le : ∀ (n : Nat) (t : Nat → Nat), (∀ j, j + 1 < n → t (j + 1) ≤ t j) → mi t n ≤ pl t n ∧ (0 < n → pl t n ≤ mi t n + t 0)
  | 0, t, _ => ⟨Nat.le_refl _, fun h => absurd h (by omega)⟩
  | n + 1, t, h => by
    obtain ⟨e1, e2⟩ := pl_first t n
    obtain ⟨h1, h2⟩ := mi_le n (fun j => t (j + 1)) fun j hj => h (j + 1) (by omega)
    rw [e1, e2]
    refine ⟨?_, fun _ => by omega⟩
    rcases Nat.eq_zero_or_pos n with e | e
    · subst e; exact Nat.zero_le _
    · have := h2 e
      have := h 0 (by omega)
      show pl (fun j => t (j + 1)) n ≤ _
      have h5 : (fun j => t (j + 1)) 0 = t 1 := rfl
      rw [h5] at *
      omega
theorem bin_step (w j : Nat) : Na.bin w (j + 1) ≤ w * Na.bin w j := by
  rcases w with _ | w
  · rw [Na.bin_more (by omega)]; exact Nat.zero_le _
  have h := Na.bin_absorb w j
  have h2 : Na.bin w j ≤ Na.bin (w + 1) j := by
    rcases j with _ | j
    · rw [Na.bin_zero, Na.bin_zero]; exact Nat.le_refl _
    · rw [Na.bin_succ]; omega
  calc Na.bin (w + 1) (j + 1) ≤ (j + 1) * Na.bin (w + 1) (j + 1) := Nat.le_mul_of_pos_left _ (by omega)
    _ = (w + 1) * Na.bin w j := h
    _ ≤ (w + 1) * Na.bin (w + 1) j := Nat.mul_le_mul_left _ h2
theorem tm_less {c w j : Nat} (hw : w ≤ 256) (hj : j + 1 < w - c) : tm c w (j + 1) ≤ tm c w j := by
  unfold tm
  obtain ⟨k, hk⟩ : ∃ k, w - c - j = k + 1 := ⟨w - c - j - 1, by omega⟩
  rw [hk, show w - c - (j + 1) = k by omega]
  have h1 := bin_step w j
  have h3 : 256 * (256 ^ k - 1) ≤ 256 ^ (k + 1) - 1 := by rw [Nat.pow_succ]; omega
  calc Na.bin w (j + 1) * (256 ^ k - 1) ≤ (w * Na.bin w j) * (256 ^ k - 1) := Nat.mul_le_mul_right _ h1
    _ ≤ (256 * Na.bin w j) * (256 ^ k - 1) := Nat.mul_le_mul_right _ (Nat.mul_le_mul_right _ hw)
    _ = Na.bin w j * (256 * (256 ^ k - 1)) := by rw [Nat.mul_comm 256, Nat.mul_assoc]
    _ ≤ Na.bin w j * (256 ^ (k + 1) - 1) := Nat.mul_le_mul_left _ h3
def N (c : Nat) (i : Nat) : Int := (cw c i : Int)
/-- the program's sum is the difference -/
theorem prog_diff (c w : Nat) (hw : 0 < w) : (pl (tm c w) (w - c) : Int) - (mi (tm c w) (w - c) : Int) = D w (N c) := by
  rw [pm_sum, diff_sum, ← sm_rev (fun i => sg (w - i) * (bi w i * N c i))]
  have hz := alt_zero w hw
  rw [← sm_rev (fun i => sg (w - i) * bi w i)] at hz
  have e1 : sm (fun i => sg (w - (w + 1 - 1 - i)) * (bi w (w + 1 - 1 - i) * N c (w + 1 - 1 - i))) (w + 1) = sm (fun j => sg j * (bi w j * (N c (w - j) - 1))) (w + 1) + sm (fun i => sg (w - (w + 1 - 1 - i)) * bi w (w + 1 - 1 - i)) (w + 1) := by
    rw [← sm_add]
    refine sm_congr _ fun j hj => ?_
    rw [show w + 1 - 1 - j = w - j by omega, show w - (w - j) = j by omega]
    have hs : bi w (w - j) = bi w j := by unfold bi; rw [Na.bin_symm (by omega)]
    rw [hs, Int.mul_sub, Int.mul_sub, Int.mul_one]
    omega
  rw [e1, hz]
  have e2 := sm_split (fun j => sg j * (bi w j * (N c (w - j) - 1))) (w - c) (w + 1 - (w - c))
  rw [show w - c + (w + 1 - (w - c)) = w + 1 by omega] at e2
  rw [e2]
  have e3 : sm (fun i => sg (w - c + i) * (bi w (w - c + i) * (N c (w - (w - c + i)) - 1))) (w + 1 - (w - c)) = 0 := by
    rw [← sm_zero (w + 1 - (w - c))]
    refine sm_congr _ fun i _ => ?_
    have : N c (w - (w - c + i)) = 1 := by unfold N cw; rw [if_pos (by omega)]; rfl
    rw [this]; simp
  rw [e3, Int.add_zero, Int.add_zero]
  refine sm_congr _ fun j hj => ?_
  have h1 : N c (w - j) = ((256 ^ (w - c - j) : Nat) : Int) := by unfold N cw; rw [if_neg (by omega), show w - j - c = w - c - j by omega]
  have h2 : 0 < 256 ^ (w - c - j) := Nat.pow_pos (by omega)
  rw [h1]
  unfold tm bi
  rw [Int.natCast_mul, Int.natCast_sub (by omega)]
  rfl
/-- code words with w bytes that are not 0, of n bytes with c checks -/
def wd (n c w : Nat) : Nat := if w = 0 then 1 else Na.bin n w * (pl (tm c w) (w - c) - mi (tm c w) (w - c))
theorem prog_le (c w : Nat) (hw : w ≤ 256) : mi (tm c w) (w - c) ≤ pl (tm c w) (w - c) := (mi_le (w - c) _ fun j hj => tm_less hw hj).1
theorem wd_diff (n c w : Nat) (hw : w ≤ 256) : (wd n c w : Int) = bi n w * D w (N c) := by
  unfold wd
  split
  · next e =>
    subst e
    have : D 0 (N c) = 1 := by show N c 0 = 1; unfold N cw; rw [if_pos (by omega)]; rfl
    rw [this, bi_zero]; rfl
  · next e =>
    rw [← prog_diff c w (by omega), Int.natCast_mul, Int.natCast_sub (prog_le c w hw)]
    rfl
/-- sums of Nats -/
def ns (f : Nat → Nat) : Nat → Nat
  | 0 => 0
  | n + 1 => ns f n + f n
theorem ns_sm (f : Nat → Nat) : ∀ n, (ns f n : Int) = sm (fun i => (f i : Int)) n
  | 0 => rfl
  | n + 1 => by show ((ns f n + f n : Nat) : Int) = sm _ n + (f n : Int); rw [← ns_sm f n]; omega
/-- the code words of all numbers of bytes are all code words -/
theorem wd_all (n c : Nat) (h : c < n) (hn : n ≤ 256) : ns (wd n c) (n + 1) = 256 ^ (n - c) := by
  have h1 : (ns (wd n c) (n + 1) : Int) = ((256 ^ (n - c) : Nat) : Int) := by
    rw [ns_sm, sm_congr (g := fun w => bi n w * D w (N c)) _ fun w hw => wd_diff n c w (by omega), newton]
    unfold N cw
    rw [if_neg (by omega)]
  exact Int.ofNat.inj h1
end Ch
end Go.Proofs.YtdjfbbfbdgiblaaGreatDoor

namespace Go.Proofs.YtdjfbbfbdgiblaaGreatDoor
set_option linter.unusedVariables false
namespace Ch
theorem ns_congr {f g : Nat → Nat} : ∀ n, (∀ i, i < n → f i = g i) → ns f n = ns g n
  | 0, _ => rfl
  | n + 1, h => by
    show ns f n + f n = ns g n + g n
    rw [ns_congr n fun i hi => h i (by omega), h n (by omega)]
theorem ns_add (f g : Nat → Nat) : ∀ n, ns (fun i => f i + g i) n = ns f n + ns g n
  | 0 => rfl
  | n + 1 => by
    show ns _ n + (f n + g n) = (ns f n + f n) + (ns g n + g n)
    rw [ns_add f g n]; omega
theorem ns_zero : ∀ n, ns (fun _ => 0) n = 0
  | 0 => rfl
  | n + 1 => by show ns _ n + 0 = 0; rw [ns_zero n]
theorem ns_none {f : Nat → Nat} (n : Nat) (h : ∀ i, i < n → f i = 0) : ns f n = 0 := by rw [ns_congr n h, ns_zero]
theorem ns_mul (c : Nat) (f : Nat → Nat) : ∀ n, ns (fun i => c * f i) n = c * ns f n
  | 0 => (Nat.mul_zero c).symm
  | n + 1 => by
    show ns _ n + c * f n = c * (ns f n + f n)
    rw [ns_mul c f n, Nat.mul_add]
theorem ns_mul' (c : Nat) (f : Nat → Nat) (n : Nat) : ns (fun i => f i * c) n = ns f n * c := by
  rw [Nat.mul_comm, ← ns_mul]
  exact ns_congr n fun i _ => Nat.mul_comm _ _
theorem ns_first (f : Nat → Nat) : ∀ n, ns f (n + 1) = f 0 + ns (fun i => f (i + 1)) n
  | 0 => by show 0 + f 0 = f 0 + 0; omega
  | n + 1 => by
    show ns f (n + 1) + f (n + 1) = f 0 + (ns _ n + f (n + 1))
    rw [ns_first f n]; omega
theorem ns_split (f : Nat → Nat) (a : Nat) : ∀ n, ns f (a + n) = ns f a + ns (fun i => f (a + i)) n
  | 0 => rfl
  | n + 1 => by
    show ns f (a + n) + f (a + n) = ns f a + (ns _ n + f (a + n))
    rw [ns_split f a n]; omega
theorem ns_swap (f : Nat → Nat → Nat) (m : Nat) : ∀ n, ns (fun i => ns (fun j => f i j) m) n = ns (fun j => ns (fun i => f i j) n) m
  | 0 => by show 0 = ns (fun _ => 0) m; rw [ns_zero]
  | n + 1 => by
    show ns _ n + ns _ m = _
    rw [ns_swap f m n, ← ns_add]
    rfl
theorem ns_rev (f : Nat → Nat) : ∀ n, ns (fun i => f (n - 1 - i)) n = ns f n
  | 0 => rfl
  | n + 1 => by
    rw [ns_first]
    have : ns (fun i => f (n + 1 - 1 - (i + 1))) n = ns (fun i => f (n - 1 - i)) n := ns_congr _ fun i _ => by rw [show n + 1 - 1 - (i + 1) = n - 1 - i by omega]
    rw [this, ns_rev f n]
    show f (n + 1 - 1 - 0) + ns f n = ns f n + f n
    rw [show n + 1 - 1 - 0 = n by omega]
    omega
theorem ns_both {f : Nat → Nat} {a b : Nat} (h : ∀ i, min a b ≤ i → i < max a b → f i = 0) : ns f b = ns f a := by
  rcases Nat.le_total a b with hab | hab
  · obtain ⟨k, rfl⟩ : ∃ k, b = a + k := ⟨b - a, by omega⟩
    rw [ns_split, ns_none k fun i hi => h _ (by omega) (by omega)]
    rfl
  · obtain ⟨k, rfl⟩ : ∃ k, a = b + k := ⟨a - b, by omega⟩
    rw [ns_split, ns_none k fun i hi => h _ (by omega) (by omega)]
    rfl
/-- a sum whose terms in front vanish -/
theorem ns_drop {f : Nat → Nat} (a n : Nat) (h : ∀ i, i < a → f i = 0) : ns (fun i => f (a + i)) n = ns f (a + n) := by
  rw [ns_split, ns_none a h]; omega
theorem ns_one {f : Nat → Nat} {k : Nat} : ∀ n, k < n → (∀ i, i < n → i ≠ k → f i = 0) → ns f n = f k
  | 0, h, _ => by omega
  | n + 1, h, h0 => by
    show ns f n + f n = f k
    by_cases e : k = n
    · subst e
      rw [ns_none k fun i hi => h0 i (by omega) (by omega)]; omega
    · rw [ns_one n (by omega) fun i hi hn => h0 i (by omega) hn, h0 n (by omega) (by omega)]; omega
theorem ns_in {f : Nat → Nat} {k : Nat} : ∀ n, k < n → f k ≤ ns f n
  | 0, h => by omega
  | n + 1, h => by
    show f k ≤ ns f n + f n
    by_cases e : k = n
    · subst e; omega
    · have := ns_in (f := f) n (k := k) (by omega); omega
/-- triangles by their diagonals -/
theorem tri_all (t : Nat → Nat → Nat) : ∀ k, ns (fun m => ns (t m) (k - m)) k = ns (fun v => ns (fun m => t m (v - m)) (v + 1)) k
  | 0 => rfl
  | k + 1 => by
    have h : ns (fun m => ns (t m) (k + 1 - m)) (k + 1) = ns (fun m => ns (t m) (k - m)) (k + 1) + ns (fun m => t m (k - m)) (k + 1) := by
      rw [← ns_add]
      refine ns_congr _ fun m hm => ?_
      rw [show k + 1 - m = (k - m) + 1 by omega]
      rfl
    have h2 : ns (fun m => ns (t m) (k - m)) (k + 1) = ns (fun m => ns (t m) (k - m)) k := by
      show _ + ns (t k) (k - k) = _
      rw [Nat.sub_self]
      rfl
    rw [h, h2, tri_all t k]
    rfl
theorem tri_swap (t : Nat → Nat → Nat) (k : Nat) : ns (fun g => ns (fun m => t g m) (k - g)) k = ns (fun m => ns (fun g => t g m) (k - m)) k := by
  rw [tri_all, tri_all]
  refine ns_congr _ fun v _ => ?_
  rw [← ns_rev (fun m => t m (v - m))]
  refine ns_congr _ fun m hm => ?_
  rw [show v + 1 - 1 - m = v - m by omega, show v - (v - m) = m by omega]
theorem bin_pow (a : Nat) : ∀ n, ns (fun k => Na.bin n k * a ^ k) (n + 1) = (a + 1) ^ n
  | 0 => by show 0 + Na.bin 0 0 * a ^ 0 = (a + 1) ^ 0; rw [Na.bin_zero]; simp
  | n + 1 => by
    rw [ns_first]
    have h : ns (fun i => Na.bin (n + 1) (i + 1) * a ^ (i + 1)) (n + 1) = a * ns (fun i => Na.bin n i * a ^ i) (n + 1) + ns (fun i => Na.bin n (i + 1) * a ^ (i + 1)) (n + 1) := by
      rw [← ns_mul, ← ns_add]
      refine ns_congr _ fun i _ => ?_
      rw [Na.bin_succ, Nat.add_mul, Nat.pow_succ, Nat.mul_comm (a ^ i) a, Nat.mul_left_comm]
    have h2 := ns_first (fun k => Na.bin n k * a ^ k) (n + 1)
    have h3 : ns (fun k => Na.bin n k * a ^ k) (n + 1 + 1) = ns (fun k => Na.bin n k * a ^ k) (n + 1) := by
      show _ + Na.bin n (n + 1) * _ = _
      rw [Na.bin_more (by omega)]; simp
    have ih := bin_pow a n
    rw [h3, ih] at h2
    rw [h, ih, Nat.pow_succ, Nat.mul_comm ((a + 1) ^ n), Nat.add_mul]
    simp only [Na.bin_zero, Nat.pow_zero] at h2 ⊢
    omega
theorem vander (a b : Nat) : ∀ v, ns (fun m => Na.bin a (v - m) * Na.bin b m) (v + 1) = Na.bin (a + b) v := by
  induction b with
  | zero =>
    intro v
    rw [ns_one (k := 0) _ (by omega) fun i hi hn => by
      obtain ⟨j, rfl⟩ : ∃ j, i = j + 1 := ⟨i - 1, by omega⟩
      rw [Na.bin_more (show 0 < j + 1 by omega)]; rfl]
    rw [Na.bin_zero, Nat.sub_zero, Nat.mul_one, Nat.add_zero]
  | succ b ih =>
    intro v
    rcases v with _ | v
    · show 0 + Na.bin a (0 - 0) * Na.bin (b + 1) 0 = Na.bin (a + (b + 1)) 0
      rw [Na.bin_zero, Na.bin_zero, Na.bin_zero]
    · rw [ns_first]
      have h : ns (fun i => Na.bin a (v + 1 - (i + 1)) * Na.bin (b + 1) (i + 1)) (v + 1) = ns (fun i => Na.bin a (v - i) * Na.bin b i) (v + 1) + ns (fun i => Na.bin a (v + 1 - (i + 1)) * Na.bin b (i + 1)) (v + 1) := by
        rw [← ns_add]
        refine ns_congr _ fun i _ => ?_
        rw [Na.bin_succ, Nat.mul_add, show v + 1 - (i + 1) = v - i by omega]
      have h2 := ns_first (fun m => Na.bin a (v + 1 - m) * Na.bin b m) (v + 1)
      rw [ih (v + 1)] at h2
      rw [h, ih v, show a + (b + 1) = (a + b) + 1 by omega, Na.bin_succ, h2, Na.bin_zero, Na.bin_zero]
      omega
/-- k marked ones of u, of which g are of one kind -/
theorem bin_tri : ∀ (u k g : Nat), g ≤ k → Na.bin u g * Na.bin (u - g) (k - g) = Na.bin u k * Na.bin k g := by
  intro u
  induction u with
  | zero =>
    intro k g h
    rcases k with _ | k
    · obtain rfl : g = 0 := by omega
      rfl
    · rw [Na.bin_more (show 0 < k + 1 by omega)]
      rcases g with _ | g
      · rw [Nat.sub_zero, Nat.sub_zero, Na.bin_more (show 0 < k + 1 by omega)]; simp
      · rw [Na.bin_more (show 0 < g + 1 by omega)]; simp
  | succ u ih =>
    intro k g h
    rcases g with _ | g
    · rw [Na.bin_zero, Na.bin_zero, Nat.sub_zero, Nat.sub_zero]; omega
    · obtain ⟨k, rfl⟩ : ∃ j, k = j + 1 := ⟨k - 1, by omega⟩
      have h1 := ih k g (by omega)
      have ea : (g + 1) * Na.bin (u + 1) (g + 1) = (u + 1) * Na.bin u g := Na.bin_absorb u g
      have eb : (k + 1) * Na.bin (u + 1) (k + 1) = (u + 1) * Na.bin u k := Na.bin_absorb u k
      have ec : (g + 1) * Na.bin (k + 1) (g + 1) = (k + 1) * Na.bin k g := Na.bin_absorb k g
      refine Nat.eq_of_mul_eq_mul_left (show 0 < g + 1 by omega) ?_
      rw [show u + 1 - (g + 1) = u - g by omega, show k + 1 - (g + 1) = k - g by omega, ← Nat.mul_assoc, ea, Nat.mul_assoc, h1]
      calc (u + 1) * (Na.bin u k * Na.bin k g) = ((u + 1) * Na.bin u k) * Na.bin k g := (Nat.mul_assoc _ _ _).symm
        _ = ((k + 1) * Na.bin (u + 1) (k + 1)) * Na.bin k g := by rw [eb]
        _ = Na.bin (u + 1) (k + 1) * ((k + 1) * Na.bin k g) := by rw [Nat.mul_comm (k + 1), Nat.mul_assoc]
        _ = Na.bin (u + 1) (k + 1) * ((g + 1) * Na.bin (k + 1) (g + 1)) := by rw [ec]
        _ = (g + 1) * (Na.bin (u + 1) (k + 1) * Na.bin (k + 1) (g + 1)) := Nat.mul_left_comm _ _ _
/-- g lost, o changed, m new bytes -/
def nt (n u g o m : Nat) : Nat := Na.bin u g * Na.bin (u - g) o * 254 ^ o * Na.bin (n - u) m * 255 ^ m
/-- words with w bytes that are corrected to one with u bytes -/
def nr (n f u w : Nat) : Nat := ns (fun g => if u ≤ w + g then ns (fun o => nt n u g o (w + g - u)) (f + 1 - g - (w + g - u)) else 0) (f + 1)
/-- errors of w bytes that pass -/
def wr (n c f w : Nat) : Nat := ns (fun i => wd n c (i + 1) * nr n f (i + 1) w) n
def bl (n f : Nat) : Nat := ns (fun v => Na.bin n v * 255 ^ v) (f + 1)
theorem nt_lost {n u g o m : Nat} (h : u < g) : nt n u g o m = 0 := by unfold nt; rw [Na.bin_more h]; simp
theorem nt_new {n u g o m : Nat} (h : n - u < m) : nt n u g o m = 0 := by unfold nt; rw [Na.bin_more h]; simp
theorem nr_out {n f u w : Nat} (h : u < w - f ∨ w + f < u) : nr n f u w = 0 := by
  refine ns_none _ fun g hg => ?_
  rcases h with h | h
  · rw [if_pos (by omega), show f + 1 - g - (w + g - u) = 0 by omega]
    rfl
  · rw [if_neg (by omega)]
theorem ball {n u : Nat} (f : Nat) (hu : u ≤ n) : ns (nr n f u) (n + 1) = bl n f := by
  have e1 : ns (nr n f u) (n + 1) = ns (fun g => ns (fun m => ns (fun o => nt n u g o m) (f + 1 - g - m)) (f + 1 - g)) (f + 1) := by
    show ns (fun w => ns (fun g => if u ≤ w + g then ns (fun o => nt n u g o (w + g - u)) (f + 1 - g - (w + g - u)) else 0) (f + 1)) (n + 1) = _
    rw [ns_swap]
    refine ns_congr _ fun g hg => ?_
    rcases Nat.lt_or_ge u g with h1 | h1
    · rw [ns_none, ns_none]
      · intro m _; exact ns_none _ fun o _ => nt_lost h1
      · intro w _
        rw [ns_none _ fun o _ => nt_lost h1]
        exact ite_self _
    · rw [← ns_both (f := fun m => ns (fun o => nt n u g o m) (f + 1 - g - m)) (a := f + 1 - g) (b := n + 1 - (u - g))]
      · have h2 := ns_drop (f := fun w => if u ≤ w + g then ns (fun o => nt n u g o (w + g - u)) (f + 1 - g - (w + g - u)) else 0) (u - g) (n + 1 - (u - g)) fun i hi => if_neg (by omega)
        rw [show u - g + (n + 1 - (u - g)) = n + 1 by omega] at h2
        rw [← h2]
        refine ns_congr _ fun m _ => ?_
        show (if u ≤ u - g + m + g then _ else _) = _
        rw [if_pos (by omega), show u - g + m + g - u = m by omega]
      · intro m h3 h4
        rcases Nat.lt_or_ge m (f + 1 - g) with h5 | h5
        · exact ns_none _ fun o _ => nt_new (by omega)
        · show ns _ (f + 1 - g - m) = 0
          rw [show f + 1 - g - m = 0 by omega]
          rfl
  rw [e1]
  have e2 : ∀ g, ns (fun m => ns (fun o => nt n u g o m) (f + 1 - g - m)) (f + 1 - g) = ns (fun x => ns (fun m => nt n u g (x - m) m) (x + 1)) (f + 1 - g) := fun g => tri_all (fun m o => nt n u g o m) _
  rw [ns_congr _ fun g _ => e2 g, tri_all (fun g x => ns (fun m => nt n u g (x - m) m) (x + 1))]
  refine ns_congr _ fun v _ => ?_
  have e3 : ns (fun m => ns (fun m_1 => nt n u m (v - m - m_1) m_1) (v - m + 1)) (v + 1) = ns (fun g => ns (fun m => nt n u g (v - g - m) m) (v + 1 - g)) (v + 1) := by
    refine ns_congr _ fun g hg => ?_
    rw [show v - g + 1 = v + 1 - g by omega]
  rw [e3, tri_swap (fun g m => nt n u g (v - g - m) m)]
  have e4 : ∀ m, m < v + 1 → ns (fun g => nt n u g (v - g - m) m) (v + 1 - m) = 255 ^ v * (Na.bin u (v - m) * Na.bin (n - u) m) := by
    intro m hm
    obtain ⟨k, hk⟩ : ∃ k, k = v - m := ⟨_, rfl⟩
    have e5 : ∀ g, g < k + 1 → nt n u g (v - g - m) m = (Na.bin k (k - g) * 254 ^ (k - g)) * (Na.bin u k * Na.bin (n - u) m * 255 ^ m) := by
      intro g hg
      unfold nt
      rw [show v - g - m = k - g by omega, bin_tri u k g (by omega), Na.bin_symm (show g ≤ k by omega)]
      simp only [Nat.mul_comm, Nat.mul_left_comm, Nat.mul_assoc]
    rw [show v + 1 - m = k + 1 by omega, ns_congr _ e5, ns_mul']
    have e6 := ns_rev (fun g => Na.bin k g * 254 ^ g) (k + 1)
    rw [bin_pow] at e6
    have e7 : ns (fun g => Na.bin k (k - g) * 254 ^ (k - g)) (k + 1) = 255 ^ k := e6
    rw [e7, ← hk, show v = k + m by omega, Nat.pow_add]
    simp only [Nat.mul_comm, Nat.mul_left_comm, Nat.mul_assoc]
  rw [ns_congr _ e4, ns_mul, vander, show u + (n - u) = n by omega, Nat.mul_comm]
theorem wd_rest (n c : Nat) (h : c < n) (hn : n ≤ 256) : ns (fun i => wd n c (i + 1)) n = 256 ^ (n - c) - 1 := by
  have h1 := wd_all n c h hn
  rw [ns_first] at h1
  have : wd n c 0 = 1 := rfl
  omega
/-- the errors that pass, in all -/
theorem wr_all (n c f : Nat) (h : c < n) (hn : n ≤ 256) : ns (wr n c f) (n + 1) = (256 ^ (n - c) - 1) * bl n f := by
  show ns (fun w => ns (fun i => wd n c (i + 1) * nr n f (i + 1) w) n) (n + 1) = _
  rw [ns_swap, ← wd_rest n c h hn, ← ns_mul']
  refine ns_congr _ fun i hi => ?_
  rw [ns_mul, ball f (by omega)]
/-- the program's range of u -/
theorem wr_range (n c f w : Nat) (hw : w ≤ n) : ns (fun i => wd n c (max 1 (w - f) + i) * nr n f (max 1 (w - f) + i) w) (min n (w + f) + 1 - max 1 (w - f)) = wr n c f w := by
  obtain ⟨a, ha⟩ : ∃ a, max 1 (w - f) = a + 1 := ⟨max 1 (w - f) - 1, by omega⟩
  rw [ha]
  have e : ns (fun i => wd n c (a + 1 + i) * nr n f (a + 1 + i) w) (min n (w + f) + 1 - (a + 1)) = ns (fun i => (fun i => wd n c (i + 1) * nr n f (i + 1) w) (a + i)) (min n (w + f) + 1 - (a + 1)) := ns_congr _ fun i _ => by show _ = wd n c (a + i + 1) * nr n f (a + i + 1) w; rw [show a + 1 + i = a + i + 1 by omega]
  rw [e, ns_drop (f := fun i => wd n c (i + 1) * nr n f (i + 1) w)]
  · unfold wr
    refine (ns_both ?_).symm
    intro i h1 h2
    show wd n c (i + 1) * nr n f (i + 1) w = 0
    rw [nr_out (by omega), Nat.mul_zero]
  · intro i hi
    show wd n c (i + 1) * nr n f (i + 1) w = 0
    rw [nr_out (by omega), Nat.mul_zero]
end Ch
end Go.Proofs.YtdjfbbfbdgiblaaGreatDoor

namespace Go.Proofs.YtdjfbbfbdgiblaaGreatDoor
set_option linter.unusedVariables false
namespace Ch
/-- the coefficients of the product of all 1 + x z -/
def E : List Int → Nat → Int
  | [], 0 => 1
  | [], _ + 1 => 0
  | _ :: _, 0 => 1
  | x :: l, w + 1 => E l (w + 1) + x * E l w
theorem E_zero (l : List Int) : E l 0 = 1 := by cases l <;> rfl
theorem E_succ (x : Int) (l : List Int) (w : Nat) : E (x :: l) (w + 1) = E l (w + 1) + x * E l w := rfl
theorem E_swap (x y : Int) (l : List Int) : ∀ w, E (x :: y :: l) w = E (y :: x :: l) w
  | 0 => rfl
  | 1 => by
    simp only [E_succ, E_zero]
    omega
  | w + 2 => by
    simp only [E_succ, Int.mul_add]
    rw [Int.mul_left_comm x y]
    omega
theorem E_cons {x : Int} {l m : List Int} (h : ∀ w, E l w = E m w) : ∀ w, E (x :: l) w = E (x :: m) w
  | 0 => rfl
  | w + 1 => by rw [E_succ, E_succ, h, h]
theorem E_perm {l m : List Int} (h : l.Perm m) : ∀ w, E l w = E m w := by
  induction h with
  | nil => intro w; rfl
  | cons x _ ih => exact E_cons ih
  | swap x y l => intro w; exact E_swap y x l w
  | trans _ _ h1 h2 => intro w; rw [h1, h2]
theorem E_more : ∀ (l : List Int) (w : Nat), l.length < w → E l w = 0
  | [], 0, h => by simp at h
  | [], _ + 1, _ => rfl
  | x :: l, 0, h => by simp at h
  | x :: l, w + 1, h => by
    have h1 : l.length < w := by simpa using h
    rw [E_succ, E_more l (w + 1) (by omega), E_more l w h1]; simp
/-- signs: the first ones are negative -/
def sl (odd : Nat) : Nat → List Int
  | 0 => []
  | b + 1 => (if b < odd then -1 else 1) :: sl odd b
def Pm (l : List Int) : Prop := ∀ x ∈ l, x = 1 ∨ x = -1
def neg (l : List Int) : Nat := l.countP (· == -1)
theorem pm_perm : ∀ (l : List Int), Pm l → l.Perm (List.replicate (neg l) (-1) ++ List.replicate (l.length - neg l) 1)
  | [], _ => List.Perm.refl _
  | x :: l, h => by
    have ih := pm_perm l fun y hy => h y (List.mem_cons_of_mem _ hy)
    have hle : neg l ≤ l.length := List.countP_le_length
    rcases h x List.mem_cons_self with rfl | rfl
    · have e : neg (1 :: l) = neg l := by unfold neg; rw [List.countP_cons]; rfl
      rw [e, List.length_cons, show l.length + 1 - neg l = (l.length - neg l) + 1 by omega, List.replicate_succ]
      exact (List.Perm.cons 1 ih).trans List.perm_middle.symm
    · have e : neg (-1 :: l) = neg l + 1 := by unfold neg; rw [List.countP_cons]; rfl
      rw [e, List.length_cons, show l.length + 1 - (neg l + 1) = l.length - neg l by omega, List.replicate_succ]
      exact List.Perm.cons (-1) ih
theorem E_pm {l m : List Int} (hl : Pm l) (hm : Pm m) (h1 : l.length = m.length) (h2 : neg l = neg m) (w : Nat) : E l w = E m w := by
  refine E_perm ?_ w
  have e := pm_perm l hl
  rw [h1, h2] at e
  exact e.trans (pm_perm m hm).symm
theorem sl_pm (odd : Nat) : ∀ b, Pm (sl odd b) ∧ (sl odd b).length = b ∧ neg (sl odd b) = min odd b
  | 0 => ⟨fun x hx => absurd hx (by simp [sl]), rfl, by show 0 = min odd 0; omega⟩
  | b + 1 => by
    obtain ⟨h1, h2, h3⟩ := sl_pm odd b
    refine ⟨?_, by show (sl odd b).length + 1 = _; rw [h2], ?_⟩
    · intro x hx
      rcases List.mem_cons.1 hx with h | h
      · rw [h]; split
        · exact .inr rfl
        · exact .inl rfl
      · exact h1 x h
    · unfold neg at h3 ⊢
      show List.countP _ ((if b < odd then -1 else 1) :: sl odd b) = _
      rw [List.countP_cons, h3]
      by_cases h : b < odd
      · rw [if_pos h]
        show min odd b + 1 = _
        omega
      · rw [if_neg h]
        show min odd b + 0 = _
        omega
def ls : List Int → Int
  | [] => 0
  | x :: l => x + ls l
theorem pm_sum2 : ∀ (l : List Int), Pm l → ls l = (l.length : Int) - 2 * (neg l : Int)
  | [], _ => rfl
  | x :: l, h => by
    have ih := pm_sum2 l fun y hy => h y (List.mem_cons_of_mem _ hy)
    show x + ls l = _
    rw [ih, List.length_cons]
    rcases h x List.mem_cons_self with rfl | rfl
    · have e : neg (1 :: l) = neg l := by unfold neg; rw [List.countP_cons]; rfl
      rw [e]; omega
    · have e : neg (-1 :: l) = neg l + 1 := by unfold neg; rw [List.countP_cons]; rfl
      rw [e]; omega
/-- the parity of a byte's bits -/
def par (x : Nat) : Bool := (x.testBit 0 ^^ x.testBit 1 ^^ x.testBit 2 ^^ x.testBit 3 ^^ x.testBit 4 ^^ x.testBit 5 ^^ x.testBit 6 ^^ x.testBit 7)
theorem x4 (a c b d : Bool) : ((a ^^ c) ^^ (b ^^ d)) = ((a ^^ b) ^^ (c ^^ d)) := by cases a <;> cases b <;> cases c <;> cases d <;> rfl
theorem par_xor (a b : Nat) : par (a ^^^ b) = (par a ^^ par b) := by
  unfold par
  simp only [Nat.testBit_xor]
  generalize a.testBit 0 = a0; generalize a.testBit 1 = a1; generalize a.testBit 2 = a2; generalize a.testBit 3 = a3; generalize a.testBit 4 = a4; generalize a.testBit 5 = a5; generalize a.testBit 6 = a6; generalize a.testBit 7 = a7
  generalize b.testBit 0 = b0; generalize b.testBit 1 = b1; generalize b.testBit 2 = b2; generalize b.testBit 3 = b3; generalize b.testBit 4 = b4; generalize b.testBit 5 = b5; generalize b.testBit 6 = b6; generalize b.testBit 7 = b7
  rw [x4 a0 b0 a1 b1, x4 _ _ a2 b2, x4 _ _ a3 b3, x4 _ _ a4 b4, x4 _ _ a5 b5, x4 _ _ a6 b6, x4 _ _ a7 b7]
def chi (y s : Nat) : Int := if par (y &&& s) then -1 else 1
theorem chi_xor (y s c : Nat) : chi y (s ^^^ c) = chi y s * chi y c := by
  unfold chi
  rw [Nat.and_xor_distrib_left, par_xor]
  cases par (y &&& s) <;> cases par (y &&& c) <;> rfl
theorem chi_zero (y : Nat) : chi y 0 = 1 := by
  unfold chi
  rw [Nat.and_zero]
  rfl
theorem chi_pm (y : Nat) (l : List Nat) : Pm (l.map (chi y)) := by
  intro x hx
  obtain ⟨s, _, rfl⟩ := List.mem_map.1 hx
  unfold chi
  split
  · exact .inr rfl
  · exact .inl rfl
theorem xor_lt {a b : Nat} (ha : a < 256) (hb : b < 256) : a ^^^ b < 256 := Nat.xor_lt_two_pow (n := 8) ha hb
theorem xor_back (a b : Nat) : a ^^^ b ^^^ b = a := by rw [Nat.xor_assoc, Nat.xor_self, Nat.xor_zero]
theorem sm_xor (f : Nat → Int) {c : Nat} (hc : c < 256) : sm (fun s => f (s ^^^ c)) 256 = sm f 256 := by
  have e1 : sm (fun s => f (s ^^^ c)) 256 = sm (fun s => sm (fun t => if t = s ^^^ c then f t else 0) 256) 256 := by
    refine sm_congr _ fun s hs => ?_
    rw [sm_one (k := s ^^^ c) 256 (xor_lt hs hc) fun i _ hn => if_neg hn, if_pos rfl]
  rw [e1, sm_swap]
  refine sm_congr _ fun t ht => ?_
  rw [sm_one (k := t ^^^ c) 256 (xor_lt ht hc) fun i _ hn => if_neg fun e => hn (by rw [e, xor_back]), if_pos (by rw [xor_back])]
theorem chi_xor' (y c s : Nat) : chi (y ^^^ c) s = chi y s * chi c s := by
  unfold chi
  rw [Nat.and_xor_distrib_right, par_xor]
  cases par (y &&& s) <;> cases par (c &&& s) <;> rfl
theorem chi_odd : ∀ s : Fin 256, s.1 ≠ 0 → ∃ i : Fin 8, chi (2 ^ i.1) s.1 = -1 := by decide +kernel
theorem chi_sum (s : Fin 256) : sm (fun y => chi y s.1) 256 = if s.1 = 0 then 256 else 0 := by
  by_cases h : s.1 = 0
  · rw [if_pos h, h, sm_congr (g := fun _ => 1) 256 fun y _ => chi_zero y]
    decide +kernel
  · rw [if_neg h]
    obtain ⟨i, hi⟩ := chi_odd s h
    have hc : 2 ^ i.1 < 256 := by have := Nat.pow_lt_pow_right (a := 2) (by omega) i.2; omega
    have e := sm_xor (fun y => chi y s.1) hc
    have e2 : sm (fun y => chi (y ^^^ 2 ^ i.1) s.1) 256 = sm (fun y => (-1) * chi y s.1) 256 := sm_congr _ fun y _ => by rw [chi_xor', hi, Int.mul_comm]
    rw [e2, sm_mul] at e
    omega
/-- sets of w columns with the sum s -/
def cnt : List Nat → Nat → Nat → Nat
  | [], 0, s => if s = 0 then 1 else 0
  | [], _ + 1, _ => 0
  | _ :: _, 0, s => if s = 0 then 1 else 0
  | c :: l, w + 1, s => cnt l (w + 1) s + cnt l w (s ^^^ c)
theorem cnt_zero (l : List Nat) (s : Nat) : cnt l 0 s = if s = 0 then 1 else 0 := by cases l <;> rfl
/-- the characters of the numbers of sets -/
theorem fourier (y : Nat) : ∀ (l : List Nat), (∀ c ∈ l, c < 256) → ∀ w, sm (fun s => chi y s * (cnt l w s : Int)) 256 = E (l.map (chi y)) w
  | l, _, 0 => by
    rw [E_zero, sm_one (k := 0) 256 (by omega) fun i _ hn => by rw [cnt_zero, if_neg hn]; simp, cnt_zero, chi_zero]
    rfl
  | [], _, w + 1 => by
    show sm (fun s => chi y s * ((0 : Nat) : Int)) 256 = 0
    rw [← sm_zero 256]
    exact sm_congr _ fun i _ => by simp
  | c :: l, h, w + 1 => by
    have hl : ∀ c ∈ l, c < 256 := fun d hd => h d (List.mem_cons_of_mem _ hd)
    have hc : c < 256 := h c List.mem_cons_self
    have h1 := fourier y l hl (w + 1)
    have h2 := fourier y l hl w
    rw [List.map_cons, E_succ, ← h1, ← h2, ← sm_mul]
    have e := sm_xor (fun s => chi y (s ^^^ c) * (cnt l w s : Int)) hc
    have e2 : sm (fun s => chi y (s ^^^ c) * (cnt l w s : Int)) 256 = sm (fun s => chi y c * (chi y s * (cnt l w s : Int))) 256 := sm_congr _ fun s _ => by rw [chi_xor, Int.mul_comm (chi y s), Int.mul_assoc]
    rw [← e2, ← e, ← sm_add]
    refine sm_congr _ fun s _ => ?_
    show chi y s * ((cnt l (w + 1) s + cnt l w (s ^^^ c) : Nat) : Int) = _
    rw [xor_back, Int.natCast_add, Int.mul_add]
theorem invert (l : List Nat) (hl : ∀ c ∈ l, c < 256) (w : Nat) {c : Nat} (hc : c < 256) : sm (fun y => E (l.map (chi y)) w * chi y c) 256 = 256 * (cnt l w c : Int) := by
  have e1 : sm (fun y => E (l.map (chi y)) w * chi y c) 256 = sm (fun y => sm (fun s => (cnt l w s : Int) * chi y (s ^^^ c)) 256) 256 := by
    refine sm_congr _ fun y _ => ?_
    rw [← fourier y l hl w, Int.mul_comm, ← sm_mul]
    refine sm_congr _ fun s _ => ?_
    rw [chi_xor, Int.mul_left_comm, Int.mul_comm (chi y c), ← Int.mul_assoc, Int.mul_comm (chi y s), Int.mul_assoc]
  rw [e1, sm_swap]
  have e2 : ∀ s, s < 256 → sm (fun y => (cnt l w s : Int) * chi y (s ^^^ c)) 256 = (cnt l w s : Int) * (if s ^^^ c = 0 then 256 else 0) := by
    intro s hs
    rw [sm_mul]
    have := chi_sum ⟨s ^^^ c, xor_lt hs hc⟩
    rw [this]
  rw [sm_congr _ e2, sm_one (k := c) 256 hc fun i _ hn => ?_]
  · rw [if_pos (Nat.xor_self c), Int.mul_comm]
  · rw [if_neg fun e => hn ?_, Int.mul_zero]
    have h5 := xor_back i c
    rw [e, Nat.zero_xor] at h5
    exact h5.symm
def nl : List Nat → Nat
  | [] => 0
  | x :: l => x + nl l
/-- the sums with the syndrome 0 or that of a column -/
theorem passes (l : List Nat) (hl : ∀ c ∈ l, c < 256) (w : Nat) : ∀ (m : List Nat), (∀ c ∈ m, c < 256) → sm (fun y => E (l.map (chi y)) w * (1 + ls (m.map (chi y)))) 256 = 256 * ((cnt l w 0 + nl (m.map (cnt l w)) : Nat) : Int)
  | [], _ => by
    have h := invert l hl w (c := 0) (by omega)
    show _ = 256 * ((cnt l w 0 + 0 : Nat) : Int)
    rw [Nat.add_zero, ← h]
    refine sm_congr _ fun y _ => ?_
    rw [chi_zero]
    show E (l.map (chi y)) w * (1 + 0) = E (l.map (chi y)) w * 1
    rw [Int.add_zero]
  | c :: m, hm => by
    have ih := passes l hl w m fun d hd => hm d (List.mem_cons_of_mem _ hd)
    have h := invert l hl w (hm c List.mem_cons_self)
    have e : sm (fun y => E (l.map (chi y)) w * (1 + ls ((c :: m).map (chi y)))) 256 = sm (fun y => E (l.map (chi y)) w * (1 + ls (m.map (chi y)))) 256 + sm (fun y => E (l.map (chi y)) w * chi y c) 256 := by
      rw [← sm_add]
      refine sm_congr _ fun y _ => ?_
      have e3 : ls ((c :: m).map (chi y)) = chi y c + ls (m.map (chi y)) := rfl
      rw [← Int.mul_add, e3, Int.add_comm (chi y c), Int.add_assoc]
    rw [e, ih, h]
    show _ = 256 * ((cnt l w 0 + (cnt l w c + nl (m.map (cnt l w))) : Nat) : Int)
    omega
end Ch
end Go.Proofs.YtdjfbbfbdgiblaaGreatDoor

namespace Go.Proofs.YtdjfbbfbdgiblaaGreatDoor
set_option linter.unusedVariables false
namespace Ch
/-- how many bits of a byte are 1 -/
def pc (x : Nat) : Nat := (x.testBit 0).toNat + (x.testBit 1).toNat + (x.testBit 2).toNat + (x.testBit 3).toNat + (x.testBit 4).toNat + (x.testBit 5).toNat + (x.testBit 6).toNat + (x.testBit 7).toNat
def three : List Nat := (List.range 256).filter fun x => pc x == 3
def five : List Nat := (List.range 256).filter fun x => pc x == 5
def cols : List Nat := three ++ five.take 8 ++ [1, 2, 4, 8, 16, 32, 64, 128]
theorem cols_len : cols.length = 72 := by decide +kernel
theorem cols_lt : ∀ c ∈ cols, c < 256 := by decide +kernel
/-- on how many columns a character is odd -/
def odd (y : Nat) : Nat := neg (cols.map (chi y))
theorem odd_le (y : Nat) : odd y ≤ 72 := by
  have h : neg (cols.map (chi y)) ≤ (cols.map (chi y)).length := List.countP_le_length
  rw [List.length_map, cols_len] at h
  exact h
/-- how many characters are odd on o columns -/
def chn (o : Nat) : Nat := ns (fun y => if odd y = o then 1 else 0) 256
/-- the program's sum -/
def V (w : Nat) : Int := sm (fun o => E (sl o 72) w * ((chn o : Int) * (73 - 2 * (o : Int)))) 73
theorem E_odd (y w : Nat) : E (sl (odd y) 72) w = E (cols.map (chi y)) w := by
  obtain ⟨h1, h2, h3⟩ := sl_pm (odd y) 72
  refine E_pm h1 (chi_pm y cols) (by rw [h2, List.length_map, cols_len]) ?_ w
  have := odd_le y
  rw [h3]
  show min (odd y) 72 = odd y
  omega
theorem ls_odd (y : Nat) : 1 + ls (cols.map (chi y)) = 73 - 2 * (odd y : Int) := by
  rw [pm_sum2 _ (chi_pm y cols), List.length_map, cols_len]
  show 1 + ((72 : Nat) - 2 * (odd y : Int)) = _
  omega
theorem V_sum (w : Nat) : V w = sm (fun y => E (cols.map (chi y)) w * (1 + ls (cols.map (chi y)))) 256 := by
  have e1 : V w = sm (fun o => sm (fun y => if odd y = o then E (sl o 72) w * (73 - 2 * (o : Int)) else 0) 256) 73 := by
    refine sm_congr _ fun o _ => ?_
    have e2 : (chn o : Int) = sm (fun y => if odd y = o then 1 else 0) 256 := by
      unfold chn
      rw [ns_sm]
      refine sm_congr _ fun y _ => ?_
      split <;> rfl
    rw [e2, Int.mul_comm (sm _ 256), ← Int.mul_assoc, ← sm_mul]
    refine sm_congr _ fun y _ => ?_
    split
    · rw [Int.mul_one]
    · rw [Int.mul_zero]
  rw [e1, sm_swap]
  refine sm_congr _ fun y _ => ?_
  rw [sm_one (k := odd y) 73 (by have := odd_le y; omega) fun i _ hn => if_neg fun e => hn e.symm, if_pos rfl, E_odd, ls_odd]
/-- the sets of w bits with the syndrome 0 or that of a column -/
def all (w : Nat) : Nat := cnt cols w 0 + nl (cols.map (cnt cols w))
theorem V_all (w : Nat) : V w = 256 * (all w : Int) := by rw [V_sum, passes cols cols_lt w cols cols_lt]; rfl
/-- those that are corrected to the word that was there -/
def right (w : Nat) : Nat := if w = 0 then 1 else if w = 1 then 72 else 0
def pass (w : Nat) : Nat := all w - right w
theorem right_le (w : Nat) : right w ≤ all w := by
  unfold right
  split
  · next e => subst e; decide +kernel
  · split
    · next e => subst e; decide +kernel
    · exact Nat.zero_le _
theorem pass_eq (w : Nat) : V w - 256 * (right w : Int) = 256 * (pass w : Int) := by
  have := right_le w
  rw [V_all]
  unfold pass
  omega
theorem pass_few (w : Nat) (h : w ≤ 2) : pass w = 0 := by
  rcases (show w = 0 ∨ w = 1 ∨ w = 2 by omega) with rfl | rfl | rfl <;> decide +kernel
end Ch
end Go.Proofs.YtdjfbbfbdgiblaaGreatDoor

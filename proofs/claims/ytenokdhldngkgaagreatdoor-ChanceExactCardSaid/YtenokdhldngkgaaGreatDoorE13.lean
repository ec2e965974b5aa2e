/- PolyM PolyN PolyQ Sb Sc Sd Se Sf Sg FieldC Sh Si So Sq Dy Sx Dg Ca Cb Cc -/
import Derived.Test.YtenokdhldngkgaaGreatDoorE01
import Derived.Test.YtenokdhldngkgaaGreatDoorE02
import Derived.Test.YtenokdhldngkgaaGreatDoorE03
import Derived.Test.YtenokdhldngkgaaGreatDoorE04
import Derived.Test.YtenokdhldngkgaaGreatDoorE11
import Derived.Test.YtenokdhldngkgaaGreatDoorE12
import Derived.Lib.AppendZeros
import Derived.BigQuiet
import Derived.RegionTactic
import Derived.ChangeAlike
import Derived.Deep.RegionWith
import Derived.BigRegion
namespace Go.Proofs.YtenokdhldngkgaaGreatDoor
namespace Po
open Gf
def co (l : List UInt8) (i : Nat) : UInt8 := l[i]?.getD 0
theorem co_nil (i : Nat) : co [] i = 0 := rfl
theorem co_big (l : List UInt8) (i : Nat) (h : l.length ≤ i) : co l i = 0 := by
 unfold co
 rw [List.getElem?_eq_none h]
 rfl
theorem co_set (l : List UInt8) (k : Nat) (x : UInt8) (j : Nat) (h : k < l.length) : co (l.set k x) j = if j = k then x else co l j := by
 unfold co
 rw [List.getElem?_set]
 split
 ·rename_i e
  subst e
  rw [if_pos rfl]
  rfl
 ·rename_i e
  rw [if_neg (fun e' => e e'.symm)]
theorem co_replicate (n i : Nat) : co (List.replicate n 0) i = 0 := by
 unfold co
 rw [List.getElem?_replicate]
 split <;> rfl
theorem co_addTo (l r : List UInt8) (t : UInt8) (i : Nat) : ∀ k, i + k ≤ l.length → ∀ j, co (addTo l r t i k) j = co l j ^^^ (if i ≤ j ∧ j < i + k then gmul t (co r (j - i)) else 0) := by
 intro k
 induction k with
 | zero =>
  intro _ j
  rw [if_neg (by omega), UInt8.xor_zero]
  rfl
 | succ k ih =>
  intro hk j
  have e : co (addTo l r t i (k + 1)) j = co ((addTo l r t i k).set (i + k) (co (addTo l r t i k) (i + k) ^^^ gmul t (co r k))) j := rfl
  rw [e, co_set _ _ _ _ (by rw [addTo_length]; omega)]
  split
  ·rename_i hj
   subst hj
   rw [ih (by omega), if_neg (by omega), UInt8.xor_zero, if_pos (by omega), Nat.add_sub_cancel_left]
  ·rw [ih (by omega)]
   congr 1
   by_cases h : i ≤ j ∧ j < i + k
   ·rw [if_pos h, if_pos (by omega)]
   ·rw [if_neg h, if_neg (by omega)]
theorem co_addAt (l r : List UInt8) (t : UInt8) (i : Nat) (h : i + r.length ≤ l.length) (j : Nat) : co (addAt l r t i) j = co l j ^^^ (if i ≤ j then gmul t (co r (j - i)) else 0) := by
 unfold addAt
 rw [co_addTo l r t i r.length h j]
 congr 1
 by_cases h1 : i ≤ j
 ·by_cases h2 : j < i + r.length
  ·rw [if_pos ⟨h1, h2⟩, if_pos h1]
  ·rw [if_neg (by omega), if_pos h1, co_big r _ (by omega), gmul_zero]
 ·rw [if_neg (by omega), if_neg h1]
theorem co_take (l : List UInt8) (k i : Nat) : co (l.take k) i = if i < k then co l i else 0 := by
 unfold co
 rw [List.getElem?_take]
 split <;> rfl
theorem tl_zeros (l : List UInt8) : ∀ n i, tl l n ≤ i → i < n → co l i = 0 := by
 intro n
 induction n with
 | zero => intro i _ h; omega
 | succ n ih =>
  intro i h1 h2
  by_cases h : l[n]? = some 0
  ·rw [tl_zero l n h] at h1
   by_cases hi : i = n
   ·subst hi
    unfold co
    rw [h]
    rfl
   ·exact ih i h1 (by omega)
  ·rw [tl_stop l n h] at h1
   omega
theorem co_trim (l : List UInt8) (i : Nat) : co (trim l) i = co l i := by
 unfold trim
 rw [co_take]
 split
 ·rfl
 ·rcases Nat.lt_or_ge i l.length with h | h
  ·exact (tl_zeros l l.length i (by omega) h).symm
  ·exact (co_big l i h).symm
theorem vld_top (l : List UInt8) (hv : vld l = true) (h : 0 < l.length) : co l (l.length - 1) ≠ 0 := by
 unfold vld at hv
 simp only [Bool.and_eq_true, bne_iff_ne, ne_eq] at hv
 intro e
 apply hv.2
 rw [List.getLast?_eq_getElem?, List.getElem?_eq_getElem (by omega)]
 unfold co at e
 rw [List.getElem?_eq_getElem (by omega)] at e
 exact congrArg some e
theorem co_padd (p q : List UInt8) (i : Nat) : co (padd p q) i = co p i ^^^ co q i := by
 unfold padd
 rw [co_addAt _ _ _ _ (by rw [addAt_length, List.length_replicate]; omega), co_addAt _ _ _ _ (by rw [List.length_replicate]; omega), co_replicate, if_pos (Nat.zero_le _), if_pos (Nat.zero_le _), one_gmul, one_gmul, UInt8.zero_xor]
 rfl

def sumX (f : Nat → UInt8) : Nat → UInt8
 | 0 => 0
 | k + 1 => sumX f k ^^^ f k
theorem sumX_congr {f g : Nat → UInt8} {n : Nat} (h : ∀ i, i < n → f i = g i) : sumX f n = sumX g n := by
 induction n with
 | zero => rfl
 | succ n ih => rw [sumX, sumX, ih (fun i hi => h i (by omega)), h n (by omega)]
theorem sumX_zero (n : Nat) : sumX (fun _ => 0) n = 0 := by
 induction n with
 | zero => rfl
 | succ n ih => rw [sumX, ih]; rfl
theorem sumX_add (f g : Nat → UInt8) (n : Nat) : sumX (fun i => f i ^^^ g i) n = sumX f n ^^^ sumX g n := by
 induction n with
 | zero => exact (UInt8.xor_self).symm
 | succ n ih => rw [sumX, sumX, sumX, ih, xor4]
theorem sumX_mul (c : UInt8) (f : Nat → UInt8) (n : Nat) : sumX (fun i => gmul c (f i)) n = gmul c (sumX f n) := by
 induction n with
 | zero => exact (gmul_zero c).symm
 | succ n ih => rw [sumX, sumX, ih, gmul_add]
theorem sumX_left (f : Nat → UInt8) (n : Nat) : sumX f (n + 1) = f 0 ^^^ sumX (fun i => f (i + 1)) n := by
 induction n with
 | zero => rw [sumX, sumX, sumX, UInt8.zero_xor, UInt8.xor_zero]
 | succ n ih => rw [sumX, ih, sumX, UInt8.xor_assoc]
theorem sumX_rev (f : Nat → UInt8) (n : Nat) : sumX (fun i => f (n - i)) (n + 1) = sumX f (n + 1) := by
 induction n generalizing f with
 | zero => rfl
 | succ n ih =>
  rw [sumX_left]
  have e : sumX (fun i => f (n + 1 - (i + 1))) (n + 1) = sumX (fun i => f (n - i)) (n + 1) := sumX_congr (fun i _ => by congr 1; omega)
  rw [e, ih f]
  conv => rhs; rw [sumX]
  rw [UInt8.xor_comm]
  rfl
def cv (f g : Nat → UInt8) (n : Nat) : UInt8 := sumX (fun i => gmul (f i) (g (n - i))) (n + 1)
def shift (f : Nat → UInt8) : Nat → UInt8
 | 0 => 0
 | n + 1 => f n
theorem cv_comm (f g : Nat → UInt8) (n : Nat) : cv f g n = cv g f n := by
 unfold cv
 rw [← sumX_rev]
 refine sumX_congr (fun i hi => ?_)
 show gmul (f (n - i)) (g (n - (n - i))) = _
 rw [gmul_comm, show n - (n - i) = i from by omega]
theorem cv_congr {f f' g g' : Nat → UInt8} (h : ∀ i, f i = f' i) (h' : ∀ i, g i = g' i) (n : Nat) : cv f g n = cv f' g' n := by
 unfold cv
 exact sumX_congr (fun i _ => by rw [h, h'])
theorem cv_add_right (f g h : Nat → UInt8) (n : Nat) : cv f (fun i => g i ^^^ h i) n = cv f g n ^^^ cv f h n := by
 unfold cv
 rw [← sumX_add]
 exact sumX_congr (fun i _ => gmul_add _ _ _)
theorem cv_add_left (f g h : Nat → UInt8) (n : Nat) : cv (fun i => f i ^^^ g i) h n = cv f h n ^^^ cv g h n := by
 rw [cv_comm, cv_add_right, cv_comm h f, cv_comm h g]
theorem cv_mul_right (c : UInt8) (f g : Nat → UInt8) (n : Nat) : cv f (fun i => gmul c (g i)) n = gmul c (cv f g n) := by
 unfold cv
 rw [← sumX_mul]
 refine sumX_congr (fun i _ => ?_)
 rw [← gmul_assoc, ← gmul_assoc, gmul_comm (f i) c]
theorem cv_mul_left (c : UInt8) (f g : Nat → UInt8) (n : Nat) : cv (fun i => gmul c (f i)) g n = gmul c (cv f g n) := by
 rw [cv_comm, cv_mul_right, cv_comm]
theorem cv_shift_left (f g : Nat → UInt8) (n : Nat) : cv (shift f) g n = shift (cv f g) n := by
 cases n with
 | zero =>
  show sumX _ 1 = 0
  rw [sumX, sumX, UInt8.zero_xor]
  exact zero_gmul _
 | succ n =>
  show cv (shift f) g (n + 1) = cv f g n
  unfold cv
  rw [sumX_left]
  show gmul 0 _ ^^^ _ = _
  rw [zero_gmul, UInt8.zero_xor]
  exact sumX_congr (fun i hi => by show gmul (f i) (g (n + 1 - (i + 1))) = _; congr 2; omega)
theorem cv_nil (g : Nat → UInt8) (n : Nat) : cv (co []) g n = 0 := by
 unfold cv
 rw [sumX_congr (g := fun _ => 0) (fun i _ => by rw [co_nil, zero_gmul]), sumX_zero]
theorem cv_cons (a : UInt8) (p : List UInt8) (g : Nat → UInt8) (n : Nat) : cv (co (a :: p)) g n = gmul a (g n) ^^^ shift (cv (co p) g) n := by
 rw [← cv_shift_left]
 unfold cv
 rw [sumX_left, sumX_left (fun i => gmul (shift (co p) i) (g (n - i)))]
 show gmul a (g n) ^^^ _ = _ ^^^ (gmul 0 _ ^^^ _)
 rw [zero_gmul, UInt8.zero_xor]
 congr 1
theorem shift_congr {f g : Nat → UInt8} (h : ∀ i, f i = g i) (n : Nat) : shift f n = shift g n := by
 cases n with
 | zero => rfl
 | succ n => exact h n
theorem cv_assoc (p : List UInt8) (g h : Nat → UInt8) : ∀ n, cv (co p) (cv g h) n = cv (cv (co p) g) h n := by
 induction p with
 | nil =>
  intro n
  rw [cv_nil, cv_congr (f' := fun _ => 0) (g' := h) (fun i => cv_nil g i) (fun _ => rfl)]
  exact (cv_nil h n).symm
 | cons a p ih =>
  intro n
  rw [cv_cons, cv_congr (f' := fun i => gmul a (g i) ^^^ shift (cv (co p) g) i) (g' := h) (fun i => cv_cons a p g i) (fun _ => rfl), cv_add_left, cv_mul_left, cv_shift_left]
  congr 1
  exact shift_congr ih n

theorem co_mulTo (p q : List UInt8) (hq : 0 < q.length) : ∀ k, k ≤ p.length → ∀ n, co (mulTo p q k) n = sumX (fun i => if i ≤ n then gmul (co p i) (co q (n - i)) else 0) k := by
 intro k
 induction k with
 | zero =>
  intro _ n
  rw [mulTo, co_replicate]
  rfl
 | succ k ih =>
  intro hk n
  rw [mulTo, co_addAt _ _ _ _ (by rw [mulTo_length]; omega), ih (by omega), sumX]
  rfl
theorem sumX_split (f : Nat → UInt8) (m n : Nat) (h : m ≤ n) (hf : ∀ i, m ≤ i → i < n → f i = 0) : sumX f n = sumX f m := by
 induction n with
 | zero =>
  have : m = 0 := by omega
  rw [this]
 | succ n ih =>
  by_cases e : m = n + 1
  ·rw [e]
  ·rw [sumX, ih (by omega) (fun i h1 h2 => hf i h1 (by omega)), hf n (by omega) (by omega), UInt8.xor_zero]
theorem co_mulA (p q : List UInt8) (hq : 0 < q.length) (n : Nat) : co (mulA p q) n = cv (co p) (co q) n := by
 unfold mulA cv
 rw [co_mulTo p q hq _ (Nat.le_refl _)]
 rcases Nat.lt_or_ge n p.length with h | h
 ·rw [sumX_split _ (n + 1) p.length (by omega) (fun i h1 _ => if_neg (by omega))]
  exact sumX_congr (fun i hi => if_pos (by omega))
 ·rw [sumX_split (fun i => gmul (co p i) (co q (n - i))) p.length (n + 1) (by omega) (fun i h1 _ => by rw [co_big p i h1, zero_gmul])]
  exact sumX_congr (fun i hi => if_pos (by omega))

end Po
namespace Po
open Gf
def addV (p q : List UInt8) : List UInt8 := trim (padd p q)
def mulV (p q : List UInt8) : List UInt8 := if mulB p q then [] else mulA p q
theorem co_addV (p q : List UInt8) (i : Nat) : co (addV p q) i = co p i ^^^ co q i := by unfold addV; rw [co_trim, co_padd]
theorem mulV_pos (p q : List UInt8) (hp : 0 < p.length) (hq : 0 < q.length) : mulV p q = mulA p q := by
 unfold mulV mulB
 rw [decide_eq_false (by omega), decide_eq_false (by omega)]
 rfl
theorem mulV_empty (p q : List UInt8) (h : p.length = 0 ∨ q.length = 0) : mulV p q = [] := by
 unfold mulV mulB
 rcases h with h | h
 ·rw [decide_eq_true h]; rfl
 ·rw [decide_eq_true h, Bool.or_true]; rfl
theorem co_mulV (p q : List UInt8) (n : Nat) : co (mulV p q) n = cv (co p) (co q) n := by
 rcases Nat.eq_zero_or_pos p.length with h | h
 ·rw [mulV_empty p q (.inl h), List.eq_nil_of_length_eq_zero h, cv_nil]
  rfl
 ·rcases Nat.eq_zero_or_pos q.length with h' | h'
  ·rw [mulV_empty p q (.inr h'), List.eq_nil_of_length_eq_zero h', cv_comm, cv_nil]
   rfl
  ·rw [mulV_pos p q h h', co_mulA p q h']
theorem sumX_single (f : Nat → UInt8) (n k : Nat) (hk : k < n) (h : ∀ i, i < n → i ≠ k → f i = 0) : sumX f n = f k := by
 induction n with
 | zero => omega
 | succ n ih =>
  rw [sumX]
  by_cases e : k = n
  ·subst e
   rw [sumX_congr (g := fun _ => 0) (fun i hi => h i (by omega) (by omega)), sumX_zero, UInt8.zero_xor]
  ·rw [ih (by omega) (fun i h1 h2 => h i (by omega) h2), h n (by omega) (fun x => e x.symm), UInt8.xor_zero]
end Po
namespace Po
open Gf
theorem cv_delta (f : UInt8) (a : Nat) (g : Nat → UInt8) (n : Nat) : cv (fun i => if i = a then f else 0) g n = if a ≤ n then gmul f (g (n - a)) else 0 := by
 unfold cv
 by_cases h : a ≤ n
 ·rw [if_pos h, sumX_single _ _ a (by omega) (fun i _ hi => by show gmul (if i = a then f else 0) _ = 0; rw [if_neg hi, zero_gmul])]
  show gmul (if a = a then f else 0) _ = _
  rw [if_pos rfl]
 ·rw [if_neg h, sumX_congr (g := fun _ => 0) (fun i hi => by show gmul (if i = a then f else 0) _ = 0; rw [if_neg (by omega), zero_gmul]), sumX_zero]
section
variable (p q : List UInt8) (lead : UInt8) (hq : 0 < q.length) (hpq : q.length ≤ p.length)
theorem dv_quot_zero : ∀ j, ∀ i, i + j ≤ p.length - q.length → co (dv p q lead j).2 i = 0 := by
 intro j
 induction j with
 | zero => intro i _; rw [dv]; exact co_replicate _ _
 | succ j ih =>
  intro i hi
  rw [dv]
  simp only
  rw [co_set _ _ _ _ (by rw [(dv_len p q lead j).2]; omega), if_neg (by omega)]
  exact ih i (by omega)
include hpq in
theorem dv_id : ∀ j, j ≤ p.length - q.length + 1 → ∀ i, co p i = co (dv p q lead j).1 i ^^^ cv (co (dv p q lead j).2) (co q) i := by
 intro j
 induction j with
 | zero =>
  intro _ i
  rw [dv]
  simp only
  rw [cv_congr (f' := co []) (g' := co q) (fun k => co_replicate _ k) (fun _ => rfl), cv_nil, UInt8.xor_zero]
 | succ j ih =>
  intro hj i
  obtain ⟨l1, l2⟩ := dv_len p q lead j
  have hz := dv_quot_zero p q lead j (p.length - q.length - j) (by omega)
  rw [dv]
  simp only
  generalize gmul ((dv p q lead j).1[p.length - q.length - j + q.length - 1]?.getD 0) lead = f
  rw [co_addAt _ _ _ _ (by rw [l1]; omega)]
  have e1 : cv (co ((dv p q lead j).2.set (p.length - q.length - j) f)) (co q) i = cv (co (dv p q lead j).2) (co q) i ^^^ (if p.length - q.length - j ≤ i then gmul f (co q (i - (p.length - q.length - j))) else 0) := by
   rw [← cv_delta, ← cv_add_left]
   refine cv_congr (fun k => ?_) (fun _ => rfl) i
   rw [co_set _ _ _ _ (by rw [l2]; omega)]
   by_cases hk : k = p.length - q.length - j
   ·rw [if_pos hk, if_pos hk, hk, hz, UInt8.zero_xor]
   ·rw [if_neg hk, if_neg hk, UInt8.xor_zero]
  rw [e1, ih (by omega) i]
  generalize (if p.length - q.length - j ≤ i then gmul f (co q (i - (p.length - q.length - j))) else 0) = z
  rw [UInt8.xor_assoc, UInt8.xor_comm z, UInt8.xor_assoc, UInt8.xor_self, UInt8.xor_zero]
include hq hpq in
theorem dv_rest_zero (hl : lead = ginv (co q (q.length - 1))) (hne : co q (q.length - 1) ≠ 0) : ∀ j, j ≤ p.length - q.length + 1 → ∀ i, p.length ≤ i + j → co (dv p q lead j).1 i = 0 := by
 intro j
 induction j with
 | zero => intro _ i hi; rw [dv]; exact co_big _ _ (by simpa using hi)
 | succ j ih =>
  intro hj i hi
  obtain ⟨l1, l2⟩ := dv_len p q lead j
  rw [dv]
  simp only
  rw [co_addAt _ _ _ _ (by rw [l1]; omega)]
  have hb : (dv p q lead j).1[p.length - q.length - j + q.length - 1]?.getD 0 = co (dv p q lead j).1 (p.length - j - 1) := by
   unfold co
   rw [show p.length - q.length - j + q.length - 1 = p.length - j - 1 by omega]
  rw [hb]
  by_cases h1 : i = p.length - j - 1
  ·rw [if_pos (by omega), h1, show p.length - j - 1 - (p.length - q.length - j) = q.length - 1 by omega, hl, gmul_assoc, ginv_mul _ hne, gmul_one, UInt8.xor_self]
  ·rw [ih (by omega) i (by omega)]
   rw [co_big q _ (by omega), gmul_zero]
   split <;> rfl
end
theorem div_co (p q : List UInt8) (hq : 0 < q.length) (hne : co q (q.length - 1) ≠ 0) (i : Nat) : co p i = co (rem p q) i ^^^ cv (co (quo p q)) (co q) i := by
 unfold rem quo
 by_cases h : p.length < q.length
 ·rw [if_pos h, if_pos h, cv_nil, UInt8.xor_zero]
 ·rw [if_neg h, if_neg h, co_trim, co_take]
  have h1 := dv_id p q (ginv (lastOf q)) (by omega) (p.length - q.length + 1) (Nat.le_refl _) i
  have h2 := dv_rest_zero p q (ginv (lastOf q)) hq (by omega) rfl hne (p.length - q.length + 1) (Nat.le_refl _) i
  unfold dvAll
  by_cases hi : i < q.length - 1
  ·rw [if_pos hi]; exact h1
  ·rw [if_neg hi, UInt8.zero_xor]
   rw [h2 (by omega), UInt8.zero_xor] at h1
   exact h1
theorem rem_vld (p q : List UInt8) (hp : vld p = true) (hq : q.length ≤ 255) : vld (rem p q) = true := by
 unfold rem
 split
 ·exact hp
 ·refine trim_vld _ ?_
  have : ((dvAll p q).1.take (q.length - 1)).length ≤ q.length - 1 := List.length_take_le _ _
  omega
def Dv (c x : List UInt8) : Prop := ∃ k : List UInt8, ∀ i, co x i = cv (co k) (co c) i
theorem dv_refl (c : List UInt8) : Dv c c := ⟨[1], fun i => by rw [cv_cons, one_gmul]; cases i with
 | zero => simp [shift]
 | succ i => simp [shift, cv_nil]⟩
theorem dv_nil (c : List UInt8) : Dv c [] := ⟨[], fun i => by rw [cv_nil]; rfl⟩
theorem dv_comb {a b r k : List UInt8} {c : List UInt8} (h : ∀ i, co a i = co r i ^^^ cv (co k) (co b) i) (hb : Dv c b) (hr : Dv c r) : Dv c a := by
 obtain ⟨k2, h2⟩ := hb
 obtain ⟨k1, h1⟩ := hr
 refine ⟨addV k1 (mulV k k2), fun i => ?_⟩
 rw [h, h1, cv_congr (fun _ => rfl) h2, cv_assoc, cv_congr (co_addV k1 (mulV k k2)) (fun _ => rfl), cv_add_left, cv_congr (co_mulV k k2) (fun _ => rfl)]
theorem gcd_div : ∀ (f : Nat) (a b : List UInt8), b.length ≤ f → vld a = true → vld b = true → Dv (gcdF b.length a b) a ∧ Dv (gcdF b.length a b) b := by
 intro f
 induction f with
 | zero =>
  intro a b hf _ _
  have h0 : b.length = 0 := Nat.le_zero.1 hf
  rw [gcd_end a b h0, List.eq_nil_of_length_eq_zero h0]
  exact ⟨dv_refl a, dv_nil a⟩
 | succ f ih =>
  intro a b hf ha hb
  rcases Nat.eq_zero_or_pos b.length with h0 | h0
  ·rw [gcd_end a b h0, List.eq_nil_of_length_eq_zero h0]
   exact ⟨dv_refl a, dv_nil a⟩
  ·have hlt := rem_lt a b h0
   rw [gcd_step a b h0]
   obtain ⟨d1, d2⟩ := ih b (rem a b) (by omega) hb (rem_vld a b ha (vld_len hb))
   exact ⟨dv_comb (div_co a b h0 (vld_top b hb h0)) d1 d2, d1⟩
end Po
namespace Sy
open Gf
set_option linter.unusedVariables false
def gen : Nat → List UInt8
 | 0 => [1]
 | k + 1 => Po.mulV (gen k) [gpow 2 k, 1]
def high (m : Nat) (data : List UInt8) : List UInt8 := (data ++ List.replicate m 0).reverse
def rest (m : Nat) (data : List UInt8) : List UInt8 := Po.rem (Po.trim (high m data)) (gen m)
def enc (m : Nat) (data : List UInt8) : List UInt8 := data ++ (List.range m).map fun i => Po.co (rest m data) (m - 1 - i)
end Sy
namespace Sy
open Gf
set_option linter.unusedVariables false
def rw_ (rows : List (List UInt8)) (k : Nat) : List UInt8 := rows[k]?.getD []
theorem rw_lt {rows : List (List UInt8)} {k : Nat} (h : k < rows.length) : rows[k]? = some (rw_ rows k) := by unfold rw_; rw [List.getElem?_eq_getElem h]; rfl
def scl (t : UInt8) (r : List UInt8) : List UInt8 := r.map fun a => gmul a t
def addRow (t : UInt8) (p r : List UInt8) : List UInt8 := (List.range r.length).map fun q => wd r q ^^^ gmul t (wd p q)
def piv (c : Nat) (rows : List (List UInt8)) : Option Nat := ((rows.drop c).findIdx? fun r => wd r c != 0).map (c + ·)
def swapR (rows : List (List UInt8)) (c p : Nat) : List (List UInt8) := (rows.set c (rw_ rows p)).set p (rw_ rows c)
def leadOf (rows : List (List UInt8)) (c : Nat) : UInt8 := ginv (wd (rw_ rows c) c)
def clearC (rows : List (List UInt8)) (c : Nat) (p : List UInt8) : List (List UInt8) := rows.mapIdx fun k r => if k = c then r else addRow (wd r c) p r
def stepC (rows : List (List UInt8)) (c p : Nat) : List (List UInt8) :=
 let R := swapR rows c p
 let S := R.set c (scl (leadOf R c) (rw_ R c))
 clearC S c (rw_ S c)
def elim (rows : List (List UInt8)) : Nat → Option (List (List UInt8))
 | 0 => some rows
 | c + 1 => match elim rows c with
  | none => none
  | some R => match piv c R with
   | none => none
   | some p => some (stepC R c p)
def outR (rows : List (List UInt8)) (w : Nat) : List UInt8 := (rows.take w).map fun r => wd r w
theorem swap_length (rows : List (List UInt8)) (c p : Nat) : (swapR rows c p).length = rows.length := by unfold swapR; simp
end Sy
namespace Sy
open Gf Po
set_option linter.unusedVariables false
structure Bm where
 now : List UInt8
 old : List UInt8
 len : Nat
 gap : Nat
 last : UInt8
def discTo (now s : List UInt8) (k : Nat) : Nat → UInt8
 | 0 => 0
 | j + 1 => if j ≤ k then discTo now s k j ^^^ gmul (wd now j) (wd s (k - j)) else discTo now s k j
def disc (now s : List UInt8) (k : Nat) : UInt8 := discTo now s k now.length
def nextR (now old : List UInt8) (gap : Nat) (t : UInt8) : List UInt8 := addAt (now ++ List.replicate (gap + old.length - now.length) 0) old t gap
def bmStep (s : List UInt8) (k : Nat) (b : Bm) : Bm :=
 if disc b.now s k = 0 then { b with gap := b.gap + 1 }
 else if k < 2 * b.len then { b with now := nextR b.now b.old b.gap (gmul (disc b.now s k) (ginv b.last)), gap := b.gap + 1 }
 else ⟨nextR b.now b.old b.gap (gmul (disc b.now s k) (ginv b.last)), b.now, k + 1 - b.len, 1, disc b.now s k⟩
def bm (s : List UInt8) : Nat → Bm
 | 0 => ⟨[1], [1], 0, 1, 1⟩
 | k + 1 => bmStep s k (bm s k)
structure Bi (s : List UInt8) (k : Nat) (b : Bm) : Prop where
 le : b.len ≤ k
 one : co b.now 0 = 1
 deg : ∀ i, b.len < i → co b.now i = 0
 gen : ∀ j, b.len ≤ j → j < k → cv (co b.now) (co s) j = 0
 ne : b.last ≠ 0
 gp : 1 ≤ b.gap
 was : (b.len = 0 ∧ b.old = [1] ∧ b.gap = k + 1 ∧ b.last = 1) ∨ (b.gap ≤ k ∧ b.len ≤ k - b.gap + 1 ∧ (∀ i, k - b.gap + 1 - b.len < i → co b.old i = 0) ∧ (∀ j, k - b.gap + 1 - b.len ≤ j → j < k - b.gap → cv (co b.old) (co s) j = 0) ∧ cv (co b.old) (co s) (k - b.gap) = b.last)
 long : b.now.length ≤ k + 1 ∧ b.old.length + b.gap ≤ k + 2 ∧ 1 ≤ b.now.length ∧ 1 ≤ b.old.length
theorem bi_zero (s : List UInt8) : Bi s 0 (bm s 0) :=
 ⟨Nat.le_refl _, rfl, fun i hi => co_big [1] i (by have hi : 0 < i := hi; show 1 ≤ i; omega), fun j _ h => by omega, one_ne, Nat.le_refl _, .inl ⟨rfl, rfl, rfl, rfl⟩, by simp [bm]⟩
end Sy
namespace Sy
open Gf Po
set_option linter.unusedVariables false
def rv (C : List UInt8) (L : Nat) (x : UInt8) : UInt8 := sumX (fun i => gmul (co C i) (gpow x (L - i))) (L + 1)
end Sy
namespace Sy
open Gf
set_option linter.unusedVariables false
def pl (P : List Nat) (j : Nat) : Nat := P[j]?.getD 0
def strip (x : UInt8) (u : List UInt8) : List UInt8 := (List.range (u.length - 1)).map fun k => wd u (k + 1) ^^^ gmul x (wd u k)
end Sy
end Go.Proofs.YtenokdhldngkgaaGreatDoor
namespace Go.Proofs.YtenokdhldngkgaaGreatDoor
open Go.RowKit
set_option linter.unusedVariables false
set_option maxRecDepth 100000
section
variable {P : Program} {w w' : World}
end
section
variable {P : Program} {w0 w : World} {g : Option Nat} {M : List (Nat × Value)} {L : List Ob} {O : List Rw} {t tn e : TypeId} {z : Value} {bytes : Nat}
end
theorem elemB : Elem Tryz.prog 122 5 (.int .u8 0) 1 := by
 obtain ⟨i0, hi, hz0, hz1, hz2⟩ := info_parts infoB
 exact ⟨Tryz.underlying122, rfl, i0, hi, hz0, hz1, hz2⟩
namespace Gf
def ez (a : UInt8) : Int := if a = 0 then 4 else 0
def pw (a : UInt8) (n : Int) : UInt8 := if a = 0 then (if n = 0 then 1 else 0) else zpow a n
def lg (a : UInt8) : Int := if a = 0 then 0 else (glog a : Int)
end Gf

theorem zero_or (a : UInt8) : a = 0 ∨ (a ≠ 0 ∧ ((a.toNat : Int) == 0) = false) := by
 by_cases h : a = 0
 ·exact .inl h
 ·exact .inr ⟨h, by have := u8_pos h; rw [beq_eq_false_iff_ne]; omega⟩


section
variable {w0 w w' : World} {g : Option Nat} {M : List (Nat × Value)} {L : List Ob} {O : List Rw} {A : Option Addr} {n c gb k : Nat} {e : TypeId} {l : List UInt8} {b : UInt8}
theorem Ow.frzO (h : Ow w0 w g M L O) (i : Nat) {vs : List Value} (hi : O[i]? = some ⟨some ⟨gb, 0, none⟩, n, c, e, vs⟩) (k : Nat) : w.frozen? ⟨gb, k, none⟩ = false := (h.row i hi).frozenAt k
end
namespace Sy
end Sy
structure Cd (d m f : Nat) : Prop where
 d1 : 1 ≤ d
 d2 : d ≤ 32
 m1 : 1 ≤ m
 m2 : m ≤ 8
 f2 : f ≤ 100
def cdv (d m f : Nat) : Array Value := #[.int .i64 2, .int .i64 (d : Int), .int .i64 (m : Int), .int .i64 (f : Int)]
set_option maxHeartbeats 2000000 in
theorem validcode_any {d m f : Nat} (h : Cd d m f) (w : World) : Calls Tryz.prog 146 #[.agg #[.int .i64 2, .int .i64 (d : Int), .int .i64 (m : Int), .int .i64 (f : Int)]] w fun e w' => e = .returned (.bool (decide (f ≤ m / 2))) ∧ Below w.heap.size w w' := by
 obtain ⟨h1, h2, h3, h4, h5⟩ := h
 have H1 := (Ow.of (St.refl w)).arr (cdv d m f) 4 rfl (by omega) 57
 have hc0 : (w.alloc (.cells #[.int .i64 2, .int .i64 (d : Int), .int .i64 (m : Int), .int .i64 (f : Int)] 57)).cell? ⟨w.heap.size, 0, none⟩ = some (.int .i64 2) := (H1.row 0 rfl).cellAt 0 (by decide)
 have hc1 : (w.alloc (.cells #[.int .i64 2, .int .i64 (d : Int), .int .i64 (m : Int), .int .i64 (f : Int)] 57)).cell? ⟨w.heap.size, 1, none⟩ = some (.int .i64 (d : Int)) := (H1.row 0 rfl).cellAt 1 (by decide)
 have hc2 : (w.alloc (.cells #[.int .i64 2, .int .i64 (d : Int), .int .i64 (m : Int), .int .i64 (f : Int)] 57)).cell? ⟨w.heap.size, 2, none⟩ = some (.int .i64 (m : Int)) := (H1.row 0 rfl).cellAt 2 (by decide)
 have hc3 : (w.alloc (.cells #[.int .i64 2, .int .i64 (d : Int), .int .i64 (m : Int), .int .i64 (f : Int)] 57)).cell? ⟨w.heap.size, 3, none⟩ = some (.int .i64 (f : Int)) := (H1.row 0 rfl).cellAt 3 (by decide)
 have HB : Hid (Below w.heap.size w (w.alloc (.cells #[.int .i64 2, .int .i64 (d : Int), .int .i64 (m : Int), .int .i64 (f : Int)] 57))) := H1.below
 have t1 : decide ((1 : Int) ≤ (d : Int)) = true := decide_eq_true (by omega)
 have t2 : decide ((d : Int) ≤ 32) = true := decide_eq_true (by omega)
 have t3 : decide ((1 : Int) ≤ (m : Int)) = true := decide_eq_true (by omega)
 have t4 : decide ((m : Int) ≤ 8) = true := decide_eq_true (by omega)
 have t5 : decide ((0 : Int) ≤ (f : Int)) = true := decide_eq_true (by omega)
 have HD : Hid (decide ((f : Int) ≤ (m : Int) / 2) = decide (f ≤ m / 2)) := by
  unfold Hid
  rw [decide_eq_decide]
  omega
 clear H1
 go_enter Tryz.func146, Tryz.ntmps146
 go_wp2_with fail
 go_ret
 exact ⟨ret_bool HD.out, HB.out⟩
section
variable {w0 w w' : World} {g : Option Nat} {M : List (Nat × Value)} {L : List Ob} {O : List Rw}
theorem Ow.code (h : Ow w0 w g M L O) (d m f : Nat) : Ow w0 (w.alloc (.cells #[.int .i64 2, .int .i64 (d : Int), .int .i64 (m : Int), .int .i64 (f : Int)] 57)) g M L (O ++ [⟨some ⟨w.heap.size, 0, none⟩, 4, 4, 57, (cdv d m f).toList⟩]) := h.arr (cdv d m f) 4 rfl (by omega) _
theorem Ow.cdc (h : Ow w0 w g M L O) (i : Nat) {b d m f : Nat} (hi : O[i]? = some ⟨some ⟨b, 0, none⟩, 4, 4, 57, (cdv d m f).toList⟩) : w.cell? ⟨b, 0, none⟩ = some (.int .i64 2) ∧ w.cell? ⟨b, 1, none⟩ = some (.int .i64 (d : Int)) ∧ w.cell? ⟨b, 2, none⟩ = some (.int .i64 (m : Int)) ∧ w.cell? ⟨b, 3, none⟩ = some (.int .i64 (f : Int)) :=
 ⟨(h.row i hi).cellAt 0 (by decide), (h.row i hi).cellAt 1 (by decide), (h.row i hi).cellAt 2 (by decide), (h.row i hi).cellAt 3 (by decide)⟩
end
theorem zip_set {α β γ : Type} {f : α → β → γ} : ∀ (a : List α) (b : List β) (k : Nat) (x : α) (y : β), List.zipWith f (a.set k x) (b.set k y) = (List.zipWith f a b).set k (f x y)
 | [], b, k, x, y => by simp
 | a :: l1, [], k, x, y => by cases k <;> simp
 | a :: l1, b :: l2, 0, x, y => rfl
 | a :: l1, b :: l2, k + 1, x, y => by simp [zip_set l1 l2 k x y]
def mkR (h : Option Addr × Nat) (r : List UInt8) : Rw := ⟨h.1, r.length, h.2, 5, bys r⟩
def mkRs (H : List (Option Addr × Nat)) (R : List (List UInt8)) : List Rw := List.zipWith mkR H R
def hdr (h : Option Addr × Nat) (r : List UInt8) : Value := .slice h.1 r.length h.2
def hdrs (H : List (Option Addr × Nat)) (R : List (List UInt8)) : List Value := List.zipWith hdr H R
def hAt (H : List (Option Addr × Nat)) (k : Nat) : Option Addr × Nat := H[k]?.getD (none, 0)
theorem hAt_lt {H : List (Option Addr × Nat)} {k : Nat} (h : k < H.length) : H[k]? = some (hAt H k) := by unfold hAt; rw [List.getElem?_eq_getElem h]; rfl
abbrev outR (g m : Nat) (H : List (Option Addr × Nat)) (R : List (List UInt8)) : Rw := ⟨some ⟨g, 0, none⟩, m, m, 122, hdrs H R⟩
structure Mx (w0 w : World) (M : List (Nat × Value)) (L : List Ob) (g m : Nat) (H : List (Option Addr × Nat)) (R : List (List UInt8)) (X : List Rw) : Prop where
 ow : Ow w0 w none M L (outR g m H R :: (mkRs H R ++ X))
 hl : H.length = m
 rl : R.length = m
section
variable {w0 w w' : World} {M : List (Nat × Value)} {L : List Ob} {g m : Nat} {H : List (Option Addr × Nat)} {R : List (List UInt8)} {X : List Rw}
theorem Mx.get (h : Mx w0 w M L g m H R X) {k : Nat} (hk : k < m) : (mkRs H R)[k]? = some (mkR (hAt H k) (Sy.rw_ R k)) ∧ (hdrs H R)[k]? = some (hdr (hAt H k) (Sy.rw_ R k)) := by
 have e1 := hAt_lt (H := H) (k := k) (by rw [h.hl]; exact hk)
 have e2 := Sy.rw_lt (rows := R) (k := k) (by rw [h.rl]; exact hk)
 unfold mkRs hdrs
 rw [List.getElem?_zipWith, List.getElem?_zipWith, e1, e2]
 exact ⟨rfl, rfl⟩
theorem Mx.len (h : Mx w0 w M L g m H R X) : (mkRs H R).length = m := by unfold mkRs; rw [List.length_zipWith, h.hl, h.rl]; omega
theorem Mx.at_ (h : Mx w0 w M L g m H R X) {k : Nat} (hk : k < m) : (outR g m H R :: (mkRs H R ++ X))[k + 1]? = some (mkR (hAt H k) (Sy.rw_ R k)) := by
 rw [List.getElem?_cons_succ, List.getElem?_append_left (by rw [h.len]; exact hk)]
 exact (h.get hk).1
theorem Mx.go (h : Mx w0 w M L g m H R X) (hb : Below w.heap.size w w') : Mx w0 w' M L g m H R X := ⟨h.ow.go hb, h.hl, h.rl⟩
theorem Mx.hd (h : Mx w0 w M L g m H R X) {k : Nat} (hk : k < m) : w.cell? ⟨g, k, none⟩ = some (.slice (hAt H k).1 (Sy.rw_ R k).length (hAt H k).2) := by
 have ho := h.ow.row 0 rfl
 rw [ho.cellAt k (by omega)]
 exact (h.get hk).2
theorem Mx.hf (h : Mx w0 w M L g m H R X) (k : Nat) : w.frozen? ⟨g, k, none⟩ = false := (h.ow.row 0 rfl).frozenAt k
theorem Mx.row (h : Mx w0 w M L g m H R X) {k : Nat} (hk : k < m) : w.ownsRow w0.heap.size 5 1 (.slice (hAt H k).1 (Sy.rw_ R k).length (hAt H k).2) (Sy.rw_ R k).length (bys (Sy.rw_ R k)) := h.ow.own (k + 1) _ (h.at_ hk)
theorem Mx.form (h : Mx w0 w M L g m H R X) {k : Nat} (hk : k < m) (h0 : 0 < (Sy.rw_ R k).length) : ∃ gk ck, hAt H k = (some ⟨gk, 0, none⟩, ck) := by
 obtain ⟨gk, e, _, _⟩ := own_form (h.row hk) h0
 exact ⟨gk, (hAt H k).2, by rw [← e]⟩
theorem Mx.byte (h : Mx w0 w M L g m H R X) {k : Nat} (hk : k < m) {gk ck : Nat} (hg : hAt H k = (some ⟨gk, 0, none⟩, ck)) {q : Nat} {b : UInt8} (hq : (Sy.rw_ R k)[q]? = some b) : w.cell? ⟨gk, q, none⟩ = some (.int .u8 (b.toNat : Int)) := by
 have ho := h.row hk
 rw [hg] at ho
 exact own_byte ho hq
theorem Mx.frz (h : Mx w0 w M L g m H R X) {k : Nat} (hk : k < m) {gk ck : Nat} (hg : hAt H k = (some ⟨gk, 0, none⟩, ck)) (q : Nat) : w.frozen? ⟨gk, q, none⟩ = false := by
 have ho := h.row hk
 rw [hg] at ho
 exact ho.frozenAt q
theorem hdrs_same {k : Nat} {r : List UInt8} (hk : k < R.length) (hr : r.length = (Sy.rw_ R k).length) : hdrs H (R.set k r) = hdrs H R := by
 unfold hdrs
 refine List.ext_getElem? fun i => ?_
 rw [List.getElem?_zipWith, List.getElem?_zipWith, List.getElem?_set]
 by_cases e : k = i
 ·subst e
  rw [if_pos rfl, if_pos hk, Sy.rw_lt hk]
  cases H[k]? with
  | none => rfl
  | some h =>
   show some (Value.slice h.1 r.length h.2) = some (Value.slice h.1 (Sy.rw_ R k).length h.2)
   rw [hr]
 ·rw [if_neg e]
theorem mkRs_set1 {k : Nat} {r : List UInt8} (hk : k < H.length) : (mkRs H R).set k (mkR (hAt H k) r) = mkRs H (R.set k r) := by
 unfold mkRs
 rw [← zip_set]
 congr 1
 have e := hAt_lt hk
 obtain ⟨h1, h2⟩ := List.getElem?_eq_some_iff.1 e
 rw [← h2]
 exact List.set_getElem_self h1
theorem Mx.turn (h : Mx w0 w M L g m H R X) {k : Nat} (hk : k < m) {r : List UInt8} (hr : r.length = (Sy.rw_ R k).length) (ho : Ow w0 w' none M L ((outR g m H R :: (mkRs H R ++ X)).set (k + 1) (mkR (hAt H k) r))) : Mx w0 w' M L g m H (R.set k r) X := by
 refine ⟨?_, h.hl, by rw [List.length_set]; exact h.rl⟩
 have e : (outR g m H R :: (mkRs H R ++ X)).set (k + 1) (mkR (hAt H k) r) = outR g m H (R.set k r) :: (mkRs H (R.set k r) ++ X) := by
  rw [List.set_cons_succ, List.set_append_left _ _ (by rw [h.len]; exact hk), mkRs_set1 (by rw [h.hl]; exact hk)]
  show (outR g m H R :: _) = _
  unfold outR
  rw [hdrs_same (by rw [h.rl]; exact hk) hr]
 rw [e] at ho
 exact ho
theorem Mx.grow (h : Mx w0 w M L g m H R X) {k : Nat} (hk : k < m) {A' : Option Addr} {n' c' : Nat} {r : List UInt8} (hr : r.length = n') (ho : Ow w0 w' none M L ((outR g m H R :: (mkRs H R ++ X)).set (k + 1) ⟨A', n', c', 5, bys r⟩)) : Mx w0 (w'.setCell ⟨g, k, none⟩ (.slice A' n' c')) M L g m (H.set k (A', c')) (R.set k r) X := by
 subst hr
 refine ⟨?_, by rw [List.length_set]; exact h.hl, by rw [List.length_set]; exact h.rl⟩
 have e : (outR g m H R :: (mkRs H R ++ X)).set (k + 1) ⟨A', r.length, c', 5, bys r⟩ = outR g m H R :: (mkRs (H.set k (A', c')) (R.set k r) ++ X) := by
  rw [List.set_cons_succ, List.set_append_left _ _ (by rw [h.len]; exact hk)]
  unfold mkRs
  rw [zip_set]
  rfl
 rw [e] at ho
 have h5 := ho.put 0 rfl k (.slice A' r.length c')
 have e2 : (hdrs H R).set k (.slice A' r.length c') = hdrs (H.set k (A', c')) (R.set k r) := by
  unfold hdrs
  rw [zip_set]
  rfl
 rw [e2] at h5
 exact h5
def swpA {α : Type} (l : List α) (d : α) (c p : Nat) : List α := (l.set c (l[p]?.getD d)).set p (l[c]?.getD d)
theorem swpA_at {α : Type} {l : List α} {d : α} {c p : Nat} (hc : c < l.length) (hp : p < l.length) (k : Nat) : (swpA l d c p)[k]? = if k = p then l[c]? else if k = c then l[p]? else l[k]? := by
 unfold swpA
 rw [List.getElem?_set, List.getElem?_set, List.length_set]
 by_cases h1 : p = k
 ·subst h1
  rw [if_pos rfl, if_pos hp, if_pos rfl, List.getElem?_eq_getElem hc]; rfl
 ·rw [if_neg h1, if_neg (show ¬ k = p from fun e => h1 e.symm)]
  by_cases h2 : c = k
  ·subst h2
   rw [if_pos rfl, if_pos hc, if_pos rfl, List.getElem?_eq_getElem hp]; rfl
  ·rw [if_neg h2, if_neg (show ¬ k = c from fun e => h2 e.symm)]
theorem zip_swp {α β γ : Type} {f : α → β → γ} {a : List α} {b : List β} {d : α} {d' : β} {c p : Nat} (hl : a.length = b.length) (hc : c < a.length) (hp : p < a.length) (k : Nat) : (List.zipWith f (swpA a d c p) (swpA b d' c p))[k]? = if k = p then (List.zipWith f a b)[c]? else if k = c then (List.zipWith f a b)[p]? else (List.zipWith f a b)[k]? := by
 rw [List.getElem?_zipWith, swpA_at hc hp, swpA_at (by omega) (by omega)]
 by_cases h1 : k = p
 ·rw [if_pos h1, if_pos h1, if_pos h1, List.getElem?_zipWith]
 ·rw [if_neg h1, if_neg h1, if_neg h1]
  by_cases h2 : k = c
  ·rw [if_pos h2, if_pos h2, if_pos h2, List.getElem?_zipWith]
  ·rw [if_neg h2, if_neg h2, if_neg h2, List.getElem?_zipWith]
theorem swapR_eq (rows : List (List UInt8)) (c p : Nat) : Sy.swapR rows c p = swpA rows [] c p := rfl
theorem Mx.swap (h : Mx w0 w M L g m H R X) {c p : Nat} (hc : c < m) (hp : p < m) (w' : World) (hw : w' = (w.setCell ⟨g, c, none⟩ (hdr (hAt H p) (Sy.rw_ R p))).setCell ⟨g, p, none⟩ (hdr (hAt H c) (Sy.rw_ R c))) : Mx w0 w' M L g m (swpA H (none, 0) c p) (Sy.swapR R c p) X := by
 subst hw
 have hHc : c < H.length := by rw [h.hl]; exact hc
 have hHp : p < H.length := by rw [h.hl]; exact hp
 have hlen : H.length = R.length := by rw [h.hl, h.rl]
 have hl' : (swpA H (none, 0) c p).length = m := by unfold swpA; simp [h.hl]
 have hr' : (Sy.swapR R c p).length = m := by rw [Sy.swap_length]; exact h.rl
 refine ⟨?_, hl', hr'⟩
 have h5 := (h.ow.put 0 rfl c (hdr (hAt H p) (Sy.rw_ R p))).put 0 rfl p (hdr (hAt H c) (Sy.rw_ R c))
 have e1 : ((hdrs H R).set c (hdr (hAt H p) (Sy.rw_ R p))).set p (hdr (hAt H c) (Sy.rw_ R c)) = hdrs (swpA H (none, 0) c p) (Sy.swapR R c p) := by
  refine List.ext_getElem? fun k => ?_
  unfold hdrs
  rw [swapR_eq, zip_swp hlen hHc hHp, List.getElem?_set, List.getElem?_set, List.length_set]
  have hz : (List.zipWith hdr H R).length = m := by rw [List.length_zipWith, h.hl, h.rl]; omega
  have g1 := (h.get hc).2
  have g2 := (h.get hp).2
  unfold hdrs at g1 g2
  by_cases e1 : p = k
  ·subst e1
   rw [if_pos rfl, if_pos (by omega), if_pos rfl, g1]
  ·rw [if_neg e1, if_neg (show ¬ k = p from fun e => e1 e.symm)]
   by_cases e2 : c = k
   ·subst e2
    rw [if_pos rfl, if_pos (by omega), if_pos rfl, g2]
   ·rw [if_neg e2, if_neg (show ¬ k = c from fun e => e2 e.symm)]
 have h6 : Ow w0 ((w.setCell ⟨g, c, none⟩ (hdr (hAt H p) (Sy.rw_ R p))).setCell ⟨g, p, none⟩ (hdr (hAt H c) (Sy.rw_ R c))) none M L (outR g m (swpA H (none, 0) c p) (Sy.swapR R c p) :: (mkRs H R ++ X)) := by
  unfold outR
  rw [← e1]
  exact h5
 have hml : (mkRs (swpA H (none, 0) c p) (Sy.swapR R c p)).length = m := by unfold mkRs; rw [List.length_zipWith, hl', hr']; omega
 refine h6.re (fun i => if i = c + 1 then p + 1 else if i = p + 1 then c + 1 else i) (fun i j _ _ e => ?_) (fun i r hi => ?_)
 ·split at e <;> split at e <;> (try split at e) <;> (try split at e) <;> omega
 ·cases i with
  | zero => rw [if_neg (by omega), if_neg (by omega)]; exact hi
  | succ k =>
   rw [List.getElem?_cons_succ] at hi
   rcases Nat.lt_or_ge k m with hk | hk
   ·rw [List.getElem?_append_left (by rw [hml]; exact hk)] at hi
    unfold mkRs at hi
    rw [swapR_eq, zip_swp hlen hHc hHp] at hi
    have key : ∀ j, j < m → (outR g m (swpA H (none, 0) c p) (Sy.swapR R c p) :: (mkRs H R ++ X))[j + 1]? = (List.zipWith mkR H R)[j]? := fun j hj => by
     rw [List.getElem?_cons_succ, List.getElem?_append_left (by rw [h.len]; exact hj)]
     rfl
    by_cases e1 : k = c
    ·subst e1
     rw [if_pos rfl, key p hp]
     by_cases e2 : k = p
     ·subst e2; rw [if_pos rfl] at hi; exact hi
     ·rw [if_neg e2, if_pos rfl] at hi; exact hi
    ·rw [if_neg (by omega)]
     by_cases e2 : k = p
     ·subst e2
      rw [if_pos rfl, key c hc]
      rw [if_pos rfl] at hi; exact hi
     ·rw [if_neg (by omega), key k hk]
      rw [if_neg e2, if_neg e1] at hi; exact hi
   ·rw [if_neg (by omega), if_neg (by omega), List.getElem?_cons_succ]
    rw [List.getElem?_append_right (by rw [hml]; exact hk), hml] at hi
    rw [List.getElem?_append_right (by rw [h.len]; exact hk), h.len]
    exact hi
end
namespace Sy
end Sy
namespace Sy
open Gf
end Sy
section
variable {w0 w w' : World} {M : List (Nat × Value)} {L : List Ob} {g m : Nat} {H : List (Option Addr × Nat)} {R : List (List UInt8)} {X : List Rw}
theorem Ow.nils {O : List Rw} {g0 : Option Nat} (h : Ow w0 w g0 M L O) (e : TypeId) : ∀ m, Ow w0 w g0 M L (O ++ List.replicate m ⟨none, 0, 0, e, []⟩)
 | 0 => by simpa using h
 | m + 1 => by
  have h5 := (Ow.nils h e m).nil e
  rw [List.append_assoc] at h5
  rw [List.replicate_succ']
  exact h5
theorem zip_rep {α β γ : Type} (f : α → β → γ) (a : α) (b : β) : ∀ m, List.zipWith f (List.replicate m a) (List.replicate m b) = List.replicate m (f a b)
 | 0 => rfl
 | m + 1 => by rw [List.replicate_succ, List.replicate_succ, List.replicate_succ, List.zipWith_cons_cons, zip_rep f a b m]
theorem Mx.start (h : Ow w0 w none M L [⟨some ⟨g, 0, none⟩, m, m, 122, List.replicate m (.slice none 0 0)⟩]) : Mx w0 w M L g m (List.replicate m (none, 0)) (List.replicate m []) [] := by
 refine ⟨?_, by simp, by simp⟩
 have h5 := h.nils 5 m
 unfold outR hdrs mkRs
 rw [zip_rep, zip_rep, List.append_nil]
 exact h5
theorem Mx.boxed (h : Mx w0 w M L g m H R X) (v : Value) (t : TypeId) : Mx w0 (w.alloc (.cells #[v] t)) (M ++ [(w.heap.size, v)]) L g m H R X := ⟨h.ow.boxed v t, h.hl, h.rl⟩
theorem Mx.setv (h : Mx w0 w M L g m H R X) (i : Nat) {b : Nat} {v : Value} (hi : M[i]? = some (b, v)) (u : Value) : Mx w0 (w.setCell ⟨b, 0, none⟩ u) (M.set i (b, u)) L g m H R X := ⟨h.ow.setv i hi u, h.hl, h.rl⟩
theorem Mx.fewM {l : List (Nat × Value)} (h : Mx w0 w (M ++ l) L g m H R X) : Mx w0 w M L g m H R X := ⟨h.ow.fewM, h.hl, h.rl⟩
theorem Mx.drewN (h : Mx w0 w M L g m H R X) (k : Nat) : Mx w0 (w.drewN k) M L g m H R X := ⟨h.ow.drewN k, h.hl, h.rl⟩
theorem Mx.more (h : Mx w0 w M L g m H R []) (e : TypeId) : Mx w0 w M L g m H R [⟨none, 0, 0, e, []⟩] := by
 have h5 := h.ow.nil e
 rw [List.append_nil] at h5
 exact ⟨h5, h.hl, h.rl⟩
end
end Go.Proofs.YtenokdhldngkgaaGreatDoor
namespace Go.Proofs.YtenokdhldngkgaaGreatDoor
open Go.RowKit Go.Sort
set_option linter.unusedVariables false
set_option maxRecDepth 100000
theorem light_yes (A : Option Addr) (n c : Nat) (w : World) (h : n ≤ 400) : Calls Tryz.prog 9 #[.slice A n c] w fun e w' => e = .returned (.bool true) ∧ w = w' := by
 have := light_any A n c w (by omega)
 rwa [decide_eq_true (show (n : Int) ≤ 400 by omega)] at this
theorem light_no (A : Option Addr) (n c : Nat) (w : World) (h : 400 < n) (hl : n ≤ 9223372036854775807) : Calls Tryz.prog 9 #[.slice A n c] w fun e w' => e = .returned (.bool false) ∧ w = w' := by
 have := light_any A n c w hl
 rwa [decide_eq_false (show ¬ (n : Int) ≤ 400 by omega)] at this
theorem rollB_any (A : Option Addr) (n c B : Nat) (ts : List Int) (w : World) (hn : ts.length = n) (hl : n ≤ 140737488355328) (hs : Sl w B A (ints ts)) (hB : B ≤ w.heap.size) :
  Calls Tryz.prog 11 #[.slice A n c] w fun e w' => e = .returned (.pointer (some ⟨w.heap.size, 0, none⟩)) ∧ Dice w' w.heap.size B ∧ w'.heap.size = w.heap.size + 1 ∧ Below w.heap.size w w' := by
 have HD : Hid (Dice (w.alloc (.cells #[.slice A n c, .int .i64 0] 73)) w.heap.size B) :=
  ⟨A, n, c, 0, ts, heap_alloc_new w _, hn, Nat.zero_le _, hl, hs.below ((Below.refl _ _).alloc hB _), hB⟩
 clear hn hs
 go_enter Tryz.func11, Tryz.ntmps11
 go_wp2_with fail
 go_ret
 exact ⟨rfl, HD.out, by simp, (Below.refl _ _).alloc (Nat.le_refl _) _⟩
theorem roll_at {w0 w : World} {M : List (Nat × Value)} {L : List Ob} (h : St w0 w none M L) (A : Option Addr) (n c B : Nat) (ts : List Int) (hn : ts.length = n) (hl : n ≤ 140737488355328) (hB : B ≤ w0.heap.size) (hs : Sl w B A (ints ts)) :
  Calls Tryz.prog 11 #[.slice A n c] w fun e w' => ∃ g, e = .returned (.pointer (some ⟨g, 0, none⟩)) ∧ Dice w' g B ∧ St w0 w' (some g) M L := by
 refine (rollB_any A n c B ts w hn hl hs (Nat.le_trans hB h.size)).mono ?_
 rintro e w' ⟨he, hd, hz, hb⟩
 have h' := h.go hb
 refine ⟨_, he, hd, ⟨h'.below, fun x e => by cases e; exact ⟨by omega, h.size⟩, fun i b v hi => ?_, h'.one, fun o ho => ?_⟩⟩
 ·obtain ⟨h1, h2, h3, h4, _⟩ := h'.box i b v hi
  exact ⟨h1, h2, h3, h4, fun e => by cases e; have := (h.box i _ v hi).1; omega⟩
 ·obtain ⟨h1, h2, h3, B, hB, hs2, hne⟩ := h.held o ho
  refine ⟨h1, h2, h3, B, Nat.le_trans hB hb.size, hs2.below (hb.mono hB), fun ad e h0 => ⟨fun e2 => ?_, (hne ad e h0).2⟩⟩
  obtain ⟨ad', e', hbk, _⟩ := hs2 (by omega)
  rw [e] at e'
  obtain rfl := Option.some.inj e'
  have := Option.some.inj e2
  omega
section
variable {w0 w w' : World} {g B : Nat} {M : List (Nat × Value)} {L : List Ob} {O : List Rw} {A : Option Addr} {n c : Nat}
theorem Ow.roll (h : Ow w0 w (some g) M L O) (hg : w.grownBy w' (some g)) : Ow w0 w' (some g) M L O := by
 refine ⟨h.st.roll hg, fun i r hi => own_keep (h.own i r hi) hg ?_, h.ap, h.two⟩
 by_cases e : (Value.slice r.A r.n r.c).ownBlock = none
 ·exact .inl e
 ·exact .inr fun e2 => (h.ap i r hi g e2).1 rfl
def GotB (w0 : World) (g B : Nat) (M : List (Nat × Value)) (L : List Ob) (O : List Rw) (e : Ending) (w' : World) : Prop := ∃ r : Bool, e = .returned (.bool r) ∧ Dice w' g B ∧ Ow w0 w' (some g) M L O
theorem next_ow (h : Ow w0 w (some g) M L O) (hd : Dice w g B) (m : Nat) (hm : 0 < m) (hm2 : m ≤ 9223372036854775807) :
  Calls Tryz.prog 29 #[.pointer (some ⟨g, 0, none⟩), .int .i64 (m : Int)] w fun e w' => ∃ r : Nat, e = .returned (.int .i64 (r : Int)) ∧ r < m ∧ Dice w' g B ∧ Ow w0 w' (some g) M L O ∧ w.grownBy w' (some g) :=
 (next_any g B m w (by omega) (by omega) hd).mono fun e w' ⟨r, he, h0, h1, hd', hg⟩ => ⟨r.toNat, by rw [he]; congr 2; omega, by omega, hd', h.roll hg, hg⟩
theorem one_ow (h : Ow w0 w (some g) M L O) (hd : Dice w g B) (m : Int) (hm : 1 ≤ m) (hm2 : m ≤ 9223372036854775807) :
  Calls Tryz.prog 59 #[.pointer (some ⟨g, 0, none⟩), .int .i64 m] w (GotB w0 g B M L O) := by
 have HN := Lib.hid (next_any g B m w hm hm2 hd)
 have HH := Lib.hid h
 clear hd h
 go_enter Tryz.func59, Tryz.ntmps59
 go_wp2_with fail
 refine HN.out.mono ?_
 rintro e w1 ⟨r, rfl, h0, h1, hd, hg⟩
 have HD := Lib.hid hd
 have HG := Lib.hid hg
 clear hd hg
 go_wp2_with fail
 go_ret
 exact ⟨_, rfl, HD.out, HH.out.roll HG.out⟩
theorem Dice.turned (hd : Dice w g B) (hB : B ≤ w0.heap.size) (h : Ow w0 w (some g) M L O) {i : Nat} {r : Rw} (hi : O[i]? = some r) (hg : w.grownBy w' r.blk) : Dice w' g B := by
 have hlt := hd.lt
 obtain ⟨A, n, c, at_, ts, hh, h1, h2, h3, hs, hBg⟩ := hd
 refine ⟨A, n, c, at_, ts, (hg.block g hlt (fun e => (h.ap i r hi g e.symm).1 rfl)).trans hh, h1, h2, h3, hs.keep fun p hp => World.cell?_of_block (hg.block p.block (by omega) (fun e => ?_)), hBg⟩
 have := (h.lt hi e.symm).2
 omega
theorem Dice.set (hd : Dice w g B) (hB : B ≤ w0.heap.size) (h : Ow w0 w (some g) M L O) {i b : Nat} {v : Value} (hi : M[i]? = some (b, v)) (u : Value) : Dice (w.setCell ⟨b, 0, none⟩ u) g B := by
 have hlt := hd.lt
 have hg := grown_set w ⟨b, 0, none⟩ u
 obtain ⟨h1, h2, h3, h4, h5⟩ := h.st.box i b v hi
 obtain ⟨A, n, c, at_, ts, hh, k1, k2, k3, hs, hBg⟩ := hd
 exact ⟨A, n, c, at_, ts, (hg.block g hlt (fun e => h5 e)).trans hh, k1, k2, k3, hs.keep fun p hp => World.cell?_of_block (hg.block p.block (by omega) (fun e => by have := Option.some.inj e; simp only at this; omega)), hBg⟩
end
end Go.Proofs.YtenokdhldngkgaaGreatDoor
namespace Go.Proofs.YtenokdhldngkgaaGreatDoor
open Go.RowKit
set_option linter.unusedVariables false
set_option maxRecDepth 100000
theorem at_arr3 {w0 w : World} {g : Option Nat} {M : List (Nat × Value)} {L : List Ob} {O : List Rw} {b : Nat} {T : TypeId} (h : Ow w0 w g M L O) (i : Nat) (hi : O[i]? = some ⟨some ⟨b, 0, none⟩, 3, 3, T, [.int .i64 4, .int .i64 8, .int .i64 32]⟩) {r : Nat} (hr : r < 3) :
  ∃ k : Nat, 1 ≤ k ∧ k ≤ 32 ∧ w.cell? ⟨b, r, none⟩ = some (.int .i64 (k : Int)) := by
 rcases (show r = 0 ∨ r = 1 ∨ r = 2 by omega) with rfl | rfl | rfl
 ·exact ⟨4, by omega, by omega, (h.row i hi).cellAt 0 (by decide)⟩
 ·exact ⟨8, by omega, by omega, (h.row i hi).cellAt 1 (by decide)⟩
 ·exact ⟨32, by omega, by omega, (h.row i hi).cellAt 2 (by decide)⟩
theorem row4 {w0 w : World} {g : Option Nat} {M : List (Nat × Value)} {L : List Ob} {O : List Rw} {b : Nat} {T : TypeId} {x0 x1 x2 x3 : Value} (h : Ow w0 w g M L O) (i : Nat) (hi : O[i]? = some ⟨some ⟨b, 0, none⟩, 4, 4, T, [x0, x1, x2, x3]⟩) :
  w.cell? ⟨b, 0, none⟩ = some x0 ∧ w.cell? ⟨b, 1, none⟩ = some x1 ∧ w.cell? ⟨b, 2, none⟩ = some x2 ∧ w.cell? ⟨b, 3, none⟩ = some x3 :=
 ⟨(h.row i hi).cellAt 0 (by decide), (h.row i hi).cellAt 1 (by decide), (h.row i hi).cellAt 2 (by decide), (h.row i hi).cellAt 3 (by decide)⟩
theorem put4 {w0 w : World} {g B : Nat} {M : List (Nat × Value)} {L : List Ob} {O : List Rw} {b : Nat} {T : TypeId} {x0 x1 x2 x3 : Value} (h : Ow w0 w (some g) M L O) (hd : Dice w g B) (hB : B ≤ w0.heap.size) (i : Nat) (hi : O[i]? = some ⟨some ⟨b, 0, none⟩, 4, 4, T, [x0, x1, x2, x3]⟩) (y0 y1 y2 y3 : Value) {w' : World} (hw : (((w.setCell ⟨b, 0, none⟩ y0).setCell ⟨b, 1, none⟩ y1).setCell ⟨b, 2, none⟩ y2).setCell ⟨b, 3, none⟩ y3 = w') :
  Ow w0 w' (some g) M L (O.set i ⟨some ⟨b, 0, none⟩, 4, 4, T, [y0, y1, y2, y3]⟩) ∧ Dice w' g B := by
 subst hw
 have hlt := get_lt hi
 have g1 := h.put i hi 0 y0
 have d1 := hd.turned hB h hi (grown_set w ⟨b, 0, none⟩ y0)
 have hi1 : (O.set i ⟨some ⟨b, 0, none⟩, 4, 4, T, [x0, x1, x2, x3].set 0 y0⟩)[i]? = some ⟨some ⟨b, 0, none⟩, 4, 4, T, [y0, x1, x2, x3]⟩ := List.getElem?_set_self hlt
 have g2 := g1.put i hi1 1 y1
 have d2 := d1.turned hB g1 hi1 (grown_set _ ⟨b, 1, none⟩ y1)
 rw [List.set_set] at g2
 have hi2 : (O.set i ⟨some ⟨b, 0, none⟩, 4, 4, T, [y0, x1, x2, x3].set 1 y1⟩)[i]? = some ⟨some ⟨b, 0, none⟩, 4, 4, T, [y0, y1, x2, x3]⟩ := List.getElem?_set_self hlt
 have g3 := g2.put i hi2 2 y2
 have d3 := d2.turned hB g2 hi2 (grown_set _ ⟨b, 2, none⟩ y2)
 rw [List.set_set] at g3
 have hi3 : (O.set i ⟨some ⟨b, 0, none⟩, 4, 4, T, [y0, y1, x2, x3].set 2 y2⟩)[i]? = some ⟨some ⟨b, 0, none⟩, 4, 4, T, [y0, y1, y2, x3]⟩ := List.getElem?_set_self hlt
 have g4 := g3.put i hi3 3 y3
 have d4 := d3.turned hB g3 hi3 (grown_set _ ⟨b, 3, none⟩ y3)
 rw [List.set_set] at g4
 exact ⟨g4, d4⟩
theorem Ow.none0 {w0 w : World} {g : Option Nat} {M : List (Nat × Value)} {L : List Ob} {O : List Rw} (h : Ow w0 w g M L O) : Ow w0 w g M L [] := by
 have := h.few 0
 rwa [List.take_zero] at this
set_option maxHeartbeats 2000000 in
theorem symbols_ow {w0 w : World} {g B : Nat} {L : List Ob} (h : Ow w0 w (some g) [] L []) (hd : Dice w g B) (hB : B ≤ w0.heap.size) :
  Calls Tryz.prog 27 #[.pointer (some ⟨g, 0, none⟩)] w fun e w' => ∃ d m f : Nat, e = .returned (.agg #[.int .i64 2, .int .i64 (d : Int), .int .i64 (m : Int), .int .i64 (f : Int)]) ∧ Cd d m f ∧ f ≤ m / 2 ∧ Dice w' g B ∧ Ow w0 w' (some g) [] L [] := by
 have H1 := (h.arr #[.int .i64 0, .int .i64 0, .int .i64 0, .int .i64 0] 4 rfl (by omega) 57).arr #[.int .i64 4, .int .i64 8, .int .i64 32] 3 rfl (by omega) 3
 simp only [List.nil_append, List.cons_append, World.size_alloc] at H1
 have HD1 : Hid (Dice ((w.alloc (.cells #[.int .i64 0, .int .i64 0, .int .i64 0, .int .i64 0] 57)).alloc (.cells #[.int .i64 4, .int .i64 8, .int .i64 32] 3)) g B) := (hd.grown (row := none) (World.grownBy_alloc _ _ _) (fun _ e => by cases e)).grown (row := none) (World.grownBy_alloc _ _ _) (fun _ e => by cases e)
 have HN := Lib.hid (next_ow H1 HD1.out 3 (by omega) (by omega))
 clear h H1 HD1 hd
 go_enter Tryz.func27, Tryz.ntmps27
 go_wp2_with fail
 refine HN.out.mono ?_
 rintro e w1 ⟨r1, rfl, hr1, hd1, h1, -⟩
 clear HN
 obtain ⟨k1, hk1, hk2, hc1⟩ := at_arr3 h1 1 rfl hr1
 have HN := Lib.hid (next_ow h1 hd1 k1 hk1 (by omega))
 clear h1 hd1
 go_wp2_with fail
 refine HN.out.mono ?_
 rintro e w2 ⟨r2, rfl, hr2, hd2, h2, -⟩
 clear HN hc1
 have HN := Lib.hid (next_ow h2 hd2 8 (by omega) (by omega))
 clear h2 hd2
 go_wp2_with fail
 refine HN.out.mono ?_
 rintro e w3 ⟨r3, rfl, hr3, hd3, h3, -⟩
 clear HN
 obtain ⟨d, hdd⟩ : ∃ d : Nat, d = 1 + r2 := ⟨_, rfl⟩
 obtain ⟨m, hmm⟩ : ∃ m : Nat, m = 1 + r3 := ⟨_, rfl⟩
 have ed : (1 : Int) + (r2 : Int) = (d : Int) := by omega
 have em : (1 : Int) + (r3 : Int) = (m : Int) := by omega
 obtain ⟨q2, hq2⟩ : ∃ q2 : Nat, Hid (q2 = m / 2) := ⟨_, rfl⟩
 have ef : (m : Int) / 2 = (q2 : Int) := by have := hq2.out; omega
 obtain ⟨hd1, hd2, hm1, hm2, hq4⟩ : 1 ≤ d ∧ d ≤ 32 ∧ 1 ≤ m ∧ m ≤ 8 ∧ q2 ≤ 4 := by have := hq2.out; omega
 have H4 := h3.arr #[.int .i64 2, .int .i64 (d : Int), .int .i64 (m : Int), .int .i64 (q2 : Int)] 4 rfl (by omega) 57
 simp only [List.nil_append, List.cons_append] at H4
 have HD4 : Hid (Dice (w3.alloc (.cells #[.int .i64 2, .int .i64 (d : Int), .int .i64 (m : Int), .int .i64 (q2 : Int)] 57)) g B) := hd3.grown (row := none) (World.grownBy_alloc _ _ _) (fun _ e => by cases e)
 have HN := Lib.hid (one_ow H4 HD4.out 3 (by omega) (by omega))
 clear h3 hd3 H4 HD4 hdd hmm hr3 hr2
 go_wp2_with fail
 refine HN.out.mono ?_
 rintro e w4 ⟨q, rfl, hd4, h4⟩
 clear HN
 have HH4 := Lib.hid h4
 have HD4 := Lib.hid hd4
 obtain ⟨c0, c1, c2, c3⟩ := h4.cdc 2 rfl
 have hf := h4.frzO 2 rfl 3
 have g0 := h4.frzO 0 rfl 0
 have g1 := h4.frzO 0 rfl 1
 have g2 := h4.frzO 0 rfl 2
 have g3 := h4.frzO 0 rfl 3
 clear h4 hd4
 obtain ⟨b0, b1, b2, b3⟩ := row4 HH4.out 0 rfl
 cases q with
 | false =>
  go_wp2_with fail
  obtain ⟨G, DG⟩ := put4 HH4.out HD4.out hB 0 rfl (.int .i64 2) (.int .i64 (d : Int)) (.int .i64 (m : Int)) (.int .i64 (q2 : Int)) rfl
  obtain ⟨k0, k1, k2, k3⟩ := row4 G 0 rfl
  refine bodyPost_ret (v := .agg #[.int .i64 2, .int .i64 (d : Int), .int .i64 (m : Int), .int .i64 (q2 : Int)]) (by simp [results, Tryz.results27, go_sem, k0, k1, k2, k3]) rfl ?_
  exact ⟨d, m, q2, rfl, ⟨hd1, hd2, hm1, hm2, by have := hq2.out; omega⟩, by have := hq2.out; omega, DG, G.none0⟩
 | true =>
  obtain ⟨z, hz⟩ : ∃ z : Nat, Hid (z = q2 + 1) := ⟨_, rfl⟩
  have ez : (q2 : Int) + 1 = (z : Int) := by have := hz.out; omega
  have HN := Lib.hid (next_ow HH4.out HD4.out z (by have := hz.out; omega) (by have := hz.out; omega))
  go_wp2_with fail
  refine HN.out.mono ?_
  rintro e w5 ⟨f, rfl, hf5, hd5, h5, -⟩
  clear HN c0 c1 c2 c3 hf g0 g1 g2 g3 b0 b1 b2 b3 HH4 HD4 ez
  have HF : Hid (f ≤ q2) := by have := hz.out; unfold Hid; omega
  obtain ⟨c0, -, -, c3⟩ := h5.cdc 2 rfl
  have hf := h5.frzO 2 rfl 3
  have h6 : Ow w0 (w5.setCell ⟨w3.heap.size, 3, none⟩ (.int .i64 (f : Int))) (some g) [] L _ := h5.put 2 rfl 3 (.int .i64 (f : Int))
  have HD6 : Hid (Dice (w5.setCell ⟨w3.heap.size, 3, none⟩ (.int .i64 (f : Int))) g B) := hd5.turned hB h5 (i := 2) rfl (grown_set w5 ⟨w3.heap.size, 3, none⟩ (.int .i64 (f : Int)))
  have HH6 := Lib.hid h6
  obtain ⟨e0, e1, e2, e3⟩ := h6.cdc (d := d) (m := m) (f := f) 2 rfl
  obtain ⟨b0, b1, b2, b3⟩ := row4 h6 0 rfl
  have g0 := h6.frzO 0 rfl 0
  have g1 := h6.frzO 0 rfl 1
  have g2 := h6.frzO 0 rfl 2
  have g3 := h6.frzO 0 rfl 3
  clear h5 hd5 hf5 h6
  go_wp2_with fail
  obtain ⟨G, DG⟩ := put4 HH6.out HD6.out hB 0 rfl (.int .i64 2) (.int .i64 (d : Int)) (.int .i64 (m : Int)) (.int .i64 (f : Int)) rfl
  obtain ⟨k0, k1, k2, k3⟩ := row4 G 0 rfl
  refine bodyPost_ret (v := .agg #[.int .i64 2, .int .i64 (d : Int), .int .i64 (m : Int), .int .i64 (f : Int)]) (by simp [results, Tryz.results27, go_sem, k0, k1, k2, k3]) rfl ?_
  exact ⟨d, m, f, rfl, ⟨hd1, hd2, hm1, hm2, by have := hq2.out; have := HF.out; omega⟩, by have := hq2.out; have := HF.out; omega, DG, G.none0⟩
end Go.Proofs.YtenokdhldngkgaaGreatDoor
namespace Go.Proofs.YtenokdhldngkgaaGreatDoor
open Go.RowKit Go.Sort
set_option linter.unusedVariables false
set_option maxRecDepth 100000
theorem bin_two (n k : Nat) : Na.bin n k ≤ 2 ^ n := by
 induction n generalizing k with
 | zero =>
  cases k with
  | zero => exact Nat.le_refl _
  | succ k => exact Nat.zero_le _
 | succ n ih =>
  cases k with
  | zero => rw [Na.bin_zero]; exact Nat.one_le_two_pow
  | succ k =>
   rw [Na.bin_succ, Nat.pow_succ]
   have h1 := ih k
   have h2 := ih (k + 1)
   omega
structure Cv (d m f n : Nat) : Prop where
 cd : Cd d m f
 fm : f ≤ m / 2
 sum : d + m = n
 n40 : n ≤ 40
 f4 : f ≤ 4
 ni : (d : Int) + (m : Int) = (n : Int)
theorem Cv.of {d m f : Nat} (h : Cd d m f) (hf : f ≤ m / 2) : Cv d m f (d + m) := ⟨h, hf, rfl, by have := h.d2; have := h.m2; omega, by have := h.m2; omega, by simp⟩
section
variable {w0 w w' : World} {g : Option Nat} {M M2 : List (Nat × Value)} {L : List Ob} {O : List Rw} {A A2 A3 A4 : Option Addr} {b n c m c2 n3 c3 n4 c4 x y d v f : Nat} {p q r s : List Int}
theorem c_times2 {vs : List Value} {a b : Nat} (h : Ow w0 w g M L O) (i : Nat) (hi : L[i]? = some ⟨A, 2, 2, vs⟩) (hN : Nums L vs [a, b]) (ha : a < Na.top) (hb : b < Na.top) (h1 : a * b < Na.top) :
  Calls Tryz.prog 119 #[.slice A 2 2] w (GotU w0 g M L O (Na.dig (a * b))) := by
 have := c_times h i hi [a, b] rfl hN (fun x hx => by
  simp only [List.mem_cons, List.mem_nil_iff, or_false] at hx
  rcases hx with rfl | rfl <;> assumption) (fun k hk => by
  have hk' : k = 0 ∨ k = 1 ∨ k = 2 := by omega
  have ht : 1 < Na.top := byte_top (by omega)
  rcases hk' with rfl | rfl | rfl
  ·exact ht
  ·show a * 1 < Na.top
   rwa [Nat.mul_one]
  ·show a * (b * 1) < Na.top
   rwa [Nat.mul_one])
 rwa [show pr [a, b] = a * b by show a * (b * 1) = _; rw [Nat.mul_one]] at this
set_option maxHeartbeats 4000000 in
theorem c_wrong (h : Ow w0 w g M L O) (hc : Cv d m f n) (hv : v ≤ n) :
  Calls Tryz.prog 97 #[.agg #[.int .i64 2, .int .i64 (d : Int), .int .i64 (m : Int), .int .i64 (f : Int)], .int .i64 (v : Int)] w fun e w' => e = .returned (.int .i64 0) ∧ Ow w0 w' g M L O := by
 have H0 := h.code d m f
 obtain ⟨k0, k1, k2, k3⟩ := H0.cdc (O.length + 0) (by rw [get_r]; rfl)
 have HV := Lib.hid (fun W => validcode_any hc.cd W)
 rw [show decide (f ≤ m / 2) = true from decide_eq_true hc.fm] at HV
 have HO := Lib.hid H0
 have hni := hc.ni
 have hn40 := hc.n40
 have t1 : decide ((v : Int) < 0) = false := decide_eq_false (by omega)
 have t2 : decide ((n : Int) < (v : Int)) = false := decide_eq_false (by omega)
 have t3 : decide (n < v) = false := decide_eq_false (by omega)
 clear h H0
 go_enter Tryz.func97, Tryz.ntmps97
 go_wp2_with (go_at_call 146; refine (HV.out _).mono ?_; rintro e w1 ⟨rfl, hb⟩; have HO1 := Lib.hid (HO.out.go hb); obtain ⟨q0, q1, q2, q3⟩ := HO1.out.cdc (O.length + 0) (by rw [get_r]; rfl); clear hb)
 go_ret
 exact ⟨rfl, HO1.out.fewO⟩
theorem er_top {n v : Nat} (hn : n ≤ 40) (hv : v ≤ 40) : Na.bin n v * 255 ^ v < Na.top := by
 have h1 : Na.bin n v ≤ 2 ^ 40 := Nat.le_trans (bin_two n v) (Nat.pow_le_pow_right (by omega) hn)
 have h2 : 255 ^ v ≤ 255 ^ 40 := Nat.pow_le_pow_right (by omega) hv
 exact Nat.lt_of_le_of_lt (Nat.mul_le_mul h1 h2) (by decide +kernel)
set_option maxHeartbeats 4000000 in
theorem c_errors (h : Ow w0 w g M L O) (hc : Cv d m f n) (hv : v ≤ n) :
  Calls Tryz.prog 100 #[.agg #[.int .i64 2, .int .i64 (d : Int), .int .i64 (m : Int), .int .i64 (f : Int)], .int .i64 (v : Int)] w (GotU w0 g M L O (Na.dig (Na.bin n v * 255 ^ v))) := by
 have H0 := (h.code d m f).boxed (.slice none 0 0) 25
 obtain ⟨k0, k1, k2, k3⟩ := H0.cdc (O.length + 0) (by rw [get_r]; rfl)
 have hni := hc.ni
 have hn40 := hc.n40
 have HC := Lib.hid (c_choose H0 n v (by omega))
 have HB : Hid (Na.bin n v < Na.top ∧ 255 ^ v < Na.top ∧ Na.bin n v * 255 ^ v < Na.top) := ⟨(Na.bin_top n v (by omega)).1, num_top (by omega) (by omega), er_top (by omega) (by omega)⟩
 have HN : Hid (v ≤ n) := hv
 clear h H0 hv
 go_enter Tryz.func100, Tryz.ntmps100
 go_wp2_with fail
 refine HC.out.mono ?_
 rintro e w1 ⟨B1, m1, d1, rfl, G1⟩
 have HP := Lib.hid (c_power G1 255 v (by omega) (by have := HN.out; omega))
 clear HC G1 k0 k1 k2 k3
 go_wp2_with fail
 refine HP.out.mono ?_
 rintro e w2 ⟨B2, m2, d2, rfl, G2⟩
 have G3 := G2.push (World.ownsRow_lit (base := w2.heap.size) (e := 25) (size := 1) w2 #[.slice B1 m1 d1, .slice B2 m2 d2] 2 (Nat.le_refl _) (by decide) rfl) (by omega) (own_box1 _ _)
 try simp only [World.size_alloc] at G3
 try simp only [List.append_assoc] at G3
 try simp only [List.cons_append] at G3
 try simp only [List.nil_append] at G3
 have HT := Lib.hid (c_times2 G3 (L.length + 2) (by rw [get_r]; rfl) (Nums.two (t1 := L.length + 0) (t2 := L.length + 1) (by rw [get_r]; rfl) (by rw [get_r]; rfl)) HB.out.1 HB.out.2.1 HB.out.2.2)
 clear HP G2 G3
 go_wp2_with fail
 refine HT.out.mono ?_
 rintro e w3 ⟨B3, m3, d3, rfl, G4⟩
 try simp only [World.size_alloc] at G4
 try simp only [List.append_assoc] at G4
 try simp only [List.cons_append] at G4
 try simp only [List.nil_append] at G4
 have r0 := G4.cell (M.length + 0) (by rw [get_r]; rfl)
 have f0 := G4.free (M.length + 0) (by rw [get_r]; rfl)
 have Z := G4.setv (M.length + 0) (by rw [get_r]; rfl) (.slice B3 m3 d3)
 rw [set_r] at Z
 try simp only [List.set_cons_zero] at Z
 have s0 := Z.cell (M.length + 0) (by rw [get_r]; rfl)
 have HF := Lib.hid (Z.fewM.fewO.less (L' := L ++ [⟨B3, m3, d3, nats (Na.dig (Na.bin n v * 255 ^ v))⟩]) (fun o ho => by
  rcases List.mem_append.1 ho with h | h
  ·exact List.mem_append_left _ h
  ·rw [List.mem_singleton] at h
   subst h
   exact List.mem_append_right _ (List.mem_of_getElem? (i := 3) rfl)))
 clear HT G4 Z
 go_wp2_with fail
 refine bodyPost_ret (v := .agg #[.slice B3 m3 d3]) (by simp [results, Tryz.results100, go_sem, s0]) rfl ?_
 exact ⟨B3, m3, d3, rfl, HF.out⟩
set_option maxHeartbeats 4000000 in
theorem c_Errors (h : Ow w0 w g M L O) (hc : Cv d m f n) (hv : v ≤ n) :
  Calls Tryz.prog 60 #[.agg #[.int .i64 2, .int .i64 (d : Int), .int .i64 (m : Int), .int .i64 (f : Int)], .int .i64 (v : Int)] w (GotO w0 g M L O (Na.dig (Na.bin n v * 255 ^ v)) 0) := by
 have H0 := (h.code d m f).boxed (.slice none 0 0) 25
 simp only [World.size_alloc] at H0
 obtain ⟨k0, k1, k2, k3⟩ := H0.cdc (O.length + 0) (by rw [get_r]; rfl)
 have HC := Lib.hid (c_wrong H0 hc hv)
 have HK := Lib.hid hc
 have HN := Lib.hid hv
 obtain ⟨l0, hl0⟩ : ∃ z, Na.dig (Na.bin n v * 255 ^ v) = z := ⟨_, rfl⟩
 rw [hl0]
 have HL := Lib.hid hl0
 clear h H0 hl0 hc hv
 go_enter Tryz.func60, Tryz.ntmps60
 go_wp2_with fail
 refine HC.out.mono ?_
 rintro e w1 ⟨rfl, H1⟩
 obtain ⟨q0, q1, q2, q3⟩ := H1.cdc (O.length + 0) (by rw [get_r]; rfl)
 have HE := Lib.hid (c_errors H1 HK.out HN.out)
 rw [HL.out] at HE
 clear HC H1 k0 k1 k2 k3
 go_wp2_with fail
 refine HE.out.mono ?_
 rintro e w2 ⟨B3, m3, d3, rfl, G4⟩
 have r0 := G4.cell (M.length + 0) (by rw [get_r]; rfl)
 have f0 := G4.free (M.length + 0) (by rw [get_r]; rfl)
 have Z := G4.setv (M.length + 0) (by rw [get_r]; rfl) (.slice B3 m3 d3)
 rw [set_r] at Z
 try simp only [List.set_cons_zero] at Z
 have s0 := Z.cell (M.length + 0) (by rw [get_r]; rfl)
 have HF := Lib.hid Z.fewM.fewO
 clear HE G4 Z q0 q1 q2 q3
 go_wp2_with fail
 refine bodyPost_ret (v := .tuple #[.agg #[.slice B3 m3 d3], .int .i64 0]) (by simp [results, Tryz.results60, go_sem, s0]) rfl ?_
 exact ⟨B3, m3, d3, rfl, HF.out⟩
end
end Go.Proofs.YtenokdhldngkgaaGreatDoor
namespace Go.Proofs.YtenokdhldngkgaaGreatDoor
set_option linter.unusedVariables false
namespace Ch
def sm (f : Nat → Int) : Nat → Int
 | 0 => 0
 | n + 1 => sm f n + f n
theorem sm_congr {f g : Nat → Int} : ∀ n, (∀ i, i < n → f i = g i) → sm f n = sm g n
 | 0, _ => rfl
 | n + 1, h => by
  show sm f n + f n = sm g n + g n
  rw [sm_congr n fun i hi => h i (by omega), h n (by omega)]
theorem sm_add (f g : Nat → Int) : ∀ n, sm (fun i => f i + g i) n = sm f n + sm g n
 | 0 => rfl
 | n + 1 => by
  show sm _ n + (f n + g n) = (sm f n + f n) + (sm g n + g n)
  rw [sm_add f g n]; omega
theorem sm_zero : ∀ n, sm (fun _ => 0) n = 0
 | 0 => rfl
 | n + 1 => by show sm _ n + 0 = 0; rw [sm_zero n]; rfl
theorem sm_mul (c : Int) (f : Nat → Int) : ∀ n, sm (fun i => c * f i) n = c * sm f n
 | 0 => (Int.mul_zero c).symm
 | n + 1 => by
  show sm _ n + c * f n = c * (sm f n + f n)
  rw [sm_mul c f n, Int.mul_add]
theorem sm_first (f : Nat → Int) : ∀ n, sm f (n + 1) = f 0 + sm (fun i => f (i + 1)) n
 | 0 => by show (0 : Int) + f 0 = f 0 + 0; omega
 | n + 1 => by
  show sm f (n + 1) + f (n + 1) = f 0 + (sm _ n + f (n + 1))
  rw [sm_first f n]; omega
theorem sm_split (f : Nat → Int) (a : Nat) : ∀ n, sm f (a + n) = sm f a + sm (fun i => f (a + i)) n
 | 0 => by show sm f a = sm f a + 0; omega
 | n + 1 => by
  show sm f (a + n) + f (a + n) = sm f a + (sm _ n + f (a + n))
  rw [sm_split f a n]; omega
theorem sm_swap (f : Nat → Nat → Int) (m : Nat) : ∀ n, sm (fun i => sm (fun j => f i j) m) n = sm (fun j => sm (fun i => f i j) n) m
 | 0 => by show (0 : Int) = sm (fun _ => 0) m; rw [sm_zero]
 | n + 1 => by
  show sm _ n + sm _ m = _
  rw [sm_swap f m n, ← sm_add]
  rfl
theorem sm_one {f : Nat → Int} {k : Nat} : ∀ n, k < n → (∀ i, i < n → i ≠ k → f i = 0) → sm f n = f k
 | 0, h, _ => by omega
 | n + 1, h, h0 => by
  show sm f n + f n = f k
  by_cases e : k = n
  ·subst e
   rw [sm_congr (g := fun _ => 0) k fun i hi => h0 i (by omega) (by omega), sm_zero]; omega
  ·rw [sm_one n (by omega) fun i hi hn => h0 i (by omega) hn, h0 n (by omega) (by omega)]; omega
def D : Nat → (Nat → Int) → Int
 | 0, N => N 0
 | w + 1, N => D w (fun i => N (i + 1) - N i)
def bi (n k : Nat) : Int := (Na.bin n k : Int)
theorem bi_succ (n k : Nat) : bi (n + 1) (k + 1) = bi n k + bi n (k + 1) := by unfold bi; rw [Na.bin_succ]; omega
theorem bi_zero (n : Nat) : bi n 0 = 1 := by unfold bi; rw [Na.bin_zero]; rfl
theorem bi_more {n k : Nat} (h : n < k) : bi n k = 0 := by unfold bi; rw [Na.bin_more h]; rfl
def sg (k : Nat) : Int := if k % 2 = 0 then 1 else -1
theorem sg_succ (k : Nat) : sg (k + 1) = - sg k := by
 unfold sg
 split <;> split <;> omega
theorem diff_sum : ∀ (w : Nat) (N : Nat → Int), D w N = sm (fun i => sg (w - i) * (bi w i * N i)) (w + 1)
 | 0, N => by
  show N 0 = 0 + sg (0 - 0) * (bi 0 0 * N 0)
  rw [bi_zero]
  show N 0 = 0 + 1 * (1 * N 0)
  omega
 | w + 1, N => by
  show D w (fun i => N (i + 1) - N i) = _
  rw [diff_sum w]
  have e1 : sm (fun i => sg (w - i) * (bi w i * (N (i + 1) - N i))) (w + 1) = sm (fun i => sg (w - i) * (bi w i * N (i + 1))) (w + 1) + sm (fun i => - (sg (w - i) * (bi w i * N i))) (w + 1) := by
   rw [← sm_add]
   refine sm_congr _ fun i _ => ?_
   rw [Int.mul_sub, Int.mul_sub]; omega
  rw [e1, sm_first (fun i => sg (w + 1 - i) * (bi (w + 1) i * N i)) (w + 1)]
  have e2 : sm (fun i => sg (w + 1 - (i + 1)) * (bi (w + 1) (i + 1) * N (i + 1))) (w + 1) = sm (fun i => sg (w - i) * (bi w i * N (i + 1))) (w + 1) + sm (fun i => sg (w - i) * (bi w (i + 1) * N (i + 1))) (w + 1) := by
   rw [← sm_add]
   refine sm_congr _ fun i _ => ?_
   rw [bi_succ, Int.add_mul, Int.mul_add, show w + 1 - (i + 1) = w - i by omega]
  rw [e2]
  have e3 : sm (fun i => - (sg (w - i) * (bi w i * N i))) (w + 1) = - (sg w * (bi w 0 * N 0)) + sm (fun i => sg (w - i) * (bi w (i + 1) * N (i + 1))) w := by
   rw [sm_first]
   congr 1
   refine sm_congr _ fun i hi => ?_
   rw [show w - i = (w - (i + 1)) + 1 by omega, sg_succ, Int.neg_mul]
  have e4 : sm (fun i => sg (w - i) * (bi w (i + 1) * N (i + 1))) (w + 1) = sm (fun i => sg (w - i) * (bi w (i + 1) * N (i + 1))) w := by
   show _ + sg (w - w) * (bi w (w + 1) * _) = _
   rw [bi_more (by omega)]; simp
  rw [e3, e4]
  show _ = sg (w + 1) * (bi (w + 1) 0 * N 0) + _
  rw [sg_succ, bi_zero, bi_zero, Int.neg_mul]
  omega
theorem alt_zero (w : Nat) (hw : 0 < w) : sm (fun i => sg (w - i) * bi w i) (w + 1) = 0 := by
 have h := diff_sum w (fun _ => 1)
 have e : ∀ w, 0 < w → D w (fun _ => 1) = 0 := by
  intro w hw
  obtain ⟨v, rfl⟩ : ∃ v, w = v + 1 := ⟨w - 1, by omega⟩
  show D v (fun _ => 1 - 1) = 0
  have : ∀ v, D v (fun _ => (0 : Int)) = 0 := by
   intro v
   induction v with
   | zero => rfl
   | succ v ih => exact ih
  exact this v
 rw [e w hw] at h
 rw [h]
 refine sm_congr _ fun i _ => ?_
 rw [Int.mul_one]
theorem sm_rev (f : Nat → Int) : ∀ n, sm (fun i => f (n - 1 - i)) n = sm f n
 | 0 => rfl
 | n + 1 => by
  rw [sm_first]
  show f (n + 1 - 1 - 0) + _ = sm f n + f n
  have : sm (fun i => f (n + 1 - 1 - (i + 1))) n = sm (fun i => f (n - 1 - i)) n := sm_congr _ fun i _ => by rw [show n + 1 - 1 - (i + 1) = n - 1 - i by omega]
  rw [this, sm_rev f n, show n + 1 - 1 - 0 = n by omega]
  omega
end Ch
namespace Ch
def cw (c i : Nat) : Nat := if i ≤ c then 1 else 256 ^ (i - c)
def tm (c w j : Nat) : Nat := Na.bin w j * (256 ^ (w - c - j) - 1)
def pl (t : Nat → Nat) : Nat → Nat
 | 0 => 0
 | n + 1 => if n % 2 = 0 then pl t n + t n else pl t n
def mi (t : Nat → Nat) : Nat → Nat
 | 0 => 0
 | n + 1 => if n % 2 = 0 then mi t n else mi t n + t n
theorem pm_sum (t : Nat → Nat) : ∀ n, (pl t n : Int) - (mi t n : Int) = sm (fun j => sg j * (t j : Int)) n
 | 0 => rfl
 | n + 1 => by
  have h := pm_sum t n
  show ((if n % 2 = 0 then pl t n + t n else pl t n : Nat) : Int) - ((if n % 2 = 0 then mi t n else mi t n + t n : Nat) : Int) = sm _ n + sg n * (t n : Int)
  rw [← h]
  unfold sg
  split <;> omega
theorem pl_first (t : Nat → Nat) : ∀ n, pl t (n + 1) = t 0 + mi (fun j => t (j + 1)) n ∧ mi t (n + 1) = pl (fun j => t (j + 1)) n
 | 0 => by
  constructor
  ·show (if 0 % 2 = 0 then 0 + t 0 else 0) = t 0 + 0
   simp
  ·rfl
 | n + 1 => by
  obtain ⟨h1, h2⟩ := pl_first t n
  constructor
  ·show (if (n + 1) % 2 = 0 then pl t (n + 1) + t (n + 1) else pl t (n + 1)) = t 0 + (if n % 2 = 0 then mi (fun j => t (j + 1)) n else mi (fun j => t (j + 1)) n + t (n + 1))
   rw [h1]
   split <;> split <;> omega
  ·show (if (n + 1) % 2 = 0 then mi t (n + 1) else mi t (n + 1) + t (n + 1)) = (if n % 2 = 0 then pl (fun j => t (j + 1)) n + t (n + 1) else pl (fun j => t (j + 1)) n)
   rw [h2]
   split <;> split <;> omega
theorem mi_le : ∀ (n : Nat) (t : Nat → Nat), (∀ j, j + 1 < n → t (j + 1) ≤ t j) → mi t n ≤ pl t n ∧ (0 < n → pl t n ≤ mi t n + t 0)
 | 0, t, _ => ⟨Nat.le_refl _, fun h => absurd h (by omega)⟩
 | n + 1, t, h => by
  obtain ⟨e1, e2⟩ := pl_first t n
  obtain ⟨h1, h2⟩ := mi_le n (fun j => t (j + 1)) fun j hj => h (j + 1) (by omega)
  rw [e1, e2]
  refine ⟨?_, fun _ => by omega⟩
  rcases Nat.eq_zero_or_pos n with e | e
  ·subst e; exact Nat.zero_le _
  ·have := h2 e
   have := h 0 (by omega)
   show pl (fun j => t (j + 1)) n ≤ _
   have h5 : (fun j => t (j + 1)) 0 = t 1 := rfl
   rw [h5] at *
   omega
theorem bin_step (w j : Nat) : Na.bin w (j + 1) ≤ w * Na.bin w j := by
 rcases w with _ | w
 ·rw [Na.bin_more (by omega)]; exact Nat.zero_le _
 have h := Na.bin_absorb w j
 have h2 : Na.bin w j ≤ Na.bin (w + 1) j := by
  rcases j with _ | j
  ·rw [Na.bin_zero, Na.bin_zero]; exact Nat.le_refl _
  ·rw [Na.bin_succ]; omega
 calc Na.bin (w + 1) (j + 1) ≤ (j + 1) * Na.bin (w + 1) (j + 1) := Nat.le_mul_of_pos_left _ (by omega)
  _ = (w + 1) * Na.bin w j := h
  _ ≤ (w + 1) * Na.bin (w + 1) j := Nat.mul_le_mul_left _ h2
theorem tm_less {c w j : Nat} (hw : w ≤ 256) (hj : j + 1 < w - c) : tm c w (j + 1) ≤ tm c w j := by
 unfold tm
 obtain ⟨k, hk⟩ : ∃ k, w - c - j = k + 1 := ⟨w - c - j - 1, by omega⟩
 rw [hk, show w - c - (j + 1) = k by omega]
 have h1 := bin_step w j
 have h3 : 256 * (256 ^ k - 1) ≤ 256 ^ (k + 1) - 1 := by rw [Nat.pow_succ]; omega
 calc Na.bin w (j + 1) * (256 ^ k - 1) ≤ (w * Na.bin w j) * (256 ^ k - 1) := Nat.mul_le_mul_right _ h1
  _ ≤ (256 * Na.bin w j) * (256 ^ k - 1) := Nat.mul_le_mul_right _ (Nat.mul_le_mul_right _ hw)
  _ = Na.bin w j * (256 * (256 ^ k - 1)) := by rw [Nat.mul_comm 256, Nat.mul_assoc]
  _ ≤ Na.bin w j * (256 ^ (k + 1) - 1) := Nat.mul_le_mul_left _ h3
def N (c : Nat) (i : Nat) : Int := (cw c i : Int)
theorem prog_diff (c w : Nat) (hw : 0 < w) : (pl (tm c w) (w - c) : Int) - (mi (tm c w) (w - c) : Int) = D w (N c) := by
 rw [pm_sum, diff_sum, ← sm_rev (fun i => sg (w - i) * (bi w i * N c i))]
 have hz := alt_zero w hw
 rw [← sm_rev (fun i => sg (w - i) * bi w i)] at hz
 have e1 : sm (fun i => sg (w - (w + 1 - 1 - i)) * (bi w (w + 1 - 1 - i) * N c (w + 1 - 1 - i))) (w + 1) = sm (fun j => sg j * (bi w j * (N c (w - j) - 1))) (w + 1) + sm (fun i => sg (w - (w + 1 - 1 - i)) * bi w (w + 1 - 1 - i)) (w + 1) := by
  rw [← sm_add]
  refine sm_congr _ fun j hj => ?_
  rw [show w + 1 - 1 - j = w - j by omega, show w - (w - j) = j by omega]
  have hs : bi w (w - j) = bi w j := by unfold bi; rw [Na.bin_symm (by omega)]
  rw [hs, Int.mul_sub, Int.mul_sub, Int.mul_one]
  omega
 rw [e1, hz]
 have e2 := sm_split (fun j => sg j * (bi w j * (N c (w - j) - 1))) (w - c) (w + 1 - (w - c))
 rw [show w - c + (w + 1 - (w - c)) = w + 1 by omega] at e2
 rw [e2]
 have e3 : sm (fun i => sg (w - c + i) * (bi w (w - c + i) * (N c (w - (w - c + i)) - 1))) (w + 1 - (w - c)) = 0 := by
  rw [← sm_zero (w + 1 - (w - c))]
  refine sm_congr _ fun i _ => ?_
  have : N c (w - (w - c + i)) = 1 := by unfold N cw; rw [if_pos (by omega)]; rfl
  rw [this]; simp
 rw [e3, Int.add_zero, Int.add_zero]
 refine sm_congr _ fun j hj => ?_
 have h1 : N c (w - j) = ((256 ^ (w - c - j) : Nat) : Int) := by unfold N cw; rw [if_neg (by omega), show w - j - c = w - c - j by omega]
 have h2 : 0 < 256 ^ (w - c - j) := Nat.pow_pos (by omega)
 rw [h1]
 unfold tm bi
 rw [Int.natCast_mul, Int.natCast_sub (by omega)]
 rfl
def dt (c w : Nat) (i : Nat) : Nat := cw c i * Na.bin w i
def dp (c w : Nat) : Nat → Nat
 | 0 => 0
 | i + 1 => if (w - i) % 2 = 0 then dp c w i + dt c w i else dp c w i
def dm (c w : Nat) : Nat → Nat
 | 0 => 0
 | i + 1 => if (w - i) % 2 = 0 then dm c w i else dm c w i + dt c w i
theorem doc_sum (c w : Nat) : ∀ n, (dp c w n : Int) - (dm c w n : Int) = sm (fun i => sg (w - i) * (bi w i * N c i)) n
 | 0 => rfl
 | n + 1 => by
  have h := doc_sum c w n
  show _ = sm _ n + sg (w - n) * (bi w n * N c n)
  rw [← h]
  have e : bi w n * N c n = (dt c w n : Int) := by unfold bi N dt; rw [Int.natCast_mul, Int.mul_comm]
  rw [e]
  show ((if (w - n) % 2 = 0 then dp c w n + dt c w n else dp c w n : Nat) : Int) - ((if (w - n) % 2 = 0 then dm c w n else dm c w n + dt c w n : Nat) : Int) = _
  unfold sg
  split <;> omega
def wd (n c w : Nat) : Nat := if w = 0 then 1 else Na.bin n w * (pl (tm c w) (w - c) - mi (tm c w) (w - c))
theorem prog_le (c w : Nat) (hw : w ≤ 256) : mi (tm c w) (w - c) ≤ pl (tm c w) (w - c) := (mi_le (w - c) _ fun j hj => tm_less hw hj).1
theorem doc_le (c w : Nat) (hw : w ≤ 256) : dm c w (w + 1) ≤ dp c w (w + 1) := by
 have h := doc_sum c w (w + 1)
 rw [← diff_sum] at h
 rcases Nat.eq_zero_or_pos w with e | e
 ·subst e
  have : D 0 (N c) = 1 := by show N c 0 = 1; unfold N cw; rw [if_pos (by omega)]; rfl
  omega
 ·rw [← prog_diff c w e] at h
  have := prog_le c w hw
  omega
theorem wd_doc (n c w : Nat) (hw : w ≤ 256) : (dp c w (w + 1) - dm c w (w + 1)) * Na.bin n w = wd n c w := by
 have h := doc_sum c w (w + 1)
 rw [← diff_sum] at h
 have h1 := doc_le c w hw
 unfold wd
 split
 ·next e =>
  subst e
  have : D 0 (N c) = 1 := by show N c 0 = 1; unfold N cw; rw [if_pos (by omega)]; rfl
  rw [Na.bin_zero]
  omega
 ·next e =>
  rw [← prog_diff c w (by omega)] at h
  have := prog_le c w hw
  rw [Nat.mul_comm]
  congr 1
  omega
def ns (f : Nat → Nat) : Nat → Nat
 | 0 => 0
 | n + 1 => ns f n + f n
theorem ns_sm (f : Nat → Nat) : ∀ n, (ns f n : Int) = sm (fun i => (f i : Int)) n
 | 0 => rfl
 | n + 1 => by show ((ns f n + f n : Nat) : Int) = sm _ n + (f n : Int); rw [← ns_sm f n]; omega
end Ch
namespace Ch
theorem ns_congr {f g : Nat → Nat} : ∀ n, (∀ i, i < n → f i = g i) → ns f n = ns g n
 | 0, _ => rfl
 | n + 1, h => by
  show ns f n + f n = ns g n + g n
  rw [ns_congr n fun i hi => h i (by omega), h n (by omega)]
theorem ns_zero : ∀ n, ns (fun _ => 0) n = 0
 | 0 => rfl
 | n + 1 => by show ns _ n + 0 = 0; rw [ns_zero n]
theorem ns_none {f : Nat → Nat} (n : Nat) (h : ∀ i, i < n → f i = 0) : ns f n = 0 := by rw [ns_congr n h, ns_zero]
theorem ns_split (f : Nat → Nat) (a : Nat) : ∀ n, ns f (a + n) = ns f a + ns (fun i => f (a + i)) n
 | 0 => rfl
 | n + 1 => by
  show ns f (a + n) + f (a + n) = ns f a + (ns _ n + f (a + n))
  rw [ns_split f a n]; omega
theorem ns_cut {f : Nat → Nat} {a b : Nat} (h : ∀ i, a ≤ i → f i = 0) (hab : a ≤ b) : ns f b = ns f a := by
 obtain ⟨k, rfl⟩ : ∃ k, b = a + k := ⟨b - a, by omega⟩
 rw [ns_split, ns_none k fun i _ => h _ (by omega)]
 rfl
theorem ns_both {f : Nat → Nat} {a b : Nat} (h : ∀ i, min a b ≤ i → i < max a b → f i = 0) : ns f b = ns f a := by
 rcases Nat.le_total a b with hab | hab
 ·obtain ⟨k, rfl⟩ : ∃ k, b = a + k := ⟨b - a, by omega⟩
  rw [ns_split, ns_none k fun i hi => h _ (by omega) (by omega)]
  rfl
 ·obtain ⟨k, rfl⟩ : ∃ k, a = b + k := ⟨a - b, by omega⟩
  rw [ns_split, ns_none k fun i hi => h _ (by omega) (by omega)]
  rfl
theorem ns_drop {f : Nat → Nat} (a n : Nat) (h : ∀ i, i < a → f i = 0) : ns (fun i => f (a + i)) n = ns f (a + n) := by
 rw [ns_split, ns_none a h]; omega
def nt (n u g o m : Nat) : Nat := Na.bin u g * Na.bin (u - g) o * 254 ^ o * Na.bin (n - u) m * 255 ^ m
def nr (n f u w : Nat) : Nat := ns (fun g => if u ≤ w + g then ns (fun o => nt n u g o (w + g - u)) (f + 1 - g - (w + g - u)) else 0) (f + 1)
def wr (n c f w : Nat) : Nat := ns (fun i => wd n c (i + 1) * nr n f (i + 1) w) n
def bl (n f : Nat) : Nat := ns (fun v => Na.bin n v * 255 ^ v) (f + 1)
theorem nt_lost {n u g o m : Nat} (h : u < g) : nt n u g o m = 0 := by unfold nt; rw [Na.bin_more h]; simp
theorem nt_chg {n u g o m : Nat} (h : u < g + o) : nt n u g o m = 0 := by
 rcases Nat.lt_or_ge u g with h1 | h1
 ·exact nt_lost h1
 ·unfold nt; rw [Na.bin_more (show u - g < o by omega)]; simp
theorem nt_new {n u g o m : Nat} (h : n - u < m) : nt n u g o m = 0 := by unfold nt; rw [Na.bin_more h]; simp
theorem nr_out {n f u w : Nat} (h : u < w - f ∨ w + f < u) : nr n f u w = 0 := by
 refine ns_none _ fun g hg => ?_
 rcases h with h | h
 ·rw [if_pos (by omega), show f + 1 - g - (w + g - u) = 0 by omega]
  rfl
 ·rw [if_neg (by omega)]
theorem wr_range (n c f w : Nat) (hw : w ≤ n) : ns (fun i => wd n c (max 1 (w - f) + i) * nr n f (max 1 (w - f) + i) w) (min n (w + f) + 1 - max 1 (w - f)) = wr n c f w := by
 obtain ⟨a, ha⟩ : ∃ a, max 1 (w - f) = a + 1 := ⟨max 1 (w - f) - 1, by omega⟩
 rw [ha]
 have e : ns (fun i => wd n c (a + 1 + i) * nr n f (a + 1 + i) w) (min n (w + f) + 1 - (a + 1)) = ns (fun i => (fun i => wd n c (i + 1) * nr n f (i + 1) w) (a + i)) (min n (w + f) + 1 - (a + 1)) := ns_congr _ fun i _ => by show _ = wd n c (a + i + 1) * nr n f (a + i + 1) w; rw [show a + 1 + i = a + i + 1 by omega]
 rw [e, ns_drop (f := fun i => wd n c (i + 1) * nr n f (i + 1) w)]
 ·unfold wr
  refine (ns_both ?_).symm
  intro i h1 h2
  show wd n c (i + 1) * nr n f (i + 1) w = 0
  rw [nr_out (by omega), Nat.mul_zero]
 ·intro i hi
  show wd n c (i + 1) * nr n f (i + 1) w = 0
  rw [nr_out (by omega), Nat.mul_zero]
def nd (n f u w g o : Nat) : Nat := if w + g < u ∨ f < g + o + (w + g - u) ∨ u < g + o ∨ n - u < w + g - u then 0 else nt n u g o (w + g - u)
theorem nr_doc (n f u w : Nat) : ns (fun g => ns (fun o => nd n f u w g o) (f + 1 - g)) (f + 1) = nr n f u w := by
 refine ns_congr _ fun g hg => ?_
 rcases Nat.lt_or_ge (w + g) u with h | h
 ·rw [if_neg (by omega), ns_none]
  intro o _
  exact if_pos (.inl h)
 ·rw [if_pos h]
  rw [ns_cut (f := fun o => nd n f u w g o) (a := f + 1 - g - (w + g - u)) (fun o ho => ?_) (by omega)]
  ·refine ns_congr _ fun o ho => ?_
   unfold nd
   by_cases hc : w + g < u ∨ f < g + o + (w + g - u) ∨ u < g + o ∨ n - u < w + g - u
   ·rw [if_pos hc]
    rcases hc with h1 | h1 | h1 | h1
    ·omega
    ·omega
    ·exact (nt_chg h1).symm
    ·exact (nt_new h1).symm
   ·rw [if_neg hc]
  ·exact if_pos (.inr (.inl (by omega)))
end Ch
end Go.Proofs.YtenokdhldngkgaaGreatDoor

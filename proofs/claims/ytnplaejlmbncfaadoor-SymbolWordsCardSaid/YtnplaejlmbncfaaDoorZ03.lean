/- Sb Sc Sd Se Sf Nat Dice -/
import Derived.Test.YtnplaejlmbncfaaDoorZ01
import Derived.Test.YtnplaejlmbncfaaDoorZ02
import Derived.StillTailTactics
import Derived.Outline
namespace Go.Proofs.YtnplaejlmbncfaaDoor
namespace Sy
open Gf
set_option linter.unusedVariables false
/-- the product of x - 2^k -/
def gen : Nat → List UInt8
  | 0 => [1]
  | k + 1 => Po.mulV (gen k) [gpow 2 k, 1]
theorem gen_ok : ∀ k, k ≤ 200 → Po.vld (gen k) = true ∧ (gen k).length = k + 1 := by
  intro k
  induction k with
  | zero => exact fun _ => ⟨by decide +kernel, rfl⟩
  | succ k ih =>
    intro hk
    obtain ⟨h1, h2⟩ := ih (by omega)
    refine ⟨Po.mulV_vld _ _ h1 (Po.vld_lin _) (by rw [h2]; simp; omega), ?_⟩
    show (Po.mulV (gen k) [gpow 2 k, 1]).length = _
    rw [Po.mulV_pos _ _ (by omega) (by simp)]
    unfold Po.mulA
    rw [Po.mulTo_length, h2]
    simp
theorem gen_root : ∀ m k, k < m → Po.eval (gen m) (gpow 2 k) = 0 := by
  intro m
  induction m with
  | zero => intro k hk; omega
  | succ m ih =>
    intro k hk
    show Po.eval (Po.mulV (gen m) [gpow 2 m, 1]) _ = 0
    rw [Po.eval_times]
    rcases Nat.lt_or_ge k m with h | h
    · exact .inl (ih k h)
    · exact .inr (by rw [show k = m by omega])
theorem hor_eval (x : UInt8) (l : List UInt8) : Po.eval l.reverse x = hor x l := by
  unfold Po.eval hor
  rw [List.reverse_reverse]
/-- the dividend: the data at the high powers -/
def high (m : Nat) (data : List UInt8) : List UInt8 := (data ++ List.replicate m 0).reverse
def rest (m : Nat) (data : List UInt8) : List UInt8 := Po.rem (Po.trim (high m data)) (gen m)
/-- the code word -/
def enc (m : Nat) (data : List UInt8) : List UInt8 := data ++ (List.range m).map fun i => Po.co (rest m data) (m - 1 - i)
theorem enc_length (m : Nat) (data : List UInt8) : (enc m data).length = data.length + m := by unfold enc; simp
theorem rest_length (m : Nat) (hm : m ≤ 200) (data : List UInt8) : (rest m data).length ≤ m := by
  have h := (gen_ok m hm).2
  have := Po.rem_lt (Po.trim (high m data)) (gen m) (by omega)
  unfold rest
  omega
theorem co_rev {l : List UInt8} {i : Nat} (h : i < l.length) : Po.co l.reverse i = wd l (l.length - 1 - i) := by
  unfold Po.co wd
  rw [List.getElem?_reverse h]
theorem wd_enc_hi (m : Nat) (data : List UInt8) {i : Nat} (h : i < m) : wd (enc m data) (data.length + i) = Po.co (rest m data) (m - 1 - i) := by
  unfold enc
  rw [wd_right]
  unfold wd
  rw [List.getElem?_map, List.getElem?_range h]
  rfl
theorem wd_enc_lo (m : Nat) (data : List UInt8) {i : Nat} (h : i < data.length) : wd (enc m data) i = wd data i := by
  unfold enc
  rw [wd_left h]
theorem wd_replicate (k i : Nat) : wd (List.replicate k 0) i = 0 := by
  unfold wd
  rw [List.getElem?_replicate]
  split <;> rfl
theorem high_length (m : Nat) (data : List UInt8) : (high m data).length = data.length + m := by unfold high; simp; omega
theorem co_high (m : Nat) (data : List UInt8) (i : Nat) : Po.co (high m data) i = if m ≤ i ∧ i < data.length + m then wd data (data.length + m - 1 - i) else 0 := by
  rcases Nat.lt_or_ge i (data.length + m) with h | h
  · unfold high
    rw [co_rev (by simpa using h)]
    simp only [List.length_append, List.length_replicate]
    rcases Nat.lt_or_ge i m with h1 | h1
    · rw [if_neg (by omega), show data.length + m - 1 - i = data.length + (m - 1 - i) by omega, wd_right, wd_replicate]
    · rw [if_pos ⟨h1, h⟩, wd_left (by omega)]
  · rw [if_neg (by omega)]
    exact Po.co_big _ _ (by rw [high_length]; exact h)
theorem co_enc (m : Nat) (hm : m ≤ 200) (data : List UInt8) (i : Nat) : Po.co (enc m data).reverse i = Po.co (high m data) i ^^^ Po.co (rest m data) i := by
  rcases Nat.lt_or_ge i (data.length + m) with h | h
  · rw [co_rev (by rw [enc_length]; exact h), enc_length, co_high]
    rcases Nat.lt_or_ge i m with h1 | h1
    · rw [if_neg (by omega), UInt8.zero_xor, show data.length + m - 1 - i = data.length + (m - 1 - i) by omega, wd_enc_hi m data (by omega), show m - 1 - (m - 1 - i) = i by omega]
    · rw [if_pos ⟨h1, h⟩, wd_enc_lo m data (by omega), Po.co_big (rest m data) i (by have := rest_length m hm data; omega), UInt8.xor_zero]
  · rw [Po.co_big _ _ (by rw [List.length_reverse, enc_length]; exact h), Po.co_big (high m data) i (by rw [high_length]; exact h), Po.co_big (rest m data) i (by have := rest_length m hm data; omega)]
    rfl
/-- all values at the first m powers of 2 are 0 -/
def Cw (m : Nat) (l : List UInt8) : Prop := ∀ k, k < m → syn l k = 0
theorem enc_cw (m : Nat) (hm : m ≤ 200) (data : List UInt8) : Cw m (enc m data) := by
  intro k hk
  unfold syn
  rw [← hor_eval, Po.eval_add (high m data) (rest m data) _ (co_enc m hm data)]
  have hg := gen_ok m hm
  have h1 : ∀ i, Po.co (high m data) i = Po.co (rest m data) i ^^^ Po.cv (Po.co (Po.quo (Po.trim (high m data)) (gen m))) (Po.co (gen m)) i := fun i => by
    rw [← Po.co_trim]
    exact Po.div_co _ _ (by omega) (Po.vld_top _ hg.1 (by omega)) i
  have h2 := Po.eval_add (rest m data) (Po.mulV (Po.quo (Po.trim (high m data)) (gen m)) (gen m)) (high m data) (fun i => by rw [h1 i, Po.co_mulV]) (gpow 2 k)
  rw [h2, Po.eval_mulV, gen_root m k hk, gmul_zero, UInt8.xor_zero, UInt8.xor_self]
end Sy
end Go.Proofs.YtnplaejlmbncfaaDoor

namespace Go.Proofs.YtnplaejlmbncfaaDoor
namespace Sy
open Gf
set_option linter.unusedVariables false
theorem ls_single {f : Nat → UInt8} {n k : Nat} (hk : k < n) (h : ∀ j, j < n → j ≠ k → f j = 0) : ls f (List.range n) = f k := by
  induction n with
  | zero => omega
  | succ n ih =>
    rw [ls_range_succ]
    rcases Nat.lt_or_ge k n with h1 | h1
    · rw [ih h1 fun j hj => h j (by omega), h n (by omega) (by omega), UInt8.xor_zero]
    · have e : n = k := by omega
      subst e
      rw [ls_zero fun j hj => h j (by have := List.mem_range.1 hj; omega) (by have := List.mem_range.1 hj; omega), UInt8.zero_xor]
theorem ls_two {f : Nat → UInt8} {n a b : Nat} (ha : a < n) (hb : b < n) (hab : a ≠ b) (h : ∀ j, j < n → j ≠ a → j ≠ b → f j = 0) : ls f (List.range n) = f a ^^^ f b := by
  have e : ls f (List.range n) = ls (fun j => (if j = a then f a else 0) ^^^ (if j = b then f b else 0)) (List.range n) := ls_congr fun j hj => by
    have hj := List.mem_range.1 hj
    by_cases h1 : j = a
    · rw [if_pos h1, if_neg (by omega), h1, UInt8.xor_zero]
    · by_cases h2 : j = b
      · rw [if_neg h1, if_pos h2, h2, UInt8.zero_xor]
      · rw [if_neg h1, if_neg h2, h j hj h1 h2]; rfl
  rw [e, ls_add, ls_single (k := a) ha (fun j _ hj => if_neg hj), ls_single (k := b) hb (fun j _ hj => if_neg hj), if_pos rfl, if_pos rfl]
/-- a row, none behind the last one -/
def rw_ (rows : List (List UInt8)) (k : Nat) : List UInt8 := rows[k]?.getD []
theorem rw_lt {rows : List (List UInt8)} {k : Nat} (h : k < rows.length) : rows[k]? = some (rw_ rows k) := by unfold rw_; rw [List.getElem?_eq_getElem h]; rfl
theorem rw_some {rows : List (List UInt8)} {k : Nat} {r : List UInt8} (h : rows[k]? = some r) : rw_ rows k = r := by unfold rw_; rw [h]; rfl
def dot (r : List UInt8) (y : Nat → UInt8) (n : Nat) : UInt8 := ls (fun j => gmul (wd r j) (y j)) (List.range n)
/-- the row times t -/
def scl (t : UInt8) (r : List UInt8) : List UInt8 := r.map fun a => gmul a t
/-- the row and t times another -/
def addRow (t : UInt8) (p r : List UInt8) : List UInt8 := (List.range r.length).map fun q => wd r q ^^^ gmul t (wd p q)
theorem scl_length (t : UInt8) (r : List UInt8) : (scl t r).length = r.length := List.length_map _
theorem addRow_length (t : UInt8) (p r : List UInt8) : (addRow t p r).length = r.length := by unfold addRow; simp
theorem wd_scl (t : UInt8) (r : List UInt8) (j : Nat) : wd (scl t r) j = gmul (wd r j) t := by
  unfold scl wd
  rw [List.getElem?_map]
  cases r[j]? with
  | none => exact (zero_gmul t).symm
  | some a => rfl
theorem wd_addRow (t : UInt8) (p r : List UInt8) {j : Nat} (h : j < r.length) : wd (addRow t p r) j = wd r j ^^^ gmul t (wd p j) := by
  conv => lhs; unfold addRow wd
  rw [List.getElem?_map, List.getElem?_range h]
  rfl
theorem addRow_zero (p r : List UInt8) : addRow 0 p r = r := wd_ext (addRow_length _ _ _) fun i hi => by
  rw [addRow_length] at hi
  rw [wd_addRow _ _ _ hi, zero_gmul, UInt8.xor_zero]
theorem dot_scl (t : UInt8) (r : List UInt8) (y : Nat → UInt8) (n : Nat) : dot (scl t r) y n = gmul t (dot r y n) := by
  unfold dot
  rw [← ls_mul]
  refine ls_congr fun j _ => ?_
  rw [wd_scl, gmul_comm (wd r j) t, gmul_assoc]
theorem dot_addRow (t : UInt8) (p r : List UInt8) (y : Nat → UInt8) {n : Nat} (h : n ≤ r.length) : dot (addRow t p r) y n = dot r y n ^^^ gmul t (dot p y n) := by
  unfold dot
  rw [← ls_mul, ← ls_add]
  refine ls_congr fun j hj => ?_
  have hj := List.mem_range.1 hj
  rw [wd_addRow _ _ _ (by omega), gmul_add', gmul_assoc]
/-- what solves all equations -/
def Ker (rows : List (List UInt8)) (n : Nat) (y : Nat → UInt8) : Prop := ∀ k, k < rows.length → dot (rw_ rows k) y n = 0
def Wid (rows : List (List UInt8)) (n : Nat) : Prop := ∀ k, k < rows.length → (rw_ rows k).length = n
/-- the first columns are those of the unit matrix -/
def Uni (rows : List (List UInt8)) (c : Nat) : Prop := ∀ j, j < c → ∀ k, k < rows.length → wd (rw_ rows k) j = if k = j then 1 else 0
/-- the first row from c on with something in column c -/
def piv (c : Nat) (rows : List (List UInt8)) : Option Nat := ((rows.drop c).findIdx? fun r => wd r c != 0).map (c + ·)
def swapR (rows : List (List UInt8)) (c p : Nat) : List (List UInt8) := (rows.set c (rw_ rows p)).set p (rw_ rows c)
def leadOf (rows : List (List UInt8)) (c : Nat) : UInt8 := ginv (wd (rw_ rows c) c)
def clearC (rows : List (List UInt8)) (c : Nat) (p : List UInt8) : List (List UInt8) := rows.mapIdx fun k r => if k = c then r else addRow (wd r c) p r
def stepC (rows : List (List UInt8)) (c p : Nat) : List (List UInt8) :=
  let R := swapR rows c p
  let S := R.set c (scl (leadOf R c) (rw_ R c))
  clearC S c (rw_ S c)
def elim (rows : List (List UInt8)) : Nat → Option (List (List UInt8))
  | 0 => some rows
  | c + 1 => match elim rows c with
    | none => none
    | some R => match piv c R with
      | none => none
      | some p => some (stepC R c p)
def badR (rows : List (List UInt8)) (w : Nat) : Bool := (rows.drop w).any fun r => wd r w != 0
def outR (rows : List (List UInt8)) (w : Nat) : List UInt8 := (rows.take w).map fun r => wd r w
/-- the only solution, where there is just one -/
def solve (rows : List (List UInt8)) (w : Nat) : Option (List UInt8) := match elim rows w with
  | none => none
  | some R => if badR R w then none else some (outR R w)
theorem swap_length (rows : List (List UInt8)) (c p : Nat) : (swapR rows c p).length = rows.length := by unfold swapR; simp
theorem rw_swap {rows : List (List UInt8)} {c p : Nat} (hc : c < rows.length) (hp : p < rows.length) {k : Nat} : rw_ (swapR rows c p) k = if k = c then rw_ rows p else if k = p then rw_ rows c else rw_ rows k := by
  unfold swapR
  conv => lhs; unfold rw_
  rw [List.getElem?_set, List.getElem?_set]
  by_cases h1 : p = k
  · subst h1
    rw [if_pos rfl, if_pos (by simpa using hp)]
    by_cases h2 : p = c
    · subst h2; rw [if_pos rfl]; rfl
    · rw [if_neg h2, if_pos rfl]; rfl
  · rw [if_neg h1]
    by_cases h2 : c = k
    · subst h2; rw [if_pos rfl, if_pos hc, if_pos rfl]; rfl
    · rw [if_neg h2, if_neg (fun e => h2 e.symm), if_neg (fun e => h1 e.symm)]; rfl
theorem rw_set {rows : List (List UInt8)} {c : Nat} {r : List UInt8} (hc : c < rows.length) {k : Nat} : rw_ (rows.set c r) k = if k = c then r else rw_ rows k := by
  conv => lhs; unfold rw_
  rw [List.getElem?_set]
  by_cases h : c = k
  · subst h; rw [if_pos rfl, if_pos hc, if_pos rfl]; rfl
  · rw [if_neg h, if_neg (fun e => h e.symm)]; rfl
theorem clear_length (rows : List (List UInt8)) (c : Nat) (p : List UInt8) : (clearC rows c p).length = rows.length := by unfold clearC; simp
theorem rw_clear {rows : List (List UInt8)} {c k : Nat} {p : List UInt8} (hk : k < rows.length) : rw_ (clearC rows c p) k = if k = c then rw_ rows k else addRow (wd (rw_ rows k) c) p (rw_ rows k) := by
  have e := rw_lt hk
  refine rw_some ?_
  unfold clearC
  rw [List.getElem?_mapIdx, e]
  rfl
theorem step_length (rows : List (List UInt8)) (c p : Nat) : (stepC rows c p).length = rows.length := by
  unfold stepC
  simp only [clear_length, List.length_set, swap_length]
/-- the pivot's row behind a step, and the others -/
theorem rw_step {rows : List (List UInt8)} {c p : Nat} (hc : c < rows.length) (hp : p < rows.length) {k : Nat} (hk : k < rows.length) :
    rw_ (stepC rows c p) k = if k = c then scl (ginv (wd (rw_ rows p) c)) (rw_ rows p) else addRow (wd (if k = p then rw_ rows c else rw_ rows k) c) (scl (ginv (wd (rw_ rows p) c)) (rw_ rows p)) (if k = p then rw_ rows c else rw_ rows k) := by
  have hcs : c < (swapR rows c p).length := by rw [swap_length]; exact hc
  have e0 : rw_ (swapR rows c p) c = rw_ rows p := by rw [rw_swap hc hp, if_pos rfl]
  unfold stepC leadOf
  simp only
  rw [rw_clear (by rw [List.length_set, swap_length]; exact hk), rw_set hcs, rw_set hcs, if_pos rfl, e0]
  by_cases h : k = c
  · rw [if_pos h, if_pos h, if_pos h]
  · rw [if_neg h, if_neg h, if_neg h, rw_swap hc hp, if_neg h]
theorem wid_step {rows : List (List UInt8)} {c p n : Nat} (hw : Wid rows n) (hc : c < rows.length) (hp : p < rows.length) : Wid (stepC rows c p) n := fun k hk => by
  rw [step_length] at hk
  rw [rw_step hc hp hk]
  split
  · rw [scl_length]; exact hw p hp
  · rw [addRow_length]; split
    · exact hw c hc
    · exact hw k hk
theorem ker_step {rows : List (List UInt8)} {c p n : Nat} (hw : Wid rows n) (hc : c < rows.length) (hp : p < rows.length) (hne : wd (rw_ rows p) c ≠ 0) (y : Nat → UInt8) : Ker (stepC rows c p) n y ↔ Ker rows n y := by
  constructor
  · intro h
    have hpv : dot (rw_ rows p) y n = 0 := by
      have := h c (by rw [step_length]; exact hc)
      rw [rw_step hc hp hc, if_pos rfl, dot_scl] at this
      rcases (gmul_eq_zero _ _).1 this with h1 | h1
      · exact absurd h1 (ginv_ne _ hne)
      · exact h1
    have key : ∀ k, k < rows.length → k ≠ c → dot (if k = p then rw_ rows c else rw_ rows k) y n = 0 := fun k hk hkc => by
      have := h k (by rw [step_length]; exact hk)
      rw [rw_step hc hp hk, if_neg hkc, dot_addRow, dot_scl, hpv, gmul_zero, gmul_zero, UInt8.xor_zero] at this
      · exact this
      · split
        · rw [hw c hc]; exact Nat.le_refl _
        · rw [hw k hk]; exact Nat.le_refl _
    intro k hk
    by_cases h1 : k = p
    · rw [h1]; exact hpv
    · by_cases h2 : k = c
      · have := key p hp (fun e => h1 (by rw [h2, e]))
        rw [if_pos rfl] at this
        rw [h2]; exact this
      · have := key k hk h2
        rwa [if_neg h1] at this
  · intro h k hk
    rw [step_length] at hk
    rw [rw_step hc hp hk]
    split
    · rw [dot_scl, h p hp, gmul_zero]
    · rw [dot_addRow, dot_scl, h p hp, gmul_zero, gmul_zero, UInt8.xor_zero]
      · split
        · exact h c hc
        · exact h k hk
      · split
        · rw [hw c hc]; exact Nat.le_refl _
        · rw [hw k hk]; exact Nat.le_refl _
theorem uni_step {rows : List (List UInt8)} {c p n : Nat} (hw : Wid rows n) (hcn : c < n) (hu : Uni rows c) (hc : c < rows.length) (hp : p < rows.length) (hcp : c ≤ p) (hne : wd (rw_ rows p) c ≠ 0) : Uni (stepC rows c p) (c + 1) := by
  intro j hj k hk
  rw [step_length] at hk
  rw [rw_step hc hp hk]
  have hlen : (if k = p then rw_ rows c else rw_ rows k).length = n := by
    split
    · exact hw c hc
    · exact hw k hk
  rcases Nat.lt_or_ge j c with h1 | h1
  · have hp0 : wd (rw_ rows p) j = 0 := by rw [hu j h1 p hp, if_neg (by omega)]
    by_cases h : k = c
    · rw [if_pos h, wd_scl, hp0, zero_gmul, if_neg (by omega)]
    · rw [if_neg h, wd_addRow _ _ _ (by rw [hlen]; omega), wd_scl, hp0, zero_gmul, gmul_zero, UInt8.xor_zero]
      by_cases h2 : k = p
      · rw [if_pos h2, hu j h1 c hc, if_neg (by omega), if_neg (by omega)]
      · rw [if_neg h2, hu j h1 k hk]
  · have e : j = c := by omega
    subst e
    have e1 : wd (scl (ginv (wd (rw_ rows p) j)) (rw_ rows p)) j = 1 := by rw [wd_scl, gmul_inv _ hne]
    by_cases h : k = j
    · rw [if_pos h, if_pos h, e1]
    · rw [if_neg h, if_neg h, wd_addRow _ _ _ (by rw [hlen]; omega), e1, gmul_one, UInt8.xor_self]
theorem piv_some {c : Nat} {rows : List (List UInt8)} {p : Nat} (h : piv c rows = some p) : c ≤ p ∧ p < rows.length ∧ wd (rw_ rows p) c ≠ 0 ∧ ∀ k, c ≤ k → k < p → wd (rw_ rows k) c = 0 := by
  unfold piv at h
  rw [Option.map_eq_some_iff] at h
  obtain ⟨i, hi, rfl⟩ := h
  rw [List.findIdx?_eq_some_iff_getElem] at hi
  obtain ⟨hlt, hb, hn⟩ := hi
  rw [List.length_drop] at hlt
  have e : ∀ j, c + j < rows.length → ∀ h', (rows.drop c)[j]'h' = rw_ rows (c + j) := fun j hj h' => by
    rw [List.getElem_drop]
    exact (rw_some (List.getElem?_eq_getElem hj)).symm
  refine ⟨by omega, by omega, ?_, fun k h1 h2 => ?_⟩
  · rw [e i (by omega)] at hb
    simpa using hb
  · have := hn (k - c) (by omega)
    rw [e (k - c) (by omega), show c + (k - c) = k by omega] at this
    simpa using this
theorem piv_none {c : Nat} {rows : List (List UInt8)} (h : piv c rows = none) : ∀ k, k < rows.length → c ≤ k → wd (rw_ rows k) c = 0 := fun k hk hck => by
  unfold piv at h
  rw [Option.map_eq_none_iff, List.findIdx?_eq_none_iff] at h
  have := h (rw_ rows k) (by
    rw [List.mem_iff_getElem?]
    exact ⟨k - c, by rw [List.getElem?_drop, show c + (k - c) = k by omega]; exact rw_lt hk⟩)
  simpa using this
structure El (rows R : List (List UInt8)) (w c : Nat) : Prop where
  len : R.length = rows.length
  wid : Wid R (w + 1)
  uni : Uni R c
  ker : ∀ y, Ker R (w + 1) y ↔ Ker rows (w + 1) y
  le : c = 0 ∨ c ≤ R.length
theorem elim_ok {rows : List (List UInt8)} {w : Nat} (hw : Wid rows (w + 1)) : ∀ c, c ≤ w → ∀ R, elim rows c = some R → El rows R w c := by
  intro c
  induction c with
  | zero => intro _ R h; cases h; exact ⟨rfl, hw, fun j hj => by omega, fun y => Iff.rfl, .inl rfl⟩
  | succ c ih =>
    intro hc R h
    unfold elim at h
    cases e1 : elim rows c with
    | none => rw [e1] at h; cases h
    | some R' =>
      have H := ih (by omega) R' e1
      rw [e1] at h
      dsimp only at h
      cases e2 : piv c R' with
      | none => rw [e2] at h; cases h
      | some p =>
        rw [e2] at h
        dsimp only at h
        cases h
        obtain ⟨h1, h2, h3, _⟩ := piv_some e2
        exact ⟨by rw [step_length]; exact H.len, wid_step H.wid (by omega) h2, uni_step H.wid (by omega) H.uni (by omega) h2 h1 h3, fun y => (ker_step H.wid (by omega) h2 h3 y).trans (H.ker y), .inr (by rw [step_length]; omega)⟩
theorem dot_unit {R : List (List UInt8)} {w k : Nat} (hu : Uni R w) (hk : k < R.length) (hkw : k < w) (y : Nat → UInt8) : dot (rw_ R k) y (w + 1) = y k ^^^ gmul (wd (rw_ R k) w) (y w) := by
  unfold dot
  rw [ls_two (a := k) (b := w) (by omega) (by omega) (by omega) (fun j hj h1 h2 => by rw [hu j (by omega) k hk, if_neg (fun e => h1 e.symm), zero_gmul]), hu k hkw k hk, if_pos rfl, one_gmul]
theorem dot_low {R : List (List UInt8)} {w k : Nat} (hu : Uni R w) (hk : k < R.length) (hkw : w ≤ k) (y : Nat → UInt8) : dot (rw_ R k) y (w + 1) = gmul (wd (rw_ R k) w) (y w) := by
  unfold dot
  rw [ls_single (k := w) (by omega) (fun j hj h1 => by rw [hu j (by omega) k hk, if_neg (by omega), zero_gmul])]
theorem wd_out {R : List (List UInt8)} {w k : Nat} (hkw : k < w) (hk : k < R.length) : wd (outR R w) k = wd (rw_ R k) w := by
  refine wd_some ?_
  unfold outR
  rw [List.getElem?_map, List.getElem?_take, if_pos hkw, rw_lt hk]
  rfl
theorem bad_false {R : List (List UInt8)} {w : Nat} : badR R w = false ↔ ∀ k, k < R.length → w ≤ k → wd (rw_ R k) w = 0 := by
  unfold badR
  rw [List.any_eq_false]
  constructor
  · intro h k hk hw
    have := h (rw_ R k) (by
      rw [List.mem_iff_getElem?]
      exact ⟨k - w, by rw [List.getElem?_drop, show w + (k - w) = k by omega]; exact rw_lt hk⟩)
    simpa using this
  · intro h r hr
    obtain ⟨i, hi⟩ := List.mem_iff_getElem?.1 hr
    rw [List.getElem?_drop] at hi
    have hlt : w + i < R.length := by
      rcases Nat.lt_or_ge (w + i) R.length with h1 | h1
      · exact h1
      · rw [List.getElem?_eq_none h1] at hi; cases hi
    have := h (w + i) hlt (by omega)
    rw [rw_some hi] at this
    simp [this]
/-- what is given back solves the equations -/
theorem solve_sound {rows : List (List UInt8)} {w : Nat} (hw : Wid rows (w + 1)) {x : List UInt8} (h : solve rows w = some x) : x.length = w ∧ Ker rows (w + 1) (fun j => if j = w then 1 else wd x j) := by
  unfold solve at h
  cases e : elim rows w with
  | none => rw [e] at h; cases h
  | some R =>
    rw [e] at h
    dsimp only at h
    cases hb : badR R w with
    | true => rw [hb, if_pos rfl] at h; cases h
    | false =>
      rw [hb, if_neg (by simp)] at h
      cases h
      have H := elim_ok hw w (Nat.le_refl _) R e
      have hl : w ≤ R.length := by rcases H.le with h | h <;> omega
      refine ⟨by unfold outR; rw [List.length_map, List.length_take]; omega, (H.ker _).1 fun k hk => ?_⟩
      rcases Nat.lt_or_ge k w with h1 | h1
      · rw [dot_unit H.uni hk h1]
        rw [if_neg (by omega), if_pos rfl, wd_out h1 hk, gmul_one, UInt8.xor_self]
      · rw [dot_low H.uni hk h1]
        rw [if_pos rfl, bad_false.1 hb k hk h1, zero_gmul]
end Sy
end Go.Proofs.YtnplaejlmbncfaaDoor

namespace Go.Proofs.YtnplaejlmbncfaaDoor
namespace Sy
open Gf Po
set_option linter.unusedVariables false
structure Bm where
  now : List UInt8
  old : List UInt8
  len : Nat
  gap : Nat
  last : UInt8
/-- the next value and what the recursion says of it: so many elements -/
def discTo (now s : List UInt8) (k : Nat) : Nat → UInt8
  | 0 => 0
  | j + 1 => if j ≤ k then discTo now s k j ^^^ gmul (wd now j) (wd s (k - j)) else discTo now s k j
def disc (now s : List UInt8) (k : Nat) : UInt8 := discTo now s k now.length
def nextR (now old : List UInt8) (gap : Nat) (t : UInt8) : List UInt8 := addAt (now ++ List.replicate (gap + old.length - now.length) 0) old t gap
def bmStep (s : List UInt8) (k : Nat) (b : Bm) : Bm :=
  if disc b.now s k = 0 then { b with gap := b.gap + 1 }
  else if k < 2 * b.len then { b with now := nextR b.now b.old b.gap (gmul (disc b.now s k) (ginv b.last)), gap := b.gap + 1 }
  else ⟨nextR b.now b.old b.gap (gmul (disc b.now s k) (ginv b.last)), b.now, k + 1 - b.len, 1, disc b.now s k⟩
def bm (s : List UInt8) : Nat → Bm
  | 0 => ⟨[1], [1], 0, 1, 1⟩
  | k + 1 => bmStep s k (bm s k)
def fitR (l : List UInt8) (n : Nat) : List UInt8 := (l ++ List.replicate (n + 1 - l.length) 0).take (n + 1)
def shortest (s : List UInt8) : List UInt8 := fitR (bm s s.length).now (bm s s.length).len
theorem discTo_sum (now s : List UInt8) (k : Nat) : ∀ j, discTo now s k j = sumX (fun i => if i ≤ k then gmul (co now i) (co s (k - i)) else 0) j := by
  intro j
  induction j with
  | zero => rfl
  | succ j ih =>
    show (if j ≤ k then _ else _) = sumX _ j ^^^ (if j ≤ k then _ else _)
    rw [ih]
    by_cases h : j ≤ k
    · rw [if_pos h, if_pos h]; rfl
    · rw [if_neg h, if_neg h, UInt8.xor_zero]
theorem sumX_to (f : Nat → UInt8) (a b : Nat) (h1 : ∀ i, a ≤ i → i < b → f i = 0) (h2 : ∀ i, b ≤ i → i < a → f i = 0) : sumX f a = sumX f b := by
  rcases Nat.le_total a b with h | h
  · exact (sumX_split f a b h h1).symm
  · exact sumX_split f b a h h2
theorem disc_cv (now s : List UInt8) (k : Nat) : disc now s k = cv (co now) (co s) k := by
  unfold disc
  rw [discTo_sum]
  unfold cv
  rw [sumX_to _ _ (k + 1) (fun i h1 h2 => by rw [if_pos (by omega), co_big now i h1, zero_gmul]) (fun i h1 h2 => if_neg (by omega))]
  exact sumX_congr fun i hi => if_pos (by omega)
theorem co_padR (l : List UInt8) (n i : Nat) : co (l ++ List.replicate n 0) i = co l i := by
  rcases Nat.lt_or_ge i l.length with h | h
  · exact wd_left h
  · have := wd_right l (List.replicate n 0) (i - l.length)
    rw [show l.length + (i - l.length) = i by omega] at this
    rw [co_big l i h]
    exact this.trans (co_replicate n _)
theorem nextR_length (now old : List UInt8) (gap : Nat) (t : UInt8) : (nextR now old gap t).length = max now.length (gap + old.length) := by
  unfold nextR
  rw [addAt_length, List.length_append, List.length_replicate]
  omega
theorem co_nextR (now old : List UInt8) (gap : Nat) (t : UInt8) (i : Nat) : co (nextR now old gap t) i = co now i ^^^ gmul t (if gap ≤ i then co old (i - gap) else 0) := by
  unfold nextR
  rw [co_addAt _ _ _ _ (by rw [List.length_append, List.length_replicate]; omega), co_padR]
  congr 1
  split
  · rfl
  · rw [gmul_zero]
theorem cv_late (f s : Nat → UInt8) : ∀ g n, cv (fun i => if g ≤ i then f (i - g) else 0) s n = if g ≤ n then cv f s (n - g) else 0 := by
  intro g
  induction g with
  | zero => intro n; rw [if_pos (Nat.zero_le _)]; exact cv_congr (fun i => by rw [if_pos (Nat.zero_le _)]; rfl) (fun _ => rfl) n
  | succ g ih =>
    intro n
    have e : cv (fun i => if g + 1 ≤ i then f (i - (g + 1)) else 0) s n = cv (shift (fun i => if g ≤ i then f (i - g) else 0)) s n := cv_congr (fun i => by
      cases i with
      | zero => rfl
      | succ i =>
        show _ = if g ≤ i then f (i - g) else 0
        by_cases h : g ≤ i
        · rw [if_pos (by omega), if_pos h, Nat.add_sub_add_right]
        · rw [if_neg (by omega), if_neg h]) (fun _ => rfl) n
    rw [e, cv_shift_left]
    cases n with
    | zero => rw [if_neg (by omega)]; rfl
    | succ n =>
      show cv _ s n = _
      rw [ih n]
      by_cases h : g ≤ n
      · rw [if_pos h, if_pos (by omega), Nat.add_sub_add_right]
      · rw [if_neg h, if_neg (by omega)]
theorem cv_nextR (now old s : List UInt8) (gap : Nat) (t : UInt8) (n : Nat) : cv (co (nextR now old gap t)) (co s) n = cv (co now) (co s) n ^^^ gmul t (if gap ≤ n then cv (co old) (co s) (n - gap) else 0) := by
  rw [cv_congr (co_nextR now old gap t) (fun _ => rfl), cv_add_left, cv_mul_left, cv_late]
/-- what holds behind k rounds -/
structure Bi (s : List UInt8) (k : Nat) (b : Bm) : Prop where
  le : b.len ≤ k
  one : co b.now 0 = 1
  deg : ∀ i, b.len < i → co b.now i = 0
  gen : ∀ j, b.len ≤ j → j < k → cv (co b.now) (co s) j = 0
  ne : b.last ≠ 0
  gp : 1 ≤ b.gap
  was : (b.len = 0 ∧ b.old = [1] ∧ b.gap = k + 1 ∧ b.last = 1) ∨ (b.gap ≤ k ∧ b.len ≤ k - b.gap + 1 ∧ (∀ i, k - b.gap + 1 - b.len < i → co b.old i = 0) ∧ (∀ j, k - b.gap + 1 - b.len ≤ j → j < k - b.gap → cv (co b.old) (co s) j = 0) ∧ cv (co b.old) (co s) (k - b.gap) = b.last)
  long : b.now.length ≤ k + 1 ∧ b.old.length + b.gap ≤ k + 2 ∧ 1 ≤ b.now.length ∧ 1 ≤ b.old.length
theorem bi_zero (s : List UInt8) : Bi s 0 (bm s 0) :=
  ⟨Nat.le_refl _, rfl, fun i hi => co_big [1] i (by have hi : 0 < i := hi; show 1 ≤ i; omega), fun j _ h => by omega, one_ne, Nat.le_refl _, .inl ⟨rfl, rfl, rfl, rfl⟩, by simp [bm]⟩
theorem bi_step {s : List UInt8} {k : Nat} {b : Bm} (h : Bi s k b) : Bi s (k + 1) (bmStep s k b) := by
  have hd := disc_cv b.now s k
  unfold bmStep
  by_cases h0 : disc b.now s k = 0
  · rw [if_pos h0]
    refine ⟨by have := h.le; show b.len ≤ k + 1; omega, h.one, h.deg, fun j h1 h2 => ?_, h.ne, by show 1 ≤ b.gap + 1; omega, ?_, by have := h.long; simp only; omega⟩
    · rcases Nat.lt_or_ge j k with h3 | h3
      · exact h.gen j h1 h3
      · rw [show j = k by omega, ← hd]; exact h0
    · rcases h.was with ⟨a1, a2, a3, a4⟩ | ⟨a1, a2, a3, a4, a5⟩
      · exact .inl ⟨a1, a2, by show b.gap + 1 = _; omega, a4⟩
      · refine .inr ?_
        show b.gap + 1 ≤ k + 1 ∧ _
        simp only [Nat.add_sub_add_right]
        exact ⟨by omega, a2, a3, a4, a5⟩
  · rw [if_neg h0]
    have hg := h.gp
    have e0 : co (nextR b.now b.old b.gap (gmul (disc b.now s k) (ginv b.last))) 0 = 1 := by
      rw [co_nextR, if_neg (by omega), gmul_zero, UInt8.xor_zero, h.one]
    have ek : b.gap ≤ k → cv (co (nextR b.now b.old b.gap (gmul (disc b.now s k) (ginv b.last)))) (co s) k = 0 := by
      intro a1
      rw [cv_nextR]
      rcases h.was with ⟨b1, b2, b3, b4⟩ | ⟨_, a2, a3, a4, a5⟩
      · omega
      · rw [if_pos a1, a5, gmul_assoc, ginv_mul _ h.ne, gmul_one, ← hd, UInt8.xor_self]
    have hlong := h.long
    by_cases h1 : k < 2 * b.len
    · rw [if_pos h1]
      rcases h.was with ⟨a1, _⟩ | ⟨a1, a2, a3, a4, a5⟩
      · omega
      · refine ⟨by have := h.le; show b.len ≤ k + 1; omega, e0, fun i hi => ?_, fun j h2 h3 => ?_, h.ne, by show 1 ≤ b.gap + 1; omega, .inr ?_, ?_⟩
        · have hi : b.len < i := hi
          rw [co_nextR, h.deg i hi, UInt8.zero_xor]
          by_cases h4 : b.gap ≤ i
          · rw [if_pos h4, a3 (i - b.gap) (by omega), gmul_zero]
          · rw [if_neg h4, gmul_zero]
        · have h2 : b.len ≤ j := h2
          rcases Nat.lt_or_ge j k with h4 | h4
          · rw [cv_nextR, h.gen j h2 h4, UInt8.zero_xor]
            by_cases h5 : b.gap ≤ j
            · rw [if_pos h5, a4 (j - b.gap) (by omega) (by omega), gmul_zero]
            · rw [if_neg h5, gmul_zero]
          · rw [show j = k by omega]; exact ek a1
        · show b.gap + 1 ≤ k + 1 ∧ _
          simp only [Nat.add_sub_add_right]
          exact ⟨by omega, a2, a3, a4, a5⟩
        · simp only [nextR_length]
          omega
    · rw [if_neg h1]
      have hle := h.le
      refine ⟨by show k + 1 - b.len ≤ k + 1; omega, e0, fun i hi => ?_, fun j h2 h3 => ?_, h0, Nat.le_refl _, .inr ?_, ?_⟩
      · have hi : k + 1 - b.len < i := hi
        rw [co_nextR, h.deg i (by omega), UInt8.zero_xor]
        by_cases h4 : b.gap ≤ i
        · rw [if_pos h4]
          rcases h.was with ⟨a1, a2, a3', a4'⟩ | ⟨a1, a2, a3, a4, a5⟩
          · rw [a2, co_big [1] _ (by simp; omega), gmul_zero]
          · rw [a3 (i - b.gap) (by omega), gmul_zero]
        · rw [if_neg h4, gmul_zero]
      · have h2 : k + 1 - b.len ≤ j := h2
        rcases Nat.lt_or_ge j k with h4 | h4
        · rw [cv_nextR, h.gen j (by omega) h4, UInt8.zero_xor]
          rcases h.was with ⟨a1, _⟩ | ⟨a1, a2, a3, a4, a5⟩
          · omega
          · by_cases h5 : b.gap ≤ j
            · rw [if_pos h5, a4 (j - b.gap) (by omega) (by omega), gmul_zero]
            · rw [if_neg h5, gmul_zero]
        · have e : j = k := by omega
          rw [e]
          refine ek ?_
          rcases h.was with ⟨a1, _⟩ | ⟨a1, _⟩
          · omega
          · exact a1
      · show 1 ≤ k + 1 ∧ _
        simp only [Nat.add_sub_cancel]
        refine ⟨by omega, by omega, fun i hi => h.deg i (by omega), fun j h2 h3 => h.gen j (by omega) h3, hd.symm⟩
      · simp only [nextR_length]
        omega
theorem bi_all (s : List UInt8) : ∀ k, Bi s k (bm s k)
  | 0 => bi_zero s
  | k + 1 => bi_step (bi_all s k)
end Sy
end Go.Proofs.YtnplaejlmbncfaaDoor

namespace Go.Proofs.YtnplaejlmbncfaaDoor
namespace Sy
open Gf Po
set_option linter.unusedVariables false
/-- the value at 1 / x, times x^L -/
def rv (C : List UInt8) (L : Nat) (x : UInt8) : UInt8 := sumX (fun i => gmul (co C i) (gpow x (L - i))) (L + 1)
theorem fitR_length (l : List UInt8) (n : Nat) : (fitR l n).length = n + 1 := by
  unfold fitR
  rw [List.length_take, List.length_append, List.length_replicate]
  omega
theorem co_fitR (l : List UInt8) (n i : Nat) (h : ∀ i, n < i → co l i = 0) : co (fitR l n) i = co l i := by
  unfold fitR
  rw [co_take]
  rcases Nat.lt_or_ge i (n + 1) with h1 | h1
  · rw [if_pos h1, co_padR]
  · rw [if_neg (by omega), h i (by omega)]
def rootAt (sg : List UInt8) (n p : Nat) : Bool := Po.eval sg (ginv (loc n p)) == 0
theorem ginv_inj {a b : UInt8} (ha : a ≠ 0) (hb : b ≠ 0) (h : ginv a = ginv b) : a = b := by
  have e1 := gmul_inv a ha
  have e2 := ginv_mul b hb
  rw [h] at e1
  have : gmul (gmul a (ginv b)) b = b := by rw [e1, one_gmul]
  rw [gmul_assoc, e2, gmul_one] at this
  exact this
theorem nodup_roots {n : Nat} (hn : n ≤ 255) {P : List Nat} (hP : P.Nodup) (hlt : ∀ p ∈ P, p < n) : (P.map fun p => ginv (loc n p)).Nodup := by
  rw [List.Nodup, List.pairwise_map]
  refine List.Pairwise.imp_of_mem ?_ hP
  intro a b ha hb hab e
  exact hab (loc_inj hn (hlt a ha) (hlt b hb) (ginv_inj (loc_ne _ _) (loc_ne _ _) e))
/-- a polynomial with the value 1 at 0 has no more roots than its degree -/
theorem root_count {n : Nat} (hn : n ≤ 255) {sg : List UInt8} {L : Nat} (hl : sg.length = L + 1) (hL : L ≤ 254) (h1 : co sg 0 = 1) {P : List Nat} (hP : P.Nodup) (hlt : ∀ p ∈ P, p < n) (hr : ∀ p ∈ P, rootAt sg n p = true) : P.length ≤ L := by
  have hpos : 0 < (trim sg).length := by
    rcases Nat.eq_zero_or_pos (trim sg).length with h | h
    · have := co_trim sg 0
      rw [co_big _ 0 (by omega), h1] at this
      exact absurd this.symm one_ne
    · exact h
  have hle : (trim sg).length ≤ L + 1 := by rw [trim_length, hl]; exact tl_le _ _
  have := roots_lt _ (trim sg) (P.map fun p => ginv (loc n p)) rfl (trim_vld _ (by omega)) hpos (nodup_roots hn hP hlt) (fun r hr' => by
    obtain ⟨p, hp, rfl⟩ := List.mem_map.1 hr'
    rw [eval_ext _ _ (co_trim sg)]
    simpa [rootAt] using hr p hp)
  rw [List.length_map] at this
  omega
theorem shortest_ok (U : List UInt8) : (shortest U).length = (bm U U.length).len + 1 ∧ (∀ i, co (shortest U) i = co (bm U U.length).now i) ∧ co (shortest U) 0 = 1 := by
  have h := bi_all U U.length
  have e : ∀ i, co (shortest U) i = co (bm U U.length).now i := fun i => co_fitR _ _ i h.deg
  exact ⟨fitR_length _ _, e, by rw [e, h.one]⟩
theorem shortest_le (U : List UInt8) : (shortest U).length ≤ U.length + 1 := by
  have := (bi_all U U.length).le
  rw [(shortest_ok U).1]
  omega
end Sy
end Go.Proofs.YtnplaejlmbncfaaDoor

namespace Go.Proofs.YtnplaejlmbncfaaDoor
namespace Sy
open Gf
set_option linter.unusedVariables false
def Asc (l : List Nat) : Prop := l.Pairwise (· < ·)
theorem asc_ext : ∀ {a b : List Nat}, Asc a → Asc b → (∀ x, x ∈ a ↔ x ∈ b) → a = b := by
  intro a
  induction a with
  | nil =>
    intro b _ _ h
    cases b with
    | nil => rfl
    | cons y b => exact absurd ((h y).2 List.mem_cons_self) (by simp)
  | cons x a ih =>
    intro b ha hb h
    cases b with
    | nil => exact absurd ((h x).1 List.mem_cons_self) (by simp)
    | cons y b =>
      obtain ⟨ha1, ha2⟩ := List.pairwise_cons.1 ha
      obtain ⟨hb1, hb2⟩ := List.pairwise_cons.1 hb
      have e : x = y := by
        rcases List.mem_cons.1 ((h x).1 List.mem_cons_self) with h1 | h1
        · exact h1
        · rcases List.mem_cons.1 ((h y).2 List.mem_cons_self) with h2 | h2
          · exact h2.symm
          · have := hb1 x h1; have := ha1 y h2; omega
      subst e
      congr 1
      refine ih ha2 hb2 fun z => ⟨fun hz => ?_, fun hz => ?_⟩
      · rcases List.mem_cons.1 ((h z).1 (List.mem_cons_of_mem _ hz)) with rfl | h1
        · have := ha1 z hz; omega
        · exact h1
      · rcases List.mem_cons.1 ((h z).2 (List.mem_cons_of_mem _ hz)) with rfl | h1
        · have := hb1 z hz; omega
        · exact h1
theorem asc_filter (n : Nat) (t : Nat → Bool) : Asc ((List.range n).filter t) := List.Pairwise.filter _ (pair_range n)
theorem asc_nodup {l : List Nat} (h : Asc l) : l.Nodup := List.Pairwise.imp (fun {a b} hab e => by omega) h
theorem cnt_split (a b : Nat → Bool) (l : List Nat) : (l.filter a).length = (l.filter fun p => a p && b p).length + (l.filter fun p => a p && !b p).length := by
  induction l with
  | nil => rfl
  | cons x l ih =>
    simp only [List.filter_cons]
    cases a x <;> cases b x <;> simp <;> omega
theorem cnt_mono {a b : Nat → Bool} {l : List Nat} (h : ∀ p ∈ l, a p = true → b p = true) : (l.filter a).length ≤ (l.filter b).length := by
  induction l with
  | nil => exact Nat.le_refl _
  | cons x l ih =>
    have h1 := ih fun p hp => h p (List.mem_cons_of_mem _ hp)
    have h2 := h x List.mem_cons_self
    simp only [List.filter_cons]
    cases ha : a x <;> cases hb : b x <;> simp
    · exact h1
    · omega
    · rw [ha, hb] at h2; exact absurd (h2 rfl) (by simp)
    · exact h1
theorem cnt_or (a b : Nat → Bool) (l : List Nat) : (l.filter fun p => a p || b p).length ≤ (l.filter a).length + (l.filter b).length := by
  induction l with
  | nil => exact Nat.le_refl _
  | cons x l ih =>
    simp only [List.filter_cons]
    cases a x <;> cases b x <;> simp <;> omega
theorem filt_congr {a b : Nat → Bool} {n : Nat} (h : ∀ p, p < n → a p = b p) : (List.range n).filter a = (List.range n).filter b := List.filter_congr fun p hp => h p (List.mem_range.1 hp)
/-- a list of erased places: ascending, within the word, no more than checks -/
structure Ers (E : List Nat) (n m : Nat) : Prop where
  asc : Asc E
  lt : ∀ p ∈ E, p < n
  le : E.length ≤ m
theorem ers_eq {E : List Nat} {n m : Nat} (h : Ers E n m) : (List.range n).filter (fun p => E.contains p) = E :=
  asc_ext (asc_filter _ _) h.asc fun x => by
    rw [List.mem_filter, List.mem_range, List.contains_iff_mem]
    exact ⟨fun h => h.2, fun hx => ⟨h.lt x hx, hx⟩⟩
/-- an element, 0 behind the last one -/
def pl (P : List Nat) (j : Nat) : Nat := P[j]?.getD 0
theorem pl_some {P : List Nat} {j p : Nat} (h : P[j]? = some p) : pl P j = p := by unfold pl; rw [h]; rfl
theorem pl_lt {P : List Nat} {j : Nat} (h : j < P.length) : P[j]? = some (pl P j) := by unfold pl; rw [List.getElem?_eq_getElem h]; rfl
theorem pl_mem {P : List Nat} {j : Nat} (h : j < P.length) : pl P j ∈ P := List.mem_of_getElem? (pl_lt h)
theorem pl_inj {P : List Nat} (hP : Asc P) {i j : Nat} (hi : i < P.length) (hj : j < P.length) (h : pl P i = pl P j) : i = j := by
  have key : ∀ a b, a < b → b < P.length → pl P a < pl P b := fun a b hab hb => by
    have := List.pairwise_iff_getElem.1 hP a b (by omega) hb hab
    rwa [← Option.some.inj ((List.getElem?_eq_getElem (by omega)).symm.trans (pl_lt (show a < P.length by omega))), ← Option.some.inj ((List.getElem?_eq_getElem hb).symm.trans (pl_lt hb))]
  rcases Nat.lt_trichotomy i j with h1 | h1 | h1
  · have := key i j h1 hj; omega
  · exact h1
  · have := key j i h1 hi; omega
theorem ls_map (f : Nat → UInt8) (g : Nat → Nat) (l : List Nat) : ls f (l.map g) = ls (fun j => f (g j)) l := by
  induction l with
  | nil => rfl
  | cons a l ih =>
    show f (g a) ^^^ ls f (l.map g) = f (g a) ^^^ _
    rw [ih]
theorem pl_map (P : List Nat) : (List.range P.length).map (pl P) = P := by
  refine List.ext_getElem? fun i => ?_
  rw [List.getElem?_map]
  rcases Nat.lt_or_ge i P.length with h | h
  · rw [List.getElem?_range h, pl_lt h]; rfl
  · rw [List.getElem?_eq_none (by simpa using h), List.getElem?_eq_none h]; rfl
theorem ls_pl (f : Nat → UInt8) (P : List Nat) : ls f P = ls (fun j => f (pl P j)) (List.range P.length) := by
  have h := ls_map f (pl P) (List.range P.length)
  rw [pl_map] at h
  exact h
theorem ls_sub {P : List Nat} {n : Nat} {t : Nat → Bool} (h : P = (List.range n).filter t) (G : Nat → UInt8) (hG : ∀ p, p ∉ P → G p = 0) : ls G P = ls G (List.range n) := by
  subst h
  exact ls_filter _ _ _ fun p _ ht => hG p fun hm => by rw [(List.mem_filter.1 hm).2] at ht; cases ht
def synL (l : List UInt8) (m : Nat) : List UInt8 := (List.range m).map (syn l)
theorem synL_length (l : List UInt8) (m : Nat) : (synL l m).length = m := by unfold synL; simp
theorem wd_synL (l : List UInt8) {m k : Nat} (h : k < m) : wd (synL l m) k = syn l k := by
  refine wd_some ?_
  unfold synL
  rw [List.getElem?_map, List.getElem?_range h]
  rfl
def strip (x : UInt8) (u : List UInt8) : List UInt8 := (List.range (u.length - 1)).map fun k => wd u (k + 1) ^^^ gmul x (wd u k)
theorem strip_length (x : UInt8) (u : List UInt8) : (strip x u).length = u.length - 1 := by unfold strip; simp
theorem wd_strip (x : UInt8) (u : List UInt8) {k : Nat} (h : k < u.length - 1) : wd (strip x u) k = wd u (k + 1) ^^^ gmul x (wd u k) := by
  refine wd_some ?_
  unfold strip
  rw [List.getElem?_map, List.getElem?_range h]
  rfl
def stripAll (n : Nat) : List UInt8 → List Nat → List UInt8
  | u, [] => u
  | u, p :: ps => stripAll n (strip (loc n p) u) ps
def isClean (s : List UInt8) : Bool := !(s.any fun x => x != 0)
theorem clean_iff {l : List UInt8} {m : Nat} : isClean (synL l m) = true ↔ Cw m l := by
  unfold isClean
  rw [Bool.not_eq_true', List.any_eq_false]
  constructor
  · intro h k hk
    have := h (syn l k) (by unfold synL; exact List.mem_map.2 ⟨k, List.mem_range.2 hk, rfl⟩)
    simpa using this
  · intro h x hx
    unfold synL at hx
    obtain ⟨k, hk, rfl⟩ := List.mem_map.1 hx
    rw [h k (List.mem_range.1 hk)]; simp
def placesOf (sg : List UInt8) (n : Nat) (E : List Nat) : List Nat := (List.range n).filter fun p => E.contains p || rootAt sg n p
def locM (s : List UInt8) (n : Nat) (E : List Nat) (most : Nat) : Option (List Nat) :=
  if most < (shortest (stripAll n s E)).length - 1 then none
  else if (placesOf (shortest (stripAll n s E)) n E).length = E.length + ((shortest (stripAll n s E)).length - 1) then some (placesOf (shortest (stripAll n s E)) n E) else none
def rows0 (s : List UInt8) (n : Nat) (P : List Nat) : List (List UInt8) := (List.range s.length).map fun k => (P.map fun p => gpow (loc n p) k) ++ [wd s k]
/-- what is to be added at a place -/
def amt (P : List Nat) (ch : List UInt8) (p : Nat) : UInt8 := ls (fun j => if pl P j = p then wd ch j else 0) (List.range P.length)
def fixW (word : List UInt8) (P : List Nat) (ch : List UInt8) : List UInt8 := (List.range word.length).map fun p => wd word p ^^^ amt P ch p
def chipsOf (P : List Nat) (ch : List UInt8) : List Nat := P.filter fun p => amt P ch p != 0
def decM (m fix : Nat) (word : List UInt8) (E : List Nat) : Nat × List UInt8 × List Nat :=
  if isClean (synL word m) then (0, word, [])
  else match locM (synL word m) word.length E (min fix ((m - E.length) / 2)) with
    | none => (2, [], [])
    | some P => match solve (rows0 (synL word m) word.length P) P.length with
      | none => (2, [], [])
      | some ch => (1, fixW word P ch, chipsOf P ch)
theorem amt_at {P : List Nat} (hP : Asc P) (ch : List UInt8) {j : Nat} (hj : j < P.length) : amt P ch (pl P j) = wd ch j := by
  unfold amt
  rw [ls_single (k := j) hj (fun i hi hne => if_neg (fun e => hne (pl_inj hP hi hj e))), if_pos rfl]
theorem amt_out {P : List Nat} (ch : List UInt8) {p : Nat} (hp : p ∉ P) : amt P ch p = 0 := by
  unfold amt
  exact ls_zero fun j hj => if_neg fun e => hp (by rw [← e]; exact pl_mem (List.mem_range.1 hj))
theorem fixW_length (word : List UInt8) (P : List Nat) (ch : List UInt8) : (fixW word P ch).length = word.length := by unfold fixW; simp
theorem wd_fixW (word : List UInt8) (P : List Nat) (ch : List UInt8) {p : Nat} (h : p < word.length) : wd (fixW word P ch) p = wd word p ^^^ amt P ch p := by
  refine wd_some ?_
  unfold fixW
  rw [List.getElem?_map, List.getElem?_range h]
  rfl
theorem rows0_length (s : List UInt8) (n : Nat) (P : List Nat) : (rows0 s n P).length = s.length := by unfold rows0; simp
theorem rw_rows0 (s : List UInt8) (n : Nat) (P : List Nat) {k : Nat} (h : k < s.length) : rw_ (rows0 s n P) k = (P.map fun p => gpow (loc n p) k) ++ [wd s k] := by
  refine rw_some ?_
  unfold rows0
  rw [List.getElem?_map, List.getElem?_range h]
  rfl
theorem wid_rows0 (s : List UInt8) (n : Nat) (P : List Nat) : Wid (rows0 s n P) (P.length + 1) := fun k hk => by
  rw [rows0_length] at hk
  rw [rw_rows0 s n P hk]
  simp
theorem dot_rows0 (s : List UInt8) (n : Nat) (P : List Nat) {k : Nat} (h : k < s.length) (y : Nat → UInt8) : dot (rw_ (rows0 s n P) k) y (P.length + 1) = ls (fun j => gmul (y j) (gpow (loc n (pl P j)) k)) (List.range P.length) ^^^ gmul (wd s k) (y P.length) := by
  unfold dot
  rw [ls_range_succ, rw_rows0 s n P h]
  congr 1
  · refine ls_congr fun j hj => ?_
    have hj := List.mem_range.1 hj
    rw [wd_left (by simpa using hj), gmul_comm]
    congr 1
    refine wd_some ?_
    rw [List.getElem?_map, pl_lt hj]
    rfl
  · congr 1
    have := wd_right (P.map fun p => gpow (loc n p) k) [wd s k] 0
    rw [List.length_map, Nat.add_zero] at this
    rw [this]; rfl
def diff (n : Nat) (V W : List UInt8) : List Nat := (List.range n).filter fun i => wd V i != wd W i
def oth (n : Nat) (E : List Nat) (V W : List UInt8) : Nat := ((List.range n).filter fun i => (wd V i != wd W i) && !E.contains i).length
/-- a code word that is near -/
structure Near (n m most : Nat) (E : List Nat) (W V : List UInt8) : Prop where
  len : V.length = n
  cw : Cw m V
  few : oth n E V W ≤ most
theorem diff_self (n : Nat) (W : List UInt8) : diff n W W = [] := by
  unfold diff
  rw [List.filter_eq_nil_iff]
  intro i _
  simp
theorem oth_self (n : Nat) (E : List Nat) (W : List UInt8) : oth n E W W = 0 := by
  unfold oth
  rw [List.length_eq_zero_iff, List.filter_eq_nil_iff]
  intro i _
  simp
theorem places_split {sg : List UInt8} {n m : Nat} {E : List Nat} (hE : Ers E n m) : (placesOf sg n E).length = E.length + ((List.range n).filter fun p => rootAt sg n p && !E.contains p).length := by
  unfold placesOf
  rw [cnt_split _ (fun p => E.contains p)]
  congr 1
  · have := congrArg List.length (ers_eq hE)
    rw [← this]
    congr 1
    exact filt_congr fun p _ => by cases E.contains p <;> simp
  · congr 1
    exact filt_congr fun p _ => by cases E.contains p <;> simp
theorem locM_some {s : List UInt8} {n m most : Nat} {E P : List Nat} (hE : Ers E n m) (h : locM s n E most = some P) : Asc P ∧ (∀ p ∈ P, p < n) ∧ ((List.range n).filter fun p => P.contains p && !E.contains p).length ≤ most ∧ ∃ t, P = (List.range n).filter t := by
  unfold locM at h
  split at h
  · cases h
  · rename_i h1
    split at h
    · rename_i h2
      cases h
      refine ⟨asc_filter _ _, fun p hp => List.mem_range.1 (List.mem_filter.1 hp).1, ?_, _, rfl⟩
      have h3 := places_split (sg := shortest (stripAll n s E)) hE
      have e : ((List.range n).filter fun p => (placesOf (shortest (stripAll n s E)) n E).contains p && !E.contains p) = (List.range n).filter fun p => rootAt (shortest (stripAll n s E)) n p && !E.contains p := filt_congr fun p hp => by
        have : (placesOf (shortest (stripAll n s E)) n E).contains p = (E.contains p || rootAt (shortest (stripAll n s E)) n p) := by
          rw [Bool.eq_iff_iff, List.contains_iff_mem]
          unfold placesOf
          rw [List.mem_filter, List.mem_range]
          exact ⟨fun h => h.2, fun h => ⟨hp, h⟩⟩
        rw [this]
        cases E.contains p <;> simp
      rw [e]
      omega
    · cases h
theorem dsyn_at {W : List UInt8} {n m : Nat} (hl : W.length = n) {k : Nat} (hk : k < m) : wd (synL W m) k = dsyn (wd W) n k := by
  rw [wd_synL _ hk, syn_eq, hl]
/-- what decoding gives is a near code word, and what it tells of it is so -/
theorem dec_sound {W : List UInt8} {n m fix : Nat} {E : List Nat} (hl : W.length = n) (hE : Ers E n m) : decM m fix W E = (2, [], []) ∨ ∃ V, Near n m (min fix ((m - E.length) / 2)) E W V ∧ decM m fix W E = (if V = W then 0 else 1, V, diff n V W) := by
  unfold decM
  cases hc : isClean (synL W m) with
  | true =>
    refine .inr ⟨W, ⟨hl, clean_iff.1 hc, by rw [oth_self]; exact Nat.zero_le _⟩, ?_⟩
    rw [if_pos rfl, if_pos rfl, diff_self]
  | false =>
    rw [if_neg (by simp), hl]
    cases h1 : locM (synL W m) n E (min fix ((m - E.length) / 2)) with
    | none => exact .inl rfl
    | some P =>
      dsimp only
      cases h2 : solve (rows0 (synL W m) n P) P.length with
      | none => exact .inl rfl
      | some ch =>
        dsimp only
        obtain ⟨p1, p2, p3, t, p4⟩ := locM_some hE h1
        obtain ⟨q1, q2⟩ := solve_sound (wid_rows0 _ _ _) h2
        have hcw : Cw m (fixW W P ch) := fun k hk => by
          have hq := q2 k (by rw [rows0_length, synL_length]; exact hk)
          rw [dot_rows0 _ _ _ (by rw [synL_length]; exact hk)] at hq
          rw [if_pos rfl, gmul_one] at hq
          rw [syn_eq, fixW_length, hl, dsyn_congr (E := fun p => wd W p ^^^ amt P ch p) (fun p hp => wd_fixW W P ch (by omega)), dsyn_add, ← dsyn_at hl hk]
          have e : dsyn (amt P ch) n k = ls (fun j => gmul (if j = P.length then 1 else wd ch j) (gpow (loc n (pl P j)) k)) (List.range P.length) := by
            unfold dsyn
            have e1 := ls_sub p4 (fun p => gmul (amt P ch p) (gpow (loc n p) k)) (fun p hp => by rw [amt_out ch hp, zero_gmul])
            rw [← e1, ls_pl]
            refine ls_congr fun j hj => ?_
            have hj := List.mem_range.1 hj
            rw [amt_at p1 ch hj, if_neg (by omega)]
          rw [e, UInt8.xor_comm]
          exact hq
        have hne : ∀ i, i < n → ((wd (fixW W P ch) i != wd W i) = (amt P ch i != 0)) := fun i hi => by
          rw [wd_fixW W P ch (by omega), Bool.eq_iff_iff, bne_iff_ne, bne_iff_ne]
          refine not_congr ⟨fun e => ?_, fun e => by rw [e, UInt8.xor_zero]⟩
          have := congrArg (fun x => wd W i ^^^ x) e
          simp only [← UInt8.xor_assoc, UInt8.xor_self, UInt8.zero_xor] at this
          exact this
        refine .inr ⟨fixW W P ch, ⟨by rw [fixW_length, hl], hcw, ?_⟩, ?_⟩
        · refine Nat.le_trans (cnt_mono fun p hp h => ?_) p3
          rw [Bool.and_eq_true] at h ⊢
          refine ⟨?_, h.2⟩
          rw [hne p (List.mem_range.1 hp), bne_iff_ne] at h
          rw [List.contains_iff_mem]
          rcases Classical.em (p ∈ P) with hm | hm
          · exact hm
          · exact absurd (amt_out ch hm) h.1
        · have hW : fixW W P ch ≠ W := fun e => by
            rw [e] at hcw
            rw [clean_iff.2 hcw] at hc
            cases hc
          rw [if_neg hW]
          congr 2
          unfold chipsOf diff
          conv => lhs; rw [p4]
          rw [List.filter_filter]
          refine filt_congr fun i hi => ?_
          rw [hne i hi]
          rw [← p4]
          cases ha : amt P ch i != 0 with
          | false => rfl
          | true =>
            rw [Bool.true_and]
            rcases Classical.em (i ∈ P) with hm | hm
            · rw [p4] at hm; exact (List.mem_filter.1 hm).2
            · rw [amt_out ch hm] at ha; cases ha
end Sy
end Go.Proofs.YtnplaejlmbncfaaDoor

namespace Go.Proofs.YtnplaejlmbncfaaDoor
set_option linter.unusedVariables false
namespace Na
/-- the number of some limbs -/
def val : List Nat → Nat
  | [] => 0
  | a :: l => a + 16777216 * val l
/-- limbs are small -/
def Lim (l : List Nat) : Prop := ∀ a ∈ l, a < 16777216
theorem Lim.tail {a : Nat} {l : List Nat} (h : Lim (a :: l)) : Lim l := fun b hb => h b (List.mem_cons_of_mem _ hb)
theorem Lim.head {a : Nat} {l : List Nat} (h : Lim (a :: l)) : a < 16777216 := h a (List.mem_cons_self ..)
theorem Lim.at {l : List Nat} (h : Lim l) {k a : Nat} (hk : l[k]? = some a) : a < 16777216 := h a (List.mem_of_getElem? hk)
theorem Lim.nil : Lim [] := fun a h => by cases h
theorem Lim.cons {a : Nat} {l : List Nat} (h : a < 16777216) (hl : Lim l) : Lim (a :: l) := fun b hb => by
  rcases List.mem_cons.1 hb with rfl | hb
  · exact h
  · exact hl b hb
theorem Lim.append {l m : List Nat} (h : Lim l) (hm : Lim m) : Lim (l ++ m) := fun b hb => by
  rcases List.mem_append.1 hb with hb | hb
  · exact h b hb
  · exact hm b hb
theorem Lim.one {a : Nat} (h : a < 16777216) : Lim [a] := Lim.cons h Lim.nil
theorem Lim.take {l : List Nat} (h : Lim l) (k : Nat) : Lim (l.take k) := fun b hb => h b (List.mem_of_mem_take hb)
theorem Lim.drop {l : List Nat} (h : Lim l) (k : Nat) : Lim (l.drop k) := fun b hb => h b (List.mem_of_mem_drop hb)
theorem Lim.set {l : List Nat} (h : Lim l) (k : Nat) {a : Nat} (ha : a < 16777216) : Lim (l.set k a) := fun b hb => by
  rcases List.mem_or_eq_of_mem_set hb with hb | rfl
  · exact h b hb
  · exact ha
theorem Lim.zeros (n : Nat) : Lim (List.replicate n 0) := fun b hb => by
  have := List.eq_of_mem_replicate hb
  omega
/-- the length without zeros at the end -/
def tl (l : List Nat) : Nat → Nat
  | 0 => 0
  | n + 1 => if l[n]? = some 0 then tl l n else n + 1
theorem tl_le (l : List Nat) : ∀ n, tl l n ≤ n := by
  intro n
  induction n with
  | zero => exact Nat.le_refl _
  | succ n ih =>
    unfold tl
    split
    · omega
    · exact Nat.le_refl _
theorem tl_zero (l : List Nat) (n : Nat) (h : l[n]? = some 0) : tl l (n + 1) = tl l n := by rw [tl, if_pos h]
theorem tl_stop (l : List Nat) (n : Nat) (h : l[n]? ≠ some 0) : tl l (n + 1) = n + 1 := by rw [tl, if_neg h]
theorem tl_last (l : List Nat) : ∀ n, tl l n = 0 ∨ l[tl l n - 1]? ≠ some 0 := by
  intro n
  induction n with
  | zero => exact .inl rfl
  | succ n ih =>
    by_cases h : l[n]? = some 0
    · rw [tl_zero l n h]
      exact ih
    · rw [tl_stop l n h]
      exact .inr h
def trim (l : List Nat) : List Nat := l.take (tl l l.length)
theorem trim_length (l : List Nat) : (trim l).length = tl l l.length := by
  unfold trim
  rw [List.length_take]
  have := tl_le l l.length
  omega
/-- the limit -/
def top : Nat := 16777216 ^ 200
/-- ints as limbs: P1.1 -/
def lim (z : Int) : Bool := decide (0 ≤ z) && decide (z < 16777216)
def vld (zs : List Int) : Bool := zs.all lim && (decide (zs.length ≤ 200) && (zs.getLast? != some 0))
end Na
end Go.Proofs.YtnplaejlmbncfaaDoor

namespace Go.Proofs.YtnplaejlmbncfaaDoor
open Go.RowKit
set_option linter.unusedVariables false
set_option maxRecDepth 100000

/-- ints as values -/
def encI (n : Int) : Value := .int .i64 n
def ints (l : List Int) : List Value := l.map encI
theorem ints_length (l : List Int) : (ints l).length = l.length := List.length_map _
theorem Sl.int {w : World} {B : Nat} {A : Option Addr} {l : List Int} (h : Sl w B A (ints l)) {k : Nat} {b : Int} (hk : l[k]? = some b) : ∃ ad, A = some ad ∧ ad.block < B ∧ w.cell? (ad.add k) = some (.int .i64 b) := by
  have hlt : k < l.length := by
    rcases Nat.lt_or_ge k l.length with h | h
    · exact h
    · rw [List.getElem?_eq_none h] at hk; cases hk
  obtain ⟨ad, e, hb, hc⟩ := h (by rw [ints_length]; omega)
  exact ⟨ad, e, hb, hc k _ (by unfold ints; rw [List.getElem?_map, hk]; rfl)⟩
theorem int_at (l : List Int) (k : Nat) (h : k < l.length) : ∃ b : Int, l[k]? = some b := ⟨_, List.getElem?_eq_getElem h⟩

/-- Dice lie in block g: a list of numbers below block B, and how many are given out. -/
def Dice (w : World) (g B : Nat) : Prop :=
  ∃ (A : Option Addr) (n c at_ : Nat) (ts : List Int), w.heap[g]? = some (.cells #[.slice A n c, .int .i64 (at_ : Int)] 45 (0, 0)) ∧ ts.length = n ∧ at_ ≤ n ∧ n ≤ 140737488355328 ∧ Sl w B A (ints ts) ∧ B ≤ g
theorem Dice.lt {w : World} {g B : Nat} (h : Dice w g B) : g < w.heap.size := by
  obtain ⟨A, n, c, at_, ts, hh, _⟩ := h
  rcases Nat.lt_or_ge g w.heap.size with hlt | hge
  · exact hlt
  · rw [Array.getElem?_eq_none hge] at hh; cases hh
theorem Dice.keep {w w' : World} {g B : Nat} (h : Dice w g B) (hk : ∀ b, b ≤ g → w'.heap[b]? = w.heap[b]?) : Dice w' g B := by
  obtain ⟨A, n, c, at_, ts, hh, h1, h2, h3, hs, hB⟩ := h
  exact ⟨A, n, c, at_, ts, (hk g (Nat.le_refl _)).trans hh, h1, h2, h3, hs.keep fun p hp => World.cell?_of_block (hk p.block (by omega)), hB⟩
theorem Dice.below {w w' : World} {g B : Nat} (h : Dice w g B) (hb : Below w.heap.size w w') : Dice w' g B := h.keep fun b hb' => hb.block b (by have := h.lt; omega)
theorem Dice.drewN {w : World} {g B : Nat} (h : Dice w g B) (k : Nat) : Dice (w.drewN k) g B := h
theorem Dice.drew {w : World} {g B : Nat} (h : Dice w g B) : Dice w.drew g B := h
theorem Dice.grown {w w' : World} {g B : Nat} (h : Dice w g B) {row : Option Nat} (hg : w.grownBy w' row) (hr : ∀ k, row = some k → g < k) : Dice w' g B := h.keep fun b hb' => hg.block b (by have := h.lt; omega) (fun e => by have := hr b e.symm; omega)

theorem light_any (A : Option Addr) (n c : Nat) (w : World) (hl : n ≤ 9223372036854775807) : Calls Tryd.prog 6 #[.slice A n c] w fun e w' => e = .returned (.bool (decide ((n : Int) ≤ 400))) ∧ w = w' := by
  go_enter Tryd.func6, Tryd.ntmps6
  go_wp2_with fail
  go_ret
  exact ⟨rfl, rfl⟩
/-- what a number given out leaves -/
def Gave (w : World) (g B : Nat) (m : Int) (e : Ending) (w' : World) : Prop := ∃ r : Int, e = .returned (.int .i64 r) ∧ 0 ≤ r ∧ r < m ∧ Dice w' g B ∧ w.grownBy w' (some g)
theorem next_any (g B : Nat) (m : Int) (w : World) (hm : 1 ≤ m) (hm2 : m ≤ 9223372036854775807) (hd : Dice w g B) : Calls Tryd.prog 13 #[.pointer (some ⟨g, 0, none⟩), .int .i64 m] w (Gave w g B m) := by
  obtain ⟨A, n, c, k, ts, hh, hts, hk, hn, hs, hB⟩ := hd
  have hc0 : w.cell? ⟨g, 0, none⟩ = some (.slice A n c) := cell_of_row w g 0 _ _ _ hh
  have hc1 : w.cell? ⟨g, 1, none⟩ = some (.int .i64 (k : Int)) := cell_of_row w g 1 _ _ _ hh
  have hf1 : w.frozen? ⟨g, 1, none⟩ = false := frozen_of_row w g 1 _ _ hh
  have HD : Hid (Dice w g B) := ⟨A, n, c, k, ts, hh, hts, hk, hn, hs, hB⟩
  rcases Nat.lt_or_ge k n with hlt | hge
  · obtain ⟨x, hx⟩ := int_at ts k (by omega)
    obtain ⟨ad, rfl, hbk, hcx⟩ := hs.int hx
    have hcx' : (w.setCell ⟨g, 1, none⟩ (.int .i64 ((k : Int) + 1))).cell? (ad.add k) = some (.int .i64 x) := by
      rw [World.cell?_setCell_other _ _ _ _ (fun e => by have := congrArg Addr.block e; rw [add_block] at this; simp at this; omega)]
      exact hcx
    have HD1 : Hid (Dice (w.setCell ⟨g, 1, none⟩ (.int .i64 ((k : Int) + 1))) g B) :=
      ⟨some ad, n, c, k + 1, ts, by rw [heap_setCell_same w g 1 _ _ _ hh]; rfl, hts, by omega, hn, hs.below ((Below.refl B w).setCell (p := ⟨g, 1, none⟩) hB _), hB⟩
    have HG : Hid (w.grownBy (w.setCell ⟨g, 1, none⟩ (.int .i64 ((k : Int) + 1))) (some g)) :=
      ⟨rfl, rfl, rfl, by simp [World.setCell], fun i hi hne => Below.heap_setCell _ _ _ _ (fun e => hne (by rw [e]))⟩
    have hc0' : (w.setCell ⟨g, 1, none⟩ (.int .i64 ((k : Int) + 1))).cell? ⟨g, 0, none⟩ = some (.slice (some ad) n c) := by
      rw [World.cell?_setCell_other _ _ _ _ (by simp)]
      exact hc0
    have hc1' : (w.setCell ⟨g, 1, none⟩ (.int .i64 ((k : Int) + 1))).cell? ⟨g, 1, none⟩ = some (.int .i64 ((k : Int) + 1)) := World.cell?_setCell_same' _ _ _ (by rw [hc1]; rfl)
    have HF : Hid (∀ nq : Nat, ∃ w2, ((w.drewN nq).setCell ⟨g, 1, none⟩ (.int .i64 ((k : Int) + 1))) = w2 ∧ w2.cell? ⟨g, 0, none⟩ = some (.slice (some ad) n c) ∧ w2.cell? ⟨g, 1, none⟩ = some (.int .i64 ((k : Int) + 1)) ∧ w2.cell? (ad.add k) = some (.int .i64 x) ∧ Hid (Dice w2 g B) ∧ Hid (w.grownBy w2 (some g))) :=
      fun nq => ⟨_, rfl, hc0', hc1', hcx', HD1.drewN nq, grown_drewN HG nq⟩
    clear hh hts hx hs hcx HD hc0' hc1' hcx' HD1 HG
    go_enter Tryd.func13, Tryd.ntmps13
    go_wp2_with fail
    go_quiet (fail)
    go_wp2_with fail
    obtain ⟨w2, hw2, d0, d1, dx, HD, HG⟩ := HF.out nq
    rw [hw2]
    clear hw2 hc0 hc1 hf1 HF
    have s1 : IntKind.i64.wrap (k : Int) = (k : Int) := IntWalk.i64_in _ (by omega)
    have s2 : (k : Int) < (n : Int) := by omega
    go_quiet ((go_at_call 25; with_reducible exact quiet_left (mod_any _ _ _ hm hm2)))
    go_wp2_with fail
    go_ret
    exact ⟨x % m, rfl, Int.emod_nonneg _ (by omega), Int.emod_lt_of_pos _ (by omega), HD.out.drewN _, grown_drewN HG.out _⟩
  · have hz : (n : Int) ≤ (k : Int) := by omega
    have hz' : decide (n ≤ k) = true := decide_eq_true hge
    clear hh hts hs hge
    go_enter Tryd.func13, Tryd.ntmps13
    go_wp2_with fail
    go_quiet (fail)
    go_wp2_with fail
    go_ret
    exact ⟨0, rfl, Int.le_refl _, by omega, HD.out.drewN _, grown_drewN (World.grownBy.refl _ _) _⟩
end Go.Proofs.YtnplaejlmbncfaaDoor

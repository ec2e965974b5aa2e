/- PolyR Sb Sc Sd Se -/
import Derived.Test.YtnplaejlmbncfaaGreatDoorM01
import Derived.Test.YtnplaejlmbncfaaGreatDoorM02
namespace Go.Proofs.YtnplaejlmbncfaaGreatDoor
namespace Po
open Gf
theorem eval_lin (r x : UInt8) : eval [r, 1] x = x ^^^ r := by
  rw [eval_cons, eval_cons, eval_nil, zero_gmul, UInt8.zero_xor, one_gmul]
theorem xor_eq0 (a b : UInt8) : a ^^^ b = 0 ↔ a = b := UInt8.xor_eq_zero_iff
theorem gmul_eq0 (a b : UInt8) : gmul a b = 0 ↔ a = 0 ∨ b = 0 := by
  constructor
  · intro h
    by_cases ha : a = 0
    · exact .inl ha
    · by_cases hb : b = 0
      · exact .inr hb
      · exact absurd h (gmul_ne a b ha hb)
  · rintro (rfl | rfl)
    · exact zero_gmul _
    · exact gmul_zero _
theorem vld_lin (r : UInt8) : vld [r, 1] = true := vld_last [r, 1] 1 (by simp) rfl
theorem rootsTo_mem (l : List UInt8) : ∀ k, k ≤ 256 → ∀ y ∈ rootsTo l k, eval l y = 0 ∧ y.toNat < k := by
  intro k
  induction k with
  | zero => intro _ y hy; cases hy
  | succ k ih =>
    intro hk y hy
    rw [rootsTo] at hy
    split at hy
    · rename_i h
      rcases List.mem_append.1 hy with h1 | h1
      · exact ⟨(ih (by omega) y h1).1, by have := (ih (by omega) y h1).2; omega⟩
      · rw [List.mem_singleton] at h1
        subst h1
        exact ⟨h, by rw [UInt8.toNat_ofNat']; omega⟩
    · exact ⟨(ih (by omega) y hy).1, by have := (ih (by omega) y hy).2; omega⟩
theorem rootsTo_nodup (l : List UInt8) : ∀ k, k ≤ 256 → (rootsTo l k).Nodup := by
  intro k
  induction k with
  | zero => intro _; exact List.nodup_nil
  | succ k ih =>
    intro hk
    rw [rootsTo]
    split
    · refine List.nodup_append.2 ⟨ih (by omega), List.nodup_cons.2 ⟨by simp, List.nodup_nil⟩, fun a ha b hb e => ?_⟩
      rw [List.mem_singleton] at hb
      have := (rootsTo_mem l k (by omega) a ha).2
      rw [e, hb, UInt8.toNat_ofNat'] at this
      omega
    · exact ih (by omega)
theorem eval_zero_of (l : List UInt8) (h : ∀ i, co l i = 0) (x : UInt8) : eval l x = 0 := by
  rw [eval_ext l [] (fun i => by rw [h i]; rfl) x, eval_nil]
theorem roots_lt : ∀ (n : Nat) (q rs : List UInt8), q.length = n → vld q = true → 0 < n → rs.Nodup → (∀ r ∈ rs, eval q r = 0) → rs.length < n := by
  intro n
  induction n with
  | zero => intro q rs _ _ h; omega
  | succ n ih =>
    intro q rs hq hv _ hnd hr
    match rs, hnd, hr with
    | [], _, _ => simp
    | r :: rs, hnd, hr =>
      have hr0 := hr r (by simp)
      rw [List.nodup_cons] at hnd
      have hdl : ([r, 1] : List UInt8).length = 2 := rfl
      have hne : co [r, 1] (([r, 1] : List UInt8).length - 1) ≠ 0 := by
        show (1 : UInt8) ≠ 0
        decide
      have hco := div_co q [r, 1] (by simp) hne
      have hrem := rem_lt q [r, 1] (by simp)
      have hev : ∀ x, eval q x = eval (rem q [r, 1]) x ^^^ gmul (eval (quo q [r, 1]) x) (x ^^^ r) := fun x => by
        rw [← eval_lin r x, ← eval_mulV, ← eval_addV]
        exact eval_ext _ _ (fun i => by rw [co_addV, co_mulV, ← hco]) x
      have h1 : eval (rem q [r, 1]) r = 0 := by
        have := hev r
        rw [hr0, UInt8.xor_self, gmul_zero, UInt8.xor_zero] at this
        exact this.symm
      have h2 : ∀ i, co (rem q [r, 1]) i = 0 := by
        match hm : rem q [r, 1], hrem, h1 with
        | [], _, _ => intro i; rfl
        | [a], _, h1 =>
          rw [eval_cons, eval_nil, zero_gmul, UInt8.zero_xor] at h1
          subst h1
          intro i
          cases i <;> simp [co]
        | a :: b :: t, hl, _ => simp at hl; omega
      rcases Nat.lt_or_ge q.length 2 with h3 | h3
      · exfalso
        have hq1 : q.length = 1 := by omega
        have : rem q [r, 1] = q := by unfold rem; rw [if_pos (by simpa using h3)]
        rw [this] at h2
        exact vld_top q hv (by omega) (h2 _)
      · have hql : (quo q [r, 1]).length = n := by
          unfold quo dvAll
          rw [if_neg (by simp; omega), (dv_len q [r, 1] _ _).2, hdl]
          omega
        have := ih (quo q [r, 1]) rs hql (quo_vld q [r, 1] hv (by simp) hne) (by omega) hnd.2 (fun s hs => by
          have e := hev s
          rw [hr s (by simp [hs]), eval_zero_of _ h2, UInt8.zero_xor] at e
          rcases (gmul_eq0 _ _).1 e.symm with e1 | e1
          · exact e1
          · exact absurd ((xor_eq0 _ _).1 e1 ▸ hs) hnd.1)
        simp
        omega
theorem few_roots (q : List UInt8) (hv : vld q = true) (h : 0 < q.length) : (rootsR q).length < q.length := by
  unfold rootsR
  rw [hv, decide_eq_true h]
  exact roots_lt q.length q _ rfl hv h (rootsTo_nodup q 256 (Nat.le_refl _)) (fun r hr => (rootsTo_mem q 256 (Nat.le_refl _) r hr).1)
end Po
end Go.Proofs.YtnplaejlmbncfaaGreatDoor

namespace Go.Proofs.YtnplaejlmbncfaaGreatDoor
namespace Sy
open Gf
set_option linter.unusedVariables false
/-- the product of x - 2^k -/
def gen : Nat → List UInt8
  | 0 => [1]
  | k + 1 => Po.mulV (gen k) [gpow 2 k, 1]
theorem gen_ok : ∀ k, k ≤ 200 → Po.vld (gen k) = true ∧ (gen k).length = k + 1 := by
  intro k
  induction k with
  | zero => exact fun _ => ⟨by decide +kernel, rfl⟩
  | succ k ih =>
    intro hk
    obtain ⟨h1, h2⟩ := ih (by omega)
    refine ⟨Po.mulV_vld _ _ h1 (Po.vld_lin _) (by rw [h2]; simp; omega), ?_⟩
    show (Po.mulV (gen k) [gpow 2 k, 1]).length = _
    rw [Po.mulV_pos _ _ (by omega) (by simp)]
    unfold Po.mulA
    rw [Po.mulTo_length, h2]
    simp
/-- the dividend: the data at the high powers -/
def high (m : Nat) (data : List UInt8) : List UInt8 := (data ++ List.replicate m 0).reverse
def rest (m : Nat) (data : List UInt8) : List UInt8 := Po.rem (Po.trim (high m data)) (gen m)
/-- the code word -/
def enc (m : Nat) (data : List UInt8) : List UInt8 := data ++ (List.range m).map fun i => Po.co (rest m data) (m - 1 - i)
theorem enc_length (m : Nat) (data : List UInt8) : (enc m data).length = data.length + m := by unfold enc; simp
theorem rest_length (m : Nat) (hm : m ≤ 200) (data : List UInt8) : (rest m data).length ≤ m := by
  have h := (gen_ok m hm).2
  have := Po.rem_lt (Po.trim (high m data)) (gen m) (by omega)
  unfold rest
  omega
theorem high_length (m : Nat) (data : List UInt8) : (high m data).length = data.length + m := by unfold high; simp; omega
/-- all values at the first m powers of 2 are 0 -/
def Cw (m : Nat) (l : List UInt8) : Prop := ∀ k, k < m → syn l k = 0
end Sy
end Go.Proofs.YtnplaejlmbncfaaGreatDoor

namespace Go.Proofs.YtnplaejlmbncfaaGreatDoor
namespace Sy
open Gf
set_option linter.unusedVariables false
theorem ls_single {f : Nat → UInt8} {n k : Nat} (hk : k < n) (h : ∀ j, j < n → j ≠ k → f j = 0) : ls f (List.range n) = f k := by
  induction n with
  | zero => omega
  | succ n ih =>
    rw [ls_range_succ]
    rcases Nat.lt_or_ge k n with h1 | h1
    · rw [ih h1 fun j hj => h j (by omega), h n (by omega) (by omega), UInt8.xor_zero]
    · have e : n = k := by omega
      subst e
      rw [ls_zero fun j hj => h j (by have := List.mem_range.1 hj; omega) (by have := List.mem_range.1 hj; omega), UInt8.zero_xor]
theorem ls_two {f : Nat → UInt8} {n a b : Nat} (ha : a < n) (hb : b < n) (hab : a ≠ b) (h : ∀ j, j < n → j ≠ a → j ≠ b → f j = 0) : ls f (List.range n) = f a ^^^ f b := by
  have e : ls f (List.range n) = ls (fun j => (if j = a then f a else 0) ^^^ (if j = b then f b else 0)) (List.range n) := ls_congr fun j hj => by
    have hj := List.mem_range.1 hj
    by_cases h1 : j = a
    · rw [if_pos h1, if_neg (by omega), h1, UInt8.xor_zero]
    · by_cases h2 : j = b
      · rw [if_neg h1, if_pos h2, h2, UInt8.zero_xor]
      · rw [if_neg h1, if_neg h2, h j hj h1 h2]; rfl
  rw [e, ls_add, ls_single (k := a) ha (fun j _ hj => if_neg hj), ls_single (k := b) hb (fun j _ hj => if_neg hj), if_pos rfl, if_pos rfl]
/-- a row, none behind the last one -/
def rw_ (rows : List (List UInt8)) (k : Nat) : List UInt8 := rows[k]?.getD []
theorem rw_lt {rows : List (List UInt8)} {k : Nat} (h : k < rows.length) : rows[k]? = some (rw_ rows k) := by unfold rw_; rw [List.getElem?_eq_getElem h]; rfl
theorem rw_some {rows : List (List UInt8)} {k : Nat} {r : List UInt8} (h : rows[k]? = some r) : rw_ rows k = r := by unfold rw_; rw [h]; rfl
def dot (r : List UInt8) (y : Nat → UInt8) (n : Nat) : UInt8 := ls (fun j => gmul (wd r j) (y j)) (List.range n)
/-- the row times t -/
def scl (t : UInt8) (r : List UInt8) : List UInt8 := r.map fun a => gmul a t
/-- the row and t times another -/
def addRow (t : UInt8) (p r : List UInt8) : List UInt8 := (List.range r.length).map fun q => wd r q ^^^ gmul t (wd p q)
theorem scl_length (t : UInt8) (r : List UInt8) : (scl t r).length = r.length := List.length_map _
theorem addRow_length (t : UInt8) (p r : List UInt8) : (addRow t p r).length = r.length := by unfold addRow; simp
theorem wd_scl (t : UInt8) (r : List UInt8) (j : Nat) : wd (scl t r) j = gmul (wd r j) t := by
  unfold scl wd
  rw [List.getElem?_map]
  cases r[j]? with
  | none => exact (zero_gmul t).symm
  | some a => rfl
theorem wd_addRow (t : UInt8) (p r : List UInt8) {j : Nat} (h : j < r.length) : wd (addRow t p r) j = wd r j ^^^ gmul t (wd p j) := by
  conv => lhs; unfold addRow wd
  rw [List.getElem?_map, List.getElem?_range h]
  rfl
theorem addRow_zero (p r : List UInt8) : addRow 0 p r = r := wd_ext (addRow_length _ _ _) fun i hi => by
  rw [addRow_length] at hi
  rw [wd_addRow _ _ _ hi, zero_gmul, UInt8.xor_zero]
theorem dot_scl (t : UInt8) (r : List UInt8) (y : Nat → UInt8) (n : Nat) : dot (scl t r) y n = gmul t (dot r y n) := by
  unfold dot
  rw [← ls_mul]
  refine ls_congr fun j _ => ?_
  rw [wd_scl, gmul_comm (wd r j) t, gmul_assoc]
theorem dot_addRow (t : UInt8) (p r : List UInt8) (y : Nat → UInt8) {n : Nat} (h : n ≤ r.length) : dot (addRow t p r) y n = dot r y n ^^^ gmul t (dot p y n) := by
  unfold dot
  rw [← ls_mul, ← ls_add]
  refine ls_congr fun j hj => ?_
  have hj := List.mem_range.1 hj
  rw [wd_addRow _ _ _ (by omega), gmul_add', gmul_assoc]
/-- what solves all equations -/
def Ker (rows : List (List UInt8)) (n : Nat) (y : Nat → UInt8) : Prop := ∀ k, k < rows.length → dot (rw_ rows k) y n = 0
def Wid (rows : List (List UInt8)) (n : Nat) : Prop := ∀ k, k < rows.length → (rw_ rows k).length = n
/-- the first columns are those of the unit matrix -/
def Uni (rows : List (List UInt8)) (c : Nat) : Prop := ∀ j, j < c → ∀ k, k < rows.length → wd (rw_ rows k) j = if k = j then 1 else 0
/-- the first row from c on with something in column c -/
def piv (c : Nat) (rows : List (List UInt8)) : Option Nat := ((rows.drop c).findIdx? fun r => wd r c != 0).map (c + ·)
def swapR (rows : List (List UInt8)) (c p : Nat) : List (List UInt8) := (rows.set c (rw_ rows p)).set p (rw_ rows c)
def leadOf (rows : List (List UInt8)) (c : Nat) : UInt8 := ginv (wd (rw_ rows c) c)
def clearC (rows : List (List UInt8)) (c : Nat) (p : List UInt8) : List (List UInt8) := rows.mapIdx fun k r => if k = c then r else addRow (wd r c) p r
def stepC (rows : List (List UInt8)) (c p : Nat) : List (List UInt8) :=
  let R := swapR rows c p
  let S := R.set c (scl (leadOf R c) (rw_ R c))
  clearC S c (rw_ S c)
def elim (rows : List (List UInt8)) : Nat → Option (List (List UInt8))
  | 0 => some rows
  | c + 1 => match elim rows c with
    | none => none
    | some R => match piv c R with
      | none => none
      | some p => some (stepC R c p)
def badR (rows : List (List UInt8)) (w : Nat) : Bool := (rows.drop w).any fun r => wd r w != 0
def outR (rows : List (List UInt8)) (w : Nat) : List UInt8 := (rows.take w).map fun r => wd r w
/-- the only solution, where there is just one -/
def solve (rows : List (List UInt8)) (w : Nat) : Option (List UInt8) := match elim rows w with
  | none => none
  | some R => if badR R w then none else some (outR R w)
theorem swap_length (rows : List (List UInt8)) (c p : Nat) : (swapR rows c p).length = rows.length := by unfold swapR; simp
theorem rw_swap {rows : List (List UInt8)} {c p : Nat} (hc : c < rows.length) (hp : p < rows.length) {k : Nat} : rw_ (swapR rows c p) k = if k = c then rw_ rows p else if k = p then rw_ rows c else rw_ rows k := by
  unfold swapR
  conv => lhs; unfold rw_
  rw [List.getElem?_set, List.getElem?_set]
  by_cases h1 : p = k
  · subst h1
    rw [if_pos rfl, if_pos (by simpa using hp)]
    by_cases h2 : p = c
    · subst h2; rw [if_pos rfl]; rfl
    · rw [if_neg h2, if_pos rfl]; rfl
  · rw [if_neg h1]
    by_cases h2 : c = k
    · subst h2; rw [if_pos rfl, if_pos hc, if_pos rfl]; rfl
    · rw [if_neg h2, if_neg (fun e => h2 e.symm), if_neg (fun e => h1 e.symm)]; rfl
theorem rw_set {rows : List (List UInt8)} {c : Nat} {r : List UInt8} (hc : c < rows.length) {k : Nat} : rw_ (rows.set c r) k = if k = c then r else rw_ rows k := by
  conv => lhs; unfold rw_
  rw [List.getElem?_set]
  by_cases h : c = k
  · subst h; rw [if_pos rfl, if_pos hc, if_pos rfl]; rfl
  · rw [if_neg h, if_neg (fun e => h e.symm)]; rfl
theorem clear_length (rows : List (List UInt8)) (c : Nat) (p : List UInt8) : (clearC rows c p).length = rows.length := by unfold clearC; simp
theorem rw_clear {rows : List (List UInt8)} {c k : Nat} {p : List UInt8} (hk : k < rows.length) : rw_ (clearC rows c p) k = if k = c then rw_ rows k else addRow (wd (rw_ rows k) c) p (rw_ rows k) := by
  have e := rw_lt hk
  refine rw_some ?_
  unfold clearC
  rw [List.getElem?_mapIdx, e]
  rfl
theorem step_length (rows : List (List UInt8)) (c p : Nat) : (stepC rows c p).length = rows.length := by
  unfold stepC
  simp only [clear_length, List.length_set, swap_length]
/-- the pivot's row behind a step, and the others -/
theorem rw_step {rows : List (List UInt8)} {c p : Nat} (hc : c < rows.length) (hp : p < rows.length) {k : Nat} (hk : k < rows.length) :
    rw_ (stepC rows c p) k = if k = c then scl (ginv (wd (rw_ rows p) c)) (rw_ rows p) else addRow (wd (if k = p then rw_ rows c else rw_ rows k) c) (scl (ginv (wd (rw_ rows p) c)) (rw_ rows p)) (if k = p then rw_ rows c else rw_ rows k) := by
  have hcs : c < (swapR rows c p).length := by rw [swap_length]; exact hc
  have e0 : rw_ (swapR rows c p) c = rw_ rows p := by rw [rw_swap hc hp, if_pos rfl]
  unfold stepC leadOf
  simp only
  rw [rw_clear (by rw [List.length_set, swap_length]; exact hk), rw_set hcs, rw_set hcs, if_pos rfl, e0]
  by_cases h : k = c
  · rw [if_pos h, if_pos h, if_pos h]
  · rw [if_neg h, if_neg h, if_neg h, rw_swap hc hp, if_neg h]
theorem wid_step {rows : List (List UInt8)} {c p n : Nat} (hw : Wid rows n) (hc : c < rows.length) (hp : p < rows.length) : Wid (stepC rows c p) n := fun k hk => by
  rw [step_length] at hk
  rw [rw_step hc hp hk]
  split
  · rw [scl_length]; exact hw p hp
  · rw [addRow_length]; split
    · exact hw c hc
    · exact hw k hk
theorem ker_step {rows : List (List UInt8)} {c p n : Nat} (hw : Wid rows n) (hc : c < rows.length) (hp : p < rows.length) (hne : wd (rw_ rows p) c ≠ 0) (y : Nat → UInt8) : Ker (stepC rows c p) n y ↔ Ker rows n y := by
  constructor
  · intro h
    have hpv : dot (rw_ rows p) y n = 0 := by
      have := h c (by rw [step_length]; exact hc)
      rw [rw_step hc hp hc, if_pos rfl, dot_scl] at this
      rcases (gmul_eq_zero _ _).1 this with h1 | h1
      · exact absurd h1 (ginv_ne _ hne)
      · exact h1
    have key : ∀ k, k < rows.length → k ≠ c → dot (if k = p then rw_ rows c else rw_ rows k) y n = 0 := fun k hk hkc => by
      have := h k (by rw [step_length]; exact hk)
      rw [rw_step hc hp hk, if_neg hkc, dot_addRow, dot_scl, hpv, gmul_zero, gmul_zero, UInt8.xor_zero] at this
      · exact this
      · split
        · rw [hw c hc]; exact Nat.le_refl _
        · rw [hw k hk]; exact Nat.le_refl _
    intro k hk
    by_cases h1 : k = p
    · rw [h1]; exact hpv
    · by_cases h2 : k = c
      · have := key p hp (fun e => h1 (by rw [h2, e]))
        rw [if_pos rfl] at this
        rw [h2]; exact this
      · have := key k hk h2
        rwa [if_neg h1] at this
  · intro h k hk
    rw [step_length] at hk
    rw [rw_step hc hp hk]
    split
    · rw [dot_scl, h p hp, gmul_zero]
    · rw [dot_addRow, dot_scl, h p hp, gmul_zero, gmul_zero, UInt8.xor_zero]
      · split
        · exact h c hc
        · exact h k hk
      · split
        · rw [hw c hc]; exact Nat.le_refl _
        · rw [hw k hk]; exact Nat.le_refl _
theorem uni_step {rows : List (List UInt8)} {c p n : Nat} (hw : Wid rows n) (hcn : c < n) (hu : Uni rows c) (hc : c < rows.length) (hp : p < rows.length) (hcp : c ≤ p) (hne : wd (rw_ rows p) c ≠ 0) : Uni (stepC rows c p) (c + 1) := by
  intro j hj k hk
  rw [step_length] at hk
  rw [rw_step hc hp hk]
  have hlen : (if k = p then rw_ rows c else rw_ rows k).length = n := by
    split
    · exact hw c hc
    · exact hw k hk
  rcases Nat.lt_or_ge j c with h1 | h1
  · have hp0 : wd (rw_ rows p) j = 0 := by rw [hu j h1 p hp, if_neg (by omega)]
    by_cases h : k = c
    · rw [if_pos h, wd_scl, hp0, zero_gmul, if_neg (by omega)]
    · rw [if_neg h, wd_addRow _ _ _ (by rw [hlen]; omega), wd_scl, hp0, zero_gmul, gmul_zero, UInt8.xor_zero]
      by_cases h2 : k = p
      · rw [if_pos h2, hu j h1 c hc, if_neg (by omega), if_neg (by omega)]
      · rw [if_neg h2, hu j h1 k hk]
  · have e : j = c := by omega
    subst e
    have e1 : wd (scl (ginv (wd (rw_ rows p) j)) (rw_ rows p)) j = 1 := by rw [wd_scl, gmul_inv _ hne]
    by_cases h : k = j
    · rw [if_pos h, if_pos h, e1]
    · rw [if_neg h, if_neg h, wd_addRow _ _ _ (by rw [hlen]; omega), e1, gmul_one, UInt8.xor_self]
/-- no row is left for a column: something solves all equations without their right side -/
theorem stuck {rows : List (List UInt8)} {c w : Nat} (hw : Wid rows (w + 1)) (hcw : c < w) (hu : Uni rows c) (h0 : ∀ k, k < rows.length → c ≤ k → wd (rw_ rows k) c = 0) : ∃ y : Nat → UInt8, Ker rows (w + 1) y ∧ y w = 0 ∧ y c = 1 := by
  refine ⟨fun j => if j = c then 1 else if j < c then wd (rw_ rows j) c else 0, fun k hk => ?_, ?_, ?_⟩
  · unfold dot
    rcases Nat.lt_or_ge k c with h | h
    · rw [ls_two (a := k) (b := c) (by omega) (by omega) (by omega) (fun j hj h1 h2 => ?_)]
      · dsimp only
        rw [if_neg (by omega), if_pos h, if_pos rfl, hu k h k hk, if_pos rfl, one_gmul, gmul_one, UInt8.xor_self]
      · dsimp only
        rw [if_neg h2]
        rcases Nat.lt_or_ge j c with h3 | h3
        · rw [hu j h3 k hk, if_neg (fun e => h1 e.symm), zero_gmul]
        · rw [if_neg (by omega), gmul_zero]
    · refine ls_zero fun j hj => ?_
      dsimp only
      by_cases h1 : j = c
      · rw [h1, h0 k hk h, zero_gmul]
      · rw [if_neg h1]
        rcases Nat.lt_or_ge j c with h3 | h3
        · rw [hu j h3 k hk, if_neg (by omega), zero_gmul]
        · rw [if_neg (by omega), gmul_zero]
  · show (if w = c then (1 : UInt8) else if w < c then _ else 0) = 0
    rw [if_neg (by omega), if_neg (by omega)]
  · exact if_pos rfl
theorem piv_some {c : Nat} {rows : List (List UInt8)} {p : Nat} (h : piv c rows = some p) : c ≤ p ∧ p < rows.length ∧ wd (rw_ rows p) c ≠ 0 ∧ ∀ k, c ≤ k → k < p → wd (rw_ rows k) c = 0 := by
  unfold piv at h
  rw [Option.map_eq_some_iff] at h
  obtain ⟨i, hi, rfl⟩ := h
  rw [List.findIdx?_eq_some_iff_getElem] at hi
  obtain ⟨hlt, hb, hn⟩ := hi
  rw [List.length_drop] at hlt
  have e : ∀ j, c + j < rows.length → ∀ h', (rows.drop c)[j]'h' = rw_ rows (c + j) := fun j hj h' => by
    rw [List.getElem_drop]
    exact (rw_some (List.getElem?_eq_getElem hj)).symm
  refine ⟨by omega, by omega, ?_, fun k h1 h2 => ?_⟩
  · rw [e i (by omega)] at hb
    simpa using hb
  · have := hn (k - c) (by omega)
    rw [e (k - c) (by omega), show c + (k - c) = k by omega] at this
    simpa using this
theorem piv_none {c : Nat} {rows : List (List UInt8)} (h : piv c rows = none) : ∀ k, k < rows.length → c ≤ k → wd (rw_ rows k) c = 0 := fun k hk hck => by
  unfold piv at h
  rw [Option.map_eq_none_iff, List.findIdx?_eq_none_iff] at h
  have := h (rw_ rows k) (by
    rw [List.mem_iff_getElem?]
    exact ⟨k - c, by rw [List.getElem?_drop, show c + (k - c) = k by omega]; exact rw_lt hk⟩)
  simpa using this
structure El (rows R : List (List UInt8)) (w c : Nat) : Prop where
  len : R.length = rows.length
  wid : Wid R (w + 1)
  uni : Uni R c
  ker : ∀ y, Ker R (w + 1) y ↔ Ker rows (w + 1) y
  le : c = 0 ∨ c ≤ R.length
theorem elim_ok {rows : List (List UInt8)} {w : Nat} (hw : Wid rows (w + 1)) : ∀ c, c ≤ w → ∀ R, elim rows c = some R → El rows R w c := by
  intro c
  induction c with
  | zero => intro _ R h; cases h; exact ⟨rfl, hw, fun j hj => by omega, fun y => Iff.rfl, .inl rfl⟩
  | succ c ih =>
    intro hc R h
    unfold elim at h
    cases e1 : elim rows c with
    | none => rw [e1] at h; cases h
    | some R' =>
      have H := ih (by omega) R' e1
      rw [e1] at h
      dsimp only at h
      cases e2 : piv c R' with
      | none => rw [e2] at h; cases h
      | some p =>
        rw [e2] at h
        dsimp only at h
        cases h
        obtain ⟨h1, h2, h3, _⟩ := piv_some e2
        exact ⟨by rw [step_length]; exact H.len, wid_step H.wid (by omega) h2, uni_step H.wid (by omega) H.uni (by omega) h2 h1 h3, fun y => (ker_step H.wid (by omega) h2 h3 y).trans (H.ker y), .inr (by rw [step_length]; omega)⟩
theorem elim_some {rows : List (List UInt8)} {w : Nat} (hw : Wid rows (w + 1)) (hk : ∀ y, Ker rows (w + 1) y → y w = 0 → ∀ j, j < w → y j = 0) : ∀ c, c ≤ w → ∃ R, elim rows c = some R := by
  intro c
  induction c with
  | zero => exact fun _ => ⟨rows, rfl⟩
  | succ c ih =>
    intro hc
    obtain ⟨R', e1⟩ := ih (by omega)
    have H := elim_ok hw c (by omega) R' e1
    unfold elim
    rw [e1]
    dsimp only
    cases e2 : piv c R' with
    | some p => exact ⟨_, rfl⟩
    | none =>
      exfalso
      obtain ⟨y, h1, h2, h3⟩ := stuck H.wid (by omega) H.uni (piv_none e2)
      have := hk y ((H.ker y).1 h1) h2 c (by omega)
      rw [h3] at this
      exact one_ne this
theorem dot_unit {R : List (List UInt8)} {w k : Nat} (hu : Uni R w) (hk : k < R.length) (hkw : k < w) (y : Nat → UInt8) : dot (rw_ R k) y (w + 1) = y k ^^^ gmul (wd (rw_ R k) w) (y w) := by
  unfold dot
  rw [ls_two (a := k) (b := w) (by omega) (by omega) (by omega) (fun j hj h1 h2 => by rw [hu j (by omega) k hk, if_neg (fun e => h1 e.symm), zero_gmul]), hu k hkw k hk, if_pos rfl, one_gmul]
theorem dot_low {R : List (List UInt8)} {w k : Nat} (hu : Uni R w) (hk : k < R.length) (hkw : w ≤ k) (y : Nat → UInt8) : dot (rw_ R k) y (w + 1) = gmul (wd (rw_ R k) w) (y w) := by
  unfold dot
  rw [ls_single (k := w) (by omega) (fun j hj h1 => by rw [hu j (by omega) k hk, if_neg (by omega), zero_gmul])]
theorem wd_out {R : List (List UInt8)} {w k : Nat} (hkw : k < w) (hk : k < R.length) : wd (outR R w) k = wd (rw_ R k) w := by
  refine wd_some ?_
  unfold outR
  rw [List.getElem?_map, List.getElem?_take, if_pos hkw, rw_lt hk]
  rfl
theorem bad_false {R : List (List UInt8)} {w : Nat} : badR R w = false ↔ ∀ k, k < R.length → w ≤ k → wd (rw_ R k) w = 0 := by
  unfold badR
  rw [List.any_eq_false]
  constructor
  · intro h k hk hw
    have := h (rw_ R k) (by
      rw [List.mem_iff_getElem?]
      exact ⟨k - w, by rw [List.getElem?_drop, show w + (k - w) = k by omega]; exact rw_lt hk⟩)
    simpa using this
  · intro h r hr
    obtain ⟨i, hi⟩ := List.mem_iff_getElem?.1 hr
    rw [List.getElem?_drop] at hi
    have hlt : w + i < R.length := by
      rcases Nat.lt_or_ge (w + i) R.length with h1 | h1
      · exact h1
      · rw [List.getElem?_eq_none h1] at hi; cases hi
    have := h (w + i) hlt (by omega)
    rw [rw_some hi] at this
    simp [this]
/-- what is given back solves the equations -/
theorem solve_sound {rows : List (List UInt8)} {w : Nat} (hw : Wid rows (w + 1)) {x : List UInt8} (h : solve rows w = some x) : x.length = w ∧ Ker rows (w + 1) (fun j => if j = w then 1 else wd x j) := by
  unfold solve at h
  cases e : elim rows w with
  | none => rw [e] at h; cases h
  | some R =>
    rw [e] at h
    dsimp only at h
    cases hb : badR R w with
    | true => rw [hb, if_pos rfl] at h; cases h
    | false =>
      rw [hb, if_neg (by simp)] at h
      cases h
      have H := elim_ok hw w (Nat.le_refl _) R e
      have hl : w ≤ R.length := by rcases H.le with h | h <;> omega
      refine ⟨by unfold outR; rw [List.length_map, List.length_take]; omega, (H.ker _).1 fun k hk => ?_⟩
      rcases Nat.lt_or_ge k w with h1 | h1
      · rw [dot_unit H.uni hk h1]
        rw [if_neg (by omega), if_pos rfl, wd_out h1 hk, gmul_one, UInt8.xor_self]
      · rw [dot_low H.uni hk h1]
        rw [if_pos rfl, bad_false.1 hb k hk h1, zero_gmul]
/-- where there is just one solution, it is given back -/
theorem solve_one {rows : List (List UInt8)} {w : Nat} (hw : Wid rows (w + 1)) (hk : ∀ y, Ker rows (w + 1) y → y w = 0 → ∀ j, j < w → y j = 0) {y : Nat → UInt8} (hy : Ker rows (w + 1) y) (h1 : y w = 1) : ∃ x, solve rows w = some x ∧ x.length = w ∧ ∀ j, j < w → wd x j = y j := by
  obtain ⟨R, e⟩ := elim_some hw hk w (Nat.le_refl _)
  have H := elim_ok hw w (Nat.le_refl _) R e
  have hl : w ≤ R.length := by rcases H.le with h | h <;> omega
  have hyR := (H.ker y).2 hy
  have hb : badR R w = false := bad_false.2 fun k hk h => by
    have := hyR k hk
    rwa [dot_low H.uni hk h, h1, gmul_one] at this
  refine ⟨outR R w, by unfold solve; rw [e]; dsimp only; rw [hb, if_neg (by simp)], by unfold outR; rw [List.length_map, List.length_take]; omega, fun j hj => ?_⟩
  have := hyR j (by omega)
  rw [dot_unit H.uni (by omega) hj, h1, gmul_one] at this
  rw [wd_out hj (by omega)]
  exact (UInt8.xor_eq_zero_iff.1 this).symm
end Sy
end Go.Proofs.YtnplaejlmbncfaaGreatDoor

namespace Go.Proofs.YtnplaejlmbncfaaGreatDoor
namespace Sy
open Gf Po
set_option linter.unusedVariables false
structure Bm where
  now : List UInt8
  old : List UInt8
  len : Nat
  gap : Nat
  last : UInt8
/-- the next value and what the recursion says of it: so many elements -/
def discTo (now s : List UInt8) (k : Nat) : Nat → UInt8
  | 0 => 0
  | j + 1 => if j ≤ k then discTo now s k j ^^^ gmul (wd now j) (wd s (k - j)) else discTo now s k j
def disc (now s : List UInt8) (k : Nat) : UInt8 := discTo now s k now.length
def nextR (now old : List UInt8) (gap : Nat) (t : UInt8) : List UInt8 := addAt (now ++ List.replicate (gap + old.length - now.length) 0) old t gap
def bmStep (s : List UInt8) (k : Nat) (b : Bm) : Bm :=
  if disc b.now s k = 0 then { b with gap := b.gap + 1 }
  else if k < 2 * b.len then { b with now := nextR b.now b.old b.gap (gmul (disc b.now s k) (ginv b.last)), gap := b.gap + 1 }
  else ⟨nextR b.now b.old b.gap (gmul (disc b.now s k) (ginv b.last)), b.now, k + 1 - b.len, 1, disc b.now s k⟩
def bm (s : List UInt8) : Nat → Bm
  | 0 => ⟨[1], [1], 0, 1, 1⟩
  | k + 1 => bmStep s k (bm s k)
def fitR (l : List UInt8) (n : Nat) : List UInt8 := (l ++ List.replicate (n + 1 - l.length) 0).take (n + 1)
def shortest (s : List UInt8) : List UInt8 := fitR (bm s s.length).now (bm s s.length).len
theorem discTo_sum (now s : List UInt8) (k : Nat) : ∀ j, discTo now s k j = sumX (fun i => if i ≤ k then gmul (co now i) (co s (k - i)) else 0) j := by
  intro j
  induction j with
  | zero => rfl
  | succ j ih =>
    show (if j ≤ k then _ else _) = sumX _ j ^^^ (if j ≤ k then _ else _)
    rw [ih]
    by_cases h : j ≤ k
    · rw [if_pos h, if_pos h]; rfl
    · rw [if_neg h, if_neg h, UInt8.xor_zero]
theorem sumX_to (f : Nat → UInt8) (a b : Nat) (h1 : ∀ i, a ≤ i → i < b → f i = 0) (h2 : ∀ i, b ≤ i → i < a → f i = 0) : sumX f a = sumX f b := by
  rcases Nat.le_total a b with h | h
  · exact (sumX_split f a b h h1).symm
  · exact sumX_split f b a h h2
theorem disc_cv (now s : List UInt8) (k : Nat) : disc now s k = cv (co now) (co s) k := by
  unfold disc
  rw [discTo_sum]
  unfold cv
  rw [sumX_to _ _ (k + 1) (fun i h1 h2 => by rw [if_pos (by omega), co_big now i h1, zero_gmul]) (fun i h1 h2 => if_neg (by omega))]
  exact sumX_congr fun i hi => if_pos (by omega)
theorem co_padR (l : List UInt8) (n i : Nat) : co (l ++ List.replicate n 0) i = co l i := by
  rcases Nat.lt_or_ge i l.length with h | h
  · exact wd_left h
  · have := wd_right l (List.replicate n 0) (i - l.length)
    rw [show l.length + (i - l.length) = i by omega] at this
    rw [co_big l i h]
    exact this.trans (co_replicate n _)
theorem nextR_length (now old : List UInt8) (gap : Nat) (t : UInt8) : (nextR now old gap t).length = max now.length (gap + old.length) := by
  unfold nextR
  rw [addAt_length, List.length_append, List.length_replicate]
  omega
theorem co_nextR (now old : List UInt8) (gap : Nat) (t : UInt8) (i : Nat) : co (nextR now old gap t) i = co now i ^^^ gmul t (if gap ≤ i then co old (i - gap) else 0) := by
  unfold nextR
  rw [co_addAt _ _ _ _ (by rw [List.length_append, List.length_replicate]; omega), co_padR]
  congr 1
  split
  · rfl
  · rw [gmul_zero]
theorem cv_late (f s : Nat → UInt8) : ∀ g n, cv (fun i => if g ≤ i then f (i - g) else 0) s n = if g ≤ n then cv f s (n - g) else 0 := by
  intro g
  induction g with
  | zero => intro n; rw [if_pos (Nat.zero_le _)]; exact cv_congr (fun i => by rw [if_pos (Nat.zero_le _)]; rfl) (fun _ => rfl) n
  | succ g ih =>
    intro n
    have e : cv (fun i => if g + 1 ≤ i then f (i - (g + 1)) else 0) s n = cv (shift (fun i => if g ≤ i then f (i - g) else 0)) s n := cv_congr (fun i => by
      cases i with
      | zero => rfl
      | succ i =>
        show _ = if g ≤ i then f (i - g) else 0
        by_cases h : g ≤ i
        · rw [if_pos (by omega), if_pos h, Nat.add_sub_add_right]
        · rw [if_neg (by omega), if_neg h]) (fun _ => rfl) n
    rw [e, cv_shift_left]
    cases n with
    | zero => rw [if_neg (by omega)]; rfl
    | succ n =>
      show cv _ s n = _
      rw [ih n]
      by_cases h : g ≤ n
      · rw [if_pos h, if_pos (by omega), Nat.add_sub_add_right]
      · rw [if_neg h, if_neg (by omega)]
theorem cv_nextR (now old s : List UInt8) (gap : Nat) (t : UInt8) (n : Nat) : cv (co (nextR now old gap t)) (co s) n = cv (co now) (co s) n ^^^ gmul t (if gap ≤ n then cv (co old) (co s) (n - gap) else 0) := by
  rw [cv_congr (co_nextR now old gap t) (fun _ => rfl), cv_add_left, cv_mul_left, cv_late]
/-- what holds behind k rounds -/
structure Bi (s : List UInt8) (k : Nat) (b : Bm) : Prop where
  le : b.len ≤ k
  one : co b.now 0 = 1
  deg : ∀ i, b.len < i → co b.now i = 0
  gen : ∀ j, b.len ≤ j → j < k → cv (co b.now) (co s) j = 0
  ne : b.last ≠ 0
  gp : 1 ≤ b.gap
  was : (b.len = 0 ∧ b.old = [1] ∧ b.gap = k + 1 ∧ b.last = 1) ∨ (b.gap ≤ k ∧ b.len ≤ k - b.gap + 1 ∧ (∀ i, k - b.gap + 1 - b.len < i → co b.old i = 0) ∧ (∀ j, k - b.gap + 1 - b.len ≤ j → j < k - b.gap → cv (co b.old) (co s) j = 0) ∧ cv (co b.old) (co s) (k - b.gap) = b.last)
  long : b.now.length ≤ k + 1 ∧ b.old.length + b.gap ≤ k + 2 ∧ 1 ≤ b.now.length ∧ 1 ≤ b.old.length
theorem bi_zero (s : List UInt8) : Bi s 0 (bm s 0) :=
  ⟨Nat.le_refl _, rfl, fun i hi => co_big [1] i (by have hi : 0 < i := hi; show 1 ≤ i; omega), fun j _ h => by omega, one_ne, Nat.le_refl _, .inl ⟨rfl, rfl, rfl, rfl⟩, by simp [bm]⟩
theorem bi_step {s : List UInt8} {k : Nat} {b : Bm} (h : Bi s k b) : Bi s (k + 1) (bmStep s k b) := by
  have hd := disc_cv b.now s k
  unfold bmStep
  by_cases h0 : disc b.now s k = 0
  · rw [if_pos h0]
    refine ⟨by have := h.le; show b.len ≤ k + 1; omega, h.one, h.deg, fun j h1 h2 => ?_, h.ne, by show 1 ≤ b.gap + 1; omega, ?_, by have := h.long; simp only; omega⟩
    · rcases Nat.lt_or_ge j k with h3 | h3
      · exact h.gen j h1 h3
      · rw [show j = k by omega, ← hd]; exact h0
    · rcases h.was with ⟨a1, a2, a3, a4⟩ | ⟨a1, a2, a3, a4, a5⟩
      · exact .inl ⟨a1, a2, by show b.gap + 1 = _; omega, a4⟩
      · refine .inr ?_
        show b.gap + 1 ≤ k + 1 ∧ _
        simp only [Nat.add_sub_add_right]
        exact ⟨by omega, a2, a3, a4, a5⟩
  · rw [if_neg h0]
    have hg := h.gp
    have e0 : co (nextR b.now b.old b.gap (gmul (disc b.now s k) (ginv b.last))) 0 = 1 := by
      rw [co_nextR, if_neg (by omega), gmul_zero, UInt8.xor_zero, h.one]
    have ek : b.gap ≤ k → cv (co (nextR b.now b.old b.gap (gmul (disc b.now s k) (ginv b.last)))) (co s) k = 0 := by
      intro a1
      rw [cv_nextR]
      rcases h.was with ⟨b1, b2, b3, b4⟩ | ⟨_, a2, a3, a4, a5⟩
      · omega
      · rw [if_pos a1, a5, gmul_assoc, ginv_mul _ h.ne, gmul_one, ← hd, UInt8.xor_self]
    have hlong := h.long
    by_cases h1 : k < 2 * b.len
    · rw [if_pos h1]
      rcases h.was with ⟨a1, _⟩ | ⟨a1, a2, a3, a4, a5⟩
      · omega
      · refine ⟨by have := h.le; show b.len ≤ k + 1; omega, e0, fun i hi => ?_, fun j h2 h3 => ?_, h.ne, by show 1 ≤ b.gap + 1; omega, .inr ?_, ?_⟩
        · have hi : b.len < i := hi
          rw [co_nextR, h.deg i hi, UInt8.zero_xor]
          by_cases h4 : b.gap ≤ i
          · rw [if_pos h4, a3 (i - b.gap) (by omega), gmul_zero]
          · rw [if_neg h4, gmul_zero]
        · have h2 : b.len ≤ j := h2
          rcases Nat.lt_or_ge j k with h4 | h4
          · rw [cv_nextR, h.gen j h2 h4, UInt8.zero_xor]
            by_cases h5 : b.gap ≤ j
            · rw [if_pos h5, a4 (j - b.gap) (by omega) (by omega), gmul_zero]
            · rw [if_neg h5, gmul_zero]
          · rw [show j = k by omega]; exact ek a1
        · show b.gap + 1 ≤ k + 1 ∧ _
          simp only [Nat.add_sub_add_right]
          exact ⟨by omega, a2, a3, a4, a5⟩
        · simp only [nextR_length]
          omega
    · rw [if_neg h1]
      have hle := h.le
      refine ⟨by show k + 1 - b.len ≤ k + 1; omega, e0, fun i hi => ?_, fun j h2 h3 => ?_, h0, Nat.le_refl _, .inr ?_, ?_⟩
      · have hi : k + 1 - b.len < i := hi
        rw [co_nextR, h.deg i (by omega), UInt8.zero_xor]
        by_cases h4 : b.gap ≤ i
        · rw [if_pos h4]
          rcases h.was with ⟨a1, a2, a3', a4'⟩ | ⟨a1, a2, a3, a4, a5⟩
          · rw [a2, co_big [1] _ (by simp; omega), gmul_zero]
          · rw [a3 (i - b.gap) (by omega), gmul_zero]
        · rw [if_neg h4, gmul_zero]
      · have h2 : k + 1 - b.len ≤ j := h2
        rcases Nat.lt_or_ge j k with h4 | h4
        · rw [cv_nextR, h.gen j (by omega) h4, UInt8.zero_xor]
          rcases h.was with ⟨a1, _⟩ | ⟨a1, a2, a3, a4, a5⟩
          · omega
          · by_cases h5 : b.gap ≤ j
            · rw [if_pos h5, a4 (j - b.gap) (by omega) (by omega), gmul_zero]
            · rw [if_neg h5, gmul_zero]
        · have e : j = k := by omega
          rw [e]
          refine ek ?_
          rcases h.was with ⟨a1, _⟩ | ⟨a1, _⟩
          · omega
          · exact a1
      · show 1 ≤ k + 1 ∧ _
        simp only [Nat.add_sub_cancel]
        refine ⟨by omega, by omega, fun i hi => h.deg i (by omega), fun j h2 h3 => h.gen j (by omega) h3, hd.symm⟩
      · simp only [nextR_length]
        omega
theorem bi_all (s : List UInt8) : ∀ k, Bi s k (bm s k)
  | 0 => bi_zero s
  | k + 1 => bi_step (bi_all s k)
/-- no recursion of less than this length makes the list -/
theorem bm_min (s : List UInt8) (lam : List UInt8) (v K : Nat) (h1 : co lam 0 = 1) (hd : ∀ i, v < i → co lam i = 0) (hg : ∀ j, v ≤ j → j < K → cv (co lam) (co s) j = 0) : ∀ k, k ≤ K → (bm s k).len ≤ v := by
  intro k
  induction k with
  | zero => exact fun _ => Nat.zero_le _
  | succ k ih =>
    intro hk
    have h := bi_all s k
    have hl := ih (by omega)
    show (bmStep s k (bm s k)).len ≤ v
    unfold bmStep
    by_cases h0 : disc (bm s k).now s k = 0
    · rw [if_pos h0]; exact hl
    · rw [if_neg h0]
      by_cases h2 : k < 2 * (bm s k).len
      · rw [if_pos h2]; exact hl
      · rw [if_neg h2]
        show k + 1 - (bm s k).len ≤ v
        rcases Nat.lt_or_ge v (k + 1 - (bm s k).len) with h3 | h3
        · exfalso
          apply h0
          rw [disc_cv]
          have e1 : cv (co (bm s k).now) (cv (co lam) (co s)) k = 0 := by
            unfold cv
            rw [sumX_congr (g := fun _ => 0) (fun i hi => ?_), sumX_zero]
            rcases Nat.lt_or_ge (bm s k).len i with h4 | h4
            · rw [h.deg i h4, zero_gmul]
            · have : sumX (fun i_1 => gmul (co lam i_1) (co s (k - i - i_1))) (k - i + 1) = 0 := hg (k - i) (by omega) (by omega)
              rw [this, gmul_zero]
          have e2 : cv (co (bm s k).now) (cv (co lam) (co s)) k = cv (co lam) (cv (co (bm s k).now) (co s)) k := by
            rw [cv_assoc, cv_assoc]
            exact cv_congr (fun i => cv_comm _ _ i) (fun _ => rfl) k
          have e3 : cv (co lam) (cv (co (bm s k).now) (co s)) k = cv (co (bm s k).now) (co s) k := by
            show sumX _ (k + 1) = _
            rw [sumX_single _ (k + 1) 0 (by omega) (fun i hi hne => ?_), Nat.sub_zero, h1, one_gmul]
            rcases Nat.lt_or_ge v i with h4 | h4
            · rw [hd i h4, zero_gmul]
            · rw [h.gen (k - i) (by omega) (by omega), gmul_zero]
          rw [← e3, ← e2, e1]
        · exact h3
end Sy
end Go.Proofs.YtnplaejlmbncfaaGreatDoor

namespace Go.Proofs.YtnplaejlmbncfaaGreatDoor
namespace Sy
open Gf Po
set_option linter.unusedVariables false
theorem ls_sumX (g : Nat → Nat → UInt8) (T : List Nat) : ∀ N, sumX (fun i => ls (g i) T) N = ls (fun t => sumX (fun i => g i t) N) T := by
  intro N
  induction N with
  | zero => exact (ls_zero fun _ _ => rfl).symm
  | succ N ih =>
    show sumX _ N ^^^ _ = _
    rw [ih, ← ls_add]
    rfl
/-- the value at 1 / x, times x^L -/
def rv (C : List UInt8) (L : Nat) (x : UInt8) : UInt8 := sumX (fun i => gmul (co C i) (gpow x (L - i))) (L + 1)
theorem gpow_inv {x : UInt8} (hx : x ≠ 0) (i : Nat) : gmul (gpow x i) (gpow (ginv x) i) = 1 := by
  rw [← mul_gpow, gmul_inv x hx, one_gpow]
theorem rv_eval {C : List UInt8} {L : Nat} (hl : C.length ≤ L + 1) {x : UInt8} (hx : x ≠ 0) : rv C L x = gmul (gpow x L) (Po.eval C (ginv x)) := by
  rw [← ev_co C (ginv x) (L + 1) hl]
  unfold ev' rv
  rw [← sumX_mul]
  refine sumX_congr fun i hi => ?_
  have e : gpow x L = gmul (gpow x (L - i)) (gpow x i) := by rw [← gpow_add]; congr 1; omega
  rw [e, gmul_comm (co C i) (gpow (ginv x) i), ← gmul_assoc, gmul_assoc (gpow x (L - i)), gpow_inv hx, gmul_one, gmul_comm]
theorem cv_rv {C U : List UInt8} {L M : Nat} {f X : Nat → UInt8} {T : List Nat} (hd : ∀ i, L < i → co C i = 0) (hU : ∀ k, k < M → co U k = ls (fun t => gmul (f t) (gpow (X t) k)) T) {j : Nat} (hL : L ≤ j) (hj : j < M) :
    cv (co C) (co U) j = ls (fun t => gmul (gmul (f t) (rv C L (X t))) (gpow (X t) (j - L))) T := by
  unfold cv
  rw [sumX_to _ (j + 1) (L + 1) (fun i h1 h2 => by omega) (fun i h1 h2 => by rw [hd i (by omega), zero_gmul])]
  rw [sumX_congr (g := fun i => ls (fun t => gmul (gmul (f t) (gpow (X t) (j - L))) (gmul (co C i) (gpow (X t) (L - i)))) T) (fun i hi => by
    rw [hU (j - i) (by omega), ← ls_mul]
    refine ls_congr fun t _ => ?_
    rw [show j - i = (j - L) + (L - i) by omega, gpow_add, ← gmul_assoc (f t), gmul_comm (co C i), gmul_assoc, gmul_comm (gpow (X t) (L - i))]), ls_sumX]
  refine ls_congr fun t _ => ?_
  rw [sumX_mul]
  show gmul (gmul (f t) (gpow (X t) (j - L))) (rv C L (X t)) = _
  rw [gmul_assoc, gmul_comm (gpow _ _), ← gmul_assoc]
/-- the polynomial with these roots turned -/
def lam (X : Nat → UInt8) : List Nat → List UInt8
  | [] => [1]
  | p :: ps => mulV (lam X ps) [1, X p]
theorem lam_len (X : Nat → UInt8) : ∀ ps, (lam X ps).length = ps.length + 1 := by
  intro ps
  induction ps with
  | nil => rfl
  | cons p ps ih =>
    show (mulV (lam X ps) [1, X p]).length = _
    rw [mulV_pos _ _ (by omega) (by simp)]
    unfold mulA
    rw [mulTo_length, ih]
    simp
theorem lam_zero (X : Nat → UInt8) : ∀ ps, co (lam X ps) 0 = 1 := by
  intro ps
  induction ps with
  | nil => rfl
  | cons p ps ih =>
    show co (mulV (lam X ps) [1, X p]) 0 = 1
    rw [co_mulV]
    show 0 ^^^ gmul (co (lam X ps) 0) 1 = 1
    rw [ih, gmul_one]; rfl
theorem lam_root (X : Nat → UInt8) : ∀ ps, ∀ p ∈ ps, X p ≠ 0 → Po.eval (lam X ps) (ginv (X p)) = 0 := by
  intro ps
  induction ps with
  | nil => intro p hp; cases hp
  | cons q ps ih =>
    intro p hp hx
    show Po.eval (mulV (lam X ps) [1, X q]) _ = 0
    rw [eval_mulV]
    rcases List.mem_cons.1 hp with rfl | hp
    · have : Po.eval [1, X p] (ginv (X p)) = 0 := by
        rw [eval_cons, eval_cons, eval_nil, zero_gmul, UInt8.zero_xor, gmul_inv _ hx, UInt8.xor_self]
      rw [this, gmul_zero]
    · rw [ih p hp hx, zero_gmul]
theorem fitR_length (l : List UInt8) (n : Nat) : (fitR l n).length = n + 1 := by
  unfold fitR
  rw [List.length_take, List.length_append, List.length_replicate]
  omega
theorem co_fitR (l : List UInt8) (n i : Nat) (h : ∀ i, n < i → co l i = 0) : co (fitR l n) i = co l i := by
  unfold fitR
  rw [co_take]
  rcases Nat.lt_or_ge i (n + 1) with h1 | h1
  · rw [if_pos h1, co_padR]
  · rw [if_neg (by omega), h i (by omega)]
def rootAt (sg : List UInt8) (n p : Nat) : Bool := Po.eval sg (ginv (loc n p)) == 0
theorem ginv_inj {a b : UInt8} (ha : a ≠ 0) (hb : b ≠ 0) (h : ginv a = ginv b) : a = b := by
  have e1 := gmul_inv a ha
  have e2 := ginv_mul b hb
  rw [h] at e1
  have : gmul (gmul a (ginv b)) b = b := by rw [e1, one_gmul]
  rw [gmul_assoc, e2, gmul_one] at this
  exact this
theorem nodup_roots {n : Nat} (hn : n ≤ 255) {P : List Nat} (hP : P.Nodup) (hlt : ∀ p ∈ P, p < n) : (P.map fun p => ginv (loc n p)).Nodup := by
  rw [List.Nodup, List.pairwise_map]
  refine List.Pairwise.imp_of_mem ?_ hP
  intro a b ha hb hab e
  exact hab (loc_inj hn (hlt a ha) (hlt b hb) (ginv_inj (loc_ne _ _) (loc_ne _ _) e))
/-- a polynomial with the value 1 at 0 has no more roots than its degree -/
theorem root_count {n : Nat} (hn : n ≤ 255) {sg : List UInt8} {L : Nat} (hl : sg.length = L + 1) (hL : L ≤ 254) (h1 : co sg 0 = 1) {P : List Nat} (hP : P.Nodup) (hlt : ∀ p ∈ P, p < n) (hr : ∀ p ∈ P, rootAt sg n p = true) : P.length ≤ L := by
  have hpos : 0 < (trim sg).length := by
    rcases Nat.eq_zero_or_pos (trim sg).length with h | h
    · have := co_trim sg 0
      rw [co_big _ 0 (by omega), h1] at this
      exact absurd this.symm one_ne
    · exact h
  have hle : (trim sg).length ≤ L + 1 := by rw [trim_length, hl]; exact tl_le _ _
  have := roots_lt _ (trim sg) (P.map fun p => ginv (loc n p)) rfl (trim_vld _ (by omega)) hpos (nodup_roots hn hP hlt) (fun r hr' => by
    obtain ⟨p, hp, rfl⟩ := List.mem_map.1 hr'
    rw [eval_ext _ _ (co_trim sg)]
    simpa [rootAt] using hr p hp)
  rw [List.length_map] at this
  omega
theorem shortest_ok (U : List UInt8) : (shortest U).length = (bm U U.length).len + 1 ∧ (∀ i, co (shortest U) i = co (bm U U.length).now i) ∧ co (shortest U) 0 = 1 := by
  have h := bi_all U U.length
  have e : ∀ i, co (shortest U) i = co (bm U U.length).now i := fun i => co_fitR _ _ i h.deg
  exact ⟨fitR_length _ _, e, by rw [e, h.one]⟩
theorem shortest_le (U : List UInt8) : (shortest U).length ≤ U.length + 1 := by
  have := (bi_all U U.length).le
  rw [(shortest_ok U).1]
  omega
/-- the shortest recursion of the sums has just the places as roots -/
theorem shortest_roots {n M : Nat} (hn : n ≤ 255) {U : List UInt8} (hM : U.length = M) {f : Nat → UInt8} {T : List Nat} (hT : T.Nodup) (hlt : ∀ p ∈ T, p < n) (hf : ∀ p ∈ T, f p ≠ 0) (hU : ∀ k, k < M → wd U k = ls (fun t => gmul (f t) (gpow (loc n t) k)) T) (h2 : 2 * T.length ≤ M) (hM2 : M ≤ 254) :
    (shortest U).length = T.length + 1 ∧ ∀ p, p < n → (rootAt (shortest U) n p = true ↔ p ∈ T) := by
  have hB := bi_all U U.length
  obtain ⟨s1, s2, s3⟩ := shortest_ok U
  have hU' : ∀ k, k < M → co U k = ls (fun t => gmul (f t) (gpow (loc n t) k)) T := hU
  have hmin : (bm U U.length).len ≤ T.length := by
    refine bm_min U (lam (loc n) T) T.length M (lam_zero _ _) (fun i hi => co_big _ _ (by rw [lam_len]; omega)) (fun j h3 h4 => ?_) U.length (by omega)
    rw [cv_rv (L := T.length) (fun i hi => co_big _ _ (by rw [lam_len]; omega)) hU' h3 h4]
    refine ls_zero fun t ht => ?_
    rw [rv_eval (by rw [lam_len]; exact Nat.le_refl _) (loc_ne n t), lam_root (loc n) T t ht (loc_ne n t), gmul_zero, gmul_zero, zero_gmul]
  generalize hL : (bm U U.length).len = L at *
  have hroots : ∀ t ∈ T, rootAt (shortest U) n t = true := by
    have hv := vand (loc n) T (fun t => gmul (f t) (rv (shortest U) L (loc n t))) (List.Pairwise.imp_of_mem (fun {a b} ha hb hab e => hab (loc_inj hn (hlt a ha) (hlt b hb) e)) hT) (fun k hk => by
      have e := cv_rv (C := shortest U) (L := L) (fun i hi => by rw [s2, hB.deg i (by omega)]) hU' (j := L + k) (by omega) (by omega)
      rw [Nat.add_sub_cancel_left] at e
      rw [← e, cv_congr s2 (fun _ => rfl)]
      exact hB.gen (L + k) (by omega) (by omega))
    intro t ht
    rcases (gmul_eq_zero _ _).1 (hv t ht) with h | h
    · exact absurd h (hf t ht)
    · rw [rv_eval (by omega) (loc_ne n t)] at h
      rcases (gmul_eq_zero _ _).1 h with h | h
      · exact absurd h (gpow_ne _ (loc_ne n t) _)
      · unfold rootAt; rw [h]; rfl
  have hle := root_count hn s1 (by omega) s3 hT hlt hroots
  have hLT : L = T.length := by omega
  refine ⟨by rw [s1, hLT], fun p hp => ⟨fun h => ?_, hroots p⟩⟩
  by_cases hm : p ∈ T
  · exact hm
  · exfalso
    have := root_count hn s1 (by omega) s3 (P := p :: T) (List.nodup_cons.2 ⟨hm, hT⟩) (fun q hq => by
      rcases List.mem_cons.1 hq with rfl | hq
      · exact hp
      · exact hlt q hq) (fun q hq => by
      rcases List.mem_cons.1 hq with rfl | hq
      · exact h
      · exact hroots q hq)
    simp at this
    omega
end Sy
end Go.Proofs.YtnplaejlmbncfaaGreatDoor

/- Lists of bytes as polynomials, in plain Lean: the lists' own part. -/
import Derived.Test.YtkolmppfhpcdpaaDoorGf
namespace Go.Proofs.YtkolmppfhpcdpaaDoor
namespace Po
/-- P4.1 -/
def vld (l : List UInt8) : Bool := decide (l.length ≤ 255) && (l.getLast? != some 0)
/-- the length without zeros at the end -/
def tl (l : List UInt8) : Nat → Nat
  | 0 => 0
  | n + 1 => if l[n]? = some 0 then tl l n else n + 1
def trim (l : List UInt8) : List UInt8 := l.take (tl l l.length)
theorem tl_le (l : List UInt8) : ∀ n, tl l n ≤ n := by
  intro n
  induction n with
  | zero => exact Nat.le_refl _
  | succ n ih =>
    unfold tl
    split
    · omega
    · exact Nat.le_refl _
theorem tl_zero (l : List UInt8) (n : Nat) (h : l[n]? = some 0) : tl l (n + 1) = tl l n := by
  rw [tl, if_pos h]
theorem tl_stop (l : List UInt8) (n : Nat) (h : l[n]? ≠ some 0) : tl l (n + 1) = n + 1 := by
  rw [tl, if_neg h]
theorem trim_length (l : List UInt8) : (trim l).length = tl l l.length := by
  unfold trim
  rw [List.length_take]
  have := tl_le l l.length
  omega
theorem vld_big (l : List UInt8) (h : 255 < l.length) : vld l = false := by
  unfold vld
  simp
  omega
theorem vld_nil (l : List UInt8) (h : l.length = 0) : vld l = true := by
  have : l = [] := List.eq_nil_of_length_eq_zero h
  subst this
  rfl
theorem vld_last (l : List UInt8) (b : UInt8) (h1 : l.length ≤ 255) (hb : l[l.length - 1]? = some b) : vld l = (b != 0) := by
  unfold vld
  rw [List.getLast?_eq_getElem?, hb, decide_eq_true h1, Bool.true_and, Bool.eq_iff_iff]
  simp
theorem tl_last (l : List UInt8) : ∀ n, tl l n = 0 ∨ l[tl l n - 1]? ≠ some 0 := by
  intro n
  induction n with
  | zero => exact .inl rfl
  | succ n ih =>
    by_cases h : l[n]? = some 0
    · rw [tl_zero l n h]
      exact ih
    · rw [tl_stop l n h]
      exact .inr h
theorem take_vld (l : List UInt8) (k : Nat) (hk : k ≤ l.length) (h : k = 0 ∨ l[k - 1]? ≠ some 0) (h2 : k ≤ 255) : vld (l.take k) = true := by
  have hl : (l.take k).length = k := by rw [List.length_take]; omega
  unfold vld
  rw [hl, decide_eq_true h2, Bool.true_and, bne_iff_ne, List.getLast?_eq_getElem?, hl, List.getElem?_take]
  rcases h with h | h
  · subst h
    simp
  · split
    · exact h
    · simp
theorem trim_vld (l : List UInt8) (h : l.length ≤ 255) : vld (trim l) = true := by
  have h1 := tl_le l l.length
  exact take_vld l _ h1 (tl_last l l.length) (by omega)
/-- so many rounds of adding t times r, from 'at' on -/
def addTo (l r : List UInt8) (t : UInt8) (i : Nat) : Nat → List UInt8
  | 0 => l
  | k + 1 => (addTo l r t i k).set (i + k) (((addTo l r t i k)[i + k]?.getD 0) ^^^ Gf.gmul t (r[k]?.getD 0))
theorem addTo_length (l r : List UInt8) (t : UInt8) (i : Nat) : ∀ k, (addTo l r t i k).length = l.length := by
  intro k
  induction k with
  | zero => rfl
  | succ k ih => rw [addTo, List.length_set, ih]
theorem addTo_succ (l r : List UInt8) (t d b x : UInt8) (i k : Nat) (hd : (addTo l r t i k)[i + k]? = some d) (hb : r[k]? = some b) (hx : x = d ^^^ Gf.gmul t b) : addTo l r t i (k + 1) = (addTo l r t i k).set (i + k) x := by
  rw [addTo, hd, hb, hx]
  rfl
def addAt (l r : List UInt8) (t : UInt8) (i : Nat) : List UInt8 := addTo l r t i r.length
/-- P4.2: the sum, before zeros are cut off -/
def padd (p q : List UInt8) : List UInt8 := addAt (addAt (List.replicate (max p.length q.length) 0) p 1 0) q 1 0
theorem addAt_length (l r : List UInt8) (t : UInt8) (i : Nat) : (addAt l r t i).length = l.length := addTo_length l r t i _
theorem padd_length (p q : List UInt8) : (padd p q).length = max p.length q.length := by
  unfold padd
  rw [addAt_length, addAt_length, List.length_replicate]
def addR (p q : List UInt8) : List UInt8 := if vld p && vld q then trim (padd p q) else []
def errR (p q : List UInt8) : Int := if vld p && vld q then 0 else 1
theorem errs_ok {p q : List UInt8} (h : vld p = true) (h' : vld q = true) : errR p q = 0 := by unfold errR; rw [h, h']; rfl
theorem errs_no {p q : List UInt8} (h : (vld p && vld q) = false) : errR p q = 1 := by unfold errR; rw [h]; rfl
theorem vld_len {p : List UInt8} (h : vld p = true) : p.length ≤ 255 := by
  unfold vld at h
  simp at h
  exact h.1
/-- P4.2: so many rounds of a product -/
def mulTo (p q : List UInt8) : Nat → List UInt8
  | 0 => List.replicate (p.length + q.length - 1) 0
  | k + 1 => addAt (mulTo p q k) q (p[k]?.getD 0) k
def mulA (p q : List UInt8) : List UInt8 := mulTo p q p.length
theorem mulTo_length (p q : List UInt8) : ∀ k, (mulTo p q k).length = p.length + q.length - 1 := by
  intro k
  induction k with
  | zero => exact List.length_replicate
  | succ k ih => rw [mulTo, addAt_length, ih]
theorem mulTo_succ (p q : List UInt8) (k : Nat) (b : UInt8) (hb : p[k]? = some b) : mulTo p q (k + 1) = addAt (mulTo p q k) q b k := by
  rw [mulTo, hb]
  rfl
def mulB (p q : List UInt8) : Bool := decide (p.length = 0) || decide (q.length = 0)
def mulR (p q : List UInt8) : List UInt8 := if vld p && vld q then (if mulB p q then [] else if p.length + q.length - 1 ≤ 255 then mulA p q else []) else []
def mulE (p q : List UInt8) : Int := if vld p && vld q then (if mulB p q then 0 else if p.length + q.length - 1 ≤ 255 then 0 else 3) else 1
theorem mul_no {p q : List UInt8} (h : (vld p && vld q) = false) : mulR p q = [] ∧ mulE p q = 1 := by
  unfold mulR mulE
  rw [h]
  exact ⟨rfl, rfl⟩
theorem mul_empty {p q : List UInt8} (h : (vld p && vld q) = true) (h0 : p.length = 0 ∨ q.length = 0) : mulR p q = [] ∧ mulE p q = 0 := by
  have hb : mulB p q = true := by
    unfold mulB
    rcases h0 with h0 | h0
    · rw [decide_eq_true h0]; rfl
    · rw [decide_eq_true h0]; simp
  unfold mulR mulE
  rw [h, hb]
  exact ⟨rfl, rfl⟩
theorem mul_some {p q : List UInt8} (h : (vld p && vld q) = true) (h0 : 0 < p.length) (h1 : 0 < q.length) (hl : p.length + q.length - 1 ≤ 255) : mulR p q = mulA p q ∧ mulE p q = 0 := by
  have hb : mulB p q = false := by
    unfold mulB
    rw [decide_eq_false (by omega), decide_eq_false (by omega)]; rfl
  unfold mulR mulE
  rw [h, hb]
  simp only [if_true, Bool.false_eq_true, if_false]
  rw [if_pos hl, if_pos hl]
  exact ⟨rfl, rfl⟩
theorem mul_long {p q : List UInt8} (h : (vld p && vld q) = true) (h0 : 0 < p.length) (h1 : 0 < q.length) (hl : ¬ p.length + q.length - 1 ≤ 255) : mulR p q = [] ∧ mulE p q = 3 := by
  have hb : mulB p q = false := by
    unfold mulB
    rw [decide_eq_false (by omega), decide_eq_false (by omega)]; rfl
  unfold mulR mulE
  rw [h, hb]
  simp only [if_true, Bool.false_eq_true, if_false]
  rw [if_neg hl, if_neg hl]
  exact ⟨rfl, rfl⟩
/-- P4.3: so many rounds of striking every second element -/
def derTo (d : List UInt8) : Nat → List UInt8
  | 0 => d
  | j + 1 => (derTo d j).set (2 * j + 1) 0
theorem derTo_length (d : List UInt8) : ∀ j, (derTo d j).length = d.length := by
  intro j
  induction j with
  | zero => rfl
  | succ j ih => rw [derTo, List.length_set, ih]
def derA (l : List UInt8) : List UInt8 := derTo (l.drop 1) ((l.length - 1) / 2)
def derR (l : List UInt8) : List UInt8 := if l.length = 0 ∨ 255 < l.length then [] else trim (derA l)
theorem derA_length (l : List UInt8) : (derA l).length = l.length - 1 := by unfold derA; rw [derTo_length, List.length_drop]
end Po
end Go.Proofs.YtkolmppfhpcdpaaDoor

/- The field of 256 elements in plain Lean: bytes with exclusive or as the sum, and products of polynomials modulo 11d. No program in sight. -/
namespace Go.Proofs.YtkolmppfhpcdpaaDoor
namespace Gf
/-- 'a' if the bit is set, else 0 -/
def sel (c : Bool) (a : UInt8) : UInt8 := if c then a else 0
def bit (a : UInt8) (k : Nat) : Bool := a.toNat.testBit k
/-- the product with 2 -/
def dbl (a : UInt8) : UInt8 := (a <<< 1) ^^^ sel (bit a 7) 29
def dblN : Nat → UInt8 → UInt8
  | 0, a => a
  | k + 1, a => dbl (dblN k a)
/-- the product: the sum of the doublings of 'a' at the bits of 'c' -/
def gmul (a c : UInt8) : UInt8 :=
  sel (bit c 0) (dblN 0 a) ^^^ sel (bit c 1) (dblN 1 a) ^^^ sel (bit c 2) (dblN 2 a) ^^^ sel (bit c 3) (dblN 3 a) ^^^
  sel (bit c 4) (dblN 4 a) ^^^ sel (bit c 5) (dblN 5 a) ^^^ sel (bit c 6) (dblN 6 a) ^^^ sel (bit c 7) (dblN 7 a)

theorem all_of {p : UInt8 → Prop} (h : ∀ n, n < 256 → p (UInt8.ofNat n)) (a : UInt8) : p a := by
  have := h a.toNat (UInt8.toNat_lt a)
  rwa [UInt8.ofNat_toNat] at this
theorem bits0 : ∀ n, n < 256 → UInt8.ofNat n = sel (bit (UInt8.ofNat n) 0) 1 ^^^ sel (bit (UInt8.ofNat n) 1) 2 ^^^ sel (bit (UInt8.ofNat n) 2) 4 ^^^ sel (bit (UInt8.ofNat n) 3) 8 ^^^
    sel (bit (UInt8.ofNat n) 4) 16 ^^^ sel (bit (UInt8.ofNat n) 5) 32 ^^^ sel (bit (UInt8.ofNat n) 6) 64 ^^^ sel (bit (UInt8.ofNat n) 7) 128 := by decide +kernel
theorem bits_sum (a : UInt8) : a = sel (bit a 0) 1 ^^^ sel (bit a 1) 2 ^^^ sel (bit a 2) 4 ^^^ sel (bit a 3) 8 ^^^ sel (bit a 4) 16 ^^^ sel (bit a 5) 32 ^^^ sel (bit a 6) 64 ^^^ sel (bit a 7) 128 :=
  all_of (p := fun a => a = sel (bit a 0) 1 ^^^ sel (bit a 1) 2 ^^^ sel (bit a 2) 4 ^^^ sel (bit a 3) 8 ^^^ sel (bit a 4) 16 ^^^ sel (bit a 5) 32 ^^^ sel (bit a 6) 64 ^^^ sel (bit a 7) 128) bits0 a
def Lin (f : UInt8 → UInt8) : Prop := ∀ x y, f (x ^^^ y) = f x ^^^ f y
theorem Lin.zero {f : UInt8 → UInt8} (h : Lin f) : f 0 = 0 := by
  have := h 0 0
  simp at this
  exact this
theorem Lin.sel {f : UInt8 → UInt8} (h : Lin f) (c : Bool) (x : UInt8) : f (sel c x) = Gf.sel c (f x) := by
  cases c
  · exact h.zero
  · rfl
theorem Lin.ext {f g : UInt8 → UInt8} (hf : Lin f) (hg : Lin g) (h : ∀ k, k < 8 → f (UInt8.ofNat (2 ^ k)) = g (UInt8.ofNat (2 ^ k))) (a : UInt8) : f a = g a := by
  rw [bits_sum a]
  have h0 : f 1 = g 1 := h 0 (by decide)
  have h1 : f 2 = g 2 := h 1 (by decide)
  have h2 : f 4 = g 4 := h 2 (by decide)
  have h3 : f 8 = g 8 := h 3 (by decide)
  have h4 : f 16 = g 16 := h 4 (by decide)
  have h5 : f 32 = g 32 := h 5 (by decide)
  have h6 : f 64 = g 64 := h 6 (by decide)
  have h7 : f 128 = g 128 := h 7 (by decide)
  simp only [hf _ _, hg _ _, hf.sel, hg.sel, h0, h1, h2, h3, h4, h5, h6, h7]
theorem bit_xor (a c : UInt8) (k : Nat) : bit (a ^^^ c) k = (bit a k ^^ bit c k) := by
  unfold bit
  rw [UInt8.toNat_xor, Nat.testBit_xor]
theorem sel_xor (c d : Bool) (a : UInt8) : sel (c ^^ d) a = sel c a ^^^ sel d a := by
  cases c <;> cases d <;> simp [sel]
theorem sel_xor' (c : Bool) (a d : UInt8) : sel c (a ^^^ d) = sel c a ^^^ sel c d := by
  cases c <;> simp [sel]
theorem xor4 (a b c d : UInt8) : (a ^^^ b) ^^^ (c ^^^ d) = (a ^^^ c) ^^^ (b ^^^ d) := by
  rw [UInt8.xor_assoc, UInt8.xor_assoc, ← UInt8.xor_assoc b, ← UInt8.xor_assoc c, UInt8.xor_comm b c]
theorem shl_xor (a c : UInt8) : (a ^^^ c) <<< (1 : UInt8) = (a <<< 1) ^^^ (c <<< 1) := by
  exact UInt8.shiftLeft_xor
theorem dbl_lin : Lin dbl := by
  intro x y
  unfold dbl
  rw [shl_xor, bit_xor, sel_xor, xor4]
theorem dblN_lin (k : Nat) : Lin (dblN k) := by
  induction k with
  | zero => intro x y; rfl
  | succ k ih => intro x y; show dbl _ = dbl _ ^^^ dbl _; rw [ih, dbl_lin]
theorem lin_sum {f g : UInt8 → UInt8} (hf : Lin f) (hg : Lin g) : Lin (fun a => f a ^^^ g a) := by
  intro x y
  show f (x ^^^ y) ^^^ g (x ^^^ y) = _
  rw [hf, hg, xor4]
theorem lin_sel {f : UInt8 → UInt8} (hf : Lin f) (c : Bool) : Lin (fun a => sel c (f a)) := by
  intro x y
  show sel c (f (x ^^^ y)) = _
  rw [hf, sel_xor']
theorem mul_lin_left (c : UInt8) : Lin (fun a => gmul a c) :=
  lin_sum (lin_sum (lin_sum (lin_sum (lin_sum (lin_sum (lin_sum (lin_sel (dblN_lin 0) _) (lin_sel (dblN_lin 1) _)) (lin_sel (dblN_lin 2) _)) (lin_sel (dblN_lin 3) _)) (lin_sel (dblN_lin 4) _)) (lin_sel (dblN_lin 5) _)) (lin_sel (dblN_lin 6) _)) (lin_sel (dblN_lin 7) _)
theorem lin_bit (k : Nat) (x : UInt8) : Lin (fun c => sel (bit c k) x) := by
  intro c d
  show sel (bit (c ^^^ d) k) x = _
  rw [bit_xor, sel_xor]
theorem mul_lin_right (a : UInt8) : Lin (gmul a) :=
  lin_sum (lin_sum (lin_sum (lin_sum (lin_sum (lin_sum (lin_sum (lin_bit 0 _) (lin_bit 1 _)) (lin_bit 2 _)) (lin_bit 3 _)) (lin_bit 4 _)) (lin_bit 5 _)) (lin_bit 6 _)) (lin_bit 7 _)
theorem lin_comp {f g : UInt8 → UInt8} (hf : Lin f) (hg : Lin g) : Lin (fun a => f (g a)) := by
  intro x y
  show f (g (x ^^^ y)) = _
  rw [hg, hf]
theorem comm0 : ∀ j, j < 8 → ∀ k, k < 8 → gmul (UInt8.ofNat (2 ^ j)) (UInt8.ofNat (2 ^ k)) = gmul (UInt8.ofNat (2 ^ k)) (UInt8.ofNat (2 ^ j)) := by decide +kernel
theorem gmul_comm (a c : UInt8) : gmul a c = gmul c a :=
  (mul_lin_left c).ext (mul_lin_right c) (fun j hj => (mul_lin_right _).ext (mul_lin_left _) (fun k hk => comm0 j hj k hk) c) a
theorem dblmul0 : ∀ j, j < 8 → ∀ k, k < 8 → dbl (gmul (UInt8.ofNat (2 ^ j)) (UInt8.ofNat (2 ^ k))) = gmul (UInt8.ofNat (2 ^ j)) (dbl (UInt8.ofNat (2 ^ k))) := by decide +kernel
theorem dbl_mul (a c : UInt8) : dbl (gmul a c) = gmul a (dbl c) :=
  (lin_comp dbl_lin (mul_lin_left c)).ext (mul_lin_left (dbl c)) (fun j hj => (lin_comp dbl_lin (mul_lin_right _)).ext (lin_comp (mul_lin_right _) dbl_lin) (fun k hk => dblmul0 j hj k hk) c) a
theorem dblN_mul (k : Nat) (a c : UInt8) : dblN k (gmul a c) = gmul a (dblN k c) := by
  induction k with
  | zero => rfl
  | succ k ih => show dbl (dblN k _) = gmul a (dbl _); rw [ih, dbl_mul]
theorem gmul_pow2 (a : UInt8) : ∀ k, k < 8 → gmul a (UInt8.ofNat (2 ^ k)) = dblN k a := by
  intro k hk
  match k, hk with
  | 0, _ => simp [gmul, sel, bit, Nat.testBit]
  | 1, _ => simp [gmul, sel, bit, Nat.testBit]
  | 2, _ => simp [gmul, sel, bit, Nat.testBit]
  | 3, _ => simp [gmul, sel, bit, Nat.testBit]
  | 4, _ => simp [gmul, sel, bit, Nat.testBit]
  | 5, _ => simp [gmul, sel, bit, Nat.testBit]
  | 6, _ => simp [gmul, sel, bit, Nat.testBit]
  | 7, _ => simp [gmul, sel, bit, Nat.testBit]
theorem gmul_assoc (a c d : UInt8) : gmul (gmul a c) d = gmul a (gmul c d) :=
  (mul_lin_right _).ext (lin_comp (mul_lin_right a) (mul_lin_right c)) (fun k hk => by rw [gmul_pow2 _ k hk, gmul_pow2 _ k hk, dblN_mul]) d
theorem gmul_one (a : UInt8) : gmul a 1 = a := gmul_pow2 a 0 (by decide)
theorem gmul_zero (a : UInt8) : gmul a 0 = 0 := (mul_lin_right a).zero
theorem gmul_two (a : UInt8) : gmul a 2 = dbl a := gmul_pow2 a 1 (by decide)
theorem gmul_add (a c d : UInt8) : gmul a (c ^^^ d) = gmul a c ^^^ gmul a d := mul_lin_right a c d
theorem gmul_add' (a c d : UInt8) : gmul (a ^^^ c) d = gmul a d ^^^ gmul c d := mul_lin_left d a c
theorem one_gmul (a : UInt8) : gmul 1 a = a := by rw [gmul_comm, gmul_one]
theorem zero_gmul (a : UInt8) : gmul 0 a = 0 := by rw [gmul_comm, gmul_zero]
theorem dblN_zero (k : Nat) : dblN k 0 = 0 := (dblN_lin k).zero
theorem bit_shr (c : UInt8) (k : Nat) : bit (c >>> 1) k = bit c (k + 1) := by
  unfold bit
  rw [UInt8.toNat_shiftRight]
  simp [Nat.testBit_shiftRight, Nat.add_comm]
theorem bit_hi (c : UInt8) : bit c 8 = false := by
  unfold bit
  exact Nat.testBit_lt_two_pow (by have := UInt8.toNat_lt c; omega)
theorem sel_false (a : UInt8) : sel false a = 0 := rfl
theorem dblN_succ' (k : Nat) (a : UInt8) : dblN k (dbl a) = dblN (k + 1) a := by
  induction k with
  | zero => rfl
  | succ k ih => show dbl (dblN k (dbl a)) = dbl (dblN (k + 1) a); rw [ih]
theorem gmul_step (a c : UInt8) : gmul a c = sel (bit c 0) a ^^^ gmul (dbl a) (c >>> 1) := by
  unfold gmul
  simp only [bit_shr, dblN_succ', bit_hi, sel_false, Nat.zero_add, Nat.reduceAdd, UInt8.xor_zero]
  simp only [dblN, UInt8.xor_assoc]
/-- the first k bits' part of a product -/
def gpart : Nat → UInt8 → UInt8 → UInt8
  | 0, _, _ => 0
  | k + 1, a, c => gpart k a c ^^^ sel (bit c k) (dblN k a)
theorem gpart_all (a c : UInt8) : gpart 8 a c = gmul a c := by
  unfold gmul
  simp only [gpart, UInt8.zero_xor]

/-- powers -/
def gpow (a : UInt8) : Nat → UInt8
  | 0 => 1
  | n + 1 => gmul (gpow a n) a
theorem gpow_add (a : UInt8) (m n : Nat) : gpow a (m + n) = gmul (gpow a m) (gpow a n) := by
  induction n with
  | zero => rw [Nat.add_zero]; exact (gmul_one _).symm
  | succ n ih => show gmul (gpow a (m + n)) a = gmul _ (gmul _ a); rw [ih, gmul_assoc]
theorem gpow_mul (a : UInt8) (m n : Nat) : gpow a (m * n) = gpow (gpow a m) n := by
  induction n with
  | zero => rfl
  | succ n ih => rw [Nat.mul_succ, gpow_add, ih]; rfl
theorem gpow_one (a : UInt8) : gpow a 1 = a := one_gmul a
theorem gpow_two (a : UInt8) : gpow a 2 = gmul a a := by show gmul (gmul 1 a) a = _; rw [one_gmul]
theorem one_gpow (n : Nat) : gpow 1 n = 1 := by
  induction n with
  | zero => rfl
  | succ n ih => show gmul (gpow 1 n) 1 = 1; rw [ih, gmul_one]
theorem gmul_mul4 (a c d e : UInt8) : gmul (gmul a c) (gmul d e) = gmul (gmul a d) (gmul c e) := by
  rw [gmul_assoc, gmul_assoc, ← gmul_assoc c, ← gmul_assoc d, gmul_comm c d]
theorem mul_gpow (a c : UInt8) (n : Nat) : gpow (gmul a c) n = gmul (gpow a n) (gpow c n) := by
  induction n with
  | zero => exact (gmul_one 1).symm
  | succ n ih => show gmul (gpow _ n) _ = gmul (gmul _ a) (gmul _ c); rw [ih, gmul_mul4]
theorem dblN_gpow (k : Nat) : dblN k 1 = gpow 2 k := by
  induction k with
  | zero => rfl
  | succ k ih => show dbl (dblN k 1) = gmul (gpow 2 k) 2; rw [ih, gmul_two]
theorem exp_255 : gpow 2 255 = 1 := by rw [← dblN_gpow]; decide +kernel
theorem exp_ne0 : ∀ k, k < 255 → 0 < k → dblN k 1 ≠ 1 := by decide +kernel
/-- the first power of 2 from x on that is a, if it is less than so many doublings away -/
def find (a : UInt8) : Nat → Nat → UInt8 → Nat
  | 0, n, _ => n
  | f + 1, n, x => if x = a then n else find a f (n + 1) (dbl x)
def glog (a : UInt8) : Nat := find a 255 0 1
theorem log0 : ∀ n, n < 256 → 0 < n → glog (UInt8.ofNat n) < 255 := by decide +kernel
theorem find_exp (a : UInt8) : ∀ f n, find a f n (dblN n 1) < n + f → dblN (find a f n (dblN n 1)) 1 = a := by
  intro f
  induction f with
  | zero => intro n h; simp only [find] at h; omega
  | succ f ih =>
    intro n h
    simp only [find] at h ⊢
    split
    · assumption
    · rename_i hx
      rw [if_neg hx] at h
      have e : dbl (dblN n 1) = dblN (n + 1) 1 := rfl
      rw [e] at h ⊢
      exact ih (n + 1) (by omega)
theorem log_lt (a : UInt8) (h : a ≠ 0) : glog a < 255 :=
  all_of (p := fun a => a ≠ 0 → glog a < 255) (fun n hn h0 => log0 n hn (by
    rcases Nat.eq_zero_or_pos n with h' | h'
    · subst h'; exact absurd rfl h0
    · exact h')) a h
theorem exp_log (a : UInt8) (h : a ≠ 0) : gpow 2 (glog a) = a := by
  have := find_exp a 255 0 (by have := log_lt a h; unfold glog at this; exact this)
  rw [← dblN_gpow]
  exact this
theorem gpow_255 (a : UInt8) (h : a ≠ 0) : gpow a 255 = 1 := by
  rw [← exp_log a h, ← gpow_mul, Nat.mul_comm, gpow_mul, exp_255, one_gpow]
theorem gpow_mod (a : UInt8) (h : a ≠ 0) (n : Nat) : gpow a (n % 255) = gpow a n := by
  conv => rhs; rw [← Nat.div_add_mod n 255, gpow_add, gpow_mul, gpow_255 a h, one_gpow, one_gmul]
def ginv (a : UInt8) : UInt8 := gpow a 254
theorem gmul_inv (a : UInt8) (h : a ≠ 0) : gmul a (ginv a) = 1 := by
  have := gpow_255 a h
  rw [gmul_comm]
  exact this
theorem ginv_mul (a : UInt8) (h : a ≠ 0) : gmul (ginv a) a = 1 := gpow_255 a h
theorem one_ne : (1 : UInt8) ≠ 0 := by decide
theorem gmul_ne (a c : UInt8) (ha : a ≠ 0) (hc : c ≠ 0) : gmul a c ≠ 0 := by
  intro h
  have h1 : gmul (ginv a) (gmul a c) = c := by rw [← gmul_assoc, ginv_mul a ha, one_gmul]
  rw [h, gmul_zero] at h1
  exact hc h1.symm
theorem gmul_eq_zero (a c : UInt8) : gmul a c = 0 ↔ a = 0 ∨ c = 0 := by
  constructor
  · intro h
    by_cases ha : a = 0
    · exact Or.inl ha
    · by_cases hc : c = 0
      · exact Or.inr hc
      · exact absurd h (gmul_ne a c ha hc)
  · rintro (h | h)
    · rw [h, zero_gmul]
    · rw [h, gmul_zero]
theorem gpow_ne (a : UInt8) (h : a ≠ 0) (n : Nat) : gpow a n ≠ 0 := by
  induction n with
  | zero => exact one_ne
  | succ n ih => exact gmul_ne _ _ ih h
theorem ginv_ne (a : UInt8) (h : a ≠ 0) : ginv a ≠ 0 := gpow_ne a h 254
theorem exp_inj (i j : Nat) (hi : i < 255) (hj : j < 255) (h : gpow 2 i = gpow 2 j) : i = j := by
  have key : ∀ i j, i < j → j < 255 → gpow 2 i = gpow 2 j → False := by
    intro i j hij hj h
    have e : gpow 2 j = gmul (gpow 2 i) (gpow 2 (j - i)) := by rw [← gpow_add]; congr 1; omega
    have h1 : gpow 2 (j - i) = 1 := by
      have h2 : gmul (gpow 2 i) (gpow 2 (j - i)) = gmul (gpow 2 i) 1 := by rw [← e, ← h, gmul_one]
      have h3 := congrArg (gmul (ginv (gpow 2 i))) h2
      have hn : gpow 2 i ≠ 0 := gpow_ne 2 (by decide) i
      rwa [← gmul_assoc, ← gmul_assoc, ginv_mul _ hn, one_gmul, one_gmul] at h3
    rw [← dblN_gpow] at h1
    exact exp_ne0 (j - i) (by omega) (by omega) h1
  rcases Nat.lt_trichotomy i j with h' | h' | h'
  · exact (key i j h' hj h).elim
  · exact h'
  · exact (key j i h' hi h.symm).elim
theorem exp_ne_zero (n : Nat) : gpow 2 n ≠ 0 := gpow_ne 2 (by decide) n
theorem log_exp (k : Nat) (h : k < 255) : glog (gpow 2 k) = k :=
  exp_inj _ _ (log_lt _ (exp_ne_zero k)) h (exp_log _ (exp_ne_zero k))
theorem log_mul (a c : UInt8) (ha : a ≠ 0) (hc : c ≠ 0) : glog (gmul a c) = (glog a + glog c) % 255 := by
  refine exp_inj _ _ (log_lt _ (gmul_ne a c ha hc)) (Nat.mod_lt _ (by decide)) ?_
  rw [exp_log _ (gmul_ne a c ha hc), gpow_mod 2 (by decide), gpow_add, exp_log a ha, exp_log c hc]
theorem square_add (a c : UInt8) : gpow (a ^^^ c) 2 = gpow a 2 ^^^ gpow c 2 := by
  rw [gpow_two, gpow_two, gpow_two, gmul_add, gmul_add', gmul_add', gmul_comm c a, UInt8.xor_assoc, ← UInt8.xor_assoc (gmul a c), UInt8.xor_self, UInt8.zero_xor]
/-- an exponent of whatever sign, from 0 to 254 -/
def emod (n : Int) : Nat := (n % 255).toNat
theorem emod_lt (n : Int) : emod n < 255 := by unfold emod; omega
theorem emod_cast (n : Int) : (emod n : Int) = n % 255 := by unfold emod; omega
/-- a power with an exponent of whatever sign, for an element that is not 0 -/
def zpow (a : UInt8) (n : Int) : UInt8 := gpow a (emod n)
theorem zpow_add (a : UInt8) (h : a ≠ 0) (m n : Int) : zpow a (m + n) = gmul (zpow a m) (zpow a n) := by
  unfold zpow
  rw [← gpow_add, ← gpow_mod a h (emod m + emod n)]
  congr 1
  unfold emod
  omega
theorem zpow_inv (a : UInt8) (h : a ≠ 0) (n : Int) : zpow (ginv a) (-n) = zpow a n := by
  unfold zpow ginv
  rw [← gpow_mul, ← gpow_mod a h]
  congr 1
  unfold emod
  omega
theorem ginv_zero : ginv 0 = 0 := by decide +kernel
attribute [irreducible] gmul
end Gf
end Go.Proofs.YtkolmppfhpcdpaaDoor

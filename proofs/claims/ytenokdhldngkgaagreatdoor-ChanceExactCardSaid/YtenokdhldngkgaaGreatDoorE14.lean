/- Cd Ce Dh Di -/
import Derived.Test.YtenokdhldngkgaaGreatDoorE13
namespace Go.Proofs.YtenokdhldngkgaaGreatDoor
set_option linter.unusedVariables false
namespace Ch
def E : List Int → Nat → Int
 | [], 0 => 1
 | [], _ + 1 => 0
 | _ :: _, 0 => 1
 | x :: l, w + 1 => E l (w + 1) + x * E l w
theorem E_zero (l : List Int) : E l 0 = 1 := by cases l <;> rfl
theorem E_succ (x : Int) (l : List Int) (w : Nat) : E (x :: l) (w + 1) = E l (w + 1) + x * E l w := rfl
theorem E_swap (x y : Int) (l : List Int) : ∀ w, E (x :: y :: l) w = E (y :: x :: l) w
 | 0 => rfl
 | 1 => by
  simp only [E_succ, E_zero]
  omega
 | w + 2 => by
  simp only [E_succ, Int.mul_add]
  rw [Int.mul_left_comm x y]
  omega
theorem E_cons {x : Int} {l m : List Int} (h : ∀ w, E l w = E m w) : ∀ w, E (x :: l) w = E (x :: m) w
 | 0 => rfl
 | w + 1 => by rw [E_succ, E_succ, h, h]
theorem E_perm {l m : List Int} (h : l.Perm m) : ∀ w, E l w = E m w := by
 induction h with
 | nil => intro w; rfl
 | cons x _ ih => exact E_cons ih
 | swap x y l => intro w; exact E_swap y x l w
 | trans _ _ h1 h2 => intro w; rw [h1, h2]
theorem E_more : ∀ (l : List Int) (w : Nat), l.length < w → E l w = 0
 | [], 0, h => by simp at h
 | [], _ + 1, _ => rfl
 | x :: l, 0, h => by simp at h
 | x :: l, w + 1, h => by
  have h1 : l.length < w := by simpa using h
  rw [E_succ, E_more l (w + 1) (by omega), E_more l w h1]; simp
def sl (odd : Nat) : Nat → List Int
 | 0 => []
 | b + 1 => (if b < odd then -1 else 1) :: sl odd b
def Pm (l : List Int) : Prop := ∀ x ∈ l, x = 1 ∨ x = -1
def neg (l : List Int) : Nat := l.countP (· == -1)
theorem pm_perm : ∀ (l : List Int), Pm l → l.Perm (List.replicate (neg l) (-1) ++ List.replicate (l.length - neg l) 1)
 | [], _ => List.Perm.refl _
 | x :: l, h => by
  have ih := pm_perm l fun y hy => h y (List.mem_cons_of_mem _ hy)
  have hle : neg l ≤ l.length := List.countP_le_length
  rcases h x List.mem_cons_self with rfl | rfl
  ·have e : neg (1 :: l) = neg l := by unfold neg; rw [List.countP_cons]; rfl
   rw [e, List.length_cons, show l.length + 1 - neg l = (l.length - neg l) + 1 by omega, List.replicate_succ]
   exact (List.Perm.cons 1 ih).trans List.perm_middle.symm
  ·have e : neg (-1 :: l) = neg l + 1 := by unfold neg; rw [List.countP_cons]; rfl
   rw [e, List.length_cons, show l.length + 1 - (neg l + 1) = l.length - neg l by omega, List.replicate_succ]
   exact List.Perm.cons (-1) ih
theorem E_pm {l m : List Int} (hl : Pm l) (hm : Pm m) (h1 : l.length = m.length) (h2 : neg l = neg m) (w : Nat) : E l w = E m w := by
 refine E_perm ?_ w
 have e := pm_perm l hl
 rw [h1, h2] at e
 exact e.trans (pm_perm m hm).symm
theorem sl_pm (odd : Nat) : ∀ b, Pm (sl odd b) ∧ (sl odd b).length = b ∧ neg (sl odd b) = min odd b
 | 0 => ⟨fun x hx => absurd hx (by simp [sl]), rfl, by show 0 = min odd 0; omega⟩
 | b + 1 => by
  obtain ⟨h1, h2, h3⟩ := sl_pm odd b
  refine ⟨?_, by show (sl odd b).length + 1 = _; rw [h2], ?_⟩
  ·intro x hx
   rcases List.mem_cons.1 hx with h | h
   ·rw [h]; split
    ·exact .inr rfl
    ·exact .inl rfl
   ·exact h1 x h
  ·unfold neg at h3 ⊢
   show List.countP _ ((if b < odd then -1 else 1) :: sl odd b) = _
   rw [List.countP_cons, h3]
   by_cases h : b < odd
   ·rw [if_pos h]
    show min odd b + 1 = _
    omega
   ·rw [if_neg h]
    show min odd b + 0 = _
    omega
def ls : List Int → Int
 | [] => 0
 | x :: l => x + ls l
theorem pm_sum2 : ∀ (l : List Int), Pm l → ls l = (l.length : Int) - 2 * (neg l : Int)
 | [], _ => rfl
 | x :: l, h => by
  have ih := pm_sum2 l fun y hy => h y (List.mem_cons_of_mem _ hy)
  show x + ls l = _
  rw [ih, List.length_cons]
  rcases h x List.mem_cons_self with rfl | rfl
  ·have e : neg (1 :: l) = neg l := by unfold neg; rw [List.countP_cons]; rfl
   rw [e]; omega
  ·have e : neg (-1 :: l) = neg l + 1 := by unfold neg; rw [List.countP_cons]; rfl
   rw [e]; omega
def par (x : Nat) : Bool := (x.testBit 0 ^^ x.testBit 1 ^^ x.testBit 2 ^^ x.testBit 3 ^^ x.testBit 4 ^^ x.testBit 5 ^^ x.testBit 6 ^^ x.testBit 7)
theorem x4 (a c b d : Bool) : ((a ^^ c) ^^ (b ^^ d)) = ((a ^^ b) ^^ (c ^^ d)) := by cases a <;> cases b <;> cases c <;> cases d <;> rfl
theorem par_xor (a b : Nat) : par (a ^^^ b) = (par a ^^ par b) := by
 unfold par
 simp only [Nat.testBit_xor]
 generalize a.testBit 0 = a0; generalize a.testBit 1 = a1; generalize a.testBit 2 = a2; generalize a.testBit 3 = a3; generalize a.testBit 4 = a4; generalize a.testBit 5 = a5; generalize a.testBit 6 = a6; generalize a.testBit 7 = a7
 generalize b.testBit 0 = b0; generalize b.testBit 1 = b1; generalize b.testBit 2 = b2; generalize b.testBit 3 = b3; generalize b.testBit 4 = b4; generalize b.testBit 5 = b5; generalize b.testBit 6 = b6; generalize b.testBit 7 = b7
 rw [x4 a0 b0 a1 b1, x4 _ _ a2 b2, x4 _ _ a3 b3, x4 _ _ a4 b4, x4 _ _ a5 b5, x4 _ _ a6 b6, x4 _ _ a7 b7]
def chi (y s : Nat) : Int := if par (y &&& s) then -1 else 1
theorem chi_xor (y s c : Nat) : chi y (s ^^^ c) = chi y s * chi y c := by
 unfold chi
 rw [Nat.and_xor_distrib_left, par_xor]
 cases par (y &&& s) <;> cases par (y &&& c) <;> rfl
theorem chi_zero (y : Nat) : chi y 0 = 1 := by
 unfold chi
 rw [Nat.and_zero]
 rfl
theorem chi_pm (y : Nat) (l : List Nat) : Pm (l.map (chi y)) := by
 intro x hx
 obtain ⟨s, _, rfl⟩ := List.mem_map.1 hx
 unfold chi
 split
 ·exact .inr rfl
 ·exact .inl rfl
theorem xor_lt {a b : Nat} (ha : a < 256) (hb : b < 256) : a ^^^ b < 256 := Nat.xor_lt_two_pow (n := 8) ha hb
theorem xor_back (a b : Nat) : a ^^^ b ^^^ b = a := by rw [Nat.xor_assoc, Nat.xor_self, Nat.xor_zero]
theorem sm_xor (f : Nat → Int) {c : Nat} (hc : c < 256) : sm (fun s => f (s ^^^ c)) 256 = sm f 256 := by
 have e1 : sm (fun s => f (s ^^^ c)) 256 = sm (fun s => sm (fun t => if t = s ^^^ c then f t else 0) 256) 256 := by
  refine sm_congr _ fun s hs => ?_
  rw [sm_one (k := s ^^^ c) 256 (xor_lt hs hc) fun i _ hn => if_neg hn, if_pos rfl]
 rw [e1, sm_swap]
 refine sm_congr _ fun t ht => ?_
 rw [sm_one (k := t ^^^ c) 256 (xor_lt ht hc) fun i _ hn => if_neg fun e => hn (by rw [e, xor_back]), if_pos (by rw [xor_back])]
theorem chi_xor' (y c s : Nat) : chi (y ^^^ c) s = chi y s * chi c s := by
 unfold chi
 rw [Nat.and_xor_distrib_right, par_xor]
 cases par (y &&& s) <;> cases par (c &&& s) <;> rfl
theorem chi_odd : ∀ s : Fin 256, s.1 ≠ 0 → ∃ i : Fin 8, chi (2 ^ i.1) s.1 = -1 := by decide +kernel
theorem chi_sum (s : Fin 256) : sm (fun y => chi y s.1) 256 = if s.1 = 0 then 256 else 0 := by
 by_cases h : s.1 = 0
 ·rw [if_pos h, h, sm_congr (g := fun _ => 1) 256 fun y _ => chi_zero y]
  decide +kernel
 ·rw [if_neg h]
  obtain ⟨i, hi⟩ := chi_odd s h
  have hc : 2 ^ i.1 < 256 := by have := Nat.pow_lt_pow_right (a := 2) (by omega) i.2; omega
  have e := sm_xor (fun y => chi y s.1) hc
  have e2 : sm (fun y => chi (y ^^^ 2 ^ i.1) s.1) 256 = sm (fun y => (-1) * chi y s.1) 256 := sm_congr _ fun y _ => by rw [chi_xor', hi, Int.mul_comm]
  rw [e2, sm_mul] at e
  omega
def cnt : List Nat → Nat → Nat → Nat
 | [], 0, s => if s = 0 then 1 else 0
 | [], _ + 1, _ => 0
 | _ :: _, 0, s => if s = 0 then 1 else 0
 | c :: l, w + 1, s => cnt l (w + 1) s + cnt l w (s ^^^ c)
theorem cnt_zero (l : List Nat) (s : Nat) : cnt l 0 s = if s = 0 then 1 else 0 := by cases l <;> rfl
theorem fourier (y : Nat) : ∀ (l : List Nat), (∀ c ∈ l, c < 256) → ∀ w, sm (fun s => chi y s * (cnt l w s : Int)) 256 = E (l.map (chi y)) w
 | l, _, 0 => by
  rw [E_zero, sm_one (k := 0) 256 (by omega) fun i _ hn => by rw [cnt_zero, if_neg hn]; simp, cnt_zero, chi_zero]
  rfl
 | [], _, w + 1 => by
  show sm (fun s => chi y s * ((0 : Nat) : Int)) 256 = 0
  rw [← sm_zero 256]
  exact sm_congr _ fun i _ => by simp
 | c :: l, h, w + 1 => by
  have hl : ∀ c ∈ l, c < 256 := fun d hd => h d (List.mem_cons_of_mem _ hd)
  have hc : c < 256 := h c List.mem_cons_self
  have h1 := fourier y l hl (w + 1)
  have h2 := fourier y l hl w
  rw [List.map_cons, E_succ, ← h1, ← h2, ← sm_mul]
  have e := sm_xor (fun s => chi y (s ^^^ c) * (cnt l w s : Int)) hc
  have e2 : sm (fun s => chi y (s ^^^ c) * (cnt l w s : Int)) 256 = sm (fun s => chi y c * (chi y s * (cnt l w s : Int))) 256 := sm_congr _ fun s _ => by rw [chi_xor, Int.mul_comm (chi y s), Int.mul_assoc]
  rw [← e2, ← e, ← sm_add]
  refine sm_congr _ fun s _ => ?_
  show chi y s * ((cnt l (w + 1) s + cnt l w (s ^^^ c) : Nat) : Int) = _
  rw [xor_back, Int.natCast_add, Int.mul_add]
theorem invert (l : List Nat) (hl : ∀ c ∈ l, c < 256) (w : Nat) {c : Nat} (hc : c < 256) : sm (fun y => E (l.map (chi y)) w * chi y c) 256 = 256 * (cnt l w c : Int) := by
 have e1 : sm (fun y => E (l.map (chi y)) w * chi y c) 256 = sm (fun y => sm (fun s => (cnt l w s : Int) * chi y (s ^^^ c)) 256) 256 := by
  refine sm_congr _ fun y _ => ?_
  rw [← fourier y l hl w, Int.mul_comm, ← sm_mul]
  refine sm_congr _ fun s _ => ?_
  rw [chi_xor, Int.mul_left_comm, Int.mul_comm (chi y c), ← Int.mul_assoc, Int.mul_comm (chi y s), Int.mul_assoc]
 rw [e1, sm_swap]
 have e2 : ∀ s, s < 256 → sm (fun y => (cnt l w s : Int) * chi y (s ^^^ c)) 256 = (cnt l w s : Int) * (if s ^^^ c = 0 then 256 else 0) := by
  intro s hs
  rw [sm_mul]
  have := chi_sum ⟨s ^^^ c, xor_lt hs hc⟩
  rw [this]
 rw [sm_congr _ e2, sm_one (k := c) 256 hc fun i _ hn => ?_]
 ·rw [if_pos (Nat.xor_self c), Int.mul_comm]
 ·rw [if_neg fun e => hn ?_, Int.mul_zero]
  have h5 := xor_back i c
  rw [e, Nat.zero_xor] at h5
  exact h5.symm
def nl : List Nat → Nat
 | [] => 0
 | x :: l => x + nl l
theorem passes (l : List Nat) (hl : ∀ c ∈ l, c < 256) (w : Nat) : ∀ (m : List Nat), (∀ c ∈ m, c < 256) → sm (fun y => E (l.map (chi y)) w * (1 + ls (m.map (chi y)))) 256 = 256 * ((cnt l w 0 + nl (m.map (cnt l w)) : Nat) : Int)
 | [], _ => by
  have h := invert l hl w (c := 0) (by omega)
  show _ = 256 * ((cnt l w 0 + 0 : Nat) : Int)
  rw [Nat.add_zero, ← h]
  refine sm_congr _ fun y _ => ?_
  rw [chi_zero]
  show E (l.map (chi y)) w * (1 + 0) = E (l.map (chi y)) w * 1
  rw [Int.add_zero]
 | c :: m, hm => by
  have ih := passes l hl w m fun d hd => hm d (List.mem_cons_of_mem _ hd)
  have h := invert l hl w (hm c List.mem_cons_self)
  have e : sm (fun y => E (l.map (chi y)) w * (1 + ls ((c :: m).map (chi y)))) 256 = sm (fun y => E (l.map (chi y)) w * (1 + ls (m.map (chi y)))) 256 + sm (fun y => E (l.map (chi y)) w * chi y c) 256 := by
   rw [← sm_add]
   refine sm_congr _ fun y _ => ?_
   have e3 : ls ((c :: m).map (chi y)) = chi y c + ls (m.map (chi y)) := rfl
   rw [← Int.mul_add, e3, Int.add_comm (chi y c), Int.add_assoc]
  rw [e, ih, h]
  show _ = 256 * ((cnt l w 0 + (cnt l w c + nl (m.map (cnt l w))) : Nat) : Int)
  omega
end Ch
namespace Ch
def pc (x : Nat) : Nat := (x.testBit 0).toNat + (x.testBit 1).toNat + (x.testBit 2).toNat + (x.testBit 3).toNat + (x.testBit 4).toNat + (x.testBit 5).toNat + (x.testBit 6).toNat + (x.testBit 7).toNat
def three : List Nat := (List.range 256).filter fun x => pc x == 3
def five : List Nat := (List.range 256).filter fun x => pc x == 5
def cols : List Nat := three ++ five.take 8 ++ [1, 2, 4, 8, 16, 32, 64, 128]
theorem cols_len : cols.length = 72 := by decide +kernel
theorem cols_lt : ∀ c ∈ cols, c < 256 := by decide +kernel
def odd (y : Nat) : Nat := neg (cols.map (chi y))
theorem odd_le (y : Nat) : odd y ≤ 72 := by
 have h : neg (cols.map (chi y)) ≤ (cols.map (chi y)).length := List.countP_le_length
 rw [List.length_map, cols_len] at h
 exact h
def chn (o : Nat) : Nat := ns (fun y => if odd y = o then 1 else 0) 256
def V (w : Nat) : Int := sm (fun o => E (sl o 72) w * ((chn o : Int) * (73 - 2 * (o : Int)))) 73
theorem E_odd (y w : Nat) : E (sl (odd y) 72) w = E (cols.map (chi y)) w := by
 obtain ⟨h1, h2, h3⟩ := sl_pm (odd y) 72
 refine E_pm h1 (chi_pm y cols) (by rw [h2, List.length_map, cols_len]) ?_ w
 have := odd_le y
 rw [h3]
 show min (odd y) 72 = odd y
 omega
theorem ls_odd (y : Nat) : 1 + ls (cols.map (chi y)) = 73 - 2 * (odd y : Int) := by
 rw [pm_sum2 _ (chi_pm y cols), List.length_map, cols_len]
 show 1 + ((72 : Nat) - 2 * (odd y : Int)) = _
 omega
theorem V_sum (w : Nat) : V w = sm (fun y => E (cols.map (chi y)) w * (1 + ls (cols.map (chi y)))) 256 := by
 have e1 : V w = sm (fun o => sm (fun y => if odd y = o then E (sl o 72) w * (73 - 2 * (o : Int)) else 0) 256) 73 := by
  refine sm_congr _ fun o _ => ?_
  have e2 : (chn o : Int) = sm (fun y => if odd y = o then 1 else 0) 256 := by
   unfold chn
   rw [ns_sm]
   refine sm_congr _ fun y _ => ?_
   split <;> rfl
  rw [e2, Int.mul_comm (sm _ 256), ← Int.mul_assoc, ← sm_mul]
  refine sm_congr _ fun y _ => ?_
  split
  ·rw [Int.mul_one]
  ·rw [Int.mul_zero]
 rw [e1, sm_swap]
 refine sm_congr _ fun y _ => ?_
 rw [sm_one (k := odd y) 73 (by have := odd_le y; omega) fun i _ hn => if_neg fun e => hn e.symm, if_pos rfl, E_odd, ls_odd]
def all (w : Nat) : Nat := cnt cols w 0 + nl (cols.map (cnt cols w))
theorem V_all (w : Nat) : V w = 256 * (all w : Int) := by rw [V_sum, passes cols cols_lt w cols cols_lt]; rfl
def right (w : Nat) : Nat := if w = 0 then 1 else if w = 1 then 72 else 0
def pass (w : Nat) : Nat := all w - right w
theorem right_le (w : Nat) : right w ≤ all w := by
 unfold right
 split
 ·next e => subst e; decide +kernel
 ·split
  ·next e => subst e; decide +kernel
  ·exact Nat.zero_le _
theorem pass_eq (w : Nat) : V w - 256 * (right w : Int) = 256 * (pass w : Int) := by
 have := right_le w
 rw [V_all]
 unfold pass
 omega
theorem pass_few (w : Nat) (h : w ≤ 2) : pass w = 0 := by
 rcases (show w = 0 ∨ w = 1 ∨ w = 2 by omega) with rfl | rfl | rfl <;> decide +kernel
end Ch
end Go.Proofs.YtenokdhldngkgaaGreatDoor
namespace Go.Proofs.YtenokdhldngkgaaGreatDoor
open Go.RowKit Go.Sort
set_option linter.unusedVariables false
set_option maxRecDepth 100000
namespace Ch
def K360 : Nat := 2 ^ 360
def K366 : Nat := 2 ^ 366
def K406 : Nat := 2 ^ 406
def K410 : Nat := 2 ^ 410
theorem pl_le (t : Nat → Nat) (b : Nat) : ∀ n, (∀ i, i < n → t i ≤ b) → pl t n ≤ n * b ∧ mi t n ≤ n * b
 | 0, _ => ⟨Nat.zero_le _, Nat.zero_le _⟩
 | n + 1, h => by
  obtain ⟨h1, h2⟩ := pl_le t b n fun i hi => h i (by omega)
  have h3 := h n (by omega)
  rw [Nat.succ_mul]
  constructor
  ·show (if n % 2 = 0 then pl t n + t n else pl t n) ≤ _
   split <;> omega
  ·show (if n % 2 = 0 then mi t n else mi t n + t n) ≤ _
   split <;> omega
theorem pl_even (t : Nat → Nat) {n : Nat} (h : n % 2 = 0) : pl t (n + 1) = pl t n + t n ∧ mi t (n + 1) = mi t n := ⟨if_pos h, if_pos h⟩
theorem pl_odd (t : Nat → Nat) {n : Nat} (h : n % 2 = 1) : pl t (n + 1) = pl t n ∧ mi t (n + 1) = mi t n + t n := ⟨if_neg (by omega), if_neg (by omega)⟩
theorem tm_two {c v j : Nat} (hv : v ≤ 40) : tm c v j ≤ K360 := by
 unfold tm
 have h1 : Na.bin v j ≤ 2 ^ 40 := Nat.le_trans (bin_two v j) (Nat.pow_le_pow_right (by omega) hv)
 have h2 : 256 ^ (v - c - j) ≤ 256 ^ 40 := Nat.pow_le_pow_right (by omega) (by omega)
 have h3 : Na.bin v j * (256 ^ (v - c - j) - 1) ≤ 2 ^ 40 * 256 ^ 40 := Nat.mul_le_mul h1 (by omega)
 exact Nat.le_trans h3 (by decide +kernel)
theorem pl_two {c v j : Nat} (hv : v ≤ 40) (hj : j ≤ 40) : pl (tm c v) j ≤ K366 ∧ mi (tm c v) j ≤ K366 := by
 obtain ⟨h1, h2⟩ := pl_le (tm c v) (K360) j fun i _ => tm_two hv
 have h3 : j * K360 ≤ 40 * K360 := Nat.mul_le_mul_right _ hj
 have h4 : 40 * K360 ≤ K366 := by decide +kernel
 omega
theorem two366 {x : Nat} (h : x ≤ K410) : x < Na.top := Nat.lt_of_le_of_lt h (by decide +kernel)
theorem wd_two {n c v : Nat} (hv : v ≤ 40) (hn : n ≤ 40) : wd n c v ≤ K406 := by
 unfold wd
 split
 ·exact (by decide +kernel : 1 ≤ K406)
 ·have h1 : Na.bin n v ≤ 2 ^ 40 := Nat.le_trans (bin_two n v) (Nat.pow_le_pow_right (by omega) hn)
  have h2 := (pl_two (c := c) (v := v) (j := v - c) hv (by omega)).1
  have h3 : Na.bin n v * (pl (tm c v) (v - c) - mi (tm c v) (v - c)) ≤ 2 ^ 40 * K366 := Nat.mul_le_mul h1 (by omega)
  exact Nat.le_trans h3 (by decide +kernel)
end Ch
structure WdK (v m j e : Nat) : Prop where
 v40 : v ≤ 40
 j40 : j ≤ 40
 e40 : e ≤ 40
 ee : v - m - j = e
 bt : Na.bin v j < Na.top
 at_ : 256 ^ e - 1 < Na.top
 tt : Na.bin v j * (256 ^ e - 1) < Na.top
 pt : Ch.pl (Ch.tm m v) j < Na.top
 qt : Ch.mi (Ch.tm m v) j < Na.top
 ps : Ch.pl (Ch.tm m v) j + Na.bin v j * (256 ^ e - 1) < Na.top
 qs : Ch.mi (Ch.tm m v) j + Na.bin v j * (256 ^ e - 1) < Na.top
theorem WdK.of {v m j : Nat} (hv : v ≤ 40) (hj : j < v - m) : WdK v m j (v - m - j) := by
 have h1 := Ch.pl_two (c := m) (v := v) (j := j) hv (by omega)
 have h2 := Ch.tm_two (c := m) (v := v) (j := j) hv
 unfold Ch.tm at h2
 have h3 : Ch.K366 + Ch.K360 ≤ Ch.K410 := by decide +kernel
 have h4 : Ch.K366 ≤ Ch.K410 := by decide +kernel
 have h5 : Ch.K360 ≤ Ch.K410 := by decide +kernel
 exact ⟨hv, by omega, by omega, rfl, (Na.bin_top v j (by omega)).1, Nat.lt_of_le_of_lt (Nat.sub_le _ _) (num_top (by omega) (by omega)), Ch.two366 (by omega), Ch.two366 (by omega), Ch.two366 (by omega), Ch.two366 (by omega), Ch.two366 (by omega)⟩
def RWd (w0 : World) (g : Option Nat) (M : List (Nat × Value)) (L : List Ob) (O1 : List Rw) (rb sb v m : Nat) (x : Value) (wr : World) : Prop :=
 ∃ (j : Nat) (P : Option Addr) (np cp : Nat) (Q : Option Addr) (nq cq : Nat), j ≤ v - m ∧ x = .int .i64 (j : Int) ∧
  Hid (Ow w0 wr g (M ++ [(rb, .slice none 0 0)]) (L ++ [⟨P, np, cp, nats (Na.dig (Ch.pl (Ch.tm m v) j))⟩, ⟨Q, nq, cq, nats (Na.dig (Ch.mi (Ch.tm m v) j))⟩]) (O1 ++ [Rw.pair sb 142 (.slice P np cp) (.slice Q nq cq)]))
section
variable {w0 w w' : World} {g : Option Nat} {M M2 : List (Nat × Value)} {L : List Ob} {O : List Rw} {A A2 A3 A4 : Option Addr} {b n c m c2 n3 c3 n4 c4 x y d v f j e rb sb ab cb : Nat} {P Q B1 B2 B3 : Option Addr} {np cp nq cq m1 d1 m2 d2 m3 d3 : Nat} {O1 : List Rw}
theorem Ow.mOne {p : Nat × Value} {l : List (Nat × Value)} (h : Ow w0 w g (M ++ p :: l) L O) : Ow w0 w g (M ++ [p]) L O := by
 have h' : Ow w0 w g ((M ++ [p]) ++ l) L O := by rw [List.append_assoc]; exact h
 exact h'.fewM
theorem Ow.nil' (h : Ow w0 w g M L O) : Ow w0 w g M (L ++ [⟨none, 0, 0, nats (Na.dig 0)⟩]) O := by
 rw [Na.dig_zero]
 exact h.push (e := 3) (World.ownsRow_nil _ _ _ _) (by omega) (Below.refl _ _)
structure WpK (w0 : World) (g : Option Nat) (M : List (Nat × Value)) (L : List Ob) (O1 : List Rw) (rb sb ab : Nat) (P : Option Addr) (np cp : Nat) (Q : Option Addr) (nq cq : Nat) (B1 : Option Addr) (m1 d1 : Nat) (B2 : Option Addr) (m2 d2 : Nat) (B3 : Option Addr) (m3 d3 v m j e : Nat) (Ld : Nat → Bool) (u0 u1 u2 u3 u4 u5 u6 u7 u8 u9 : Value) (va : Value) (Ls : List Ob) (W : World) : Prop where
 ow : Ow w0 W g (M ++ [(rb, .slice none 0 0), (ab, .slice B3 m3 d3)]) (L ++ [(⟨P, np, cp, nats (Na.dig (Ch.pl (Ch.tm m v) j))⟩ : Ob), (⟨Q, nq, cq, nats (Na.dig (Ch.mi (Ch.tm m v) j))⟩ : Ob), (⟨B1, m1, d1, nats (Na.dig (256 ^ e))⟩ : Ob), (⟨B2, m2, d2, nats (Na.dig 1)⟩ : Ob), (⟨B3, m3, d3, nats (Na.dig (256 ^ e - 1))⟩ : Ob)] ++ Ls) (O1 ++ [Rw.pair sb 142 (va) (.slice Q nq cq)])
 h0 : Ld 0 = true → u0 = .int .i64 (v : Int)
 h1 : Ld 1 = true → u1 = .int .i64 (j : Int)
 h2 : GN Ld 2 u2 (Na.bin v j) Ls
 h3 : Ld 3 = true → u3 = .agg #[.slice B3 m3 d3]
 h4 : GL Ld 4 u4 [Na.bin v j, 256 ^ e - 1] 2 (L ++ [(⟨P, np, cp, nats (Na.dig (Ch.pl (Ch.tm m v) j))⟩ : Ob), (⟨Q, nq, cq, nats (Na.dig (Ch.mi (Ch.tm m v) j))⟩ : Ob), (⟨B1, m1, d1, nats (Na.dig (256 ^ e))⟩ : Ob), (⟨B2, m2, d2, nats (Na.dig 1)⟩ : Ob), (⟨B3, m3, d3, nats (Na.dig (256 ^ e - 1))⟩ : Ob)]) Ls
 h5 : GN Ld 5 u5 (Na.bin v j * (256 ^ e - 1)) Ls
 h6 : Ld 6 = true → u6 = .int .i64 (j : Int)
 h7 : Ld 7 = true → u7 = .int .i64 0
 h8 : Ld 8 = true → u8 = .bool false
 h9 : Ld 9 = true → u9 = .tuple #[]
 v0 : Ld 9 = false → va = .slice P np cp
 v1 : GV Ld 9 va (Ch.pl (Ch.tm m v) j + Na.bin v j * (256 ^ e - 1)) Ls
def WpI (w0 : World) (g : Option Nat) (M : List (Nat × Value)) (L : List Ob) (O1 : List Rw) (rb sb ab : Nat) (P : Option Addr) (np cp : Nat) (Q : Option Addr) (nq cq : Nat) (B1 : Option Addr) (m1 d1 : Nat) (B2 : Option Addr) (m2 d2 : Nat) (B3 : Option Addr) (m3 d3 v m j e : Nat) (A0 : Act) (Ld : Nat → Bool) (a : Act) (W : World) : Prop :=
 ∃ (u0 u1 u2 u3 u4 u5 u6 u7 u8 u9 : Value) (va : Value) (Ls : List Ob), a = ((((((((((A0.put (some 32) u0).put (some 33) u1).put (some 34) u2).put (some 35) u3).put (some 36) u4).put (some 37) u5).put (some 38) u6).put (some 39) u7).put (some 40) u8).put (some 41) u9) ∧ WpK w0 g M L O1 rb sb ab P np cp Q nq cq B1 m1 d1 B2 m2 d2 B3 m3 d3 v m j e Ld u0 u1 u2 u3 u4 u5 u6 u7 u8 u9 va Ls W
structure WnK (w0 : World) (g : Option Nat) (M : List (Nat × Value)) (L : List Ob) (O1 : List Rw) (rb sb ab : Nat) (P : Option Addr) (np cp : Nat) (Q : Option Addr) (nq cq : Nat) (B1 : Option Addr) (m1 d1 : Nat) (B2 : Option Addr) (m2 d2 : Nat) (B3 : Option Addr) (m3 d3 v m j e : Nat) (Ld : Nat → Bool) (u0 u1 u2 u3 u4 u5 u6 u7 u8 u9 : Value) (va : Value) (Ls : List Ob) (W : World) : Prop where
 ow : Ow w0 W g (M ++ [(rb, .slice none 0 0), (ab, .slice B3 m3 d3)]) (L ++ [(⟨P, np, cp, nats (Na.dig (Ch.pl (Ch.tm m v) j))⟩ : Ob), (⟨Q, nq, cq, nats (Na.dig (Ch.mi (Ch.tm m v) j))⟩ : Ob), (⟨B1, m1, d1, nats (Na.dig (256 ^ e))⟩ : Ob), (⟨B2, m2, d2, nats (Na.dig 1)⟩ : Ob), (⟨B3, m3, d3, nats (Na.dig (256 ^ e - 1))⟩ : Ob)] ++ Ls) (O1 ++ [Rw.pair sb 142 (.slice P np cp) (va)])
 h0 : Ld 0 = true → u0 = .int .i64 (v : Int)
 h1 : Ld 1 = true → u1 = .int .i64 (j : Int)
 h2 : GN Ld 2 u2 (Na.bin v j) Ls
 h3 : Ld 3 = true → u3 = .agg #[.slice B3 m3 d3]
 h4 : GL Ld 4 u4 [Na.bin v j, 256 ^ e - 1] 2 (L ++ [(⟨P, np, cp, nats (Na.dig (Ch.pl (Ch.tm m v) j))⟩ : Ob), (⟨Q, nq, cq, nats (Na.dig (Ch.mi (Ch.tm m v) j))⟩ : Ob), (⟨B1, m1, d1, nats (Na.dig (256 ^ e))⟩ : Ob), (⟨B2, m2, d2, nats (Na.dig 1)⟩ : Ob), (⟨B3, m3, d3, nats (Na.dig (256 ^ e - 1))⟩ : Ob)]) Ls
 h5 : GN Ld 5 u5 (Na.bin v j * (256 ^ e - 1)) Ls
 h6 : Ld 6 = true → u6 = .int .i64 (j : Int)
 h7 : Ld 7 = true → u7 = .int .i64 1
 h8 : Ld 8 = true → u8 = .bool true
 h9 : Ld 9 = true → u9 = .tuple #[]
 v0 : Ld 9 = false → va = .slice Q nq cq
 v1 : GV Ld 9 va (Ch.mi (Ch.tm m v) j + Na.bin v j * (256 ^ e - 1)) Ls
def WnI (w0 : World) (g : Option Nat) (M : List (Nat × Value)) (L : List Ob) (O1 : List Rw) (rb sb ab : Nat) (P : Option Addr) (np cp : Nat) (Q : Option Addr) (nq cq : Nat) (B1 : Option Addr) (m1 d1 : Nat) (B2 : Option Addr) (m2 d2 : Nat) (B3 : Option Addr) (m3 d3 v m j e : Nat) (A0 : Act) (Ld : Nat → Bool) (a : Act) (W : World) : Prop :=
 ∃ (u0 u1 u2 u3 u4 u5 u6 u7 u8 u9 : Value) (va : Value) (Ls : List Ob), a = ((((((((((A0.put (some 32) u0).put (some 33) u1).put (some 34) u2).put (some 35) u3).put (some 36) u4).put (some 37) u5).put (some 38) u6).put (some 39) u7).put (some 40) u8).put (some 41) u9) ∧ WnK w0 g M L O1 rb sb ab P np cp Q nq cq B1 m1 d1 B2 m2 d2 B3 m3 d3 v m j e Ld u0 u1 u2 u3 u4 u5 u6 u7 u8 u9 va Ls W
set_option maxHeartbeats 16000000 in
theorem c_words (h : Ow w0 w g M L O) (hc : Cv d m f n) (hv : v ≤ n) (hv0 : 0 < v) :
  Calls Tryz.prog 98 #[.agg #[.int .i64 2, .int .i64 (d : Int), .int .i64 (m : Int), .int .i64 (f : Int)], .int .i64 (v : Int)] w (GotU w0 g M L O (Na.dig (Ch.wd n m v))) := by
 have HB0 := Lib.hid hc
 have HNv : Hid (v ≤ n ∧ 0 < v) := ⟨hv, hv0⟩
 have H0 := h.code d m f
 have hci : (O ++ [(⟨some ⟨w.heap.size, 0, none⟩, 4, 4, 57, (cdv d m f).toList⟩ : Rw)])[O.length + 0]? = some ⟨some ⟨w.heap.size, 0, none⟩, 4, 4, 57, (cdv d m f).toList⟩ := by rw [get_r]; rfl
 obtain ⟨O1, hO1⟩ : ∃ O1, O ++ [(⟨some ⟨w.heap.size, 0, none⟩, 4, 4, 57, (cdv d m f).toList⟩ : Rw)] = O1 := ⟨_, rfl⟩
 rw [hO1] at H0 hci
 have HCI := Lib.hid hci
 have H1 := (((H0.boxed (.slice none 0 0) 25).pair (.slice none 0 0) (.slice none 0 0) 142).nil').nil'
 try simp only [World.size_alloc] at H1
 try simp only [List.append_assoc] at H1
 try simp only [List.cons_append] at H1
 try simp only [List.nil_append] at H1
 have HO := Lib.hid H1
 have hA : ((v : Int) == 0) = false := by rw [beq_eq_false_iff_ne]; omega
 have hvn : v ≤ 40 := by have := hc.n40; omega
 have hm8 : m ≤ 8 := hc.cd.m2
 have hni := hc.ni
 have hn40 := hc.n40
 have HO1 := Lib.hid hO1
 clear h H0 H1 hci hO1
 go_enter Tryz.func98, Tryz.ntmps98
 go_wp2_with fail
 go_loopw [6] (fun x wr => RWd w0 g M L O1 (w.heap.size + 1) (w.heap.size + 1 + 1) v m x wr) (fun x _ => 41 - (intOf x).toNat)
 case atStart => exact ⟨0, none, 0, 0, none, 0, 0, Nat.zero_le _, rfl, HO.out⟩
 case round =>
  clear HO
  obtain ⟨j, P, np, cp, Q, nq, cq, hj, rfl, HO⟩ := hrel
  obtain ⟨k0, k1, k2, k3⟩ := HO.out.cdc (O.length + 0) ((get_l _ _ (get_lt HCI.out)).trans HCI.out)
  have hw1 : IntKind.i64.wrap ((v : Int) - (m : Int)) = (v : Int) - (m : Int) := IntWalk.i64_in _ (by omega)
  rcases Nat.lt_or_ge j (v - m) with hlt | hge
  ·have hd : decide ((j : Int) < (v : Int) - (m : Int)) = true := decide_eq_true (by omega)
   have HB : Hid (WdK v m j (v - m - j)) := WdK.of hvn hlt
   obtain ⟨e, he⟩ : ∃ e, v - m - j = e := ⟨_, rfl⟩
   rw [he] at HB
   have hei : (v : Int) - (m : Int) - (j : Int) = (e : Int) := by omega
   have he40 : e ≤ 40 := HB.out.e40
   clear he
   have HC := Lib.hid (c_power256 HO.out e he40)
   go_wp2_with fail
   refine HC.out.mono ?_
   rintro e1 w1 ⟨B1, m1, d1, rfl, G1⟩
   have HC2 := Lib.hid (c_number G1 1 (by omega))
   clear HC G1
   go_wp2_with fail
   refine HC2.out.mono ?_
   rintro e2 w2 ⟨B2, m2, d2, rfl, G2⟩
   try simp only [List.append_assoc] at G2
   try simp only [List.cons_append] at G2
   try simp only [List.nil_append] at G2
   have HC3 := Lib.hid (nsub_fr0 G2 (L.length + 2) (L.length + 3) (by rw [get_r]; rfl) (by rw [get_r]; rfl) (num_top (by omega) he40) (Nat.one_le_pow _ _ (by omega)))
   clear HC2 G2
   go_wp2_with fail
   refine HC3.out.mono ?_
   rintro e3 w3 ⟨B3, m3, d3, rfl, G3⟩
   have H3 := G3.boxed (.slice B3 m3 d3) 25
   try simp only [List.append_assoc] at H3
   try simp only [List.cons_append] at H3
   try simp only [List.nil_append] at H3
   have HO3 := Lib.hid H3
   clear HC3 G3 H3 HO k0 k1 k2 k3
   go_wp2_with fail
   have s1 : IntKind.i64.wrap (j : Int) = (j : Int) := IntWalk.i64_in _ (by omega)
   rcases Nat.mod_two_eq_zero_or_one j with hpar | hpar
   ·have HJ : Hid (((j : Int).tmod 2) = 0 ∧ (j : Int) % 2 = 0) := ⟨by rw [Int.tmod_eq_emod_of_nonneg (by omega)]; omega, by omega⟩
    have HS := Lib.hid (Ch.pl_even (Ch.tm m v) hpar)
    clear hpar hd hw1 hei
    refine reg_inv34 (WpI w0 g M L O1 (w.heap.size + 1) (w.heap.size + 1 + 1) w3.heap.size P np cp Q nq cq B1 m1 d1 B2 m2 d2 B3 m3 d3 v m j e) (by kernel_rfl) (by kernel_rfl) ?_ ?_ ?_
    ·refine ⟨u32, u33, u34, u35, u36, u37, u38, u39, u40, u41, .slice P np cp, [], ?_, ⟨by rw [List.append_nil]; exact HO3.out.drew, ?_, ?_, ?_, ?_, ?_, ?_, ?_, ?_, ?_, ?_, fun _ => rfl, ?_⟩⟩
     ·simp only [Act.put, zT, zZ, zS]
     all_goals (intro h; cases h)
    ·rintro jj Ld b W hj hf hcl hd ⟨u0, u1, u2, u3, u4, u5, u6, u7, u8, u9, va, Ls, rfl, hC⟩
     have hj' : jj < 10 := hj
     have hcase : jj = 0 ∨ jj = 1 ∨ jj = 2 ∨ jj = 3 ∨ jj = 4 ∨ jj = 5 ∨ jj = 6 ∨ jj = 7 ∨ jj = 8 ∨ jj = 9 := by omega
     have qa := hC.ow.cell (M.length + 1) (by rw [get_r]; rfl)
     clear hj hj'
     simp only [Act.put, zT, zZ, zS]
     rcases hcase with rfl | rfl | rfl | rfl | rfl | rfl | rfl | rfl | rfl | rfl
     ·clear hd hcl
      refine wpOp_step rfl (fun K hK => ?_)
      go_simp
      refine hK _ _ ⟨_, u1, u2, u3, u4, u5, u6, u7, u8, u9, va, Ls, ?_, ⟨hC.ow, fun _ => rfl, hC.h1, hC.h2, hC.h3, hC.h4, hC.h5, hC.h6, hC.h7, hC.h8, hC.h9, hC.v0, hC.v1⟩⟩
      simp only [Act.put, zT, zZ, zS]
     ·clear hd hcl
      refine wpOp_step rfl (fun K hK => ?_)
      go_simp
      refine hK _ _ ⟨u0, _, u2, u3, u4, u5, u6, u7, u8, u9, va, Ls, ?_, ⟨hC.ow, hC.h0, fun _ => rfl, hC.h2, hC.h3, hC.h4, hC.h5, hC.h6, hC.h7, hC.h8, hC.h9, hC.v0, hC.v1⟩⟩
      simp only [Act.put, zT, zZ, zS]
     ·obtain rfl := hC.h0 (hd 0 (by kernel_rfl))
      obtain rfl := hC.h1 (hd 1 (by kernel_rfl))
      clear hd hcl
      refine wpOp_step rfl (fun K hK => ?_)
      go_simp
      refine (c_choose hC.ow v j (by have := HB.out.v40; omega)).mono ?_
      rintro e W' ⟨Az, nz, cz, rfl, ho⟩
      rw [List.append_assoc _ Ls] at ho
      refine hK _ _ ⟨_, _, _, u3, u4, u5, u6, u7, u8, u9, va, _, ?_, ⟨ho, hC.h0, hC.h1, GN.new _ _ _ _ _ _ _, hC.h3, hC.h4.more, hC.h5.more, hC.h6, hC.h7, hC.h8, hC.h9, hC.v0, hC.v1.more⟩⟩
      simp only [Act.put, zT, zZ, zS]
     ·clear hd hcl
      refine wpOp_step rfl (fun K hK => ?_)
      go_simp
      refine hK _ _ ⟨u0, u1, u2, _, u4, u5, u6, u7, u8, u9, va, Ls, ?_, ⟨hC.ow, hC.h0, hC.h1, hC.h2, fun _ => rfl, hC.h4, hC.h5, hC.h6, hC.h7, hC.h8, hC.h9, hC.v0, hC.v1⟩⟩
      simp only [Act.put, zT, zZ, zS]
     ·obtain ⟨t2, A2, n2, c2, rfl, r2⟩ := hC.h2 (hd 2 (by kernel_rfl))
      have R2 := hC.ow.got r2
      obtain rfl := hC.h3 (hd 3 (by kernel_rfl))
      clear hd hcl
      refine wpOp_step rfl (fun K hK => ?_)
      go_simp
      have ho := hC.ow.push (World.ownsRow_lit (base := W.heap.size) (e := 25) (size := 1) W #[.slice A2 n2 c2, .slice B3 m3 d3] 2 (Nat.le_refl _) (by decide) rfl) (by omega) (own_box1 _ _)
      rw [List.append_assoc _ Ls] at ho
      refine hK _ _ ⟨u0, u1, _, _, _, u5, u6, u7, u8, u9, va, _, ?_, ⟨ho, hC.h0, hC.h1, hC.h2.more, hC.h3, GL.new _ _ _ _ _ _ _ (Nums.two R2 (t2 := L.length + 4) ((get_l _ _ (by simp)).trans ((get_r _ _ 4).trans rfl))), hC.h5.more, hC.h6, hC.h7, hC.h8, hC.h9, hC.v0, hC.v1.more⟩⟩
      simp only [Act.put, zT, zZ, zS]
     ·obtain ⟨t4, A4, vs4, rfl, r4, m4⟩ := hC.h4 (hd 4 (by kernel_rfl))
      have R4 := hC.ow.got r4
      clear hd hcl
      refine wpOp_step rfl (fun K hK => ?_)
      go_simp
      refine (c_times2 hC.ow _ R4 m4 HB.out.bt HB.out.at_ HB.out.tt).mono ?_
      rintro e W' ⟨Az, nz, cz, rfl, ho⟩
      rw [List.append_assoc _ Ls] at ho
      refine hK _ _ ⟨u0, u1, u2, u3, _, _, u6, u7, u8, u9, va, _, ?_, ⟨ho, hC.h0, hC.h1, hC.h2.more, hC.h3, hC.h4.more, GN.new _ _ _ _ _ _ _, hC.h6, hC.h7, hC.h8, hC.h9, hC.v0, hC.v1.more⟩⟩
      simp only [Act.put, zT, zZ, zS]
     ·clear hd hcl
      refine wpOp_step rfl (fun K hK => ?_)
      go_simp
      refine hK _ _ ⟨u0, u1, u2, u3, u4, u5, _, u7, u8, u9, va, Ls, ?_, ⟨hC.ow, hC.h0, hC.h1, hC.h2, hC.h3, hC.h4, hC.h5, fun _ => rfl, hC.h7, hC.h8, hC.h9, hC.v0, hC.v1⟩⟩
      simp only [Act.put, zT, zZ, zS]
     ·obtain rfl := hC.h6 (hd 6 (by kernel_rfl))
      have hjm := HJ.out
      clear hd hcl
      refine wpOp_step rfl (fun K hK => ?_)
      go_simp
      refine hK _ _ ⟨u0, u1, u2, u3, u4, u5, _, _, u8, u9, va, Ls, ?_, ⟨hC.ow, hC.h0, hC.h1, hC.h2, hC.h3, hC.h4, hC.h5, hC.h6, fun _ => rfl, hC.h8, hC.h9, hC.v0, hC.v1⟩⟩
      simp only [Act.put, zT, zZ, zS]
     ·obtain rfl := hC.h7 (hd 7 (by kernel_rfl))
      clear hd hcl
      refine wpOp_step rfl (fun K hK => ?_)
      go_simp
      refine hK _ _ ⟨u0, u1, u2, u3, u4, u5, u6, _, _, u9, va, Ls, ?_, ⟨hC.ow, hC.h0, hC.h1, hC.h2, hC.h3, hC.h4, hC.h5, hC.h6, hC.h7, fun _ => rfl, hC.h9, hC.v0, hC.v1⟩⟩
      simp only [Act.put, zT, zZ, zS]
     ·obtain rfl := hC.v0 hf
      obtain ⟨t5, A5, n5, c5, rfl, r5⟩ := hC.h5 (hd 5 (by kernel_rfl))
      have R5 := hC.ow.got r5
      obtain rfl := hC.h8 (hd 8 (by kernel_rfl))
      clear hd hcl
      refine wpOp_step rfl (fun K hK => ?_)
      go_simp
      refine (c_sadd hC.ow _ (L.length + 0) R5 ((get_l _ _ (by simp)).trans ((get_r _ _ 0).trans rfl)) HB.out.pt HB.out.tt HB.out.ps).mono ?_
      rintro e W' ⟨Az, nz, cz, rfl, ho⟩
      rw [List.append_assoc _ Ls] at ho
      refine hK _ _ ⟨u0, u1, u2, u3, u4, _, u6, u7, _, _, _, _, ?_, ⟨ho, hC.h0, hC.h1, hC.h2.more, hC.h3, hC.h4.more, hC.h5.more, hC.h6, hC.h7, hC.h8, fun _ => rfl, fun e => absurd (show true = false from e) (by decide), GV.new _ _ _ _ _ _ _⟩⟩
      simp only [Act.put, zT, zZ, zS]
    ·rintro Ld b W hL ⟨u0, u1, u2, u3, u4, u5, u6, u7, u8, u9, va, Ls, rfl, hC⟩
     obtain ⟨tz, Az, nz, cz, rfl, rz⟩ := hC.v1 (hL 9 (by show 9 < 10; decide))
     have HG : Hid (Ow w0 W g (M ++ [(w.heap.size + 1, .slice none 0 0)]) (L ++ [⟨Az, nz, cz, nats (Na.dig (Ch.pl (Ch.tm m v) (j + 1)))⟩, ⟨Q, nq, cq, nats (Na.dig (Ch.mi (Ch.tm m v) (j + 1)))⟩]) (O1 ++ [Rw.pair (w.heap.size + 1 + 1) 142 (.slice Az nz cz) (.slice Q nq cq)])) := by
      unfold Hid
      have e9 : Ch.tm m v j = Na.bin v j * (256 ^ e - 1) := by unfold Ch.tm; rw [HB.out.ee]
      rw [HS.out.1, HS.out.2, e9]
      refine hC.ow.mOne.less (fun o ho => ?_)
      rcases List.mem_append.1 ho with h | h
      ·exact List.mem_append_left _ (List.mem_append_left _ h)
      ·simp only [List.mem_cons, List.mem_nil_iff, or_false] at h
       rcases h with rfl | rfl
       ·exact List.mem_append_right _ (List.mem_of_getElem? rz)
       ·exact List.mem_append_left _ (List.mem_append_right _ (List.mem_cons_of_mem _ List.mem_cons_self))
     clear hC HO3
     simp only [Act.put, zT, zZ, zS]
     go_wp2_with fail
     go_roundw
     case rel => exact ⟨j + 1, Az, nz, cz, Q, nq, cq, by omega, by go_num, HG⟩
     case measure => simp [intOf]; omega
   ·have HJ : Hid (((j : Int).tmod 2) = 1 ∧ (j : Int) % 2 = 1) := ⟨by rw [Int.tmod_eq_emod_of_nonneg (by omega)]; omega, by omega⟩
    have HS := Lib.hid (Ch.pl_odd (Ch.tm m v) hpar)
    clear hpar hd hw1 hei
    refine reg_inv34 (WnI w0 g M L O1 (w.heap.size + 1) (w.heap.size + 1 + 1) w3.heap.size P np cp Q nq cq B1 m1 d1 B2 m2 d2 B3 m3 d3 v m j e) (by kernel_rfl) (by kernel_rfl) ?_ ?_ ?_
    ·refine ⟨u32, u33, u34, u35, u36, u37, u38, u39, u40, u41, .slice Q nq cq, [], ?_, ⟨by rw [List.append_nil]; exact HO3.out.drew, ?_, ?_, ?_, ?_, ?_, ?_, ?_, ?_, ?_, ?_, fun _ => rfl, ?_⟩⟩
     ·simp only [Act.put, zT, zZ, zS]
     all_goals (intro h; cases h)
    ·rintro jj Ld b W hj hf hcl hd ⟨u0, u1, u2, u3, u4, u5, u6, u7, u8, u9, va, Ls, rfl, hC⟩
     have hj' : jj < 10 := hj
     have hcase : jj = 0 ∨ jj = 1 ∨ jj = 2 ∨ jj = 3 ∨ jj = 4 ∨ jj = 5 ∨ jj = 6 ∨ jj = 7 ∨ jj = 8 ∨ jj = 9 := by omega
     have qa := hC.ow.cell (M.length + 1) (by rw [get_r]; rfl)
     clear hj hj'
     simp only [Act.put, zT, zZ, zS]
     rcases hcase with rfl | rfl | rfl | rfl | rfl | rfl | rfl | rfl | rfl | rfl
     ·clear hd hcl
      refine wpOp_step rfl (fun K hK => ?_)
      go_simp
      refine hK _ _ ⟨_, u1, u2, u3, u4, u5, u6, u7, u8, u9, va, Ls, ?_, ⟨hC.ow, fun _ => rfl, hC.h1, hC.h2, hC.h3, hC.h4, hC.h5, hC.h6, hC.h7, hC.h8, hC.h9, hC.v0, hC.v1⟩⟩
      simp only [Act.put, zT, zZ, zS]
     ·clear hd hcl
      refine wpOp_step rfl (fun K hK => ?_)
      go_simp
      refine hK _ _ ⟨u0, _, u2, u3, u4, u5, u6, u7, u8, u9, va, Ls, ?_, ⟨hC.ow, hC.h0, fun _ => rfl, hC.h2, hC.h3, hC.h4, hC.h5, hC.h6, hC.h7, hC.h8, hC.h9, hC.v0, hC.v1⟩⟩
      simp only [Act.put, zT, zZ, zS]
     ·obtain rfl := hC.h0 (hd 0 (by kernel_rfl))
      obtain rfl := hC.h1 (hd 1 (by kernel_rfl))
      clear hd hcl
      refine wpOp_step rfl (fun K hK => ?_)
      go_simp
      refine (c_choose hC.ow v j (by have := HB.out.v40; omega)).mono ?_
      rintro e W' ⟨Az, nz, cz, rfl, ho⟩
      rw [List.append_assoc _ Ls] at ho
      refine hK _ _ ⟨_, _, _, u3, u4, u5, u6, u7, u8, u9, va, _, ?_, ⟨ho, hC.h0, hC.h1, GN.new _ _ _ _ _ _ _, hC.h3, hC.h4.more, hC.h5.more, hC.h6, hC.h7, hC.h8, hC.h9, hC.v0, hC.v1.more⟩⟩
      simp only [Act.put, zT, zZ, zS]
     ·clear hd hcl
      refine wpOp_step rfl (fun K hK => ?_)
      go_simp
      refine hK _ _ ⟨u0, u1, u2, _, u4, u5, u6, u7, u8, u9, va, Ls, ?_, ⟨hC.ow, hC.h0, hC.h1, hC.h2, fun _ => rfl, hC.h4, hC.h5, hC.h6, hC.h7, hC.h8, hC.h9, hC.v0, hC.v1⟩⟩
      simp only [Act.put, zT, zZ, zS]
     ·obtain ⟨t2, A2, n2, c2, rfl, r2⟩ := hC.h2 (hd 2 (by kernel_rfl))
      have R2 := hC.ow.got r2
      obtain rfl := hC.h3 (hd 3 (by kernel_rfl))
      clear hd hcl
      refine wpOp_step rfl (fun K hK => ?_)
      go_simp
      have ho := hC.ow.push (World.ownsRow_lit (base := W.heap.size) (e := 25) (size := 1) W #[.slice A2 n2 c2, .slice B3 m3 d3] 2 (Nat.le_refl _) (by decide) rfl) (by omega) (own_box1 _ _)
      rw [List.append_assoc _ Ls] at ho
      refine hK _ _ ⟨u0, u1, _, _, _, u5, u6, u7, u8, u9, va, _, ?_, ⟨ho, hC.h0, hC.h1, hC.h2.more, hC.h3, GL.new _ _ _ _ _ _ _ (Nums.two R2 (t2 := L.length + 4) ((get_l _ _ (by simp)).trans ((get_r _ _ 4).trans rfl))), hC.h5.more, hC.h6, hC.h7, hC.h8, hC.h9, hC.v0, hC.v1.more⟩⟩
      simp only [Act.put, zT, zZ, zS]
     ·obtain ⟨t4, A4, vs4, rfl, r4, m4⟩ := hC.h4 (hd 4 (by kernel_rfl))
      have R4 := hC.ow.got r4
      clear hd hcl
      refine wpOp_step rfl (fun K hK => ?_)
      go_simp
      refine (c_times2 hC.ow _ R4 m4 HB.out.bt HB.out.at_ HB.out.tt).mono ?_
      rintro e W' ⟨Az, nz, cz, rfl, ho⟩
      rw [List.append_assoc _ Ls] at ho
      refine hK _ _ ⟨u0, u1, u2, u3, _, _, u6, u7, u8, u9, va, _, ?_, ⟨ho, hC.h0, hC.h1, hC.h2.more, hC.h3, hC.h4.more, GN.new _ _ _ _ _ _ _, hC.h6, hC.h7, hC.h8, hC.h9, hC.v0, hC.v1.more⟩⟩
      simp only [Act.put, zT, zZ, zS]
     ·clear hd hcl
      refine wpOp_step rfl (fun K hK => ?_)
      go_simp
      refine hK _ _ ⟨u0, u1, u2, u3, u4, u5, _, u7, u8, u9, va, Ls, ?_, ⟨hC.ow, hC.h0, hC.h1, hC.h2, hC.h3, hC.h4, hC.h5, fun _ => rfl, hC.h7, hC.h8, hC.h9, hC.v0, hC.v1⟩⟩
      simp only [Act.put, zT, zZ, zS]
     ·obtain rfl := hC.h6 (hd 6 (by kernel_rfl))
      have hjm := HJ.out
      clear hd hcl
      refine wpOp_step rfl (fun K hK => ?_)
      go_simp
      refine hK _ _ ⟨u0, u1, u2, u3, u4, u5, _, _, u8, u9, va, Ls, ?_, ⟨hC.ow, hC.h0, hC.h1, hC.h2, hC.h3, hC.h4, hC.h5, hC.h6, fun _ => rfl, hC.h8, hC.h9, hC.v0, hC.v1⟩⟩
      simp only [Act.put, zT, zZ, zS]
     ·obtain rfl := hC.h7 (hd 7 (by kernel_rfl))
      clear hd hcl
      refine wpOp_step rfl (fun K hK => ?_)
      go_simp
      refine hK _ _ ⟨u0, u1, u2, u3, u4, u5, u6, _, _, u9, va, Ls, ?_, ⟨hC.ow, hC.h0, hC.h1, hC.h2, hC.h3, hC.h4, hC.h5, hC.h6, hC.h7, fun _ => rfl, hC.h9, hC.v0, hC.v1⟩⟩
      simp only [Act.put, zT, zZ, zS]
     ·obtain rfl := hC.v0 hf
      obtain ⟨t5, A5, n5, c5, rfl, r5⟩ := hC.h5 (hd 5 (by kernel_rfl))
      have R5 := hC.ow.got r5
      obtain rfl := hC.h8 (hd 8 (by kernel_rfl))
      clear hd hcl
      refine wpOp_step rfl (fun K hK => ?_)
      go_simp
      refine (c_sneg hC.ow _ (L.length + 1) R5 ((get_l _ _ (by simp)).trans ((get_r _ _ 1).trans rfl)) HB.out.qt HB.out.tt HB.out.qs).mono ?_
      rintro e W' ⟨Az, nz, cz, rfl, ho⟩
      rw [List.append_assoc _ Ls] at ho
      refine hK _ _ ⟨u0, u1, u2, u3, u4, _, u6, u7, _, _, _, _, ?_, ⟨ho, hC.h0, hC.h1, hC.h2.more, hC.h3, hC.h4.more, hC.h5.more, hC.h6, hC.h7, hC.h8, fun _ => rfl, fun e => absurd (show true = false from e) (by decide), GV.new _ _ _ _ _ _ _⟩⟩
      simp only [Act.put, zT, zZ, zS]
    ·rintro Ld b W hL ⟨u0, u1, u2, u3, u4, u5, u6, u7, u8, u9, va, Ls, rfl, hC⟩
     obtain ⟨tz, Az, nz, cz, rfl, rz⟩ := hC.v1 (hL 9 (by show 9 < 10; decide))
     have HG : Hid (Ow w0 W g (M ++ [(w.heap.size + 1, .slice none 0 0)]) (L ++ [⟨P, np, cp, nats (Na.dig (Ch.pl (Ch.tm m v) (j + 1)))⟩, ⟨Az, nz, cz, nats (Na.dig (Ch.mi (Ch.tm m v) (j + 1)))⟩]) (O1 ++ [Rw.pair (w.heap.size + 1 + 1) 142 (.slice P np cp) (.slice Az nz cz)])) := by
      unfold Hid
      have e9 : Ch.tm m v j = Na.bin v j * (256 ^ e - 1) := by unfold Ch.tm; rw [HB.out.ee]
      rw [HS.out.1, HS.out.2, e9]
      refine hC.ow.mOne.less (fun o ho => ?_)
      rcases List.mem_append.1 ho with h | h
      ·exact List.mem_append_left _ (List.mem_append_left _ h)
      ·simp only [List.mem_cons, List.mem_nil_iff, or_false] at h
       rcases h with rfl | rfl
       ·exact List.mem_append_left _ (List.mem_append_right _ List.mem_cons_self)
       ·exact List.mem_append_right _ (List.mem_of_getElem? rz)
     clear hC HO3
     simp only [Act.put, zT, zZ, zS]
     go_wp2_with fail
     go_roundw
     case rel => exact ⟨j + 1, P, np, cp, Az, nz, cz, by omega, by go_num, HG⟩
     case measure => simp [intOf]; omega
  ·have hd : decide ((j : Int) < (v : Int) - (m : Int)) = false := decide_eq_false (by omega)
   obtain rfl : j = v - m := by omega
   have HT : Hid (Ch.pl (Ch.tm m v) (v - m) < Na.top ∧ Ch.mi (Ch.tm m v) (v - m) ≤ Ch.pl (Ch.tm m v) (v - m) ∧ Na.bin n v < Na.top ∧ Na.bin n v * (Ch.pl (Ch.tm m v) (v - m) - Ch.mi (Ch.tm m v) (v - m)) < Na.top ∧ Ch.wd n m v = Na.bin n v * (Ch.pl (Ch.tm m v) (v - m) - Ch.mi (Ch.tm m v) (v - m))) := by
    have e : Ch.wd n m v = Na.bin n v * (Ch.pl (Ch.tm m v) (v - m) - Ch.mi (Ch.tm m v) (v - m)) := by unfold Ch.wd; rw [if_neg (by have := HNv.out.2; omega)]
    have h1 : Ch.wd n m v ≤ Ch.K406 := Ch.wd_two hvn hn40
    rw [e] at h1
    have h2 := (Ch.pl_two (c := m) (v := v) (j := v - m) hvn (by omega)).1
    exact ⟨Ch.two366 (Nat.le_trans h2 (by decide +kernel)), Ch.prog_le m v (by omega), (Na.bin_top n v (by omega)).1, Ch.two366 (Nat.le_trans h1 (by decide +kernel)), e⟩
   have HC := Lib.hid (c_choose HO.out n v (by omega))
   clear hd hj hge
   go_wp2_with fail
   refine HC.out.mono ?_
   rintro e1 w1 ⟨B1, m1, d1, rfl, G1⟩
   try simp only [List.append_assoc] at G1
   try simp only [List.cons_append] at G1
   try simp only [List.nil_append] at G1
   have HC2 := Lib.hid (c_sval G1 (L.length + 0) (L.length + 1) (by rw [get_r]; rfl) (by rw [get_r]; rfl) HT.out.1 HT.out.2.1)
   clear HC G1 HO k0 k1 k2 k3
   go_wp2_with fail
   refine HC2.out.mono ?_
   rintro e2 w2 ⟨B2, m2, d2, rfl, G2⟩
   have G3 := G2.push (World.ownsRow_lit (base := w2.heap.size) (e := 25) (size := 1) w2 #[.slice B1 m1 d1, .slice B2 m2 d2] 2 (Nat.le_refl _) (by decide) rfl) (by omega) (own_box1 _ _)
   try simp only [List.append_assoc] at G3
   try simp only [List.cons_append] at G3
   try simp only [List.nil_append] at G3
   have HC3 := Lib.hid (c_times2 G3 (L.length + 4) (by rw [get_r]; rfl) (Nums.two (t1 := L.length + 2) (t2 := L.length + 3) (by rw [get_r]; rfl) (by rw [get_r]; rfl)) HT.out.2.2.1 (Nat.lt_of_le_of_lt (Nat.sub_le _ _) HT.out.1) HT.out.2.2.2.1)
   rw [← HT.out.2.2.2.2] at HC3
   clear HC2 G2 G3
   go_wp2_with fail
   refine HC3.out.mono ?_
   rintro e3 w3 ⟨B3, m3, d3, rfl, G4⟩
   have r0 := G4.cell (M.length + 0) (by rw [get_r]; rfl)
   have f0 := G4.free (M.length + 0) (by rw [get_r]; rfl)
   have Z := G4.setv (M.length + 0) (by rw [get_r]; rfl) (.slice B3 m3 d3)
   rw [set_r] at Z
   try simp only [List.set_cons_zero] at Z
   have s0 := Z.cell (M.length + 0) (by rw [get_r]; rfl)
   try simp only [List.append_assoc] at Z
   try simp only [List.cons_append] at Z
   try simp only [List.nil_append] at Z
   have Z2 := Z.fewM.fewO
   rw [← HO1.out] at Z2
   have HF := Lib.hid (Z2.fewO.less (L' := L ++ [⟨B3, m3, d3, nats (Na.dig (Ch.wd n m v))⟩]) (fun o ho => by
    rcases List.mem_append.1 ho with h | h
    ·exact List.mem_append_left _ h
    ·rw [List.mem_singleton] at h
     subst h
     exact List.mem_append_right _ (List.mem_of_getElem? (i := 5) rfl)))
   clear HC3 G4 Z Z2
   go_wp2_with fail
   refine bodyPost_ret (v := .agg #[.slice B3 m3 d3]) (by simp [results, Tryz.results98, go_sem, s0]) rfl ?_
   exact ⟨B3, m3, d3, rfl, HF.out⟩
end
namespace Ch
def ch (z : Int) (k : Nat) : Nat := if z < 0 then 0 else Na.bin z.toNat k
theorem nt_ch (n u g o m : Nat) : Na.bin u g * (ch ((u : Int) - (g : Int)) o * (254 ^ o * (Na.bin (n - u) m * 255 ^ m))) = nt n u g o m := by
 unfold nt ch
 rcases Nat.lt_or_ge u g with h | h
 ·rw [Na.bin_more h]; simp
 ·rw [if_neg (by omega), show ((u : Int) - (g : Int)).toNat = u - g by omega]
  simp only [Nat.mul_assoc]
theorem ns_le_mul {f : Nat → Nat} {b : Nat} : ∀ n, (∀ i, i < n → f i ≤ b) → ns f n ≤ n * b
 | 0, _ => Nat.zero_le _
 | n + 1, h => by
  have h1 := ns_le_mul n fun i hi => h i (by omega)
  have h2 := h n (by omega)
  show ns f n + f n ≤ _
  rw [Nat.succ_mul]
  omega
theorem bin40 {n k : Nat} (h : n ≤ 40) : Na.bin n k ≤ 2 ^ 40 := Nat.le_trans (bin_two n k) (Nat.pow_le_pow_right (by omega) h)
theorem nt_two {n u g o m : Nat} (hn : n ≤ 40) (hu : u ≤ n) (ho : o ≤ 4) (hm : m ≤ 4) : nt n u g o m ≤ 2 ^ 190 := by
 unfold nt
 have h1 : Na.bin u g ≤ 2 ^ 40 := bin40 (by omega)
 have h2 : Na.bin (u - g) o ≤ 2 ^ 40 := bin40 (by omega)
 have h3 : 254 ^ o ≤ 254 ^ 4 := Nat.pow_le_pow_right (by omega) ho
 have h4 : Na.bin (n - u) m ≤ 2 ^ 40 := bin40 (by omega)
 have h5 : 255 ^ m ≤ 255 ^ 4 := Nat.pow_le_pow_right (by omega) hm
 exact Nat.le_trans (Nat.mul_le_mul (Nat.mul_le_mul (Nat.mul_le_mul (Nat.mul_le_mul h1 h2) h3) h4) h5) (by decide +kernel)
def na (n f u v g : Nat) : Nat := if u ≤ v + g then ns (fun o => nt n u g o (v + g - u)) (f + 1 - g - (v + g - u)) else 0
theorem nr_na (n f u v : Nat) : nr n f u v = ns (na n f u v) (f + 1) := rfl
theorem na_two {n f u v g : Nat} (hn : n ≤ 40) (hu : u ≤ n) (hf : f ≤ 4) : na n f u v g ≤ 5 * 2 ^ 190 := by
 unfold na
 split
 ·refine Nat.le_trans (ns_le_mul _ fun i hi => nt_two hn hu (by omega) (by omega)) (Nat.mul_le_mul_right _ (by omega))
 ·exact Nat.zero_le _
theorem ns_na_two {n f u v g : Nat} (hn : n ≤ 40) (hu : u ≤ n) (hf : f ≤ 4) (hg : g ≤ 5) : ns (na n f u v) g ≤ 25 * 2 ^ 190 := by
 refine Nat.le_trans (ns_le_mul g fun i hi => na_two hn hu hf) ?_
 have : g * (5 * 2 ^ 190) ≤ 5 * (5 * 2 ^ 190) := Nat.mul_le_mul_right _ hg
 omega
theorem nr_two {n f u v : Nat} (hn : n ≤ 40) (hu : u ≤ n) (hf : f ≤ 4) : nr n f u v ≤ 2 ^ 195 := by
 rw [nr_na]
 exact Nat.le_trans (ns_na_two hn hu hf (by omega)) (by decide +kernel)
end Ch
structure NrK (n f u v y k o : Nat) (X : Nat) : Prop where
 y4 : y ≤ 4
 o4 : o ≤ 4
 k4 : k ≤ 4
 b1 : Na.bin u y < Na.top
 b2 : Ch.ch ((u : Int) - (y : Int)) o < Na.top
 b3 : 254 ^ o < Na.top
 b4 : Na.bin (n - u) k < Na.top
 b5 : 255 ^ k < Na.top
 p2 : Na.bin u y * Ch.ch ((u : Int) - (y : Int)) o < Na.top
 p3 : Na.bin u y * (Ch.ch ((u : Int) - (y : Int)) o * 254 ^ o) < Na.top
 p4 : Na.bin u y * (Ch.ch ((u : Int) - (y : Int)) o * (254 ^ o * Na.bin (n - u) k)) < Na.top
 p5 : Na.bin u y * (Ch.ch ((u : Int) - (y : Int)) o * (254 ^ o * (Na.bin (n - u) k * 255 ^ k))) < Na.top
 xt : X < Na.top
 xs : X + Na.bin u y * (Ch.ch ((u : Int) - (y : Int)) o * (254 ^ o * (Na.bin (n - u) k * 255 ^ k))) < Na.top
 nx : Na.bin u y * (Ch.ch ((u : Int) - (y : Int)) o * (254 ^ o * (Na.bin (n - u) k * 255 ^ k))) = Ch.nt n u y o k
theorem NrK.of {n f u v y k o X : Nat} (hn : n ≤ 40) (hu : u ≤ n) (hf : f ≤ 4) (hs : y + k + o ≤ f) (hX : X ≤ 2 ^ 195) : NrK n f u v y k o X := by
 have e := Ch.nt_ch n u y o k
 have h0 : Ch.nt n u y o k ≤ 2 ^ 190 := Ch.nt_two hn hu (by omega) (by omega)
 have h1 : Na.bin u y ≤ 2 ^ 40 := Ch.bin40 (by omega)
 have h2 : Ch.ch ((u : Int) - (y : Int)) o ≤ 2 ^ 40 := by
  unfold Ch.ch
  split
  ·exact Nat.zero_le _
  ·exact Ch.bin40 (by omega)
 have h3 : 254 ^ o ≤ 254 ^ 4 := Nat.pow_le_pow_right (by omega) (by omega)
 have h4 : Na.bin (n - u) k ≤ 2 ^ 40 := Ch.bin40 (by omega)
 have h5 : 255 ^ k ≤ 255 ^ 4 := Nat.pow_le_pow_right (by omega) (by omega)
 have q2 := Nat.mul_le_mul h1 h2
 have q3 := Nat.mul_le_mul h1 (Nat.mul_le_mul h2 h3)
 have q4 := Nat.mul_le_mul h1 (Nat.mul_le_mul h2 (Nat.mul_le_mul h3 h4))
 have q5 := Nat.mul_le_mul h1 (Nat.mul_le_mul h2 (Nat.mul_le_mul h3 (Nat.mul_le_mul h4 h5)))
 have c0 : (2 : Nat) ^ 195 + 2 ^ 190 ≤ Ch.K410 := by decide +kernel
 refine ⟨by omega, by omega, by omega, ?_, ?_, ?_, ?_, ?_, ?_, ?_, ?_, ?_, ?_, ?_, e⟩
 ·exact Ch.two366 (Nat.le_trans h1 (by decide +kernel))
 ·exact Ch.two366 (Nat.le_trans h2 (by decide +kernel))
 ·exact Ch.two366 (Nat.le_trans h3 (by decide +kernel))
 ·exact Ch.two366 (Nat.le_trans h4 (by decide +kernel))
 ·exact Ch.two366 (Nat.le_trans h5 (by decide +kernel))
 ·exact Ch.two366 (Nat.le_trans q2 (by decide +kernel))
 ·exact Ch.two366 (Nat.le_trans q3 (by decide +kernel))
 ·exact Ch.two366 (Nat.le_trans q4 (by decide +kernel))
 ·exact Ch.two366 (Nat.le_trans q5 (by decide +kernel))
 ·exact Ch.two366 (by omega)
 ·rw [e]; exact Ch.two366 (by omega)
def RNa (w0 : World) (g : Option Nat) (M : List (Nat × Value)) (L : List Ob) (O1 : List Rw) (rb sb n f u v : Nat) (x : Value) (wr : World) : Prop :=
 ∃ (y : Nat) (P : Option Addr) (np cp : Nat), y ≤ f + 1 ∧ x = .int .i64 (y : Int) ∧
  Hid (Ow w0 wr g (M ++ [(rb, .slice none 0 0)]) (L ++ [⟨P, np, cp, nats (Na.dig (Ch.ns (Ch.na n f u v) y))⟩, ⟨none, 0, 0, nats (Na.dig 0)⟩]) (O1 ++ [Rw.pair sb 142 (.slice P np cp) (.slice none 0 0)]))
def RNb (w0 : World) (g : Option Nat) (M : List (Nat × Value)) (L : List Ob) (O1 : List Rw) (rb sb n f u y k X0 : Nat) (x : Value) (wr : World) : Prop :=
 ∃ (o : Nat) (P : Option Addr) (np cp : Nat), o ≤ f + 1 - y - k ∧ x = .int .i64 (o : Int) ∧
  Hid (Ow w0 wr g (M ++ [(rb, .slice none 0 0)]) (L ++ [⟨P, np, cp, nats (Na.dig (X0 + Ch.ns (fun o => Ch.nt n u y o k) o))⟩, ⟨none, 0, 0, nats (Na.dig 0)⟩]) (O1 ++ [Rw.pair sb 142 (.slice P np cp) (.slice none 0 0)]))
section
variable {w0 w w' : World} {g : Option Nat} {M M2 : List (Nat × Value)} {L : List Ob} {O : List Rw} {A A2 A3 A4 : Option Addr} {b n c m c2 n3 c3 n4 c4 x y d v f u o k X rb sb : Nat} {P B1 B2 B3 B4 B5 : Option Addr} {np cp m1 d1 m2 d2 m3 d3 m4 d4 m5 d5 : Nat} {O1 : List Rw}
theorem choL_int {z : Int} {k : Nat} (hz : z ≤ 4096) : choL z (k : Int) = Na.dig (Ch.ch z k) := by
 unfold choL Ch.ch
 rcases Int.lt_or_le z 0 with h | h
 ·rw [if_pos (.inl h), if_pos h, Na.dig_zero]
 ·rw [if_neg (show ¬ (z < 0 ∨ 4096 < z) by omega), if_neg (show ¬ z < 0 by omega)]
  rcases Int.lt_or_le z (k : Int) with h2 | h2
  ·rw [if_pos (show (k : Int) < 0 ∨ z < (k : Int) from .inr h2), Na.bin_more (by omega), Na.dig_zero]
  ·rw [if_neg (show ¬ ((k : Int) < 0 ∨ z < (k : Int)) by omega), show ((k : Int)).toNat = k by omega]
set_option maxHeartbeats 4000000 in
theorem c_chooseZ (h : Ow w0 w g M L O) (zi : Int) (k : Nat) (hz : zi ≤ 4096) :
  Calls Tryz.prog 149 #[.int .i64 zi, .int .i64 (k : Int)] w (GotU w0 g M L O (Na.dig (Ch.ch zi k))) := by
 have H0 := h.boxed (.slice none 0 0) 25
 try simp only [World.size_alloc] at H0
 try simp only [List.append_assoc] at H0
 try simp only [List.cons_append] at H0
 try simp only [List.nil_append] at H0
 have HC := Lib.hid (ag_cho H0 zi (k : Int))
 rw [choL_int hz] at HC
 obtain ⟨l0, hl0⟩ : ∃ z, Na.dig (Ch.ch zi k) = z := ⟨_, rfl⟩
 rw [hl0] at HC ⊢
 clear h H0 hl0 hz
 go_enter Tryz.func149, Tryz.ntmps149
 go_wp2_with fail
 refine HC.out.mono ?_
 rintro e w1 ⟨B1, m1, d1, rfl, G⟩
 have H := G.boxed (.slice B1 m1 d1) 25
 try simp only [List.append_assoc] at H
 try simp only [List.cons_append] at H
 try simp only [List.nil_append] at H
 clear HC G 
 have x0 := H.cell (M.length + 1) (by rw [get_r]; rfl)
 have r0 := H.cell (M.length + 0) (by rw [get_r]; rfl)
 have f0 := H.free (M.length + 0) (by rw [get_r]; rfl)
 have Z := H.setv (M.length + 0) (by rw [get_r]; rfl) (.slice B1 m1 d1)
 rw [set_r] at Z
 try simp only [List.set_cons_succ] at Z
 try simp only [List.set_cons_zero] at Z
 have s0 := Z.cell (M.length + 0) (by rw [get_r]; rfl)
 have HF := Lib.hid Z.fewM
 clear H Z
 go_wp2_with fail
 refine bodyPost_ret (v := .agg #[.slice B1 m1 d1]) (by simp [results, Tryz.results149, go_sem, s0]) rfl ?_
 exact ⟨B1, m1, d1, rfl, HF.out⟩
theorem Nums.five {L : List Ob} {A1 A2 A3 A4 A5 : Option Addr} {n1 c1 n2 c2 n3 c3 n4 c4 n5 c5 x1 x2 x3 x4 x5 t1 t2 t3 t4 t5 : Nat} (h1 : L[t1]? = some ⟨A1, n1, c1, nats (Na.dig x1)⟩) (h2 : L[t2]? = some ⟨A2, n2, c2, nats (Na.dig x2)⟩) (h3 : L[t3]? = some ⟨A3, n3, c3, nats (Na.dig x3)⟩) (h4 : L[t4]? = some ⟨A4, n4, c4, nats (Na.dig x4)⟩) (h5 : L[t5]? = some ⟨A5, n5, c5, nats (Na.dig x5)⟩) : Nums L [.slice A1 n1 c1, .slice A2 n2 c2, .slice A3 n3 c3, .slice A4 n4 c4, .slice A5 n5 c5] [x1, x2, x3, x4, x5] := fun k x hx => by
  match k, hx with
  | 0, hx => obtain rfl : x1 = x := by simpa using hx
             exact ⟨A1, n1, c1, t1, rfl, h1⟩
  | 1, hx => obtain rfl : x2 = x := by simpa using hx
             exact ⟨A2, n2, c2, t2, rfl, h2⟩
  | 2, hx => obtain rfl : x3 = x := by simpa using hx
             exact ⟨A3, n3, c3, t3, rfl, h3⟩
  | 3, hx => obtain rfl : x4 = x := by simpa using hx
             exact ⟨A4, n4, c4, t4, rfl, h4⟩
  | 4, hx => obtain rfl : x5 = x := by simpa using hx
             exact ⟨A5, n5, c5, t5, rfl, h5⟩
theorem c_times5 {vs : List Value} {a b d e q : Nat} (h : Ow w0 w g M L O) (i : Nat) (hi : L[i]? = some ⟨A, 5, 5, vs⟩) (hN : Nums L vs [a, b, d, e, q]) (ha : a < Na.top) (hb : b < Na.top) (hd : d < Na.top) (he : e < Na.top) (hq : q < Na.top) (h2 : a * b < Na.top) (h3 : a * (b * d) < Na.top) (h4 : a * (b * (d * e)) < Na.top) (h5 : a * (b * (d * (e * q))) < Na.top) :
  Calls Tryz.prog 119 #[.slice A 5 5] w (GotU w0 g M L O (Na.dig (a * (b * (d * (e * q)))))) := by
 have := c_times h i hi [a, b, d, e, q] rfl hN (fun x hx => by
  simp only [List.mem_cons, List.mem_nil_iff, or_false] at hx
  rcases hx with rfl | rfl | rfl | rfl | rfl <;> assumption) (fun k hk => by
  have hk' : k = 0 ∨ k = 1 ∨ k = 2 ∨ k = 3 ∨ k = 4 ∨ k = 5 := by omega
  have ht : 1 < Na.top := byte_top (by omega)
  rcases hk' with rfl | rfl | rfl | rfl | rfl | rfl
  ·exact ht
  ·show a * 1 < Na.top
   rwa [Nat.mul_one]
  ·show a * (b * 1) < Na.top
   rwa [Nat.mul_one]
  ·show a * (b * (d * 1)) < Na.top
   rwa [Nat.mul_one]
  ·show a * (b * (d * (e * 1))) < Na.top
   rwa [Nat.mul_one]
  ·show a * (b * (d * (e * (q * 1)))) < Na.top
   rwa [Nat.mul_one])
 rwa [show pr [a, b, d, e, q] = a * (b * (d * (e * q))) by show a * (b * (d * (e * (q * 1)))) = _; rw [Nat.mul_one]] at this
set_option maxHeartbeats 16000000 in
theorem c_near (h : Ow w0 w g M L O) (hc : Cv d m f n) (hu : u ≤ n) (hv : v ≤ n) :
  Calls Tryz.prog 120 #[.agg #[.int .i64 2, .int .i64 (d : Int), .int .i64 (m : Int), .int .i64 (f : Int)], .int .i64 (u : Int), .int .i64 (v : Int)] w (GotU w0 g M L O (Na.dig (Ch.nr n f u v))) := by
 have HK0 := Lib.hid hc
 have H0 := h.code d m f
 have hci : (O ++ [(⟨some ⟨w.heap.size, 0, none⟩, 4, 4, 57, (cdv d m f).toList⟩ : Rw)])[O.length + 0]? = some ⟨some ⟨w.heap.size, 0, none⟩, 4, 4, 57, (cdv d m f).toList⟩ := by rw [get_r]; rfl
 obtain ⟨O1, hO1⟩ : ∃ O1, O ++ [(⟨some ⟨w.heap.size, 0, none⟩, 4, 4, 57, (cdv d m f).toList⟩ : Rw)] = O1 := ⟨_, rfl⟩
 rw [hO1] at H0 hci
 have HCI := Lib.hid hci
 have H1 := (((H0.boxed (.slice none 0 0) 25).pair (.slice none 0 0) (.slice none 0 0) 142).nil').nil'
 try simp only [World.size_alloc] at H1
 try simp only [List.append_assoc] at H1
 try simp only [List.cons_append] at H1
 try simp only [List.nil_append] at H1
 obtain ⟨k0, k1, k2, k3⟩ := H1.cdc (O.length + 0) ((get_l _ _ (get_lt HCI.out)).trans HCI.out)
 have HO := Lib.hid H1
 have hf4 : f ≤ 4 := hc.f4
 have hni := hc.ni
 have hn40 := hc.n40
 have hun : u ≤ 40 := by omega
 have hvn : v ≤ 40 := by omega
 have HU := Lib.hid hu
 have HO1 := Lib.hid hO1
 clear h H0 H1 hci hO1 hu hv hc
 go_enter Tryz.func120, Tryz.ntmps120
 go_wp2_with fail
 clear k0 k1 k2 k3
 go_loopw [9] (fun x wr => RNa w0 g M L O1 (w.heap.size + 1) (w.heap.size + 1 + 1) n f u v x wr) (fun x _ => 6 - (intOf x).toNat)
 case atStart => exact ⟨0, none, 0, 0, Nat.zero_le _, rfl, HO.out⟩
 case round =>
  clear HO
  obtain ⟨y, P, np, cp, hy, rfl, HO⟩ := hrel
  obtain ⟨k0, k1, k2, k3⟩ := HO.out.cdc (O.length + 0) ((get_l _ _ (get_lt HCI.out)).trans HCI.out)
  rcases Nat.lt_or_ge f y with hge | hlt
  ·have hd : decide ((y : Int) ≤ (f : Int)) = false := decide_eq_false (by omega)
   have hd2 : decide (y ≤ f) = false := decide_eq_false (by omega)
   obtain rfl : y = f + 1 := by omega
   rw [← Ch.nr_na] at HO
   have HT : Hid (Ch.nr n f u v < Na.top) := Ch.two366 (Nat.le_trans (Ch.nr_two hn40 HU.out hf4) (by decide +kernel))
   have HC := Lib.hid (c_sval HO.out (L.length + 0) (L.length + 1) (by rw [get_r]; rfl) (by rw [get_r]; rfl) HT.out (Nat.zero_le _))
   rw [Nat.sub_zero] at HC
   clear HO
   go_wp2_with fail
   refine HC.out.mono ?_
   rintro e3 w3 ⟨B3, m3, d3, rfl, G4⟩
   have r0 := G4.cell (M.length + 0) (by rw [get_r]; rfl)
   have f0 := G4.free (M.length + 0) (by rw [get_r]; rfl)
   have Z := G4.setv (M.length + 0) (by rw [get_r]; rfl) (.slice B3 m3 d3)
   rw [set_r] at Z
   try simp only [List.set_cons_zero] at Z
   have s0 := Z.cell (M.length + 0) (by rw [get_r]; rfl)
   try simp only [List.append_assoc] at Z
   try simp only [List.cons_append] at Z
   try simp only [List.nil_append] at Z
   have Z2 := Z.fewM.fewO
   rw [← HO1.out] at Z2
   have HF := Lib.hid (Z2.fewO.less (L' := L ++ [⟨B3, m3, d3, nats (Na.dig (Ch.nr n f u v))⟩]) (fun o ho => by
    rcases List.mem_append.1 ho with h | h
    ·exact List.mem_append_left _ h
    ·rw [List.mem_singleton] at h
     subst h
     exact List.mem_append_right _ (List.mem_of_getElem? (i := 2) rfl)))
   clear HC G4 Z Z2 k0 k1 k2 k3
   go_wp2_with fail
   refine bodyPost_ret (v := .agg #[.slice B3 m3 d3]) (by simp [results, Tryz.results120, go_sem, s0]) rfl ?_
   exact ⟨B3, m3, d3, rfl, HF.out⟩
  ·have hd : decide ((y : Int) ≤ (f : Int)) = true := decide_eq_true (by omega)
   have hd2 : decide (y ≤ f) = true := decide_eq_true (by omega)
   have hy4 : y ≤ 4 := by omega
   have hX0 : Hid (Ch.ns (Ch.na n f u v) y ≤ 25 * 2 ^ 190) := Ch.ns_na_two hn40 HU.out hf4 (by omega)
   have g1 : IntKind.i64.wrap ((v : Int) - (u : Int)) = (v : Int) - (u : Int) := IntWalk.i64_in _ (by omega)
   have g2 : IntKind.i64.wrap ((v : Int) - (u : Int) + (y : Int)) = (v : Int) - (u : Int) + (y : Int) := IntWalk.i64_in _ (by omega)
   rcases Nat.lt_or_ge (v + y) u with hneg | hpos
   ·have hd3 : decide ((v : Int) - (u : Int) + (y : Int) < 0) = true := decide_eq_true (by omega)
    have HN : Hid (Ch.ns (Ch.na n f u v) (y + 1) = Ch.ns (Ch.na n f u v) y) := by
     show Ch.ns (Ch.na n f u v) y + Ch.na n f u v y = _
     unfold Ch.na
     rw [if_neg (by omega), Nat.add_zero]
    clear hneg
    go_wp2_with fail
    go_roundw
    case rel => exact ⟨y + 1, P, np, cp, by omega, by go_num, by rw [HN.out]; exact HO⟩
    case measure => simp [intOf]; omega
   ·obtain ⟨k, hk⟩ : ∃ k, v + y - u = k := ⟨_, rfl⟩
    have hki : (v : Int) - (u : Int) + (y : Int) = (k : Int) := by omega
    have hd3 : decide ((k : Int) < 0) = false := decide_eq_false (by omega)
    have HN : Hid (Ch.ns (Ch.na n f u v) (y + 1) = Ch.ns (Ch.na n f u v) y + Ch.ns (fun o => Ch.nt n u y o k) (f + 1 - y - k)) := by
     show Ch.ns (Ch.na n f u v) y + Ch.na n f u v y = _
     conv => lhs; rhs; unfold Ch.na
     rw [if_pos (by omega), hk]
    obtain ⟨X0, hX⟩ : ∃ x, Ch.ns (Ch.na n f u v) y = x := ⟨_, rfl⟩
    rw [hX] at HO HN hX0
    have hk80 : k ≤ 80 := by omega
    clear hk hX hpos
    go_wp2_with fail
    clear g1 g2
    go_loopw [11] (fun x wr => RNb w0 g M L O1 (w.heap.size + 1) (w.heap.size + 1 + 1) n f u y k X0 x wr) (fun x _ => 6 - (intOf x).toNat)
    case atStart => exact ⟨0, P, np, cp, Nat.zero_le _, rfl, HO.out⟩
    case round =>
     clear HO
     obtain ⟨o, P, np, cp, ho, rfl, HO⟩ := hrel
     obtain ⟨k0, k1, k2, k3⟩ := HO.out.cdc (O.length + 0) ((get_l _ _ (get_lt HCI.out)).trans HCI.out)
     have g3 : IntKind.i64.wrap ((y : Int) + (k : Int)) = (y : Int) + (k : Int) := IntWalk.i64_in _ (by omega)
     have g4 : IntKind.i64.wrap ((y : Int) + (k : Int) + (o : Int)) = (y : Int) + (k : Int) + (o : Int) := IntWalk.i64_in _ (by omega)
     rcases Nat.lt_or_ge f (y + k + o) with hout | hin
     ·have hd5 : decide ((y : Int) + (k : Int) + (o : Int) ≤ (f : Int)) = false := decide_eq_false (by omega)
      have hd6 : decide (y + k + o ≤ f) = false := decide_eq_false (by omega)
      have HE : Hid (o = f + 1 - y - k) := by unfold Hid; omega
      clear hout
      go_wp2_with fail
      go_roundw
      case rel => exact ⟨y + 1, P, np, cp, by omega, by go_num, by rw [HN.out, ← HE.out]; exact HO⟩
      case measure => simp [intOf]; omega
     ·have hd5 : decide ((y : Int) + (k : Int) + (o : Int) ≤ (f : Int)) = true := decide_eq_true (by omega)
      have hd6 : decide (y + k + o ≤ f) = true := decide_eq_true (by omega)
      obtain ⟨X, hX⟩ : ∃ x, X0 + Ch.ns (fun o => Ch.nt n u y o k) o = x := ⟨_, rfl⟩
      have hXb : X ≤ 2 ^ 195 := by
       have h1 : Ch.ns (fun o => Ch.nt n u y o k) o ≤ o * 2 ^ 190 := Ch.ns_le_mul _ fun i hi => Ch.nt_two hn40 HU.out (by omega) (by omega)
       have h2 : o * 2 ^ 190 ≤ 5 * 2 ^ 190 := Nat.mul_le_mul_right _ (by omega)
       have h3 := hX0.out
       have h4 : 25 * 2 ^ 190 + 5 * 2 ^ 190 ≤ 2 ^ 195 := by decide +kernel
       omega
      have HB : Hid (NrK n f u v y k o X) := NrK.of hn40 HU.out hf4 hin hXb
      have HS : Hid (X0 + Ch.ns (fun o => Ch.nt n u y o k) (o + 1) = X + Ch.nt n u y o k) := by
       show X0 + (Ch.ns (fun o => Ch.nt n u y o k) o + Ch.nt n u y o k) = _
       rw [← Nat.add_assoc, hX]
      rw [hX] at HO
      have HNU : Hid ((n : Int) - (u : Int) = ((n - u : Nat) : Int) ∧ n - u ≤ 40) := ⟨by have := HU.out; omega, by omega⟩
      have hki4 : k ≤ 4 := by omega
      have hoi4 : o ≤ 4 := by omega
      have HC1 := Lib.hid (c_choose HO.out u y (by omega))
      have g5 : IntKind.i64.wrap ((u : Int) - (y : Int)) = (u : Int) - (y : Int) := IntWalk.i64_in _ (by omega)
      have g6 : IntKind.i64.wrap ((n : Int) - (u : Int)) = ((n - u : Nat) : Int) := by rw [HNU.out.1]; exact IntWalk.i64_in _ (by have := HNU.out.2; omega)
      have HLe : Hid (o + 1 ≤ f + 1 - y - k) := by unfold Hid; omega
      clear hX hXb hin ho
      go_wp2_with fail
      refine HC1.out.mono ?_
      rintro e1 w1 ⟨B1, m1, d1, rfl, G1⟩
      have HC2 := Lib.hid (c_chooseZ G1 ((u : Int) - (y : Int)) o (by omega))
      clear HC1 G1
      go_wp2_with fail
      refine HC2.out.mono ?_
      rintro e2 w2 ⟨B2, m2, d2, rfl, G2⟩
      have HC3 := Lib.hid (c_power G2 254 o (by omega) (by omega))
      clear HC2 G2
      go_wp2_with fail
      refine HC3.out.mono ?_
      rintro e3 w3 ⟨B3, m3, d3, rfl, G3⟩
      have HC4 := Lib.hid (c_choose G3 (n - u) k (by have := HNU.out.2; omega))
      clear HC3 G3
      go_wp2_with fail
      refine HC4.out.mono ?_
      rintro e4 w4 ⟨B4, m4, d4, rfl, G4⟩
      have HC5 := Lib.hid (c_power G4 255 k (by omega) (by omega))
      clear HC4 G4
      go_wp2_with fail
      refine HC5.out.mono ?_
      rintro e5 w5 ⟨B5, m5, d5, rfl, G5⟩
      have G6 := G5.push (World.ownsRow_lit (base := w5.heap.size) (e := 25) (size := 1) w5 #[.slice B1 m1 d1, .slice B2 m2 d2, .slice B3 m3 d3, .slice B4 m4 d4, .slice B5 m5 d5] 5 (Nat.le_refl _) (by decide) rfl) (by omega) (own_box1 _ _)
      try simp only [List.append_assoc] at G6
      try simp only [List.cons_append] at G6
      try simp only [List.nil_append] at G6
      have HC6 := Lib.hid (c_times5 G6 (L.length + 7) (by rw [get_r]; rfl) (Nums.five (t1 := L.length + 2) (t2 := L.length + 3) (t3 := L.length + 4) (t4 := L.length + 5) (t5 := L.length + 6) (by rw [get_r]; rfl) (by rw [get_r]; rfl) (by rw [get_r]; rfl) (by rw [get_r]; rfl) (by rw [get_r]; rfl)) HB.out.b1 HB.out.b2 HB.out.b3 HB.out.b4 HB.out.b5 HB.out.p2 HB.out.p3 HB.out.p4 HB.out.p5)
      clear HC5 G5 G6
      go_wp2_with fail
      refine HC6.out.mono ?_
      rintro e6 w6 ⟨B6, m6, d6, rfl, G7⟩
      try simp only [List.append_assoc] at G7
      try simp only [List.cons_append] at G7
      try simp only [List.nil_append] at G7
      have HC7 := Lib.hid (c_sadd G7 (L.length + 8) (L.length + 0) (by rw [get_r]; rfl) (by rw [get_r]; rfl) HB.out.xt HB.out.p5 HB.out.xs)
      clear HC6 G7
      go_wp2_with fail
      refine HC7.out.mono ?_
      rintro e7 w7 ⟨P', np', cp', rfl, G8⟩
      have HG : Hid (Ow w0 w7 g (M ++ [(w.heap.size + 1, .slice none 0 0)]) (L ++ [⟨P', np', cp', nats (Na.dig (X0 + Ch.ns (fun o => Ch.nt n u y o k) (o + 1)))⟩, ⟨none, 0, 0, nats (Na.dig 0)⟩]) (O1 ++ [Rw.pair (w.heap.size + 1 + 1) 142 (.slice P' np' cp') (.slice none 0 0)])) := by
       unfold Hid
       rw [HS.out, ← HB.out.nx]
       refine G8.less (fun ob ho => ?_)
       rcases List.mem_append.1 ho with h | h
       ·exact List.mem_append_left _ (List.mem_append_left _ h)
       ·simp only [List.mem_cons, List.mem_nil_iff, or_false] at h
        rcases h with rfl | rfl
        ·exact List.mem_append_right _ List.mem_cons_self
        ·exact List.mem_append_left _ (List.mem_append_right _ (List.mem_cons_of_mem _ List.mem_cons_self))
      clear HC7 G8 k0 k1 k2 k3 g3 g4 g5 g6
      go_wp2_with fail
      go_roundw
      case rel => exact ⟨o + 1, P', np', cp', HLe.out, by go_num, HG⟩
      case measure => simp [intOf]; omega
end
end Go.Proofs.YtenokdhldngkgaaGreatDoor

/- Qx Qyz Da Db Dd Df Gf Sa Poly PolyH FieldA PolyB BackB PolyE -/
import Derived.Test.YtenokdhldngkgaaGreatDoorE01
import Derived.Test.YtenokdhldngkgaaGreatDoorE11
import Derived.Test.YtenokdhldngkgaaGreatDoorChecked
import Derived.WalkKit
import Derived.WalkLawsBesides
import Derived.WalkSpells
import Derived.Lib.Hide
import Derived.Laws.BitsAllLaws
import Derived.StillTailTactics
import Derived.RangeFuncNested
import Derived.RangeFuncBound
import Derived.RangeFuncCalls
import Derived.RangeFuncLeaves
import Derived.RangeFuncBox
import Derived.RangeFuncWrites
import Derived.Shelf.Abstract
import Derived.Shelf.RegionOpen
import Derived.OwnWalkIn
import Derived.TacticsInMore
import Derived.LoopNIn
import Derived.LoopIn
namespace Go.Proofs.YtenokdhldngkgaaGreatDoor
open Go.RowKit Go.Sort
set_option linter.unusedVariables false
set_option maxRecDepth 100000
structure FrK (x y : Nat) : Prop where
 px : x < Na.top
 py : y < Na.top
 pos : 0 < y
 g : Nat.gcd x y = 1
theorem FrK.rv {x y : Nat} (h : FrK x y) : rv (Na.up (Na.dig x)) (Na.up (Na.dig y)) = true := rv_low h.px h.py h.pos h.g
theorem FrK.of {x y : Nat} (hx : x < Na.top) (hy : y < Na.top) (h0 : 0 < y) : ∃ n d, frM x y = (n, d, 0) ∧ FrK n d ∧ n * y = x * d ∧ n ≤ x ∧ d ≤ y := by
 obtain ⟨n, d, h1, h2, h3, h4, h5, h6⟩ := frM_spec (x := x) h0
 exact ⟨n, d, h1, ⟨by omega, by omega, h2, h3⟩, h4, h5, h6⟩
section
variable {w0 w w' : World} {g : Option Nat} {M M2 : List (Nat × Value)} {L : List Ob} {O : List Rw} {A A2 A3 A4 : Option Addr} {b n c m c2 n3 c3 n4 c4 x y : Nat} {p q r s : List Int}
theorem qmake_fr {x y : Nat} {t : Nat × Nat × Int} (h : Ow w0 w g M L O) (i j : Nat) (hi : L[i]? = some ⟨A, n, c, nats (Na.dig x)⟩) (hj : L[j]? = some ⟨A2, m, c2, nats (Na.dig y)⟩) (ht : Tab w0) (hx : x < Na.top) (hy : y < Na.top) (e : frM x y = t) :
  Calls Tryz.prog 99 #[.agg #[.slice A n c], .agg #[.slice A2 m c2]] w (GotF w0 g M L O t) := by
 have := qmake_ow (p := Na.up (Na.dig x)) (q := Na.up (Na.dig y)) h i j (by rw [nats_up]; exact hi) (by rw [nats_up]; exact hj) ht
 unfold makeF at this
 rw [Na.vld_dig hx, Na.vld_dig hy, num_dig, num_dig, e] at this
 exact this
end
theorem nrmul_fr {w0 w : World} {g : Option Nat} {M : List (Nat × Value)} {L : List Ob} {O : List Rw} {A A2 : Option Addr} {n c m c2 x y : Nat} (h : Ow w0 w g M L O) (i j : Nat) (hi : L[i]? = some ⟨A, n, c, nats (Na.dig x)⟩) (hj : L[j]? = some ⟨A2, m, c2, nats (Na.dig y)⟩) (hx : x < Na.top) (hy : y < Na.top) :
  Calls Tryz.prog 50 #[.agg #[.slice A n c], .agg #[.slice A2 m c2]] w (GotO w0 g M L O (resL (x * y)) (resE (x * y))) := by
 have := ag_rmul (zs := Na.up (Na.dig x)) (ys := Na.up (Na.dig y)) h i j (by rw [nats_up]; exact hi) (by rw [nats_up]; exact hj)
 rwa [(mul_ok hx hy).1, (mul_ok hx hy).2] at this
theorem nradd_fr {w0 w : World} {g : Option Nat} {M : List (Nat × Value)} {L : List Ob} {O : List Rw} {A A2 : Option Addr} {n c m c2 x y : Nat} (h : Ow w0 w g M L O) (i j : Nat) (hi : L[i]? = some ⟨A, n, c, nats (Na.dig x)⟩) (hj : L[j]? = some ⟨A2, m, c2, nats (Na.dig y)⟩) (hx : x < Na.top) (hy : y < Na.top) :
  Calls Tryz.prog 143 #[.agg #[.slice A n c], .agg #[.slice A2 m c2]] w (GotO w0 g M L O (resL (x + y)) (resE (x + y))) := by
 have := ag_radd (zs := Na.up (Na.dig x)) (ys := Na.up (Na.dig y)) h i j (by rw [nats_up]; exact hi) (by rw [nats_up]; exact hj)
 unfold addL addE at this
 rw [Na.vld_dig hx, Na.vld_dig hy, num_dig, num_dig] at this
 exact this
theorem qrmake_fr {w0 w : World} {g : Option Nat} {M : List (Nat × Value)} {L : List Ob} {O : List Rw} {A A2 : Option Addr} {n c m c2 x y : Nat} {t : Nat × Nat × Int} (h : Ow w0 w g M L O) (i j : Nat) (hi : L[i]? = some ⟨A, n, c, nats (Na.dig x)⟩) (hj : L[j]? = some ⟨A2, m, c2, nats (Na.dig y)⟩) (hx : x < Na.top) (hy : y < Na.top) (e : frM x y = t) :
  Calls Tryz.prog 48 #[.agg #[.slice A n c], .agg #[.slice A2 m c2]] w (GotF w0 g M L O t) := by
 have := qrmake_ow (p := Na.up (Na.dig x)) (q := Na.up (Na.dig y)) h i j (by rw [nats_up]; exact hi) (by rw [nats_up]; exact hj)
 unfold makeF at this
 rw [Na.vld_dig hx, Na.vld_dig hy, num_dig, num_dig, e] at this
 exact this
section
variable {w0 w w' : World} {g : Option Nat} {M M2 : List (Nat × Value)} {L : List Ob} {O : List Rw} {A A2 A3 A4 : Option Addr} {b n c m c2 n3 c3 n4 c4 x y : Nat} {p q r s : List Int}
theorem Ow.apart {M : List (Nat × Value)} (h : Ow w0 w g M L O) (i j : Nat) {b c : Nat} {u v : Value} (hi : M[i]? = some (b, u)) (hj : M[j]? = some (c, v)) (hij : i ≠ j) : b ≠ c := by
 rintro rfl
 exact hij (h.st.one i j b u v hi hj)
end
section
variable {w0 w w' : World} {g : Option Nat} {M M2 : List (Nat × Value)} {L : List Ob} {O : List Rw} {A A2 A3 A4 : Option Addr} {b n c m c2 n3 c3 n4 c4 x y : Nat} {p q r s : List Int}
end
def GotU (w0 : World) (g : Option Nat) (M : List (Nat × Value)) (L : List Ob) (O : List Rw) (l : List Nat) (en : Ending) (w' : World) : Prop :=
 ∃ (A1 : Option Addr) (n1 c1 : Nat), en = .returned (.agg #[.slice A1 n1 c1]) ∧ Ow w0 w' g M (L ++ [⟨A1, n1, c1, nats l⟩]) O
theorem ofL_nat (k : Nat) : ofL (k : Int) = Na.dig k := by unfold ofL; rw [if_neg (by omega)]; rfl
theorem ofE_nat (k : Nat) : ofE (k : Int) = 0 := by unfold ofE; rw [if_neg (by omega)]
theorem powL_nat {x k : Nat} (hk : k ≤ 4800) (h : x ^ k < Na.top) : powL x (k : Int) = Na.dig (x ^ k) := by
 unfold powL
 rw [if_neg (by omega), show ((k : Int)).toNat = k by omega]
 exact resL_ok h
theorem powE_nat {x k : Nat} (hk : k ≤ 4800) (h : x ^ k < Na.top) : powE x (k : Int) = 0 := by
 unfold powE
 rw [if_neg (by omega), show ((k : Int)).toNat = k by omega]
 exact resE_ok h
theorem choL_nat {m k : Nat} (hm : m ≤ 4096) : choL (m : Int) (k : Int) = Na.dig (Na.bin m k) := by
 unfold choL
 rw [if_neg (by omega)]
 rcases Nat.lt_or_ge m k with h | h
 ·rw [if_pos (by omega), Na.bin_more h, Na.dig_zero]
 ·rw [if_neg (by omega), show ((m : Int)).toNat = m by omega, show ((k : Int)).toNat = k by omega]
theorem choE_nat {m k : Nat} (hm : m ≤ 4096) : choE (m : Int) (k : Int) = 0 := by
 unfold choE
 rw [if_neg (by omega)]
section
variable {w0 w w' : World} {g : Option Nat} {M M2 : List (Nat × Value)} {L : List Ob} {O : List Rw} {A A2 A3 A4 : Option Addr} {b n c m c2 n3 c3 n4 c4 x y : Nat} {p q r s : List Int}
theorem nadd_fr (h : Ow w0 w g M L O) (i j : Nat) (hi : L[i]? = some ⟨A, n, c, nats (Na.dig x)⟩) (hj : L[j]? = some ⟨A2, m, c2, nats (Na.dig y)⟩) (hx : x < Na.top) (hy : y < Na.top) :
  Calls Tryz.prog 162 #[.agg #[.slice A n c], .agg #[.slice A2 m c2]] w (GotO w0 g M L O (resL (x + y)) (resE (x + y))) := by
 have := ag_add (zs := Na.up (Na.dig x)) (ys := Na.up (Na.dig y)) h i j (by rw [nats_up]; exact hi) (by rw [nats_up]; exact hj)
 unfold addL addE at this
 rw [Na.vld_dig hx, Na.vld_dig hy, num_dig, num_dig] at this
 exact this
theorem nmul_fr2 (h : Ow w0 w g M L O) (i j : Nat) (hi : L[i]? = some ⟨A, n, c, nats (Na.dig x)⟩) (hj : L[j]? = some ⟨A2, m, c2, nats (Na.dig y)⟩) (hx : x < Na.top) (hy : y < Na.top) :
  Calls Tryz.prog 139 #[.agg #[.slice A n c], .agg #[.slice A2 m c2]] w (GotO w0 g M L O (resL (x * y)) (resE (x * y))) := by
 have := ag_mul (zs := Na.up (Na.dig x)) (ys := Na.up (Na.dig y)) h i j (by rw [nats_up]; exact hi) (by rw [nats_up]; exact hj)
 rwa [(mul_ok hx hy).1, (mul_ok hx hy).2] at this
set_option maxHeartbeats 4000000 in
theorem c_number (h : Ow w0 w g M L O) (k : Nat) (hk : k ≤ 9223372036854775807) :
  Calls Tryz.prog 147 #[.int .i64 (k : Int)] w (GotU w0 g M L O (Na.dig k)) := by
 have H0 := h.boxed (.slice none 0 0) 25
 try simp only [World.size_alloc] at H0
 try simp only [List.append_assoc] at H0
 try simp only [List.cons_append] at H0
 try simp only [List.nil_append] at H0
 have HC := Lib.hid (ag_of H0 (k : Int) (by omega))
 rw [ofL_nat, ofE_nat] at HC
 obtain ⟨l0, hl0⟩ : ∃ z, Na.dig k = z := ⟨_, rfl⟩
 rw [hl0] at HC ⊢
 clear h H0 hl0 hk
 go_enter Tryz.func147, Tryz.ntmps147
 go_wp2_with fail
 refine HC.out.mono ?_
 rintro e w1 ⟨B1, m1, d1, rfl, G⟩
 have H := G.boxed (.slice B1 m1 d1) 25
 try simp only [List.append_assoc] at H
 try simp only [List.cons_append] at H
 try simp only [List.nil_append] at H
 clear HC G 
 have x0 := H.cell (M.length + 1) (by rw [get_r]; rfl)
 have r0 := H.cell (M.length + 0) (by rw [get_r]; rfl)
 have f0 := H.free (M.length + 0) (by rw [get_r]; rfl)
 have Z := H.setv (M.length + 0) (by rw [get_r]; rfl) (.slice B1 m1 d1)
 rw [set_r] at Z
 try simp only [List.set_cons_succ] at Z
 try simp only [List.set_cons_zero] at Z
 have s0 := Z.cell (M.length + 0) (by rw [get_r]; rfl)
 have HF := Lib.hid Z.fewM
 clear H Z
 go_wp2_with fail
 refine bodyPost_ret (v := .agg #[.slice B1 m1 d1]) (by simp [results, Tryz.results147, go_sem, s0]) rfl ?_
 exact ⟨B1, m1, d1, rfl, HF.out⟩
set_option maxHeartbeats 4000000 in
theorem c_choose (h : Ow w0 w g M L O) (m k : Nat) (hm : m ≤ 4096) :
  Calls Tryz.prog 149 #[.int .i64 (m : Int), .int .i64 (k : Int)] w (GotU w0 g M L O (Na.dig (Na.bin m k))) := by
 have H0 := h.boxed (.slice none 0 0) 25
 try simp only [World.size_alloc] at H0
 try simp only [List.append_assoc] at H0
 try simp only [List.cons_append] at H0
 try simp only [List.nil_append] at H0
 have HC := Lib.hid (ag_cho H0 (m : Int) (k : Int))
 rw [choL_nat hm, choE_nat hm] at HC
 obtain ⟨l0, hl0⟩ : ∃ z, Na.dig (Na.bin m k) = z := ⟨_, rfl⟩
 rw [hl0] at HC ⊢
 clear h H0 hl0 hm
 go_enter Tryz.func149, Tryz.ntmps149
 go_wp2_with fail
 refine HC.out.mono ?_
 rintro e w1 ⟨B1, m1, d1, rfl, G⟩
 have H := G.boxed (.slice B1 m1 d1) 25
 try simp only [List.append_assoc] at H
 try simp only [List.cons_append] at H
 try simp only [List.nil_append] at H
 clear HC G 
 have x0 := H.cell (M.length + 1) (by rw [get_r]; rfl)
 have r0 := H.cell (M.length + 0) (by rw [get_r]; rfl)
 have f0 := H.free (M.length + 0) (by rw [get_r]; rfl)
 have Z := H.setv (M.length + 0) (by rw [get_r]; rfl) (.slice B1 m1 d1)
 rw [set_r] at Z
 try simp only [List.set_cons_succ] at Z
 try simp only [List.set_cons_zero] at Z
 have s0 := Z.cell (M.length + 0) (by rw [get_r]; rfl)
 have HF := Lib.hid Z.fewM
 clear H Z
 go_wp2_with fail
 refine bodyPost_ret (v := .agg #[.slice B1 m1 d1]) (by simp [results, Tryz.results149, go_sem, s0]) rfl ?_
 exact ⟨B1, m1, d1, rfl, HF.out⟩
set_option maxHeartbeats 4000000 in
theorem r8_choose (h : Ow w0 w g M L O) (m k : Nat) (hm : m ≤ 4096) :
  Calls Tryz.prog 115 #[.int .i64 (m : Int), .int .i64 (k : Int)] w (GotU w0 g M L O (Na.dig (Na.bin m k))) := by
 have H0 := h.boxed (.slice none 0 0) 25
 try simp only [World.size_alloc] at H0
 try simp only [List.append_assoc] at H0
 try simp only [List.cons_append] at H0
 try simp only [List.nil_append] at H0
 have HC := Lib.hid (ag_rcho H0 (m : Int) (k : Int))
 rw [choL_nat hm, choE_nat hm] at HC
 obtain ⟨l0, hl0⟩ : ∃ z, Na.dig (Na.bin m k) = z := ⟨_, rfl⟩
 rw [hl0] at HC ⊢
 clear h H0 hl0 hm
 go_enter Tryz.func115, Tryz.ntmps115
 go_wp2_with fail
 refine HC.out.mono ?_
 rintro e w1 ⟨B1, m1, d1, rfl, G⟩
 have H := G.boxed (.slice B1 m1 d1) 25
 try simp only [List.append_assoc] at H
 try simp only [List.cons_append] at H
 try simp only [List.nil_append] at H
 clear HC G 
 have x0 := H.cell (M.length + 1) (by rw [get_r]; rfl)
 have r0 := H.cell (M.length + 0) (by rw [get_r]; rfl)
 have f0 := H.free (M.length + 0) (by rw [get_r]; rfl)
 have Z := H.setv (M.length + 0) (by rw [get_r]; rfl) (.slice B1 m1 d1)
 rw [set_r] at Z
 try simp only [List.set_cons_succ] at Z
 try simp only [List.set_cons_zero] at Z
 have s0 := Z.cell (M.length + 0) (by rw [get_r]; rfl)
 have HF := Lib.hid Z.fewM
 clear H Z
 go_wp2_with fail
 refine bodyPost_ret (v := .agg #[.slice B1 m1 d1]) (by simp [results, Tryz.results115, go_sem, s0]) rfl ?_
 exact ⟨B1, m1, d1, rfl, HF.out⟩
set_option maxHeartbeats 4000000 in
theorem r8_add (h : Ow w0 w g M L O) (i j : Nat) (hi : L[i]? = some ⟨A, n, c, nats (Na.dig x)⟩) (hj : L[j]? = some ⟨A2, m, c2, nats (Na.dig y)⟩) (hx : x < Na.top) (hy : y < Na.top) (hs : x + y < Na.top) :
  Calls Tryz.prog 117 #[.agg #[.slice A n c], .agg #[.slice A2 m c2]] w (GotU w0 g M L O (Na.dig (x + y))) := by
 have H0 := ((h.boxed (.slice A n c) 25).boxed (.slice A2 m c2) 25).boxed (.slice none 0 0) 25
 try simp only [World.size_alloc] at H0
 try simp only [List.append_assoc] at H0
 try simp only [List.cons_append] at H0
 try simp only [List.nil_append] at H0
 have k0 := H0.cell (M.length + 0) (by rw [get_r]; rfl)
 have k1 := H0.cell (M.length + 1) (by rw [get_r]; rfl)
 have HC := Lib.hid (nradd_fr H0 i j hi hj hx hy)
 rw [resL_ok hs, resE_ok hs] at HC
 obtain ⟨l0, hl0⟩ : ∃ z, Na.dig (x + y) = z := ⟨_, rfl⟩
 rw [hl0] at HC ⊢
 clear h H0 hl0 hi hj hx hy hs
 go_enter Tryz.func117, Tryz.ntmps117
 go_wp2_with fail
 refine HC.out.mono ?_
 rintro e w1 ⟨B1, m1, d1, rfl, G⟩
 have H := G.boxed (.slice B1 m1 d1) 25
 try simp only [List.append_assoc] at H
 try simp only [List.cons_append] at H
 try simp only [List.nil_append] at H
 clear HC G k0 k1
 have x0 := H.cell (M.length + 3) (by rw [get_r]; rfl)
 have r0 := H.cell (M.length + 2) (by rw [get_r]; rfl)
 have f0 := H.free (M.length + 2) (by rw [get_r]; rfl)
 have Z := H.setv (M.length + 2) (by rw [get_r]; rfl) (.slice B1 m1 d1)
 rw [set_r] at Z
 try simp only [List.set_cons_succ] at Z
 try simp only [List.set_cons_zero] at Z
 have s0 := Z.cell (M.length + 2) (by rw [get_r]; rfl)
 have HF := Lib.hid Z.fewM
 clear H Z
 go_wp2_with fail
 refine bodyPost_ret (v := .agg #[.slice B1 m1 d1]) (by simp [results, Tryz.results117, go_sem, s0]) rfl ?_
 exact ⟨B1, m1, d1, rfl, HF.out⟩
end
def pr : List Nat → Nat
 | [] => 1
 | x :: xs => x * pr xs
theorem pr_append (a b : List Nat) : pr (a ++ b) = pr a * pr b := by
 induction a with
 | nil => exact (Nat.one_mul _).symm
 | cons x a ih => show x * pr (a ++ b) = x * pr a * pr b; rw [ih, Nat.mul_assoc]
theorem pr_take {xs : List Nat} {k x : Nat} (h : xs[k]? = some x) : pr (xs.take (k + 1)) = pr (xs.take k) * x := by
 rw [List.take_add_one, h, pr_append]
 show pr (xs.take k) * (x * 1) = _
 rw [Nat.mul_one]
def Nums (L : List Ob) (vs : List Value) (xs : List Nat) : Prop := ∀ (k x : Nat), xs[k]? = some x → ∃ (A : Option Addr) (n c t : Nat), vs[k]? = some (.slice A n c) ∧ L[t]? = some ⟨A, n, c, nats (Na.dig x)⟩
def RTm (w0 : World) (g : Option Nat) (M : List (Nat × Value)) (L : List Ob) (O : List Rw) (r0 x0 n : Nat) (xs : List Nat) (i : Value) (wr : World) : Prop :=
 ∃ (k : Nat) (A1 : Option Addr) (n1 c1 : Nat), k ≤ n ∧ i = .int .i64 (k : Int) ∧ Hid (Ow w0 wr g (M ++ [(r0, .slice none 0 0), (x0, .slice A1 n1 c1)]) (L ++ [⟨A1, n1, c1, nats (Na.dig (pr (xs.take k)))⟩]) O)
section
variable {w0 w w' : World} {g : Option Nat} {M M2 : List (Nat × Value)} {L : List Ob} {O : List Rw} {A A2 A3 A4 : Option Addr} {b n c m c2 n3 c3 n4 c4 x y : Nat} {p q r s : List Int}
theorem Ow.m2 {p q : Nat × Value} {l : List (Nat × Value)} (h : Ow w0 w g (M ++ p :: q :: l) L O) : Ow w0 w g (M ++ [p, q]) L O := by
 have h' : Ow w0 w g ((M ++ [p, q]) ++ l) L O := by rw [List.append_assoc]; exact h
 exact h'.fewM
set_option maxHeartbeats 4000000 in
theorem c_times (h : Ow w0 w g M L O) (i : Nat) {vs : List Value} (hi : L[i]? = some ⟨A, n, c, vs⟩) (xs : List Nat) (hlen : xs.length = n) (hx : Nums L vs xs) (ht : ∀ x ∈ xs, x < Na.top) (hp : ∀ k, k ≤ n → pr (xs.take k) < Na.top) :
  Calls Tryz.prog 119 #[.slice A n c] w (GotU w0 g M L O (Na.dig (pr xs))) := by
 have hn : n ≤ 1000 := (h.sl hi).2.2.1
 have H0 := h.boxed (.slice none 0 0) 25
 have HC := Lib.hid (c_number H0 1 (by omega))
 have HI := Lib.hid (And.intro hi (And.intro hlen (And.intro hx (And.intro ht hp))))
 obtain ⟨r0, hr0⟩ : ∃ b, w.heap.size = b := ⟨_, rfl⟩
 clear h H0 hi hlen hx ht hp
 go_enter Tryz.func119, Tryz.ntmps119
 go_wp2_with fail
 refine HC.out.mono ?_
 rintro e w1 ⟨B1, m1, d1, rfl, G⟩
 have H := G.boxed (.slice B1 m1 d1) 25
 simp only [List.append_assoc, List.cons_append, List.nil_append] at H
 rw [hr0] at H
 have HO := Lib.hid H
 clear HC G H
 go_wp2_with fail
 try rw [hr0]
 go_loopw [9] (fun i wr => RTm w0 g M L O r0 w1.heap.size n xs i wr) (fun i _ => n + 1 - (intOf i).toNat)
 case atStart => exact ⟨0, B1, m1, d1, Nat.zero_le _, rfl, HO⟩
 case round =>
  clear HO
  obtain ⟨k, A1, n1, c1, hk, rfl, HO⟩ := hrel
  have x0 := HO.out.cell (M.length + 1) (by rw [get_r]; rfl)
  have xf := HO.out.free (M.length + 1) (by rw [get_r]; rfl)
  have rc := HO.out.cell (M.length + 0) (by rw [get_r]; rfl)
  have rf := HO.out.free (M.length + 0) (by rw [get_r]; rfl)
  rcases Nat.eq_or_lt_of_le hk with he | hlt
  ·have hd : decide ((k : Int) < (n : Int)) = false := decide_eq_false (by omega)
   have hd2 : decide (k < n) = false := decide_eq_false (by omega)
   have Z := HO.out.setv (M.length + 0) (by rw [get_r]; rfl) (.slice A1 n1 c1)
   rw [set_r, List.set_cons_zero] at Z
   have s0 := Z.cell (M.length + 0) (by rw [get_r]; rfl)
   have e1 : pr (xs.take k) = pr xs := by rw [List.take_of_length_le (by have := HI.out.2.1; omega)]
   have HF := Lib.hid Z.fewM
   rw [e1] at HF
   clear HO Z e1 he hk
   go_wp2_with fail
   refine bodyPost_ret (v := .agg #[.slice A1 n1 c1]) (by simp [results, Tryz.results119, go_sem, s0]) rfl ?_
   exact ⟨A1, n1, c1, rfl, HF.out⟩
  ·have hd : decide ((k : Int) < (n : Int)) = true := decide_eq_true (by omega)
   have hd2 : decide (k < n) = true := decide_eq_true hlt
   obtain ⟨x, hxk⟩ : ∃ x, xs[k]? = some x := ⟨xs[k]'(by have := HI.out.2.1; omega), List.getElem?_eq_getElem _⟩
   obtain ⟨Ak, nk, ck, t, hv, hl⟩ := HI.out.2.2.1 k x hxk
   obtain ⟨hvl, hkv⟩ := List.getElem?_eq_some_iff.1 hv
   have hsl := (HO.out.sl (i := i) (by rw [get_l _ _ (get_lt HI.out.1)]; exact HI.out.1)).2.2.2
   obtain ⟨ad, rfl, had, hcell⟩ := hsl.at_ hvl
   rw [hkv] at hcell
   have hkm : k ≤ 1000 := by omega
   have H2 := HO.out.boxed (.slice Ak nk ck) 25
   simp only [List.append_assoc, List.cons_append, List.nil_append] at H2
   have hxt : x < Na.top := HI.out.2.2.2.1 x (List.mem_of_getElem? hxk)
   have hpk := HI.out.2.2.2.2 (k + 1) hlt
   rw [pr_take hxk] at hpk
   have HM := Lib.hid (nmul_fr2 H2 (L.length + 0) t (by rw [get_r]; rfl) (by rw [get_l _ _ (get_lt hl)]; exact hl) (HI.out.2.2.2.2 k hk) hxt)
   rw [resL_ok hpk, resE_ok hpk, ← pr_take hxk] at HM
   have y0 := H2.cell (M.length + 1) (by rw [get_r]; rfl)
   clear HO H2 hsl hpk hxt hl hv hkv hvl hxk
   go_wp2_with fail
   refine HM.out.mono ?_
   rintro e w4 ⟨A3, n3, c3, rfl, G⟩
   have s2 := G.cell (M.length + 1) (by rw [get_r]; rfl)
   have s2f := G.free (M.length + 1) (by rw [get_r]; rfl)
   have Z := G.setv (M.length + 1) (by rw [get_r]; rfl) (.slice A3 n3 c3)
   rw [set_r, List.set_cons_succ, List.set_cons_zero] at Z
   have HG := Lib.hid (Z.m2.less (L' := L ++ [⟨A3, n3, c3, nats (Na.dig (pr (xs.take (k + 1))))⟩]) (fun o ho => by
    rcases List.mem_append.1 ho with h | h
    ·exact List.mem_append_left _ (List.mem_append_left _ h)
    ·exact List.mem_append_right _ h))
   clear HM G Z x0 xf rc rf y0 hcell
   go_wp2_with fail
   go_roundw
   case rel => exact ⟨k + 1, A3, n3, c3, hlt, int_eqv (by omega), HG⟩
   case measure => simp [intOf]; omega
end
def GN (L : Nat → Bool) (k : Nat) (u : Value) (X : Nat) (Ls : List Ob) : Prop :=
 L k = true → ∃ (t : Nat) (A : Option Addr) (n c : Nat), u = .agg #[.slice A n c] ∧ Ls[t]? = some ⟨A, n, c, nats (Na.dig X)⟩
theorem GN.more {L : Nat → Bool} {k : Nat} {u : Value} {X : Nat} {Ls l : List Ob} (h : GN L k u X Ls) : GN L k u X (Ls ++ l) := fun e => by
 obtain ⟨t, B, m, d, h1, h2⟩ := h e
 exact ⟨t, B, m, d, h1, by rw [List.getElem?_append_left (get_lt h2)]; exact h2⟩
theorem GN.new (L : Nat → Bool) (k : Nat) (A : Option Addr) (n c X : Nat) (Ls : List Ob) : GN L k (.agg #[.slice A n c]) X (Ls ++ [⟨A, n, c, nats (Na.dig X)⟩]) := fun _ => ⟨Ls.length, A, n, c, rfl, by simp⟩
def GV (L : Nat → Bool) (k : Nat) (u : Value) (X : Nat) (Ls : List Ob) : Prop :=
 L k = true → ∃ (t : Nat) (A : Option Addr) (n c : Nat), u = .slice A n c ∧ Ls[t]? = some ⟨A, n, c, nats (Na.dig X)⟩
theorem GV.more {L : Nat → Bool} {k : Nat} {u : Value} {X : Nat} {Ls l : List Ob} (h : GV L k u X Ls) : GV L k u X (Ls ++ l) := fun e => by
 obtain ⟨t, B, m, d, h1, h2⟩ := h e
 exact ⟨t, B, m, d, h1, by rw [List.getElem?_append_left (get_lt h2)]; exact h2⟩
def GL (L : Nat → Bool) (k : Nat) (u : Value) (xs : List Nat) (m : Nat) (LL Ls : List Ob) : Prop :=
 L k = true → ∃ (t : Nat) (A : Option Addr) (vs : List Value), u = .slice A m m ∧ Ls[t]? = some ⟨A, m, m, vs⟩ ∧ Nums (LL ++ Ls) vs xs
theorem Nums.more {L l : List Ob} {vs : List Value} {xs : List Nat} (h : Nums L vs xs) : Nums (L ++ l) vs xs := fun k x hx => by
 obtain ⟨A, n, c, t, h1, h2⟩ := h k x hx
 exact ⟨A, n, c, t, h1, by rw [List.getElem?_append_left (get_lt h2)]; exact h2⟩
theorem GL.more {L : Nat → Bool} {k : Nat} {u : Value} {xs : List Nat} {m : Nat} {LL Ls l : List Ob} (h : GL L k u xs m LL Ls) : GL L k u xs m LL (Ls ++ l) := fun e => by
 obtain ⟨t, A, vs, h1, h2, h3⟩ := h e
 exact ⟨t, A, vs, h1, by rw [List.getElem?_append_left (get_lt h2)]; exact h2, by rw [← List.append_assoc]; exact h3.more⟩
theorem GL.new (L : Nat → Bool) (k : Nat) (A : Option Addr) (m : Nat) (vs : List Value) (LL Ls : List Ob) {xs : List Nat} (h : Nums (LL ++ Ls) vs xs) : GL L k (.slice A m m) xs m LL (Ls ++ [⟨A, m, m, vs⟩]) := fun _ => ⟨Ls.length, A, vs, rfl, by simp, by rw [← List.append_assoc]; exact h.more⟩
theorem Nums.three {L : List Ob} {A1 A2 A3 : Option Addr} {n1 c1 n2 c2 n3 c3 x1 x2 x3 t1 t2 t3 : Nat} (h1 : L[t1]? = some ⟨A1, n1, c1, nats (Na.dig x1)⟩) (h2 : L[t2]? = some ⟨A2, n2, c2, nats (Na.dig x2)⟩) (h3 : L[t3]? = some ⟨A3, n3, c3, nats (Na.dig x3)⟩) : Nums L [.slice A1 n1 c1, .slice A2 n2 c2, .slice A3 n3 c3] [x1, x2, x3] := fun k x hx => by
  match k, hx with
  | 0, hx => obtain rfl : x1 = x := by simpa using hx
             exact ⟨A1, n1, c1, t1, rfl, h1⟩
  | 1, hx => obtain rfl : x2 = x := by simpa using hx
             exact ⟨A2, n2, c2, t2, rfl, h2⟩
  | 2, hx => obtain rfl : x3 = x := by simpa using hx
             exact ⟨A3, n3, c3, t3, rfl, h3⟩
theorem Nums.two {L : List Ob} {A1 A2 : Option Addr} {n1 c1 n2 c2 x1 x2 t1 t2 : Nat} (h1 : L[t1]? = some ⟨A1, n1, c1, nats (Na.dig x1)⟩) (h2 : L[t2]? = some ⟨A2, n2, c2, nats (Na.dig x2)⟩) : Nums L [.slice A1 n1 c1, .slice A2 n2 c2] [x1, x2] := fun k x hx => by
  match k, hx with
  | 0, hx => obtain rfl : x1 = x := by simpa using hx
             exact ⟨A1, n1, c1, t1, rfl, h1⟩
  | 1, hx => obtain rfl : x2 = x := by simpa using hx
             exact ⟨A2, n2, c2, t2, rfl, h2⟩
def GT (L : Nat → Bool) (k : Nat) (u : Value) (X : Nat) (e : Int) (Ls : List Ob) : Prop :=
 L k = true → ∃ (t : Nat) (A : Option Addr) (n c : Nat), u = .tuple #[.agg #[.slice A n c], .int .i64 e] ∧ Ls[t]? = some ⟨A, n, c, nats (Na.dig X)⟩
theorem GT.more {L : Nat → Bool} {k : Nat} {u : Value} {X : Nat} {e : Int} {Ls l : List Ob} (h : GT L k u X e Ls) : GT L k u X e (Ls ++ l) := fun e => by
 obtain ⟨t, B, m, d, h1, h2⟩ := h e
 exact ⟨t, B, m, d, h1, by rw [List.getElem?_append_left (get_lt h2)]; exact h2⟩
theorem GT.new (L : Nat → Bool) (k : Nat) (A : Option Addr) (n c X : Nat) (e : Int) (Ls : List Ob) : GT L k (.tuple #[.agg #[.slice A n c], .int .i64 e]) X e (Ls ++ [⟨A, n, c, nats (Na.dig X)⟩]) := fun _ => ⟨Ls.length, A, n, c, rfl, by simp⟩
theorem GV.new (L : Nat → Bool) (k : Nat) (A : Option Addr) (n c X : Nat) (Ls : List Ob) : GV L k (.slice A n c) X (Ls ++ [⟨A, n, c, nats (Na.dig X)⟩]) := fun _ => ⟨Ls.length, A, n, c, rfl, by simp⟩
section
variable {w0 w w' : World} {g : Option Nat} {M M2 : List (Nat × Value)} {L : List Ob} {O : List Rw} {A A2 A3 A4 : Option Addr} {b n c m c2 n3 c3 n4 c4 x y p sb : Nat} {P Q : Option Addr} {np cp nq cq : Nat}
theorem nadd_fr0 (h : Ow w0 w g M L O) (i j : Nat) (hi : L[i]? = some ⟨A, n, c, nats (Na.dig x)⟩) (hj : L[j]? = some ⟨A2, m, c2, nats (Na.dig y)⟩) (hx : x < Na.top) (hy : y < Na.top) (hs : x + y < Na.top) :
  Calls Tryz.prog 162 #[.agg #[.slice A n c], .agg #[.slice A2 m c2]] w (GotO w0 g M L O (Na.dig (x + y)) 0) := by
 have := nadd_fr h i j hi hj hx hy
 rwa [resL_ok hs, resE_ok hs] at this
theorem nsub_fr0 (h : Ow w0 w g M L O) (i j : Nat) (hi : L[i]? = some ⟨A, n, c, nats (Na.dig x)⟩) (hj : L[j]? = some ⟨A2, m, c2, nats (Na.dig y)⟩) (hx : x < Na.top) (hy : y ≤ x) :
  Calls Tryz.prog 136 #[.agg #[.slice A n c], .agg #[.slice A2 m c2]] w (GotO w0 g M L O (Na.dig (x - y)) 0) := by
 have := ag_sub (zs := Na.up (Na.dig x)) (ys := Na.up (Na.dig y)) h i j (by rw [nats_up]; exact hi) (by rw [nats_up]; exact hj)
 unfold subL subE at this
 rw [Na.vld_dig hx, Na.vld_dig (Nat.lt_of_le_of_lt hy hx), num_dig, num_dig] at this
 simpa [Nat.not_lt.2 hy] using this
structure SaK (w0 : World) (g : Option Nat) (M : List (Nat × Value)) (L : List Ob) (O : List Rw) (sb xb : Nat) (P : Option Addr) (np cp : Nat) (Q : Option Addr) (nq cq : Nat) (A : Option Addr) (n c p x : Nat) (Ld : Nat → Bool) (u0 u1 u2 u3 u4 u5 u6 u7 u8 u9 : Value) (va : Value) (Ls : List Ob) (W : World) : Prop where
 ow : Ow w0 W g (M ++ [(xb, .slice A n c)]) (L ++ Ls) (O ++ [Rw.pair sb 142 (va) (.slice Q nq cq)])
 h0 : Ld 0 = true → u0 = .pointer (some ⟨sb, 0, none⟩)
 h1 : Ld 1 = true → u1 = .pointer (some ⟨sb, 0, none⟩)
 h2 : Ld 2 = true → u2 = .pointer (some ⟨sb, 0, none⟩)
 h3 : Ld 3 = true → u3 = .agg #[.slice P np cp]
 h4 : Ld 4 = true → u4 = .agg #[.slice A n c]
 h5 : GT Ld 5 u5 (p + x) 0 Ls
 h6 : GT Ld 6 u6 (p + x) 0 Ls
 h7 : GN Ld 7 u7 (p + x) Ls
 h8 : Ld 8 = true → u8 = .int .i64 0
 h9 : Ld 9 = true → u9 = .pointer (some ⟨sb, 0, none⟩)
 v0 : Ld 10 = false → va = .slice P np cp
 v1 : GV Ld 10 va (p + x) Ls
def SaI (w0 : World) (g : Option Nat) (M : List (Nat × Value)) (L : List Ob) (O : List Rw) (sb xb : Nat) (P : Option Addr) (np cp : Nat) (Q : Option Addr) (nq cq : Nat) (A : Option Addr) (n c p x : Nat) (A0 : Act) (Ld : Nat → Bool) (a : Act) (W : World) : Prop :=
 ∃ (u0 u1 u2 u3 u4 u5 u6 u7 u8 u9 : Value) (va : Value) (Ls : List Ob), a = ((((((((((A0.put (some 15) u0).put (some 16) u1).put (some 17) u2).put (some 18) u3).put (some 19) u4).put (some 20) u5).put (some 14) u6).put (some 21) u7).put (some 22) u8).put (some 23) u9) ∧ SaK w0 g M L O sb xb P np cp Q nq cq A n c p x Ld u0 u1 u2 u3 u4 u5 u6 u7 u8 u9 va Ls W
structure SgK (w0 : World) (g : Option Nat) (M : List (Nat × Value)) (L : List Ob) (O : List Rw) (sb xb : Nat) (P : Option Addr) (np cp : Nat) (Q : Option Addr) (nq cq : Nat) (A : Option Addr) (n c p x : Nat) (Ld : Nat → Bool) (u0 u1 u2 u3 u4 u5 u6 u7 u8 u9 : Value) (va : Value) (Ls : List Ob) (W : World) : Prop where
 ow : Ow w0 W g (M ++ [(xb, .slice A n c)]) (L ++ Ls) (O ++ [Rw.pair sb 142 (.slice P np cp) (va)])
 h0 : Ld 0 = true → u0 = .pointer (some ⟨sb, 1, none⟩)
 h1 : Ld 1 = true → u1 = .pointer (some ⟨sb, 1, none⟩)
 h2 : Ld 2 = true → u2 = .pointer (some ⟨sb, 1, none⟩)
 h3 : Ld 3 = true → u3 = .agg #[.slice Q nq cq]
 h4 : Ld 4 = true → u4 = .agg #[.slice A n c]
 h5 : GT Ld 5 u5 (p + x) 0 Ls
 h6 : GT Ld 6 u6 (p + x) 0 Ls
 h7 : GN Ld 7 u7 (p + x) Ls
 h8 : Ld 8 = true → u8 = .int .i64 0
 h9 : Ld 9 = true → u9 = .pointer (some ⟨sb, 1, none⟩)
 v0 : Ld 10 = false → va = .slice Q nq cq
 v1 : GV Ld 10 va (p + x) Ls
def SgI (w0 : World) (g : Option Nat) (M : List (Nat × Value)) (L : List Ob) (O : List Rw) (sb xb : Nat) (P : Option Addr) (np cp : Nat) (Q : Option Addr) (nq cq : Nat) (A : Option Addr) (n c p x : Nat) (A0 : Act) (Ld : Nat → Bool) (a : Act) (W : World) : Prop :=
 ∃ (u0 u1 u2 u3 u4 u5 u6 u7 u8 u9 : Value) (va : Value) (Ls : List Ob), a = ((((((((((A0.put (some 15) u0).put (some 16) u1).put (some 17) u2).put (some 18) u3).put (some 19) u4).put (some 20) u5).put (some 14) u6).put (some 21) u7).put (some 22) u8).put (some 23) u9) ∧ SgK w0 g M L O sb xb P np cp Q nq cq A n c p x Ld u0 u1 u2 u3 u4 u5 u6 u7 u8 u9 va Ls W
set_option maxHeartbeats 8000000 in
theorem c_sadd (h : Ow w0 w g M L (O ++ [Rw.pair sb 142 (.slice P np cp) (.slice Q nq cq)])) (i jp : Nat) (hi : L[i]? = some ⟨A, n, c, nats (Na.dig x)⟩) (hp : L[jp]? = some ⟨P, np, cp, nats (Na.dig p)⟩) (hpt : p < Na.top) (hx : x < Na.top) (hs : p + x < Na.top) :
  Calls Tryz.prog 118 #[.pointer (some ⟨sb, 0, none⟩), .agg #[.slice A n c], .bool false] w fun e w' => ∃ (A1 : Option Addr) (n1 c1 : Nat), e = .returned (.tuple #[]) ∧ Ow w0 w' g M (L ++ [⟨A1, n1, c1, nats (Na.dig (p + x))⟩]) (O ++ [Rw.pair sb 142 (.slice A1 n1 c1) (.slice Q nq cq)]) := by
 have H0 := h.boxed (.slice A n c) 25
 have HI := Lib.hid (And.intro hi hp)
 have HB := Lib.hid (And.intro hpt (And.intro hx hs))
 have HO := Lib.hid H0
 have k0 := H0.cell (M.length + 0) (by rw [get_r]; rfl)
 have p0 := H0.p0 (O.length + 0) (by rw [get_r]; rfl)
 clear h H0 hi hp hpt hx hs
 go_enter Tryz.func118, Tryz.ntmps118
 go_wp2_with fail
 refine reg_inv34 (SaI w0 g M L O sb w.heap.size P np cp Q nq cq A n c p x) (by kernel_rfl) (by kernel_rfl) ?_ ?_ ?_
 ·refine ⟨undef, undef, undef, undef, undef, undef, undef, undef, undef, undef, .slice P np cp, [], ?_, ⟨by rw [List.append_nil]; exact HO.out.drew, ?_, ?_, ?_, ?_, ?_, ?_, ?_, ?_, ?_, ?_, fun _ => rfl, ?_⟩⟩
  ·simp only [Act.put, zT, zZ, zS]
  all_goals (intro h; cases h)
 ·rintro jj Ld b W hj hf hcl hd ⟨u0, u1, u2, u3, u4, u5, u6, u7, u8, u9, va, Ls, rfl, hC⟩
  have hj' : jj < 11 := hj
  have hcase : jj = 0 ∨ jj = 1 ∨ jj = 2 ∨ jj = 3 ∨ jj = 4 ∨ jj = 5 ∨ jj = 6 ∨ jj = 7 ∨ jj = 8 ∨ jj = 9 ∨ jj = 10 := by omega
  have q0 := hC.ow.p0 (O.length + 0) (by rw [get_r]; rfl)
  have qz := hC.ow.pf (O.length + 0) (by rw [get_r]; rfl) 0
  have qx := hC.ow.cell (M.length + 0) (by rw [get_r]; rfl)
  clear hj hj' k0 p0
  simp only [Act.put, zT, zZ, zS]
  rcases hcase with rfl | rfl | rfl | rfl | rfl | rfl | rfl | rfl | rfl | rfl | rfl
  ·clear hd hcl
   refine wpOp_step rfl (fun K hK => ?_)
   go_simp
   refine hK _ _ ⟨_, u1, u2, u3, u4, u5, u6, u7, u8, u9, va, Ls, ?_, ⟨hC.ow, fun _ => rfl, hC.h1, hC.h2, hC.h3, hC.h4, hC.h5, hC.h6, hC.h7, hC.h8, hC.h9, hC.v0, hC.v1⟩⟩
   simp only [Act.put, zT, zZ, zS]
  ·clear hd hcl
   refine wpOp_step rfl (fun K hK => ?_)
   go_simp
   refine hK _ _ ⟨u0, _, u2, u3, u4, u5, u6, u7, u8, u9, va, Ls, ?_, ⟨hC.ow, hC.h0, fun _ => rfl, hC.h2, hC.h3, hC.h4, hC.h5, hC.h6, hC.h7, hC.h8, hC.h9, hC.v0, hC.v1⟩⟩
   simp only [Act.put, zT, zZ, zS]
  ·obtain rfl := hC.h1 (hd 1 (by kernel_rfl))
   clear hd hcl
   refine wpOp_step rfl (fun K hK => ?_)
   go_simp
   refine hK _ _ ⟨u0, _, _, u3, u4, u5, u6, u7, u8, u9, va, Ls, ?_, ⟨hC.ow, hC.h0, hC.h1, fun _ => rfl, hC.h3, hC.h4, hC.h5, hC.h6, hC.h7, hC.h8, hC.h9, hC.v0, hC.v1⟩⟩
   simp only [Act.put, zT, zZ, zS]
  ·obtain rfl := hC.h2 (hd 2 (by kernel_rfl))
   have g5 : Ld 5 = false := by cases e : Ld 5 with | false => rfl | true => (rw [hcl 5 3 e (by kernel_rfl)] at hf; cases hf)
   have g6 : Ld 6 = false := by cases e : Ld 6 with | false => rfl | true => (rw [hcl 6 5 e (by kernel_rfl)] at g5; cases g5)
   have g7 : Ld 7 = false := by cases e : Ld 7 with | false => rfl | true => (rw [hcl 7 6 e (by kernel_rfl)] at g6; cases g6)
   have g10 : Ld 10 = false := by cases e : Ld 10 with | false => rfl | true => (rw [hcl 10 7 e (by kernel_rfl)] at g7; cases g7)
   obtain rfl := hC.v0 g10
   clear hd hcl
   refine wpOp_step rfl (fun K hK => ?_)
   go_simp
   refine hK _ _ ⟨u0, u1, _, _, u4, u5, u6, u7, u8, u9, _, Ls, ?_, ⟨hC.ow, hC.h0, hC.h1, hC.h2, fun _ => rfl, hC.h4, hC.h5, hC.h6, hC.h7, hC.h8, hC.h9, hC.v0, hC.v1⟩⟩
   simp only [Act.put, zT, zZ, zS]
  ·clear hd hcl
   refine wpOp_step rfl (fun K hK => ?_)
   go_simp
   refine hK _ _ ⟨u0, u1, u2, u3, _, u5, u6, u7, u8, u9, va, Ls, ?_, ⟨hC.ow, hC.h0, hC.h1, hC.h2, hC.h3, fun _ => rfl, hC.h5, hC.h6, hC.h7, hC.h8, hC.h9, hC.v0, hC.v1⟩⟩
   simp only [Act.put, zT, zZ, zS]
  ·obtain rfl := hC.h3 (hd 3 (by kernel_rfl))
   obtain rfl := hC.h4 (hd 4 (by kernel_rfl))
   clear hd hcl
   refine wpOp_step rfl (fun K hK => ?_)
   go_simp
   refine (nadd_fr0 hC.ow jp i ((get_l _ _ (get_lt HI.out.2)).trans HI.out.2) ((get_l _ _ (get_lt HI.out.1)).trans HI.out.1) HB.out.1 HB.out.2.1 HB.out.2.2).mono ?_
   rintro e W' ⟨Az, nz, cz, rfl, ho⟩
   rw [List.append_assoc (L) Ls] at ho
   refine hK _ _ ⟨u0, u1, u2, _, _, _, u6, u7, u8, u9, va, _, ?_, ⟨ho, hC.h0, hC.h1, hC.h2, hC.h3, hC.h4, GT.new _ _ _ _ _ _ _ _, hC.h6.more, hC.h7.more, hC.h8, hC.h9, hC.v0, hC.v1.more⟩⟩
   simp only [Act.put, zT, zZ, zS]
  ·obtain ⟨t5, A5, n5, c5, rfl, r5⟩ := hC.h5 (hd 5 (by kernel_rfl))
   clear hd hcl
   refine wpOp_step rfl (fun K hK => ?_)
   go_simp
   refine hK _ _ ⟨u0, u1, u2, u3, u4, _, _, u7, u8, u9, va, Ls, ?_, ⟨hC.ow, hC.h0, hC.h1, hC.h2, hC.h3, hC.h4, hC.h5, fun _ => ⟨t5, A5, n5, c5, rfl, r5⟩, hC.h7, hC.h8, hC.h9, hC.v0, hC.v1⟩⟩
   simp only [Act.put, zT, zZ, zS]
  ·obtain ⟨t6, A6, n6, c6, rfl, r6⟩ := hC.h6 (hd 6 (by kernel_rfl))
   clear hd hcl
   refine wpOp_step rfl (fun K hK => ?_)
   go_simp
   refine hK _ _ ⟨u0, u1, u2, u3, u4, u5, _, _, u8, u9, va, Ls, ?_, ⟨hC.ow, hC.h0, hC.h1, hC.h2, hC.h3, hC.h4, hC.h5, hC.h6, fun _ => ⟨t6, A6, n6, c6, rfl, r6⟩, hC.h8, hC.h9, hC.v0, hC.v1⟩⟩
   simp only [Act.put, zT, zZ, zS]
  ·obtain ⟨t6, A6, n6, c6, rfl, r6⟩ := hC.h6 (hd 6 (by kernel_rfl))
   clear hd hcl
   refine wpOp_step rfl (fun K hK => ?_)
   go_simp
   refine hK _ _ ⟨u0, u1, u2, u3, u4, u5, _, u7, _, u9, va, Ls, ?_, ⟨hC.ow, hC.h0, hC.h1, hC.h2, hC.h3, hC.h4, hC.h5, hC.h6, hC.h7, fun _ => rfl, hC.h9, hC.v0, hC.v1⟩⟩
   simp only [Act.put, zT, zZ, zS]
  ·obtain rfl := hC.h0 (hd 0 (by kernel_rfl))
   clear hd hcl
   refine wpOp_step rfl (fun K hK => ?_)
   go_simp
   refine hK _ _ ⟨_, u1, u2, u3, u4, u5, u6, u7, u8, _, va, Ls, ?_, ⟨hC.ow, hC.h0, hC.h1, hC.h2, hC.h3, hC.h4, hC.h5, hC.h6, hC.h7, hC.h8, fun _ => rfl, hC.v0, hC.v1⟩⟩
   simp only [Act.put, zT, zZ, zS]
  ·obtain ⟨t7, A7, n7, c7, rfl, r7⟩ := hC.h7 (hd 7 (by kernel_rfl))
   have R7 : (L ++ Ls)[(L).length + t7]? = some ⟨A7, n7, c7, nats (Na.dig (p + x))⟩ := (get_r _ _ _).trans r7
   obtain rfl := hC.h9 (hd 9 (by kernel_rfl))
   clear hd hcl
   refine wpOp_step rfl (fun K hK => ?_)
   go_simp
   have ho := hC.ow.set0 (O.length + 0) (by rw [get_r]; rfl) (.slice A7 n7 c7)
   rw [set_r, List.set_cons_zero] at ho
   refine hK _ _ ⟨u0, u1, u2, u3, u4, u5, u6, _, u8, _, _, Ls, ?_, ⟨ho, hC.h0, hC.h1, hC.h2, hC.h3, hC.h4, hC.h5, hC.h6, hC.h7, hC.h8, hC.h9, fun e => absurd (show true = false from e) (by decide), fun _ => ⟨t7, A7, n7, c7, rfl, r7⟩⟩⟩
   simp only [Act.put, zT, zZ, zS]
 ·rintro Ld b W hL ⟨u0, u1, u2, u3, u4, u5, u6, u7, u8, u9, va, Ls, rfl, hC⟩
  obtain ⟨tz, Az, nz, cz, rfl, rz⟩ := hC.v1 (hL 10 (by show 10 < 11; decide))
  have HF := Lib.hid (hC.ow.fewM.less (L' := L ++ [⟨Az, nz, cz, nats (Na.dig (p + x))⟩]) (fun o ho => by
   rcases List.mem_append.1 ho with h | h
   ·exact List.mem_append_left _ h
   ·rw [List.mem_singleton] at h
    subst h
    exact List.mem_append_right _ (List.mem_of_getElem? rz)))
  clear hC
  go_end0
  exact ⟨Az, nz, cz, rfl, HF.out⟩
set_option maxHeartbeats 8000000 in
theorem c_sneg (h : Ow w0 w g M L (O ++ [Rw.pair sb 142 (.slice P np cp) (.slice Q nq cq)])) (i jp : Nat) (hi : L[i]? = some ⟨A, n, c, nats (Na.dig x)⟩) (hp : L[jp]? = some ⟨Q, nq, cq, nats (Na.dig p)⟩) (hpt : p < Na.top) (hx : x < Na.top) (hs : p + x < Na.top) :
  Calls Tryz.prog 118 #[.pointer (some ⟨sb, 0, none⟩), .agg #[.slice A n c], .bool true] w fun e w' => ∃ (A1 : Option Addr) (n1 c1 : Nat), e = .returned (.tuple #[]) ∧ Ow w0 w' g M (L ++ [⟨A1, n1, c1, nats (Na.dig (p + x))⟩]) (O ++ [Rw.pair sb 142 (.slice P np cp) (.slice A1 n1 c1)]) := by
 have H0 := h.boxed (.slice A n c) 25
 have HI := Lib.hid (And.intro hi hp)
 have HB := Lib.hid (And.intro hpt (And.intro hx hs))
 have HO := Lib.hid H0
 have k0 := H0.cell (M.length + 0) (by rw [get_r]; rfl)
 have p0 := H0.p0 (O.length + 0) (by rw [get_r]; rfl)
 clear h H0 hi hp hpt hx hs
 go_enter Tryz.func118, Tryz.ntmps118
 go_wp2_with fail
 refine reg_inv34 (SgI w0 g M L O sb w.heap.size P np cp Q nq cq A n c p x) (by kernel_rfl) (by kernel_rfl) ?_ ?_ ?_
 ·refine ⟨undef, undef, undef, undef, undef, undef, undef, undef, undef, undef, .slice Q nq cq, [], ?_, ⟨by rw [List.append_nil]; exact HO.out.drew, ?_, ?_, ?_, ?_, ?_, ?_, ?_, ?_, ?_, ?_, fun _ => rfl, ?_⟩⟩
  ·simp only [Act.put, zT, zZ, zS]
  all_goals (intro h; cases h)
 ·rintro jj Ld b W hj hf hcl hd ⟨u0, u1, u2, u3, u4, u5, u6, u7, u8, u9, va, Ls, rfl, hC⟩
  have hj' : jj < 11 := hj
  have hcase : jj = 0 ∨ jj = 1 ∨ jj = 2 ∨ jj = 3 ∨ jj = 4 ∨ jj = 5 ∨ jj = 6 ∨ jj = 7 ∨ jj = 8 ∨ jj = 9 ∨ jj = 10 := by omega
  have q0 := hC.ow.p1 (O.length + 0) (by rw [get_r]; rfl)
  have qz := hC.ow.pf (O.length + 0) (by rw [get_r]; rfl) 1
  have qx := hC.ow.cell (M.length + 0) (by rw [get_r]; rfl)
  clear hj hj' k0 p0
  simp only [Act.put, zT, zZ, zS]
  rcases hcase with rfl | rfl | rfl | rfl | rfl | rfl | rfl | rfl | rfl | rfl | rfl
  ·clear hd hcl
   refine wpOp_step rfl (fun K hK => ?_)
   go_simp
   refine hK _ _ ⟨_, u1, u2, u3, u4, u5, u6, u7, u8, u9, va, Ls, ?_, ⟨hC.ow, fun _ => rfl, hC.h1, hC.h2, hC.h3, hC.h4, hC.h5, hC.h6, hC.h7, hC.h8, hC.h9, hC.v0, hC.v1⟩⟩
   simp only [Act.put, zT, zZ, zS]
  ·clear hd hcl
   refine wpOp_step rfl (fun K hK => ?_)
   go_simp
   refine hK _ _ ⟨u0, _, u2, u3, u4, u5, u6, u7, u8, u9, va, Ls, ?_, ⟨hC.ow, hC.h0, fun _ => rfl, hC.h2, hC.h3, hC.h4, hC.h5, hC.h6, hC.h7, hC.h8, hC.h9, hC.v0, hC.v1⟩⟩
   simp only [Act.put, zT, zZ, zS]
  ·obtain rfl := hC.h1 (hd 1 (by kernel_rfl))
   clear hd hcl
   refine wpOp_step rfl (fun K hK => ?_)
   go_simp
   refine hK _ _ ⟨u0, _, _, u3, u4, u5, u6, u7, u8, u9, va, Ls, ?_, ⟨hC.ow, hC.h0, hC.h1, fun _ => rfl, hC.h3, hC.h4, hC.h5, hC.h6, hC.h7, hC.h8, hC.h9, hC.v0, hC.v1⟩⟩
   simp only [Act.put, zT, zZ, zS]
  ·obtain rfl := hC.h2 (hd 2 (by kernel_rfl))
   have g5 : Ld 5 = false := by cases e : Ld 5 with | false => rfl | true => (rw [hcl 5 3 e (by kernel_rfl)] at hf; cases hf)
   have g6 : Ld 6 = false := by cases e : Ld 6 with | false => rfl | true => (rw [hcl 6 5 e (by kernel_rfl)] at g5; cases g5)
   have g7 : Ld 7 = false := by cases e : Ld 7 with | false => rfl | true => (rw [hcl 7 6 e (by kernel_rfl)] at g6; cases g6)
   have g10 : Ld 10 = false := by cases e : Ld 10 with | false => rfl | true => (rw [hcl 10 7 e (by kernel_rfl)] at g7; cases g7)
   obtain rfl := hC.v0 g10
   clear hd hcl
   refine wpOp_step rfl (fun K hK => ?_)
   go_simp
   refine hK _ _ ⟨u0, u1, _, _, u4, u5, u6, u7, u8, u9, _, Ls, ?_, ⟨hC.ow, hC.h0, hC.h1, hC.h2, fun _ => rfl, hC.h4, hC.h5, hC.h6, hC.h7, hC.h8, hC.h9, hC.v0, hC.v1⟩⟩
   simp only [Act.put, zT, zZ, zS]
  ·clear hd hcl
   refine wpOp_step rfl (fun K hK => ?_)
   go_simp
   refine hK _ _ ⟨u0, u1, u2, u3, _, u5, u6, u7, u8, u9, va, Ls, ?_, ⟨hC.ow, hC.h0, hC.h1, hC.h2, hC.h3, fun _ => rfl, hC.h5, hC.h6, hC.h7, hC.h8, hC.h9, hC.v0, hC.v1⟩⟩
   simp only [Act.put, zT, zZ, zS]
  ·obtain rfl := hC.h3 (hd 3 (by kernel_rfl))
   obtain rfl := hC.h4 (hd 4 (by kernel_rfl))
   clear hd hcl
   refine wpOp_step rfl (fun K hK => ?_)
   go_simp
   refine (nadd_fr0 hC.ow jp i ((get_l _ _ (get_lt HI.out.2)).trans HI.out.2) ((get_l _ _ (get_lt HI.out.1)).trans HI.out.1) HB.out.1 HB.out.2.1 HB.out.2.2).mono ?_
   rintro e W' ⟨Az, nz, cz, rfl, ho⟩
   rw [List.append_assoc (L) Ls] at ho
   refine hK _ _ ⟨u0, u1, u2, _, _, _, u6, u7, u8, u9, va, _, ?_, ⟨ho, hC.h0, hC.h1, hC.h2, hC.h3, hC.h4, GT.new _ _ _ _ _ _ _ _, hC.h6.more, hC.h7.more, hC.h8, hC.h9, hC.v0, hC.v1.more⟩⟩
   simp only [Act.put, zT, zZ, zS]
  ·obtain ⟨t5, A5, n5, c5, rfl, r5⟩ := hC.h5 (hd 5 (by kernel_rfl))
   clear hd hcl
   refine wpOp_step rfl (fun K hK => ?_)
   go_simp
   refine hK _ _ ⟨u0, u1, u2, u3, u4, _, _, u7, u8, u9, va, Ls, ?_, ⟨hC.ow, hC.h0, hC.h1, hC.h2, hC.h3, hC.h4, hC.h5, fun _ => ⟨t5, A5, n5, c5, rfl, r5⟩, hC.h7, hC.h8, hC.h9, hC.v0, hC.v1⟩⟩
   simp only [Act.put, zT, zZ, zS]
  ·obtain ⟨t6, A6, n6, c6, rfl, r6⟩ := hC.h6 (hd 6 (by kernel_rfl))
   clear hd hcl
   refine wpOp_step rfl (fun K hK => ?_)
   go_simp
   refine hK _ _ ⟨u0, u1, u2, u3, u4, u5, _, _, u8, u9, va, Ls, ?_, ⟨hC.ow, hC.h0, hC.h1, hC.h2, hC.h3, hC.h4, hC.h5, hC.h6, fun _ => ⟨t6, A6, n6, c6, rfl, r6⟩, hC.h8, hC.h9, hC.v0, hC.v1⟩⟩
   simp only [Act.put, zT, zZ, zS]
  ·obtain ⟨t6, A6, n6, c6, rfl, r6⟩ := hC.h6 (hd 6 (by kernel_rfl))
   clear hd hcl
   refine wpOp_step rfl (fun K hK => ?_)
   go_simp
   refine hK _ _ ⟨u0, u1, u2, u3, u4, u5, _, u7, _, u9, va, Ls, ?_, ⟨hC.ow, hC.h0, hC.h1, hC.h2, hC.h3, hC.h4, hC.h5, hC.h6, hC.h7, fun _ => rfl, hC.h9, hC.v0, hC.v1⟩⟩
   simp only [Act.put, zT, zZ, zS]
  ·obtain rfl := hC.h0 (hd 0 (by kernel_rfl))
   clear hd hcl
   refine wpOp_step rfl (fun K hK => ?_)
   go_simp
   refine hK _ _ ⟨_, u1, u2, u3, u4, u5, u6, u7, u8, _, va, Ls, ?_, ⟨hC.ow, hC.h0, hC.h1, hC.h2, hC.h3, hC.h4, hC.h5, hC.h6, hC.h7, hC.h8, fun _ => rfl, hC.v0, hC.v1⟩⟩
   simp only [Act.put, zT, zZ, zS]
  ·obtain ⟨t7, A7, n7, c7, rfl, r7⟩ := hC.h7 (hd 7 (by kernel_rfl))
   have R7 : (L ++ Ls)[(L).length + t7]? = some ⟨A7, n7, c7, nats (Na.dig (p + x))⟩ := (get_r _ _ _).trans r7
   obtain rfl := hC.h9 (hd 9 (by kernel_rfl))
   clear hd hcl
   refine wpOp_step rfl (fun K hK => ?_)
   go_simp
   have ho := hC.ow.set1 (O.length + 0) (by rw [get_r]; rfl) (.slice A7 n7 c7)
   rw [set_r, List.set_cons_zero] at ho
   refine hK _ _ ⟨u0, u1, u2, u3, u4, u5, u6, _, u8, _, _, Ls, ?_, ⟨ho, hC.h0, hC.h1, hC.h2, hC.h3, hC.h4, hC.h5, hC.h6, hC.h7, hC.h8, hC.h9, fun e => absurd (show true = false from e) (by decide), fun _ => ⟨t7, A7, n7, c7, rfl, r7⟩⟩⟩
   simp only [Act.put, zT, zZ, zS]
 ·rintro Ld b W hL ⟨u0, u1, u2, u3, u4, u5, u6, u7, u8, u9, va, Ls, rfl, hC⟩
  obtain ⟨tz, Az, nz, cz, rfl, rz⟩ := hC.v1 (hL 10 (by show 10 < 11; decide))
  have HF := Lib.hid (hC.ow.fewM.less (L' := L ++ [⟨Az, nz, cz, nats (Na.dig (p + x))⟩]) (fun o ho => by
   rcases List.mem_append.1 ho with h | h
   ·exact List.mem_append_left _ h
   ·rw [List.mem_singleton] at h
    subst h
    exact List.mem_append_right _ (List.mem_of_getElem? rz)))
  clear hC
  go_end0
  exact ⟨Az, nz, cz, rfl, HF.out⟩
structure SvK (w0 : World) (g : Option Nat) (M : List (Nat × Value)) (L : List Ob) (O : List Rw) (sb rb : Nat) (P : Option Addr) (np cp : Nat) (Q : Option Addr) (nq cq : Nat) (p x : Nat) (Ld : Nat → Bool) (u0 u1 u2 u3 u4 u5 u6 u7 u8 u9 u10 u11 u12 u14 : Value) (va : Value) (MV : List (Nat × Value)) (Ls : List Ob) (W : World) : Prop where
 ow : Ow w0 W g (M ++ [(rb, .slice none 0 0)] ++ MV) (L ++ Ls) (O ++ [Rw.pair sb 142 (.slice P np cp) (.slice Q nq cq)])
 h0 : Ld 0 = true → u0 = .pointer (some ⟨sb, 0, none⟩)
 h1 : Ld 1 = true → u1 = .pointer (some ⟨sb, 0, none⟩)
 h2 : Ld 2 = true → u2 = .pointer (some ⟨sb, 0, none⟩)
 h3 : Ld 3 = true → u3 = .agg #[.slice P np cp]
 h4 : Ld 4 = true → u4 = .pointer (some ⟨sb, 0, none⟩)
 h5 : Ld 5 = true → u5 = .pointer (some ⟨sb, 0, none⟩)
 h6 : Ld 6 = true → u6 = .pointer (some ⟨sb, 1, none⟩)
 h7 : Ld 7 = true → u7 = .agg #[.slice Q nq cq]
 h8 : GT Ld 8 u8 (p - x) 0 Ls
 h9 : GT Ld 9 u9 (p - x) 0 Ls
 h10 : GN Ld 10 u10 (p - x) Ls
 h11 : Ld 11 = true → u11 = .int .i64 0
 h14 : Ld 14 = true → u14 = .int .i64 0
 a0 : Ld 12 = false → MV = []
 a1 : Ld 12 = true → ∃ vb, u12 = .pointer (some ⟨vb, 0, none⟩) ∧ MV = [(vb, va)]
 v0 : Ld 13 = false → va = .slice none 0 0
 v1 : GV Ld 13 va (p - x) Ls
def SvI (w0 : World) (g : Option Nat) (M : List (Nat × Value)) (L : List Ob) (O : List Rw) (sb rb : Nat) (P : Option Addr) (np cp : Nat) (Q : Option Addr) (nq cq : Nat) (p x : Nat) (A0 : Act) (Ld : Nat → Bool) (a : Act) (W : World) : Prop :=
 ∃ (u0 u1 u2 u3 u4 u5 u6 u7 u8 u9 u10 u11 u12 u14 : Value) (va : Value) (MV : List (Nat × Value)) (Ls : List Ob), a = ((((((((((((((A0.put (some 6) u0).put (some 7) u1).put (some 8) u2).put (some 9) u3).put (some 10) u4).put (some 11) u5).put (some 12) u6).put (some 13) u7).put (some 14) u8).put (some 5) u9).put (some 15) u10).put (some 16) u11).put (some 3) u12).put (some 4) u14) ∧ SvK w0 g M L O sb rb P np cp Q nq cq p x Ld u0 u1 u2 u3 u4 u5 u6 u7 u8 u9 u10 u11 u12 u14 va MV Ls W
set_option maxHeartbeats 8000000 in
theorem c_sval (h : Ow w0 w g M L (O ++ [Rw.pair sb 142 (.slice P np cp) (.slice Q nq cq)])) (i j : Nat) (hi : L[i]? = some ⟨P, np, cp, nats (Na.dig p)⟩) (hj : L[j]? = some ⟨Q, nq, cq, nats (Na.dig x)⟩) (hp : p < Na.top) (hx : x ≤ p) :
  Calls Tryz.prog 121 #[.pointer (some ⟨sb, 0, none⟩)] w (GotU w0 g M L (O ++ [Rw.pair sb 142 (.slice P np cp) (.slice Q nq cq)]) (Na.dig (p - x))) := by
 have H0 := h.boxed (.slice none 0 0) 25
 have HI := Lib.hid (And.intro hi hj)
 have HB := Lib.hid (And.intro hp hx)
 have HO := Lib.hid H0
 clear h H0 hi hj hp hx
 go_enter Tryz.func121, Tryz.ntmps121
 go_wp2_with fail
 refine reg_inv34 (SvI w0 g M L O sb w.heap.size P np cp Q nq cq p x) (by kernel_rfl) (by kernel_rfl) ?_ ?_ ?_
 ·refine ⟨undef, undef, undef, undef, undef, undef, undef, undef, undef, undef, undef, undef, undef, undef, .slice none 0 0, [], [], ?_, ⟨by rw [List.append_nil, List.append_nil]; exact HO.out.drew, ?_, ?_, ?_, ?_, ?_, ?_, ?_, ?_, ?_, ?_, ?_, ?_, ?_, fun _ => rfl, ?_, fun _ => rfl, ?_⟩⟩
  ·simp only [Act.put, zT, zZ, zS]
  all_goals (intro h; cases h)
 ·rintro jj Ld b W hj hf hcl hd ⟨u0, u1, u2, u3, u4, u5, u6, u7, u8, u9, u10, u11, u12, u14, va, MV, Ls, rfl, hC⟩
  have hj' : jj < 15 := hj
  have hcase : jj = 0 ∨ jj = 1 ∨ jj = 2 ∨ jj = 3 ∨ jj = 4 ∨ jj = 5 ∨ jj = 6 ∨ jj = 7 ∨ jj = 8 ∨ jj = 9 ∨ jj = 10 ∨ jj = 11 ∨ jj = 12 ∨ jj = 13 ∨ jj = 14 := by omega
  have q0 := hC.ow.p0 (O.length + 0) (by rw [get_r]; rfl)
  have q1 := hC.ow.p1 (O.length + 0) (by rw [get_r]; rfl)
  clear hj hj'
  simp only [Act.put, zT, zZ, zS]
  rcases hcase with rfl | rfl | rfl | rfl | rfl | rfl | rfl | rfl | rfl | rfl | rfl | rfl | rfl | rfl | rfl
  ·clear hd hcl
   refine wpOp_step rfl (fun K hK => ?_)
   go_simp
   refine hK _ _ ⟨_, u1, u2, u3, u4, u5, u6, u7, u8, u9, u10, u11, u12, u14, va, MV, Ls, ?_, ⟨hC.ow, fun _ => rfl, hC.h1, hC.h2, hC.h3, hC.h4, hC.h5, hC.h6, hC.h7, hC.h8, hC.h9, hC.h10, hC.h11, hC.h14, hC.a0, hC.a1, hC.v0, hC.v1⟩⟩
   simp only [Act.put, zT, zZ, zS]
  ·obtain rfl := hC.h0 (hd 0 (by kernel_rfl))
   clear hd hcl
   refine wpOp_step rfl (fun K hK => ?_)
   go_simp
   refine hK _ _ ⟨_, _, u2, u3, u4, u5, u6, u7, u8, u9, u10, u11, u12, u14, va, MV, Ls, ?_, ⟨hC.ow, hC.h0, fun _ => rfl, hC.h2, hC.h3, hC.h4, hC.h5, hC.h6, hC.h7, hC.h8, hC.h9, hC.h10, hC.h11, hC.h14, hC.a0, hC.a1, hC.v0, hC.v1⟩⟩
   simp only [Act.put, zT, zZ, zS]
  ·obtain rfl := hC.h1 (hd 1 (by kernel_rfl))
   clear hd hcl
   refine wpOp_step rfl (fun K hK => ?_)
   go_simp
   refine hK _ _ ⟨u0, _, _, u3, u4, u5, u6, u7, u8, u9, u10, u11, u12, u14, va, MV, Ls, ?_, ⟨hC.ow, hC.h0, hC.h1, fun _ => rfl, hC.h3, hC.h4, hC.h5, hC.h6, hC.h7, hC.h8, hC.h9, hC.h10, hC.h11, hC.h14, hC.a0, hC.a1, hC.v0, hC.v1⟩⟩
   simp only [Act.put, zT, zZ, zS]
  ·obtain rfl := hC.h2 (hd 2 (by kernel_rfl))
   clear hd hcl
   refine wpOp_step rfl (fun K hK => ?_)
   go_simp
   refine hK _ _ ⟨u0, u1, _, _, u4, u5, u6, u7, u8, u9, u10, u11, u12, u14, va, MV, Ls, ?_, ⟨hC.ow, hC.h0, hC.h1, hC.h2, fun _ => rfl, hC.h4, hC.h5, hC.h6, hC.h7, hC.h8, hC.h9, hC.h10, hC.h11, hC.h14, hC.a0, hC.a1, hC.v0, hC.v1⟩⟩
   simp only [Act.put, zT, zZ, zS]
  ·clear hd hcl
   refine wpOp_step rfl (fun K hK => ?_)
   go_simp
   refine hK _ _ ⟨u0, u1, u2, u3, _, u5, u6, u7, u8, u9, u10, u11, u12, u14, va, MV, Ls, ?_, ⟨hC.ow, hC.h0, hC.h1, hC.h2, hC.h3, fun _ => rfl, hC.h5, hC.h6, hC.h7, hC.h8, hC.h9, hC.h10, hC.h11, hC.h14, hC.a0, hC.a1, hC.v0, hC.v1⟩⟩
   simp only [Act.put, zT, zZ, zS]
  ·obtain rfl := hC.h4 (hd 4 (by kernel_rfl))
   clear hd hcl
   refine wpOp_step rfl (fun K hK => ?_)
   go_simp
   refine hK _ _ ⟨u0, u1, u2, u3, _, _, u6, u7, u8, u9, u10, u11, u12, u14, va, MV, Ls, ?_, ⟨hC.ow, hC.h0, hC.h1, hC.h2, hC.h3, hC.h4, fun _ => rfl, hC.h6, hC.h7, hC.h8, hC.h9, hC.h10, hC.h11, hC.h14, hC.a0, hC.a1, hC.v0, hC.v1⟩⟩
   simp only [Act.put, zT, zZ, zS]
  ·obtain rfl := hC.h5 (hd 5 (by kernel_rfl))
   clear hd hcl
   refine wpOp_step rfl (fun K hK => ?_)
   go_simp
   refine hK _ _ ⟨u0, u1, u2, u3, u4, _, _, u7, u8, u9, u10, u11, u12, u14, va, MV, Ls, ?_, ⟨hC.ow, hC.h0, hC.h1, hC.h2, hC.h3, hC.h4, hC.h5, fun _ => rfl, hC.h7, hC.h8, hC.h9, hC.h10, hC.h11, hC.h14, hC.a0, hC.a1, hC.v0, hC.v1⟩⟩
   simp only [Act.put, zT, zZ, zS]
  ·obtain rfl := hC.h6 (hd 6 (by kernel_rfl))
   clear hd hcl
   refine wpOp_step rfl (fun K hK => ?_)
   go_simp
   refine hK _ _ ⟨u0, u1, u2, u3, u4, u5, _, _, u8, u9, u10, u11, u12, u14, va, MV, Ls, ?_, ⟨hC.ow, hC.h0, hC.h1, hC.h2, hC.h3, hC.h4, hC.h5, hC.h6, fun _ => rfl, hC.h8, hC.h9, hC.h10, hC.h11, hC.h14, hC.a0, hC.a1, hC.v0, hC.v1⟩⟩
   simp only [Act.put, zT, zZ, zS]
  ·obtain rfl := hC.h3 (hd 3 (by kernel_rfl))
   obtain rfl := hC.h7 (hd 7 (by kernel_rfl))
   clear hd hcl
   refine wpOp_step rfl (fun K hK => ?_)
   go_simp
   refine (nsub_fr0 hC.ow i j ((get_l _ _ (get_lt HI.out.1)).trans HI.out.1) ((get_l _ _ (get_lt HI.out.2)).trans HI.out.2) HB.out.1 HB.out.2).mono ?_
   rintro e W' ⟨Az, nz, cz, rfl, ho⟩
   rw [List.append_assoc (L) Ls] at ho
   refine hK _ _ ⟨u0, u1, u2, _, u4, u5, u6, _, _, u9, u10, u11, u12, u14, va, MV, _, ?_, ⟨ho, hC.h0, hC.h1, hC.h2, hC.h3, hC.h4, hC.h5, hC.h6, hC.h7, GT.new _ _ _ _ _ _ _ _, hC.h9.more, hC.h10.more, hC.h11, hC.h14, hC.a0, hC.a1, hC.v0, hC.v1.more⟩⟩
   simp only [Act.put, zT, zZ, zS]
  ·obtain ⟨t8, A8, n8, c8, rfl, r8⟩ := hC.h8 (hd 8 (by kernel_rfl))
   clear hd hcl
   refine wpOp_step rfl (fun K hK => ?_)
   go_simp
   refine hK _ _ ⟨u0, u1, u2, u3, u4, u5, u6, u7, _, _, u10, u11, u12, u14, va, MV, Ls, ?_, ⟨hC.ow, hC.h0, hC.h1, hC.h2, hC.h3, hC.h4, hC.h5, hC.h6, hC.h7, hC.h8, fun _ => ⟨t8, A8, n8, c8, rfl, r8⟩, hC.h10, hC.h11, hC.h14, hC.a0, hC.a1, hC.v0, hC.v1⟩⟩
   simp only [Act.put, zT, zZ, zS]
  ·obtain ⟨t9, A9, n9, c9, rfl, r9⟩ := hC.h9 (hd 9 (by kernel_rfl))
   clear hd hcl
   refine wpOp_step rfl (fun K hK => ?_)
   go_simp
   refine hK _ _ ⟨u0, u1, u2, u3, u4, u5, u6, u7, u8, _, _, u11, u12, u14, va, MV, Ls, ?_, ⟨hC.ow, hC.h0, hC.h1, hC.h2, hC.h3, hC.h4, hC.h5, hC.h6, hC.h7, hC.h8, hC.h9, fun _ => ⟨t9, A9, n9, c9, rfl, r9⟩, hC.h11, hC.h14, hC.a0, hC.a1, hC.v0, hC.v1⟩⟩
   simp only [Act.put, zT, zZ, zS]
  ·obtain ⟨t9, A9, n9, c9, rfl, r9⟩ := hC.h9 (hd 9 (by kernel_rfl))
   clear hd hcl
   refine wpOp_step rfl (fun K hK => ?_)
   go_simp
   refine hK _ _ ⟨u0, u1, u2, u3, u4, u5, u6, u7, u8, _, u10, _, u12, u14, va, MV, Ls, ?_, ⟨hC.ow, hC.h0, hC.h1, hC.h2, hC.h3, hC.h4, hC.h5, hC.h6, hC.h7, hC.h8, hC.h9, hC.h10, fun _ => rfl, hC.h14, hC.a0, hC.a1, hC.v0, hC.v1⟩⟩
   simp only [Act.put, zT, zZ, zS]
  ·have g13 : Ld 13 = false := by cases e : Ld 13 with | false => rfl | true => (rw [hcl 13 12 e (by kernel_rfl)] at hf; cases hf)
   obtain rfl := hC.v0 g13
   obtain rfl := hC.a0 hf
   clear hd hcl
   refine wpOp_step rfl (fun K hK => ?_)
   go_simp
   have ho := hC.ow.boxed (.slice none 0 0) 25
   rw [List.append_nil] at ho
   refine hK _ _ ⟨u0, u1, u2, u3, u4, u5, u6, u7, u8, u9, u10, u11, _, u14, _, _, Ls, ?_, ⟨ho, hC.h0, hC.h1, hC.h2, hC.h3, hC.h4, hC.h5, hC.h6, hC.h7, hC.h8, hC.h9, hC.h10, hC.h11, hC.h14, fun e => absurd (show true = false from e) (by decide), fun _ => ⟨_, rfl, rfl⟩, hC.v0, hC.v1⟩⟩
   simp only [Act.put, zT, zZ, zS]
  ·have hal := hd 12 (by kernel_rfl)
   obtain ⟨t10, A10, n10, c10, rfl, r10⟩ := hC.h10 (hd 10 (by kernel_rfl))
   have R10 : (L ++ Ls)[(L).length + t10]? = some ⟨A10, n10, c10, nats (Na.dig (p - x))⟩ := (get_r _ _ _).trans r10
   obtain ⟨vb, rfl, rfl⟩ := hC.a1 (hd 12 (by kernel_rfl))
   have qz := hC.ow.cell ((M ++ [(w.heap.size, .slice none 0 0)] : List (Nat × Value)).length + 0) (by rw [get_r]; rfl)
   have qf := hC.ow.free ((M ++ [(w.heap.size, .slice none 0 0)] : List (Nat × Value)).length + 0) (by rw [get_r]; rfl)
   clear hd hcl
   refine wpOp_step rfl (fun K hK => ?_)
   go_simp
   have ho := hC.ow.setv ((M ++ [(w.heap.size, .slice none 0 0)] : List (Nat × Value)).length + 0) (by rw [get_r]; rfl) (.slice A10 n10 c10)
   rw [set_r, List.set_cons_zero] at ho
   refine hK _ _ ⟨u0, u1, u2, u3, u4, u5, u6, u7, u8, u9, _, u11, _, u14, _, _, Ls, ?_, ⟨ho, hC.h0, hC.h1, hC.h2, hC.h3, hC.h4, hC.h5, hC.h6, hC.h7, hC.h8, hC.h9, hC.h10, hC.h11, hC.h14, fun e => absurd (hal.symm.trans e) (by decide), fun _ => ⟨_, rfl, rfl⟩, fun e => absurd (show true = false from e) (by decide), fun _ => ⟨t10, A10, n10, c10, rfl, r10⟩⟩⟩
   simp only [Act.put, zT, zZ, zS]
  ·obtain rfl := hC.h11 (hd 11 (by kernel_rfl))
   clear hd hcl
   refine wpOp_step rfl (fun K hK => ?_)
   go_simp
   refine hK _ _ ⟨u0, u1, u2, u3, u4, u5, u6, u7, u8, u9, u10, _, u12, _, va, MV, Ls, ?_, ⟨hC.ow, hC.h0, hC.h1, hC.h2, hC.h3, hC.h4, hC.h5, hC.h6, hC.h7, hC.h8, hC.h9, hC.h10, hC.h11, fun _ => rfl, hC.a0, hC.a1, hC.v0, hC.v1⟩⟩
   simp only [Act.put, zT, zZ, zS]
 ·rintro Ld b W hL ⟨u0, u1, u2, u3, u4, u5, u6, u7, u8, u9, u10, u11, u12, u14, va, MV, Ls, rfl, hC⟩
  obtain ⟨vb, rfl, rfl⟩ := hC.a1 (hL 12 (by show 12 < 15; decide))
  obtain ⟨tz, Az, nz, cz, rfl, rz⟩ := hC.v1 (hL 13 (by show 13 < 15; decide))
  have H := hC.ow
  try simp only [List.append_assoc] at H
  try simp only [List.cons_append] at H
  try simp only [List.nil_append] at H
  have x0 := H.cell (M.length + 1) (by rw [get_r]; rfl)
  have r0 := H.cell (M.length + 0) (by rw [get_r]; rfl)
  have f0 := H.free (M.length + 0) (by rw [get_r]; rfl)
  have Z := H.setv (M.length + 0) (by rw [get_r]; rfl) (.slice Az nz cz)
  rw [set_r] at Z
  try simp only [List.set_cons_zero] at Z
  have s0 := Z.cell (M.length + 0) (by rw [get_r]; rfl)
  have HF := Lib.hid (Z.fewM.less (L' := L ++ [⟨Az, nz, cz, nats (Na.dig (p - x))⟩]) (fun o ho => by
   rcases List.mem_append.1 ho with h | h
   ·exact List.mem_append_left _ h
   ·rw [List.mem_singleton] at h
    subst h
    exact List.mem_append_right _ (List.mem_of_getElem? rz)))
  clear H Z hC
  simp only [Act.put, zT, zZ, zS]
  go_wp2_with fail
  refine bodyPost_ret (v := .agg #[.slice Az nz cz]) (by simp [results, Tryz.results121, go_sem, s0]) rfl ?_
  exact ⟨Az, nz, cz, rfl, HF.out⟩
end
theorem num_top {a k : Nat} (ha : a ≤ 256) (hk : k ≤ 40) : a ^ k < Na.top := by
 have h1 : a ^ k ≤ 256 ^ k := Nat.pow_le_pow_left ha k
 have h2 : (256 : Nat) ^ k ≤ 256 ^ 40 := Nat.pow_le_pow_right (by omega) hk
 exact Nat.lt_of_le_of_lt (Nat.le_trans h1 h2) (by decide +kernel)
theorem byte_top {a : Nat} (ha : a ≤ 16777215) : a < Na.top := Nat.lt_of_le_of_lt ha (by decide +kernel)
section
variable {w0 w w' : World} {g : Option Nat} {M M2 : List (Nat × Value)} {L : List Ob} {O : List Rw} {A A2 A3 A4 : Option Addr} {b n c m c2 n3 c3 n4 c4 x y : Nat} {p q r s : List Int}
set_option maxHeartbeats 4000000 in
theorem c_power (h : Ow w0 w g M L O) (a k : Nat) (ha : a ≤ 255) (hk : k ≤ 40) :
  Calls Tryz.prog 148 #[.int .i64 (a : Int), .int .i64 (k : Int)] w (GotU w0 g M L O (Na.dig (a ^ k))) := by
 have H0 := h.boxed (.slice none 0 0) 25
 have HC := Lib.hid (c_number H0 a (by omega))
 have hA : ((a : Int) == 256) = false := by rw [beq_eq_false_iff_ne]; omega
 have HK : Hid (a ≤ 255 ∧ k ≤ 40) := ⟨ha, hk⟩
 obtain ⟨l0, hl0⟩ : ∃ z, Na.dig (a ^ k) = z := ⟨_, rfl⟩
 rw [hl0]
 clear h H0 ha hk
 go_enter Tryz.func148, Tryz.ntmps148
 go_wp2_with fail
 refine HC.out.mono ?_
 rintro e w1 ⟨B1, m1, d1, rfl, G⟩
 have HP := Lib.hid (ag_pow G (L.length + 0) (by rw [get_r]; rfl) (byte_top (by have := HK.out.1; omega)) (k : Int))
 rw [powL_nat (by have := HK.out.2; omega) (num_top (by have := HK.out.1; omega) HK.out.2), powE_nat (by have := HK.out.2; omega) (num_top (by have := HK.out.1; omega) HK.out.2), hl0] at HP
 clear HC G hl0
 go_wp2_with fail
 refine HP.out.mono ?_
 rintro e w2 ⟨B2, m2, d2, rfl, G2⟩
 have H5 := G2.boxed (.slice B2 m2 d2) 25
 try simp only [List.append_assoc] at H5
 try simp only [List.cons_append] at H5
 try simp only [List.nil_append] at H5
 clear HP G2
 have x0 := H5.cell (M.length + 1) (by rw [get_r]; rfl)
 have r0 := H5.cell (M.length + 0) (by rw [get_r]; rfl)
 have f0 := H5.free (M.length + 0) (by rw [get_r]; rfl)
 have Z := H5.setv (M.length + 0) (by rw [get_r]; rfl) (.slice B2 m2 d2)
 rw [set_r] at Z
 try simp only [List.set_cons_zero] at Z
 have s0 := Z.cell (M.length + 0) (by rw [get_r]; rfl)
 have HF := Lib.hid (Z.fewM.less (L' := L ++ [⟨B2, m2, d2, nats l0⟩]) (fun o ho => by
  rcases List.mem_append.1 ho with h | h
  ·exact List.mem_append_left _ h
  ·rw [List.mem_singleton] at h
   subst h
   exact List.mem_append_right _ (List.mem_cons_of_mem _ List.mem_cons_self)))
 clear H5 Z
 go_wp2_with fail
 refine bodyPost_ret (v := .agg #[.slice B2 m2 d2]) (by simp [results, Tryz.results148, go_sem, s0]) rfl ?_
 exact ⟨B2, m2, d2, rfl, HF.out⟩
theorem dig_shift : ∀ (q y : Nat), 0 < y → Na.dig (16777216 ^ q * y) = List.replicate q 0 ++ Na.dig y
 | 0, y, _ => by rw [Nat.pow_zero, Nat.one_mul]; rfl
 | q + 1, y, hy => by
  have h1 := dig_shift q y hy
  have h2 : 0 < 16777216 ^ q * y := Nat.mul_pos (Nat.pow_pos (by omega)) hy
  have e : 16777216 ^ (q + 1) * y = 16777216 * (16777216 ^ q * y) := by rw [Nat.pow_succ, Nat.mul_comm (16777216 ^ q), Nat.mul_assoc]
  rw [e, Na.dig_pos _ (Nat.mul_pos (by omega) h2), Nat.mul_mod_right, Nat.mul_div_cancel_left _ (by omega), h1, List.replicate_succ]
  rfl
theorem dig_256 (k : Nat) : Na.dig (256 ^ k) = List.replicate (k / 3) 0 ++ [2 ^ (8 * k % 24)] := by
 have e : 256 ^ k = 16777216 ^ (k / 3) * 2 ^ (8 * k % 24) := by
  have h1 : (256 : Nat) ^ k = 2 ^ (8 * k) := by rw [Nat.pow_mul]
  have h2 : (16777216 : Nat) ^ (k / 3) = 2 ^ (24 * (k / 3)) := by rw [Nat.pow_mul]
  rw [h1, h2, ← Nat.pow_add]
  congr 1
  omega
 rw [e, dig_shift _ _ (Nat.pow_pos (by omega)), Na.dig_small _ (Nat.pow_pos (by omega))]
 have h3 : 2 ^ (8 * k % 24) ≤ 2 ^ 16 := Nat.pow_le_pow_right (by omega) (by omega)
 omega
set_option maxHeartbeats 4000000 in
theorem c_power256 (h : Ow w0 w g M L O) (k : Nat) (hk : k ≤ 40) :
  Calls Tryz.prog 148 #[.int .i64 256, .int .i64 (k : Int)] w (GotU w0 g M L O (Na.dig (256 ^ k))) := by
 obtain ⟨q, hq⟩ : ∃ q, k / 3 = q := ⟨_, rfl⟩
 obtain ⟨s, hs⟩ : ∃ s, 8 * k % 24 = s := ⟨_, rfl⟩
 have hs2 : s < 24 := by omega
 have e1 : 8 * (k : Int) / 24 = (q : Int) := by omega
 have e2 : 8 * (k : Int) % 24 = (s : Int) := by omega
 have hq2 : q ≤ 13 := by omega
 have hmk := elemI.make .i64 .i64 ((q : Int) + 1) ((q : Int) + 1) (q + 1) (q + 1) (by omega) (by omega) (Nat.le_refl _) (by omega) (by omega) (w.alloc (.cells #[.slice none 0 0] 25))
 have H0 := ((h.boxed (.slice none 0 0) 25).made 3 (.int .i64 0) (q + 1) (q + 1) rfl (Nat.le_refl _) (by unfold maxLen; omega)).boxed (.slice (some ⟨w.heap.size + 1, 0, none⟩) (q + 1) (q + 1)) 25
 try simp only [World.size_alloc] at H0
 try simp only [List.append_assoc] at H0
 try simp only [List.cons_append] at H0
 try simp only [List.nil_append] at H0
 have HO := Lib.hid H0
 rw [dig_256, hq, hs]
 clear h H0 hq hs
 go_enter Tryz.func148, Tryz.ntmps148
 go_wp2_with fail
 obtain ⟨wz, hwz⟩ : ∃ z, ((w.alloc (.cells #[.slice none 0 0] 25)).alloc (.cells (madeCells #[.int .i64 0] (q + 1)) 3)).alloc (.cells #[.slice (some ⟨w.heap.size + 1, 0, none⟩) (q + 1) (q + 1)] 25) = z := ⟨_, rfl⟩
 rw [hwz] at HO
 rw [hwz]
 clear hwz hmk
 have c0 := cell_regrown (HO.out.cell (M.length + 1) (by rw [get_r]; rfl))
 refine region_below_tail 11 (by kernel_rfl) (by kernel_rfl) ?_
 simp only [List.take_succ_cons, List.take_zero, List.drop_succ_cons, List.drop_zero]
 have f0 : IntKind.i64.wrap (q : Int) = (q : Int) := IntWalk.i64_in _ (by omega)
 have f1 : IntKind.i64.wrap (8 * (k : Int)) = 8 * (k : Int) := IntWalk.i64_in _ (by omega)
 have f2 : (8 * (k : Int)).tmod 24 = (s : Int) := by rw [Int.tmod_eq_emod_of_nonneg (by omega)]; exact e2
 have f3 : IntKind.i64.wrap ((2 : Int) ^ s) = ((2 ^ s : Nat) : Int) := by
  obtain ⟨t, ht⟩ : ∃ t : Nat, 2 ^ s = t := ⟨_, rfl⟩
  have h5 : t ≤ 16777216 := by rw [← ht]; exact Nat.pow_le_pow_right (n := 2) (by omega) (show s ≤ 24 by omega)
  rw [show (2 : Int) ^ s = ((2 ^ s : Nat) : Int) by simp, ht]
  exact IntWalk.i64_in _ (by omega)
 have hqi : (q : Int) < (q : Int) + 1 := by omega
 repeat (quiet_step (fail))
 refine wpQuiet_nil ?_
 intro W hW
 have hbl := regrown_below hW
 clear hW c0 f0 f1 f2 f3 e1 e2
 have H2 := HO.out.go hbl
 have g0 := (H2.row (O.length + 0) (by rw [get_r]; rfl)).cellAt q (by omega)
 rw [List.getElem?_replicate, if_pos (by omega)] at g0
 have g1 := (H2.row (O.length + 0) (by rw [get_r]; rfl)).frozenAt q
 have H3 := H2.put (O.length + 0) (by rw [get_r]; rfl) q (.int .i64 ((2 : Int) ^ s))
 rw [set_r, List.set_cons_zero] at H3
 have v0 := H3.cell (M.length + 1) (by rw [get_r]; rfl)
 have r0 := H3.cell (M.length + 0) (by rw [get_r]; rfl)
 have z0 := H3.free (M.length + 0) (by rw [get_r]; rfl)
 have Z := H3.setv (M.length + 0) (by rw [get_r]; rfl) (.slice (some ⟨w.heap.size + 1, 0, none⟩) (q + 1) (q + 1))
 rw [set_r] at Z
 try simp only [List.set_cons_zero] at Z
 have s0 := Z.cell (M.length + 0) (by rw [get_r]; rfl)
 have e9 : (List.replicate (q + 1) (Value.int .i64 0)).set q (.int .i64 ((2 : Int) ^ s)) = nats (List.replicate q 0 ++ [2 ^ s]) := by
  rw [List.replicate_succ', List.set_append_right _ _ (by rw [List.length_replicate]; omega), List.length_replicate, Nat.sub_self, List.set_cons_zero]
  unfold nats
  rw [List.map_append, List.map_replicate]
  simp [encN]
 rw [e9] at Z
 have Z2 := Z.fewM.keep (O.length + 0) (by rw [get_r]; rfl) (by omega)
 rw [set_r, List.set_cons_zero] at Z2
 have HF := Lib.hid Z2.fewO
 clear HO hbl H2 H3 Z Z2 e9
 go_wp2_with fail
 refine bodyPost_ret (v := .agg #[.slice (some ⟨w.heap.size + 1, 0, none⟩) (q + 1) (q + 1)]) (by simp [results, Tryz.results148, go_sem, s0]) rfl ?_
 exact ⟨_, _, _, rfl, HF.out⟩
end
end Go.Proofs.YtenokdhldngkgaaGreatDoor
namespace Go.Proofs.YtenokdhldngkgaaGreatDoor
namespace Gf
def sel (c : Bool) (a : UInt8) : UInt8 := if c then a else 0
def bit (a : UInt8) (k : Nat) : Bool := a.toNat.testBit k
def dbl (a : UInt8) : UInt8 := (a <<< 1) ^^^ sel (bit a 7) 29
def dblN : Nat → UInt8 → UInt8
 | 0, a => a
 | k + 1, a => dbl (dblN k a)
def gmul (a c : UInt8) : UInt8 :=
 sel (bit c 0) (dblN 0 a) ^^^ sel (bit c 1) (dblN 1 a) ^^^ sel (bit c 2) (dblN 2 a) ^^^ sel (bit c 3) (dblN 3 a) ^^^
 sel (bit c 4) (dblN 4 a) ^^^ sel (bit c 5) (dblN 5 a) ^^^ sel (bit c 6) (dblN 6 a) ^^^ sel (bit c 7) (dblN 7 a)

theorem all_of {p : UInt8 → Prop} (h : ∀ n, n < 256 → p (UInt8.ofNat n)) (a : UInt8) : p a := by
 have := h a.toNat (UInt8.toNat_lt a)
 rwa [UInt8.ofNat_toNat] at this
theorem bits0 : ∀ n, n < 256 → UInt8.ofNat n = sel (bit (UInt8.ofNat n) 0) 1 ^^^ sel (bit (UInt8.ofNat n) 1) 2 ^^^ sel (bit (UInt8.ofNat n) 2) 4 ^^^ sel (bit (UInt8.ofNat n) 3) 8 ^^^
  sel (bit (UInt8.ofNat n) 4) 16 ^^^ sel (bit (UInt8.ofNat n) 5) 32 ^^^ sel (bit (UInt8.ofNat n) 6) 64 ^^^ sel (bit (UInt8.ofNat n) 7) 128 := by decide +kernel
theorem bits_sum (a : UInt8) : a = sel (bit a 0) 1 ^^^ sel (bit a 1) 2 ^^^ sel (bit a 2) 4 ^^^ sel (bit a 3) 8 ^^^ sel (bit a 4) 16 ^^^ sel (bit a 5) 32 ^^^ sel (bit a 6) 64 ^^^ sel (bit a 7) 128 :=
 all_of (p := fun a => a = sel (bit a 0) 1 ^^^ sel (bit a 1) 2 ^^^ sel (bit a 2) 4 ^^^ sel (bit a 3) 8 ^^^ sel (bit a 4) 16 ^^^ sel (bit a 5) 32 ^^^ sel (bit a 6) 64 ^^^ sel (bit a 7) 128) bits0 a
def Lin (f : UInt8 → UInt8) : Prop := ∀ x y, f (x ^^^ y) = f x ^^^ f y
theorem Lin.zero {f : UInt8 → UInt8} (h : Lin f) : f 0 = 0 := by
 have := h 0 0
 simp at this
 exact this
theorem Lin.sel {f : UInt8 → UInt8} (h : Lin f) (c : Bool) (x : UInt8) : f (sel c x) = Gf.sel c (f x) := by
 cases c
 ·exact h.zero
 ·rfl
theorem Lin.ext {f g : UInt8 → UInt8} (hf : Lin f) (hg : Lin g) (h : ∀ k, k < 8 → f (UInt8.ofNat (2 ^ k)) = g (UInt8.ofNat (2 ^ k))) (a : UInt8) : f a = g a := by
 rw [bits_sum a]
 have h0 : f 1 = g 1 := h 0 (by decide)
 have h1 : f 2 = g 2 := h 1 (by decide)
 have h2 : f 4 = g 4 := h 2 (by decide)
 have h3 : f 8 = g 8 := h 3 (by decide)
 have h4 : f 16 = g 16 := h 4 (by decide)
 have h5 : f 32 = g 32 := h 5 (by decide)
 have h6 : f 64 = g 64 := h 6 (by decide)
 have h7 : f 128 = g 128 := h 7 (by decide)
 simp only [hf _ _, hg _ _, hf.sel, hg.sel, h0, h1, h2, h3, h4, h5, h6, h7]
theorem bit_xor (a c : UInt8) (k : Nat) : bit (a ^^^ c) k = (bit a k ^^ bit c k) := by
 unfold bit
 rw [UInt8.toNat_xor, Nat.testBit_xor]
theorem sel_xor (c d : Bool) (a : UInt8) : sel (c ^^ d) a = sel c a ^^^ sel d a := by
 cases c <;> cases d <;> simp [sel]
theorem sel_xor' (c : Bool) (a d : UInt8) : sel c (a ^^^ d) = sel c a ^^^ sel c d := by
 cases c <;> simp [sel]
theorem xor4 (a b c d : UInt8) : (a ^^^ b) ^^^ (c ^^^ d) = (a ^^^ c) ^^^ (b ^^^ d) := by
 rw [UInt8.xor_assoc, UInt8.xor_assoc, ← UInt8.xor_assoc b, ← UInt8.xor_assoc c, UInt8.xor_comm b c]
theorem shl_xor (a c : UInt8) : (a ^^^ c) <<< (1 : UInt8) = (a <<< 1) ^^^ (c <<< 1) := by
 exact UInt8.shiftLeft_xor
theorem dbl_lin : Lin dbl := by
 intro x y
 unfold dbl
 rw [shl_xor, bit_xor, sel_xor, xor4]
theorem dblN_lin (k : Nat) : Lin (dblN k) := by
 induction k with
 | zero => intro x y; rfl
 | succ k ih => intro x y; show dbl _ = dbl _ ^^^ dbl _; rw [ih, dbl_lin]
theorem lin_sum {f g : UInt8 → UInt8} (hf : Lin f) (hg : Lin g) : Lin (fun a => f a ^^^ g a) := by
 intro x y
 show f (x ^^^ y) ^^^ g (x ^^^ y) = _
 rw [hf, hg, xor4]
theorem lin_sel {f : UInt8 → UInt8} (hf : Lin f) (c : Bool) : Lin (fun a => sel c (f a)) := by
 intro x y
 show sel c (f (x ^^^ y)) = _
 rw [hf, sel_xor']
theorem mul_lin_left (c : UInt8) : Lin (fun a => gmul a c) :=
 lin_sum (lin_sum (lin_sum (lin_sum (lin_sum (lin_sum (lin_sum (lin_sel (dblN_lin 0) _) (lin_sel (dblN_lin 1) _)) (lin_sel (dblN_lin 2) _)) (lin_sel (dblN_lin 3) _)) (lin_sel (dblN_lin 4) _)) (lin_sel (dblN_lin 5) _)) (lin_sel (dblN_lin 6) _)) (lin_sel (dblN_lin 7) _)
theorem lin_bit (k : Nat) (x : UInt8) : Lin (fun c => sel (bit c k) x) := by
 intro c d
 show sel (bit (c ^^^ d) k) x = _
 rw [bit_xor, sel_xor]
theorem mul_lin_right (a : UInt8) : Lin (gmul a) :=
 lin_sum (lin_sum (lin_sum (lin_sum (lin_sum (lin_sum (lin_sum (lin_bit 0 _) (lin_bit 1 _)) (lin_bit 2 _)) (lin_bit 3 _)) (lin_bit 4 _)) (lin_bit 5 _)) (lin_bit 6 _)) (lin_bit 7 _)
theorem lin_comp {f g : UInt8 → UInt8} (hf : Lin f) (hg : Lin g) : Lin (fun a => f (g a)) := by
 intro x y
 show f (g (x ^^^ y)) = _
 rw [hg, hf]
theorem comm0 : ∀ j, j < 8 → ∀ k, k < 8 → gmul (UInt8.ofNat (2 ^ j)) (UInt8.ofNat (2 ^ k)) = gmul (UInt8.ofNat (2 ^ k)) (UInt8.ofNat (2 ^ j)) := by decide +kernel
theorem gmul_comm (a c : UInt8) : gmul a c = gmul c a :=
 (mul_lin_left c).ext (mul_lin_right c) (fun j hj => (mul_lin_right _).ext (mul_lin_left _) (fun k hk => comm0 j hj k hk) c) a
theorem dblmul0 : ∀ j, j < 8 → ∀ k, k < 8 → dbl (gmul (UInt8.ofNat (2 ^ j)) (UInt8.ofNat (2 ^ k))) = gmul (UInt8.ofNat (2 ^ j)) (dbl (UInt8.ofNat (2 ^ k))) := by decide +kernel
theorem dbl_mul (a c : UInt8) : dbl (gmul a c) = gmul a (dbl c) :=
 (lin_comp dbl_lin (mul_lin_left c)).ext (mul_lin_left (dbl c)) (fun j hj => (lin_comp dbl_lin (mul_lin_right _)).ext (lin_comp (mul_lin_right _) dbl_lin) (fun k hk => dblmul0 j hj k hk) c) a
theorem dblN_mul (k : Nat) (a c : UInt8) : dblN k (gmul a c) = gmul a (dblN k c) := by
 induction k with
 | zero => rfl
 | succ k ih => show dbl (dblN k _) = gmul a (dbl _); rw [ih, dbl_mul]
theorem gmul_pow2 (a : UInt8) : ∀ k, k < 8 → gmul a (UInt8.ofNat (2 ^ k)) = dblN k a := by
 intro k hk
 match k, hk with
 | 0, _ => simp [gmul, sel, bit, Nat.testBit]
 | 1, _ => simp [gmul, sel, bit, Nat.testBit]
 | 2, _ => simp [gmul, sel, bit, Nat.testBit]
 | 3, _ => simp [gmul, sel, bit, Nat.testBit]
 | 4, _ => simp [gmul, sel, bit, Nat.testBit]
 | 5, _ => simp [gmul, sel, bit, Nat.testBit]
 | 6, _ => simp [gmul, sel, bit, Nat.testBit]
 | 7, _ => simp [gmul, sel, bit, Nat.testBit]
theorem gmul_assoc (a c d : UInt8) : gmul (gmul a c) d = gmul a (gmul c d) :=
 (mul_lin_right _).ext (lin_comp (mul_lin_right a) (mul_lin_right c)) (fun k hk => by rw [gmul_pow2 _ k hk, gmul_pow2 _ k hk, dblN_mul]) d
theorem gmul_one (a : UInt8) : gmul a 1 = a := gmul_pow2 a 0 (by decide)
theorem gmul_zero (a : UInt8) : gmul a 0 = 0 := (mul_lin_right a).zero
theorem gmul_two (a : UInt8) : gmul a 2 = dbl a := gmul_pow2 a 1 (by decide)
theorem gmul_add (a c d : UInt8) : gmul a (c ^^^ d) = gmul a c ^^^ gmul a d := mul_lin_right a c d
theorem one_gmul (a : UInt8) : gmul 1 a = a := by rw [gmul_comm, gmul_one]
theorem zero_gmul (a : UInt8) : gmul 0 a = 0 := by rw [gmul_comm, gmul_zero]
def gpow (a : UInt8) : Nat → UInt8
 | 0 => 1
 | n + 1 => gmul (gpow a n) a
theorem gpow_add (a : UInt8) (m n : Nat) : gpow a (m + n) = gmul (gpow a m) (gpow a n) := by
 induction n with
 | zero => rw [Nat.add_zero]; exact (gmul_one _).symm
 | succ n ih => show gmul (gpow a (m + n)) a = gmul _ (gmul _ a); rw [ih, gmul_assoc]
theorem gpow_mul (a : UInt8) (m n : Nat) : gpow a (m * n) = gpow (gpow a m) n := by
 induction n with
 | zero => rfl
 | succ n ih => rw [Nat.mul_succ, gpow_add, ih]; rfl
theorem one_gpow (n : Nat) : gpow 1 n = 1 := by
 induction n with
 | zero => rfl
 | succ n ih => show gmul (gpow 1 n) 1 = 1; rw [ih, gmul_one]
theorem dblN_gpow (k : Nat) : dblN k 1 = gpow 2 k := by
 induction k with
 | zero => rfl
 | succ k ih => show dbl (dblN k 1) = gmul (gpow 2 k) 2; rw [ih, gmul_two]
theorem exp_255 : gpow 2 255 = 1 := by rw [← dblN_gpow]; decide +kernel
def find (a : UInt8) : Nat → Nat → UInt8 → Nat
 | 0, n, _ => n
 | f + 1, n, x => if x = a then n else find a f (n + 1) (dbl x)
def glog (a : UInt8) : Nat := find a 255 0 1
theorem log0 : ∀ n, n < 256 → 0 < n → glog (UInt8.ofNat n) < 255 := by decide +kernel
theorem find_exp (a : UInt8) : ∀ f n, find a f n (dblN n 1) < n + f → dblN (find a f n (dblN n 1)) 1 = a := by
 intro f
 induction f with
 | zero => intro n h; simp only [find] at h; omega
 | succ f ih =>
  intro n h
  simp only [find] at h ⊢
  split
  ·assumption
  ·rename_i hx
   rw [if_neg hx] at h
   have e : dbl (dblN n 1) = dblN (n + 1) 1 := rfl
   rw [e] at h ⊢
   exact ih (n + 1) (by omega)
theorem log_lt (a : UInt8) (h : a ≠ 0) : glog a < 255 :=
 all_of (p := fun a => a ≠ 0 → glog a < 255) (fun n hn h0 => log0 n hn (by
  rcases Nat.eq_zero_or_pos n with h' | h'
  ·subst h'; exact absurd rfl h0
  ·exact h')) a h
theorem exp_log (a : UInt8) (h : a ≠ 0) : gpow 2 (glog a) = a := by
 have := find_exp a 255 0 (by have := log_lt a h; unfold glog at this; exact this)
 rw [← dblN_gpow]
 exact this
theorem gpow_255 (a : UInt8) (h : a ≠ 0) : gpow a 255 = 1 := by
 rw [← exp_log a h, ← gpow_mul, Nat.mul_comm, gpow_mul, exp_255, one_gpow]
def ginv (a : UInt8) : UInt8 := gpow a 254
theorem ginv_mul (a : UInt8) (h : a ≠ 0) : gmul (ginv a) a = 1 := gpow_255 a h
theorem one_ne : (1 : UInt8) ≠ 0 := by decide
def emod (n : Int) : Nat := (n % 255).toNat
def zpow (a : UInt8) (n : Int) : UInt8 := gpow a (emod n)
attribute [irreducible] gmul
end Gf
namespace Sy
open Gf
set_option linter.unusedVariables false
theorem x4 (a b c d : UInt8) : (a ^^^ b) ^^^ (c ^^^ d) = (a ^^^ c) ^^^ (b ^^^ d) := Gf.xor4 a b c d
def ls (f : Nat → UInt8) : List Nat → UInt8
 | [] => 0
 | p :: ps => f p ^^^ ls f ps
def hor (x : UInt8) (l : List UInt8) : UInt8 := l.foldl (fun v b => gmul v x ^^^ b) 0
def wd (l : List UInt8) (i : Nat) : UInt8 := l[i]?.getD 0
def wt (D : Nat → UInt8) (n : Nat) : Nat := (List.range n).countP (fun i => D i != 0)
end Sy
namespace Po
def vld (l : List UInt8) : Bool := decide (l.length ≤ 255) && (l.getLast? != some 0)
def tl (l : List UInt8) : Nat → Nat
 | 0 => 0
 | n + 1 => if l[n]? = some 0 then tl l n else n + 1
def trim (l : List UInt8) : List UInt8 := l.take (tl l l.length)
theorem tl_le (l : List UInt8) : ∀ n, tl l n ≤ n := by
 intro n
 induction n with
 | zero => exact Nat.le_refl _
 | succ n ih =>
  unfold tl
  split
  ·omega
  ·exact Nat.le_refl _
theorem tl_zero (l : List UInt8) (n : Nat) (h : l[n]? = some 0) : tl l (n + 1) = tl l n := by
 rw [tl, if_pos h]
theorem tl_stop (l : List UInt8) (n : Nat) (h : l[n]? ≠ some 0) : tl l (n + 1) = n + 1 := by
 rw [tl, if_neg h]
theorem trim_length (l : List UInt8) : (trim l).length = tl l l.length := by
 unfold trim
 rw [List.length_take]
 have := tl_le l l.length
 omega
theorem vld_nil (l : List UInt8) (h : l.length = 0) : vld l = true := by
 have : l = [] := List.eq_nil_of_length_eq_zero h
 subst this
 rfl
theorem tl_last (l : List UInt8) : ∀ n, tl l n = 0 ∨ l[tl l n - 1]? ≠ some 0 := by
 intro n
 induction n with
 | zero => exact .inl rfl
 | succ n ih =>
  by_cases h : l[n]? = some 0
  ·rw [tl_zero l n h]
   exact ih
  ·rw [tl_stop l n h]
   exact .inr h
theorem take_vld (l : List UInt8) (k : Nat) (hk : k ≤ l.length) (h : k = 0 ∨ l[k - 1]? ≠ some 0) (h2 : k ≤ 255) : vld (l.take k) = true := by
 have hl : (l.take k).length = k := by rw [List.length_take]; omega
 unfold vld
 rw [hl, decide_eq_true h2, Bool.true_and, bne_iff_ne, List.getLast?_eq_getElem?, hl, List.getElem?_take]
 rcases h with h | h
 ·subst h
  simp
 ·split
  ·exact h
  ·simp
theorem trim_vld (l : List UInt8) (h : l.length ≤ 255) : vld (trim l) = true := by
 have h1 := tl_le l l.length
 exact take_vld l _ h1 (tl_last l l.length) (by omega)
def addTo (l r : List UInt8) (t : UInt8) (i : Nat) : Nat → List UInt8
 | 0 => l
 | k + 1 => (addTo l r t i k).set (i + k) (((addTo l r t i k)[i + k]?.getD 0) ^^^ Gf.gmul t (r[k]?.getD 0))
theorem addTo_length (l r : List UInt8) (t : UInt8) (i : Nat) : ∀ k, (addTo l r t i k).length = l.length := by
 intro k
 induction k with
 | zero => rfl
 | succ k ih => rw [addTo, List.length_set, ih]
def addAt (l r : List UInt8) (t : UInt8) (i : Nat) : List UInt8 := addTo l r t i r.length
def padd (p q : List UInt8) : List UInt8 := addAt (addAt (List.replicate (max p.length q.length) 0) p 1 0) q 1 0
theorem addAt_length (l r : List UInt8) (t : UInt8) (i : Nat) : (addAt l r t i).length = l.length := addTo_length l r t i _
theorem vld_len {p : List UInt8} (h : vld p = true) : p.length ≤ 255 := by
 unfold vld at h
 simp at h
 exact h.1
def mulTo (p q : List UInt8) : Nat → List UInt8
 | 0 => List.replicate (p.length + q.length - 1) 0
 | k + 1 => addAt (mulTo p q k) q (p[k]?.getD 0) k
def mulA (p q : List UInt8) : List UInt8 := mulTo p q p.length
theorem mulTo_length (p q : List UInt8) : ∀ k, (mulTo p q k).length = p.length + q.length - 1 := by
 intro k
 induction k with
 | zero => exact List.length_replicate
 | succ k ih => rw [mulTo, addAt_length, ih]
def mulB (p q : List UInt8) : Bool := decide (p.length = 0) || decide (q.length = 0)
def mulE (p q : List UInt8) : Int := if vld p && vld q then (if mulB p q then 0 else if p.length + q.length - 1 ≤ 255 then 0 else 3) else 1
end Po
namespace Po
def dv (p q : List UInt8) (lead : UInt8) : Nat → List UInt8 × List UInt8
  | 0 => (p, List.replicate (p.length - q.length + 1) 0)
  | j + 1 =>
    (addAt (dv p q lead j).1 q (Gf.gmul ((dv p q lead j).1[p.length - q.length - j + q.length - 1]?.getD 0) lead) (p.length - q.length - j),
     (dv p q lead j).2.set (p.length - q.length - j) (Gf.gmul ((dv p q lead j).1[p.length - q.length - j + q.length - 1]?.getD 0) lead))
theorem dv_len (p q : List UInt8) (lead : UInt8) : ∀ j, (dv p q lead j).1.length = p.length ∧ (dv p q lead j).2.length = p.length - q.length + 1 := by
 intro j
 induction j with
 | zero => exact ⟨rfl, List.length_replicate⟩
 | succ j ih => exact ⟨by rw [dv, addAt_length, ih.1], by rw [dv, List.length_set, ih.2]⟩
def lastOf (q : List UInt8) : UInt8 := q[q.length - 1]?.getD 0
def dvAll (p q : List UInt8) : List UInt8 × List UInt8 := dv p q (Gf.ginv (lastOf q)) (p.length - q.length + 1)
def quo (p q : List UInt8) : List UInt8 := if p.length < q.length then [] else (dvAll p q).2
def rem (p q : List UInt8) : List UInt8 := if p.length < q.length then p else trim ((dvAll p q).1.take (q.length - 1))
theorem rem_lt (p q : List UInt8) (h : 0 < q.length) : (rem p q).length < q.length := by
 unfold rem
 split
 ·assumption
 ·rw [trim_length]
  have h1 := tl_le ((dvAll p q).1.take (q.length - 1)) ((dvAll p q).1.take (q.length - 1)).length
  have h2 : ((dvAll p q).1.take (q.length - 1)).length ≤ q.length - 1 := List.length_take_le _ _
  omega
def gcdF : Nat → List UInt8 → List UInt8 → List UInt8
 | 0, a, _ => a
 | f + 1, a, b => if b.length = 0 then a else gcdF f b (rem a b)
theorem gcdF_more : ∀ (f : Nat) (a b : List UInt8), b.length ≤ f → gcdF f a b = gcdF b.length a b := by
 intro f
 induction f using Nat.strongRecOn with
 | _ f ih =>
  intro a b h
  match f, h with
  | 0, h => rw [Nat.le_zero.1 h]
  | f + 1, h =>
   rcases Nat.eq_zero_or_pos b.length with h0 | h0
   ·rw [gcdF, if_pos h0, h0]
    rfl
   ·have hr := rem_lt a b h0
    obtain ⟨k, hk⟩ : ∃ k, b.length = k + 1 := ⟨b.length - 1, by omega⟩
    rw [gcdF, if_neg (by omega), ih f (by omega) b (rem a b) (by omega)]
    conv => rhs; rw [hk, gcdF, if_neg (by omega)]
    rw [ih k (by omega) b (rem a b) (by omega)]
theorem gcd_end (a b : List UInt8) (h : b.length = 0) : gcdF b.length a b = a := by
 rw [h]
 rfl
theorem gcd_step (a b : List UInt8) (h : 0 < b.length) : gcdF b.length a b = gcdF (rem a b).length b (rem a b) := by
 have hr := rem_lt a b h
 obtain ⟨k, hk⟩ : ∃ k, b.length = k + 1 := ⟨b.length - 1, by omega⟩
 conv => lhs; rw [hk, gcdF, if_neg (by omega)]
 exact gcdF_more k b (rem a b) (by omega)
def divE (p q : List UInt8) : Int := if vld p && vld q then (if q.length = 0 then 4 else 0) else 1
def divQ (p q : List UInt8) : List UInt8 := if (vld p && vld q) && decide (0 < q.length) then quo p q else []
def divR (p q : List UInt8) : List UInt8 := if (vld p && vld q) && decide (0 < q.length) then rem p q else []
end Po
end Go.Proofs.YtenokdhldngkgaaGreatDoor
namespace Go.Proofs.YtenokdhldngkgaaGreatDoor
open Go.RowKit
set_option linter.unusedVariables false
set_option maxRecDepth 100000

theorem u8_pos {y : UInt8} (h : y ≠ 0) : 0 < (y.toNat : Int) := by
 have : y.toNat ≠ 0 := fun e => h (UInt8.toNat_inj.1 (by simpa using e))
 omega
theorem infoB : (Tryz.prog.info? 5).map (fun i => (i.zero, i.size, i.bytes)) = some (some (.int .u8 0), 1, 1) := by kernel_rfl
end Go.Proofs.YtenokdhldngkgaaGreatDoor
namespace Go.Proofs.YtenokdhldngkgaaGreatDoor
open Go.RowKit Go.Shelf
attribute [local go_sem] Oper.semAt_some
set_option linter.unusedVariables false
set_option maxRecDepth 100000

def KpBox (n₀ Bs : Nat) (W W' : World) : Prop := Below n₀ W W' ∧ W'.heap[Bs]? = W.heap[Bs]?
theorem KpBox.refl (n₀ Bs : Nat) (W : World) : KpBox n₀ Bs W W := ⟨Below.refl _ _, rfl⟩
theorem KpBox.trans {n₀ Bs : Nat} {A B C : World} (h : KpBox n₀ Bs A B) (k : KpBox n₀ Bs B C) : KpBox n₀ Bs A C := ⟨h.1.trans k.1, k.2.trans h.2⟩
theorem KpBox.cell {n₀ Bs : Nat} {W W' : World} (h : KpBox n₀ Bs W W') : W'.cell? ⟨Bs, 0, none⟩ = W.cell? ⟨Bs, 0, none⟩ := World.cell?_of_block (a := ⟨Bs, 0, none⟩) h.2

attribute [local go_sem] Oper.semAt_some
set_option linter.unusedVariables false
set_option maxRecDepth 100000
namespace Po
def eval (l : List UInt8) (x : UInt8) : UInt8 := l.reverse.foldl (fun v c => Gf.gmul v x ^^^ c) 0
end Po

namespace Po
end Po
end Go.Proofs.YtenokdhldngkgaaGreatDoor

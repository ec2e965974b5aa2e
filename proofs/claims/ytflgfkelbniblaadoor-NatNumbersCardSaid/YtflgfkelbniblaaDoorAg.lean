/- All functions of two numbers, as the program and as the document has them, for any two lists of ints. -/
import Derived.Test.YtflgfkelbniblaaDoorRn
import Derived.Test.YtflgfkelbniblaaDoorWq
import Derived.Test.YtflgfkelbniblaaDoorDivX
import Derived.Test.YtflgfkelbniblaaDoorNInt
import Derived.BigQuiet
namespace Go.Proofs.YtflgfkelbniblaaDoor
open Go.RowKit Go.Sort
set_option linter.unusedVariables false
set_option maxRecDepth 100000
def divQ (zs ys : List Int) : List Nat := if Na.vld zs && Na.vld ys then (if num ys = 0 then [] else Na.dig (num zs / num ys)) else []
def divR (zs ys : List Int) : List Nat := if Na.vld zs && Na.vld ys then (if num ys = 0 then [] else Na.dig (num zs % num ys)) else []
def divE (zs ys : List Int) : Int := if Na.vld zs && Na.vld ys then (if num ys = 0 then 4 else 0) else 1
def gcdL (zs ys : List Int) : List Nat := if Na.vld zs && Na.vld ys then Na.dig (Nat.gcd (num zs) (num ys)) else []
def gcdE (zs ys : List Int) : Int := if Na.vld zs && Na.vld ys then 0 else 1
def intW (zs : List Int) : Int := if Na.vld zs then intV (num zs) else 0
def intF (zs : List Int) : Int := if Na.vld zs then intE (num zs) else 1
def prtL (zs : List Int) : List UInt8 := if Na.vld zs then De.text (num zs) else []
def GotO (w0 : World) (g : Option Nat) (M : List (Nat × Value)) (L : List Ob) (O : List Rw) (l : List Nat) (err : Int) (en : Ending) (w' : World) : Prop :=
  ∃ (A : Option Addr) (n c : Nat), en = .returned (.tuple #[.agg #[.slice A n c], .int .i64 err]) ∧ Ow w0 w' g M (L ++ [⟨A, n, c, nats l⟩]) O
def GotO2 (w0 : World) (g : Option Nat) (M : List (Nat × Value)) (L : List Ob) (O : List Rw) (l1 l2 : List Nat) (err : Int) (en : Ending) (w' : World) : Prop :=
  ∃ (A : Option Addr) (n c : Nat) (A2 : Option Addr) (n2 c2 : Nat), en = .returned (.tuple #[.agg #[.slice A n c], .agg #[.slice A2 n2 c2], .int .i64 err]) ∧ Ow w0 w' g M (L ++ [⟨A, n, c, nats l1⟩] ++ [⟨A2, n2, c2, nats l2⟩]) O
theorem dig_1000 {x : Nat} (h : x < Na.top) : (Na.dig x).length ≤ 1000 := Nat.le_trans ((Na.dig_200 x).2 h) (by omega)
theorem resL_1000 (x : Nat) : (resL x).length ≤ 1000 := Nat.le_trans (resL_len x) (by omega)
theorem vv_cases (zs ys : List Int) : (Na.vld zs && Na.vld ys) = false ∨ ((Na.vld zs && Na.vld ys) = true ∧ num zs < Na.top ∧ num ys < Na.top ∧ zs = Na.up (Na.dig (num zs)) ∧ ys = Na.up (Na.dig (num ys))) := by
  cases hv : (Na.vld zs && Na.vld ys)
  · exact .inl rfl
  · obtain ⟨x, y, hx, hy, rfl, rfl⟩ := vv_ex hv
    refine .inr ⟨rfl, ?_⟩
    rw [num_dig, num_dig]
    exact ⟨hx, hy, rfl, rfl⟩
theorem addL_1000 (zs ys : List Int) : (addL zs ys).length ≤ 1000 := by
  unfold addL; split
  · exact resL_1000 _
  · exact Nat.zero_le _
theorem mulL_1000 (zs ys : List Int) : (mulL zs ys).length ≤ 1000 := by
  unfold mulL; split
  · exact resL_1000 _
  · exact Nat.zero_le _
theorem subL_1000 (zs ys : List Int) : (subL zs ys).length ≤ 1000 := by
  rcases vv_cases zs ys with h | ⟨h, hx, hy, e1, e2⟩
  · unfold subL; rw [h]; exact Nat.zero_le _
  · unfold subL; rw [h, if_pos rfl]; split
    · exact Nat.zero_le _
    · exact dig_1000 (Nat.lt_of_le_of_lt (Nat.sub_le _ _) hx)
theorem divQ_1000 (zs ys : List Int) : (divQ zs ys).length ≤ 1000 := by
  rcases vv_cases zs ys with h | ⟨h, hx, hy, e1, e2⟩
  · unfold divQ; rw [h]; exact Nat.zero_le _
  · unfold divQ; rw [h, if_pos rfl]; split
    · exact Nat.zero_le _
    · exact dig_1000 (Nat.lt_of_le_of_lt (Nat.div_le_self _ _) hx)
theorem divR_1000 (zs ys : List Int) : (divR zs ys).length ≤ 1000 := by
  rcases vv_cases zs ys with h | ⟨h, hx, hy, e1, e2⟩
  · unfold divR; rw [h]; exact Nat.zero_le _
  · unfold divR; rw [h, if_pos rfl]; split
    · exact Nat.zero_le _
    · exact dig_1000 (Nat.lt_of_le_of_lt (Nat.mod_le _ _) hx)
theorem gcdL_1000 (zs ys : List Int) : (gcdL zs ys).length ≤ 1000 := by
  rcases vv_cases zs ys with h | ⟨h, hx, hy, e1, e2⟩
  · unfold gcdL; rw [h]; exact Nat.zero_le _
  · unfold gcdL; rw [h, if_pos rfl]; exact dig_1000 (gcd_top hx hy)
section
variable {w0 w w' : World} {g : Option Nat} {M : List (Nat × Value)} {L : List Ob} {O : List Rw} {A A2 : Option Addr} {n c m c2 : Nat} {zs ys : List Int}
theorem got_o (h : Ow w0 w g M L O) {l : List Nat} {e : Int} (hl : l.length ≤ 1000) {en : Ending} (hr : ResN w l e en w') : GotO w0 g M L O l e en w' := by
  obtain ⟨A, n, c, he, -, ho⟩ := h.pushN hr hl
  exact ⟨A, n, c, he, ho⟩
theorem got_o2 (h : Ow w0 w g M L O) {l1 l2 : List Nat} {e : Int} (h1 : l1.length ≤ 1000) (h2 : l2.length ≤ 1000) {en : Ending} (hr : ResD w l1 l2 e en w') : GotO2 w0 g M L O l1 l2 e en w' := by
  obtain ⟨A1, n1, c1, A2, n2, c2, rfl, k1, k2, o1, o2, hb⟩ := hr
  exact ⟨A1, n1, c1, A2, n2, c2, rfl, h.push2 o1 o2 (by omega) (by omega) hb⟩
theorem Ow.raw (h : Ow w0 w g M L O) {i : Nat} (hi : L[i]? = some ⟨A, n, c, ints zs⟩) : zs.length = n ∧ n ≤ c ∧ n ≤ 1000 ∧ Sl w w.heap.size A (ints zs) := by
  obtain ⟨h1, h2, h3, h4⟩ := h.sl hi
  rw [ints_length] at h1
  exact ⟨h1, h2, h3, h4⟩
theorem raw_dig (h : zs.length = n ∧ n ≤ c ∧ n ≤ 1000 ∧ Sl w w.heap.size A (ints zs)) {x : Nat} (e : zs = Na.up (Na.dig x)) : (Na.dig x).length = n ∧ n ≤ c ∧ n ≤ 1000 ∧ Sl w w.heap.size A (nats (Na.dig x)) := by
  subst e
  rw [nats_up, Na.up_length] at h
  exact h
theorem ag_add (h : Ow w0 w g M L O) (i j : Nat) (hi : L[i]? = some ⟨A, n, c, ints zs⟩) (hj : L[j]? = some ⟨A2, m, c2, ints ys⟩) :
    Calls Tryd.prog 16 #[.agg #[.slice A n c], .agg #[.slice A2 m c2]] w (GotO w0 g M L O (addL zs ys) (addE zs ys)) := by
  obtain ⟨h1, h2, h3, h4⟩ := h.raw hi
  obtain ⟨k1, k2, k3, k4⟩ := h.raw hj
  exact (nadd_any A A2 n c m c2 zs ys w h1 k1 h4 k4 (by omega) (by omega)).mono fun en w' hr => got_o h (addL_1000 zs ys) hr
theorem ag_radd (h : Ow w0 w g M L O) (i j : Nat) (hi : L[i]? = some ⟨A, n, c, ints zs⟩) (hj : L[j]? = some ⟨A2, m, c2, ints ys⟩) :
    Calls Tryd.prog 17 #[.agg #[.slice A n c], .agg #[.slice A2 m c2]] w (GotO w0 g M L O (addL zs ys) (addE zs ys)) := by
  obtain ⟨h1, h2, h3, h4⟩ := h.raw hi
  obtain ⟨k1, k2, k3, k4⟩ := h.raw hj
  exact (nradd_any A A2 n c m c2 zs ys w h1 k1 h4 k4 (by omega) (by omega)).mono fun en w' hr => got_o h (addL_1000 zs ys) hr
theorem ag_sub (h : Ow w0 w g M L O) (i j : Nat) (hi : L[i]? = some ⟨A, n, c, ints zs⟩) (hj : L[j]? = some ⟨A2, m, c2, ints ys⟩) :
    Calls Tryd.prog 32 #[.agg #[.slice A n c], .agg #[.slice A2 m c2]] w (GotO w0 g M L O (subL zs ys) (subE zs ys)) := by
  obtain ⟨h1, h2, h3, h4⟩ := h.raw hi
  obtain ⟨k1, k2, k3, k4⟩ := h.raw hj
  exact (nsub_any A A2 n c m c2 zs ys w h1 k1 h4 k4 (by omega) (by omega)).mono fun en w' hr => got_o h (subL_1000 zs ys) hr
theorem ag_rsub (h : Ow w0 w g M L O) (i j : Nat) (hi : L[i]? = some ⟨A, n, c, ints zs⟩) (hj : L[j]? = some ⟨A2, m, c2, ints ys⟩) :
    Calls Tryd.prog 65 #[.agg #[.slice A n c], .agg #[.slice A2 m c2]] w (GotO w0 g M L O (subL zs ys) (subE zs ys)) := by
  obtain ⟨h1, h2, h3, h4⟩ := h.raw hi
  obtain ⟨k1, k2, k3, k4⟩ := h.raw hj
  exact (nrsub_any A A2 n c m c2 zs ys w h1 k1 h2 k2 h4 k4 h3 k3).mono fun en w' hr => got_o h (subL_1000 zs ys) hr
theorem ag_mul (h : Ow w0 w g M L O) (i j : Nat) (hi : L[i]? = some ⟨A, n, c, ints zs⟩) (hj : L[j]? = some ⟨A2, m, c2, ints ys⟩) :
    Calls Tryd.prog 18 #[.agg #[.slice A n c], .agg #[.slice A2 m c2]] w (GotO w0 g M L O (mulL zs ys) (mulE zs ys)) := by
  obtain ⟨h1, h2, h3, h4⟩ := h.raw hi
  obtain ⟨k1, k2, k3, k4⟩ := h.raw hj
  exact (nmul_any A A2 n c m c2 zs ys w h1 k1 h4 k4 (by omega) (by omega)).mono fun en w' hr => got_o h (mulL_1000 zs ys) hr
theorem ag_rmul (h : Ow w0 w g M L O) (i j : Nat) (hi : L[i]? = some ⟨A, n, c, ints zs⟩) (hj : L[j]? = some ⟨A2, m, c2, ints ys⟩) :
    Calls Tryd.prog 19 #[.agg #[.slice A n c], .agg #[.slice A2 m c2]] w (GotO w0 g M L O (mulL zs ys) (mulE zs ys)) := by
  obtain ⟨h1, h2, h3, h4⟩ := h.raw hi
  obtain ⟨k1, k2, k3, k4⟩ := h.raw hj
  exact (nrMul_any A A2 n c m c2 zs ys w h1 k1 h4 k4 (by omega) (by omega)).mono fun en w' hr => got_o h (mulL_1000 zs ys) hr
theorem ag_div (h : Ow w0 w g M L O) (i j : Nat) (hi : L[i]? = some ⟨A, n, c, ints zs⟩) (hj : L[j]? = some ⟨A2, m, c2, ints ys⟩) :
    Calls Tryd.prog 35 #[.agg #[.slice A n c], .agg #[.slice A2 m c2]] w (GotO2 w0 g M L O (divQ zs ys) (divR zs ys) (divE zs ys)) := by
  have p := h.raw hi
  have q := h.raw hj
  have key : Calls Tryd.prog 35 #[.agg #[.slice A n c], .agg #[.slice A2 m c2]] w (ResD w (divQ zs ys) (divR zs ys) (divE zs ys)) := by
    rcases vv_cases zs ys with hv | ⟨hv, hx, hy, e1, e2⟩
    · have a1 : divQ zs ys = [] := by unfold divQ; rw [hv]; rfl
      have a2 : divR zs ys = [] := by unfold divR; rw [hv]; rfl
      have a3 : divE zs ys = 1 := by unfold divE; rw [hv]; rfl
      rw [a1, a2, a3]
      exact nDivide_bad A A2 n c m c2 zs ys w p.1 q.1 p.2.2.2 q.2.2.2 (by have := p.2.2.1; omega) (by have := q.2.2.1; omega) hv
    · have p' := raw_dig p e1
      have q' := raw_dig q e2
      rcases Nat.eq_zero_or_pos (num ys) with h0 | h0
      · have a1 : divQ zs ys = [] := by unfold divQ; rw [hv, if_pos rfl, if_pos h0]
        have a2 : divR zs ys = [] := by unfold divR; rw [hv, if_pos rfl, if_pos h0]
        have a3 : divE zs ys = 4 := by unfold divE; rw [hv, if_pos rfl, if_pos h0]
        rw [a1, a2, a3]
        obtain rfl : m = 0 := by rw [← q'.1, h0, Na.dig_zero]; rfl
        exact nDivide_zero A A2 n c c2 zs ys w p.1 q.1 p.2.2.2 q.2.2.2 (by have := p.2.2.1; omega) hv
      · have a1 : divQ zs ys = Na.dig (num zs / num ys) := by unfold divQ; rw [hv, if_pos rfl, if_neg (by omega)]
        have a2 : divR zs ys = Na.dig (num zs % num ys) := by unfold divR; rw [hv, if_pos rfl, if_neg (by omega)]
        have a3 : divE zs ys = 0 := by unfold divE; rw [hv, if_pos rfl, if_neg (by omega)]
        rw [a1, a2, a3]
        exact nDivide_ok A A2 n c m c2 _ _ w p'.1 q'.1 p'.2.2.2 q'.2.2.2 hx hy h0
  exact key.mono fun en w' hr => got_o2 h (divQ_1000 zs ys) (divR_1000 zs ys) hr
theorem ag_rdiv (h : Ow w0 w g M L O) (i j : Nat) (hi : L[i]? = some ⟨A, n, c, ints zs⟩) (hj : L[j]? = some ⟨A2, m, c2, ints ys⟩) :
    Calls Tryd.prog 55 #[.agg #[.slice A n c], .agg #[.slice A2 m c2]] w (GotO2 w0 g M L O (divQ zs ys) (divR zs ys) (divE zs ys)) := by
  have p := h.raw hi
  have q := h.raw hj
  have key : Calls Tryd.prog 55 #[.agg #[.slice A n c], .agg #[.slice A2 m c2]] w (ResD w (divQ zs ys) (divR zs ys) (divE zs ys)) := by
    rcases vv_cases zs ys with hv | ⟨hv, hx, hy, e1, e2⟩
    · have a1 : divQ zs ys = [] := by unfold divQ; rw [hv]; rfl
      have a2 : divR zs ys = [] := by unfold divR; rw [hv]; rfl
      have a3 : divE zs ys = 1 := by unfold divE; rw [hv]; rfl
      rw [a1, a2, a3]
      exact nrdivide_bad A A2 n c m c2 zs ys w p.1 q.1 p.2.1 q.2.1 p.2.2.2 q.2.2.2 p.2.2.1 q.2.2.1 hv
    · have p' := raw_dig p e1
      have q' := raw_dig q e2
      rcases Nat.eq_zero_or_pos (num ys) with h0 | h0
      · have a1 : divQ zs ys = [] := by unfold divQ; rw [hv, if_pos rfl, if_pos h0]
        have a2 : divR zs ys = [] := by unfold divR; rw [hv, if_pos rfl, if_pos h0]
        have a3 : divE zs ys = 4 := by unfold divE; rw [hv, if_pos rfl, if_pos h0]
        rw [a1, a2, a3]
        obtain rfl : m = 0 := by rw [← q'.1, h0, Na.dig_zero]; rfl
        exact nrdivide_zero A A2 n c 0 c2 _ w p'.1 rfl p'.2.1 q.2.1 p'.2.2.2 hx
      · have a1 : divQ zs ys = Na.dig (num zs / num ys) := by unfold divQ; rw [hv, if_pos rfl, if_neg (by omega)]
        have a2 : divR zs ys = Na.dig (num zs % num ys) := by unfold divR; rw [hv, if_pos rfl, if_neg (by omega)]
        have a3 : divE zs ys = 0 := by unfold divE; rw [hv, if_pos rfl, if_neg (by omega)]
        rw [a1, a2, a3]
        exact nrdivide_ok A A2 n c m c2 _ _ w p'.1 q'.1 p'.2.1 q'.2.1 p'.2.2.2 q'.2.2.2 hx hy h0
  exact key.mono fun en w' hr => got_o2 h (divQ_1000 zs ys) (divR_1000 zs ys) hr
theorem ag_gcd (h : Ow w0 w g M L O) (i j : Nat) (hi : L[i]? = some ⟨A, n, c, ints zs⟩) (hj : L[j]? = some ⟨A2, m, c2, ints ys⟩) (ht : Tab w0) :
    Calls Tryd.prog 37 #[.agg #[.slice A n c], .agg #[.slice A2 m c2]] w (GotO w0 g M L O (gcdL zs ys) (gcdE zs ys)) := by
  have p := h.raw hi
  have q := h.raw hj
  have key : Calls Tryd.prog 37 #[.agg #[.slice A n c], .agg #[.slice A2 m c2]] w (ResN w (gcdL zs ys) (gcdE zs ys)) := by
    rcases vv_cases zs ys with hv | ⟨hv, hx, hy, e1, e2⟩
    · have a1 : gcdL zs ys = [] := by unfold gcdL; rw [hv]; rfl
      have a3 : gcdE zs ys = 1 := by unfold gcdE; rw [hv]; rfl
      rw [a1, a3]
      exact nGcd_bad A A2 n c m c2 zs ys w p.1 q.1 p.2.2.2 q.2.2.2 (by have := p.2.2.1; omega) (by have := q.2.2.1; omega) hv
    · have p' := raw_dig p e1
      have q' := raw_dig q e2
      have a1 : gcdL zs ys = Na.dig (Nat.gcd (num zs) (num ys)) := by unfold gcdL; rw [hv, if_pos rfl]
      have a3 : gcdE zs ys = 0 := by unfold gcdE; rw [hv, if_pos rfl]
      rw [a1, a3]
      exact nGcd_ok A A2 n c m c2 _ _ w p'.1 q'.1 p'.2.2.2 q'.2.2.2 hx hy (ht.below h.below)
  exact key.mono fun en w' hr => got_o h (gcdL_1000 zs ys) hr
theorem ag_rgcd (h : Ow w0 w g M L O) (i j : Nat) (hi : L[i]? = some ⟨A, n, c, ints zs⟩) (hj : L[j]? = some ⟨A2, m, c2, ints ys⟩) :
    Calls Tryd.prog 66 #[.agg #[.slice A n c], .agg #[.slice A2 m c2]] w (GotO w0 g M L O (gcdL zs ys) (gcdE zs ys)) := by
  have p := h.raw hi
  have q := h.raw hj
  have key : Calls Tryd.prog 66 #[.agg #[.slice A n c], .agg #[.slice A2 m c2]] w (ResN w (gcdL zs ys) (gcdE zs ys)) := by
    rcases vv_cases zs ys with hv | ⟨hv, hx, hy, e1, e2⟩
    · have a1 : gcdL zs ys = [] := by unfold gcdL; rw [hv]; rfl
      have a3 : gcdE zs ys = 1 := by unfold gcdE; rw [hv]; rfl
      rw [a1, a3]
      exact nrgcd_bad A A2 n c m c2 zs ys w p.1 q.1 p.2.1 q.2.1 p.2.2.2 q.2.2.2 p.2.2.1 q.2.2.1 hv
    · have p' := raw_dig p e1
      have q' := raw_dig q e2
      have a1 : gcdL zs ys = Na.dig (Nat.gcd (num zs) (num ys)) := by unfold gcdL; rw [hv, if_pos rfl]
      have a3 : gcdE zs ys = 0 := by unfold gcdE; rw [hv, if_pos rfl]
      rw [a1, a3]
      exact nrgcd_ok A A2 n c m c2 _ _ w p'.1 q'.1 p'.2.1 q'.2.1 p'.2.2.2 q'.2.2.2 hx hy
  exact key.mono fun en w' hr => got_o h (gcdL_1000 zs ys) hr
theorem ag_int_b (h : Ow w0 w g M L O) (i : Nat) (hi : L[i]? = some ⟨A, n, c, ints zs⟩) :
    Calls Tryd.prog 33 #[.agg #[.slice A n c]] w fun e w' => e = .returned (.tuple #[.int .i64 (intW zs), .int .i64 (intF zs)]) ∧ Below w.heap.size w w' := by
  have p := h.raw hi
  cases hv : Na.vld zs
  · have a1 : intW zs = 0 := by unfold intW; rw [hv]; rfl
    have a2 : intF zs = 1 := by unfold intF; rw [hv]; rfl
    rw [a1, a2]
    exact nint_bad A n c zs w p.1 p.2.2.2 (by have := p.2.2.1; omega) hv
  · obtain ⟨x, hx, e1⟩ := Na.vld_ex hv
    have p' := raw_dig p e1
    have a1 : intW zs = intV x := by unfold intW; rw [hv, if_pos rfl, e1, num_dig]
    have a2 : intF zs = intE x := by unfold intF; rw [hv, if_pos rfl, e1, num_dig]
    rw [a1, a2]
    exact nint_ok A n c x w p'.1 p'.2.2.2 hx
theorem ag_int (h : Ow w0 w g M L O) (i : Nat) (hi : L[i]? = some ⟨A, n, c, ints zs⟩) :
    Calls Tryd.prog 33 #[.agg #[.slice A n c]] w fun e w' => e = .returned (.tuple #[.int .i64 (intW zs), .int .i64 (intF zs)]) ∧ Ow w0 w' g M L O :=
  (ag_int_b h i hi).mono fun en w' ⟨he, hb⟩ => ⟨he, h.go hb⟩
theorem ag_rint_b (h : Ow w0 w g M L O) (i : Nat) (hi : L[i]? = some ⟨A, n, c, ints zs⟩) :
    Calls Tryd.prog 67 #[.agg #[.slice A n c]] w fun e w' => e = .returned (.tuple #[.int .i64 (intW zs), .int .i64 (intF zs)]) ∧ Below w.heap.size w w' := by
  have p := h.raw hi
  cases hv : Na.vld zs
  · have a1 : intW zs = 0 := by unfold intW; rw [hv]; rfl
    have a2 : intF zs = 1 := by unfold intF; rw [hv]; rfl
    rw [a1, a2]
    exact nrint_bad A n c zs w p.1 p.2.1 p.2.2.2 p.2.2.1 hv
  · obtain ⟨x, hx, e1⟩ := Na.vld_ex hv
    have p' := raw_dig p e1
    have a1 : intW zs = intV x := by unfold intW; rw [hv, if_pos rfl, e1, num_dig]
    have a2 : intF zs = intE x := by unfold intF; rw [hv, if_pos rfl, e1, num_dig]
    rw [a1, a2]
    exact nrint_ok A n c x w p'.1 p'.2.1 p'.2.2.2 hx
theorem ag_rint (h : Ow w0 w g M L O) (i : Nat) (hi : L[i]? = some ⟨A, n, c, ints zs⟩) :
    Calls Tryd.prog 67 #[.agg #[.slice A n c]] w fun e w' => e = .returned (.tuple #[.int .i64 (intW zs), .int .i64 (intF zs)]) ∧ Ow w0 w' g M L O :=
  (ag_rint_b h i hi).mono fun en w' ⟨he, hb⟩ => ⟨he, h.go hb⟩
theorem ag_prt_b (h : Ow w0 w g M L O) (i : Nat) (hi : L[i]? = some ⟨A, n, c, ints zs⟩) :
    Calls Tryd.prog 34 #[.agg #[.slice A n c]] w fun e w' => e = .returned (.string (str (prtL zs))) ∧ Below w.heap.size w w' := by
  have p := h.raw hi
  cases hv : Na.vld zs
  · have a1 : prtL zs = [] := by unfold prtL; rw [hv]; rfl
    rw [a1]
    exact nprint_bad A n c zs w p.1 p.2.2.2 (by have := p.2.2.1; omega) hv
  · obtain ⟨x, hx, e1⟩ := Na.vld_ex hv
    have p' := raw_dig p e1
    have a1 : prtL zs = De.text x := by unfold prtL; rw [hv, if_pos rfl, e1, num_dig]
    rw [a1]
    exact nprint_ok A n c x w p'.1 p'.2.2.2 hx
theorem ag_prt (h : Ow w0 w g M L O) (i : Nat) (hi : L[i]? = some ⟨A, n, c, ints zs⟩) :
    Calls Tryd.prog 34 #[.agg #[.slice A n c]] w fun e w' => e = .returned (.string (str (prtL zs))) ∧ Ow w0 w' g M L O :=
  (ag_prt_b h i hi).mono fun en w' ⟨he, hb⟩ => ⟨he, h.go hb⟩
theorem ag_rprt_b (h : Ow w0 w g M L O) (i : Nat) (hi : L[i]? = some ⟨A, n, c, ints zs⟩) :
    Calls Tryd.prog 68 #[.agg #[.slice A n c]] w fun e w' => e = .returned (.string (str (prtL zs))) ∧ Below w.heap.size w w' := by
  have p := h.raw hi
  cases hv : Na.vld zs
  · have a1 : prtL zs = [] := by unfold prtL; rw [hv]; rfl
    rw [a1]
    exact nrprint_bad A n c zs w p.1 p.2.1 p.2.2.2 p.2.2.1 hv
  · obtain ⟨x, hx, e1⟩ := Na.vld_ex hv
    have p' := raw_dig p e1
    have a1 : prtL zs = De.text x := by unfold prtL; rw [hv, if_pos rfl, e1, num_dig]
    rw [a1]
    exact nrprint_ok A n c x w p'.1 p'.2.1 p'.2.2.2 hx
theorem ag_rprt (h : Ow w0 w g M L O) (i : Nat) (hi : L[i]? = some ⟨A, n, c, ints zs⟩) :
    Calls Tryd.prog 68 #[.agg #[.slice A n c]] w fun e w' => e = .returned (.string (str (prtL zs))) ∧ Ow w0 w' g M L O :=
  (ag_rprt_b h i hi).mono fun en w' ⟨he, hb⟩ => ⟨he, h.go hb⟩
theorem ag_vld_b (h : Ow w0 w g M L O) (i : Nat) (hi : L[i]? = some ⟨A, n, c, ints zs⟩) :
    Calls Tryd.prog 36 #[.agg #[.slice A n c]] w fun e w' => e = .returned (.bool (Na.vld zs)) ∧ Below w.heap.size w w' := by
  have p := h.raw hi
  exact (nvalid_any A n c w.heap.size zs w p.1 p.2.2.2 (Nat.le_refl _) (by have := p.2.2.1; omega)).mono fun en w' ⟨he, hb⟩ => ⟨he, hb⟩
theorem ag_vld (h : Ow w0 w g M L O) (i : Nat) (hi : L[i]? = some ⟨A, n, c, ints zs⟩) :
    Calls Tryd.prog 36 #[.agg #[.slice A n c]] w fun e w' => e = .returned (.bool (Na.vld zs)) ∧ Ow w0 w' g M L O :=
  (ag_vld_b h i hi).mono fun en w' ⟨he, hb⟩ => ⟨he, h.go hb⟩
theorem ag_rvld_b (h : Ow w0 w g M L O) (i : Nat) (hi : L[i]? = some ⟨A, n, c, ints zs⟩) :
    Calls Tryd.prog 44 #[.agg #[.slice A n c]] w fun e w' => e = .returned (.bool (Na.vld zs)) ∧ Below w.heap.size w w' := by
  have p := h.raw hi
  exact nrvalid_any A n c w.heap.size zs w p.1 p.2.2.2 (Nat.le_refl _) (by have := p.2.2.1; omega)
theorem ag_same_b (h : Ow w0 w g M L O) (i j : Nat) {l : List Nat} (hi : L[i]? = some ⟨A, n, c, nats l⟩) (hj : L[j]? = some ⟨A2, m, c2, nats l⟩) :
    Calls Tryd.prog 20 #[.agg #[.slice A n c], .agg #[.slice A2 m c2]] w fun e w' => e = .returned (.bool true) ∧ Below w.heap.size w w' := by
  obtain ⟨h1, h2, h3, h4⟩ := h.sl hi
  obtain ⟨k1, k2, k3, k4⟩ := h.sl hj
  rw [nats_length] at h1 k1
  exact (nsame_any A A2 n c m c2 _ (Na.up l) (Na.up l) w (by rw [Na.up_length]; exact h1) (by rw [Na.up_length]; exact k1) (by rw [nats_up]; exact h4) (by rw [nats_up]; exact k4) (Nat.le_refl _) (by omega) (by omega)).mono fun en w' ⟨he, hb⟩ => ⟨by rw [he, decide_eq_true rfl], hb⟩
theorem ag_same (h : Ow w0 w g M L O) (i j : Nat) {l : List Nat} (hi : L[i]? = some ⟨A, n, c, nats l⟩) (hj : L[j]? = some ⟨A2, m, c2, nats l⟩) :
    Calls Tryd.prog 20 #[.agg #[.slice A n c], .agg #[.slice A2 m c2]] w fun e w' => e = .returned (.bool true) ∧ Ow w0 w' g M L O :=
  (ag_same_b h i j hi hj).mono fun en w' ⟨he, hb⟩ => ⟨he, h.go hb⟩
theorem ag_cmp_b (h : Ow w0 w g M L O) (i j : Nat) (hi : L[i]? = some ⟨A, n, c, ints zs⟩) (hj : L[j]? = some ⟨A2, m, c2, ints ys⟩) (hv : Na.vld zs = true) (hv2 : Na.vld ys = true) :
    Calls Tryd.prog 31 #[.agg #[.slice A n c], .agg #[.slice A2 m c2]] w fun e w' => e = .returned (.int .i64 (Na.sgn (num zs) (num ys))) ∧ Below w.heap.size w w' := by
  obtain ⟨x, hx, e1⟩ := Na.vld_ex hv
  obtain ⟨y, hy, e2⟩ := Na.vld_ex hv2
  have p' := raw_dig (h.raw hi) e1
  have q' := raw_dig (h.raw hj) e2
  rw [e1, e2, num_dig, num_dig]
  exact (ncmp_any A A2 n c m c2 w.heap.size x y w p'.1 q'.1 p'.2.2.2 q'.2.2.2 (Nat.le_refl _) (by have := p'.2.2.1; omega) (by have := q'.2.2.1; omega)).mono fun en w' ⟨he, hb⟩ => ⟨he, hb⟩
theorem ag_cmp (h : Ow w0 w g M L O) (i j : Nat) (hi : L[i]? = some ⟨A, n, c, ints zs⟩) (hj : L[j]? = some ⟨A2, m, c2, ints ys⟩) (hv : Na.vld zs = true) (hv2 : Na.vld ys = true) :
    Calls Tryd.prog 31 #[.agg #[.slice A n c], .agg #[.slice A2 m c2]] w fun e w' => e = .returned (.int .i64 (Na.sgn (num zs) (num ys))) ∧ Ow w0 w' g M L O :=
  (ag_cmp_b h i j hi hj hv hv2).mono fun en w' ⟨he, hb⟩ => ⟨he, h.go hb⟩
theorem ag_rcmp_b (h : Ow w0 w g M L O) (i j : Nat) (hi : L[i]? = some ⟨A, n, c, ints zs⟩) (hj : L[j]? = some ⟨A2, m, c2, ints ys⟩) (hv : Na.vld zs = true) (hv2 : Na.vld ys = true) :
    Calls Tryd.prog 51 #[.agg #[.slice A n c], .agg #[.slice A2 m c2]] w fun e w' => e = .returned (.int .i64 (Na.sgn (num zs) (num ys))) ∧ Below w.heap.size w w' := by
  obtain ⟨x, hx, e1⟩ := Na.vld_ex hv
  obtain ⟨y, hy, e2⟩ := Na.vld_ex hv2
  have p' := raw_dig (h.raw hi) e1
  have q' := raw_dig (h.raw hj) e2
  rw [e1, e2, num_dig, num_dig]
  exact (nrcmp_any A A2 n c m c2 x y w p'.1 q'.1 p'.2.1 q'.2.1 p'.2.2.2 q'.2.2.2 p'.2.2.1 q'.2.2.1).mono fun en w' ⟨he, hb⟩ => ⟨he, hb⟩
theorem ag_rcmp (h : Ow w0 w g M L O) (i j : Nat) (hi : L[i]? = some ⟨A, n, c, ints zs⟩) (hj : L[j]? = some ⟨A2, m, c2, ints ys⟩) (hv : Na.vld zs = true) (hv2 : Na.vld ys = true) :
    Calls Tryd.prog 51 #[.agg #[.slice A n c], .agg #[.slice A2 m c2]] w fun e w' => e = .returned (.int .i64 (Na.sgn (num zs) (num ys))) ∧ Ow w0 w' g M L O :=
  (ag_rcmp_b h i j hi hj hv hv2).mono fun en w' ⟨he, hb⟩ => ⟨he, h.go hb⟩
end
set_option maxHeartbeats 16000000 in
theorem agree_any (A A2 : Option Addr) (n c m c2 : Nat) (zs ys : List Int) (w : World) (hn : zs.length = n) (hm : ys.length = m) (hnc : n ≤ c) (hmc : m ≤ c2) (hs : Sl w w.heap.size A (ints zs)) (hs2 : Sl w w.heap.size A2 (ints ys)) (hl : n ≤ 1000) (hl2 : m ≤ 1000) (ht : Tab w) :
    Calls Tryd.prog 38 #[.agg #[.slice A n c], .agg #[.slice A2 m c2]] w fun e w' => e = .returned (.bool true) ∧ Below w.heap.size w w' := by
  have H0 := ((((Ow.of (St.refl w)).old hs (by rw [ints_length]; exact hn) hnc hl).old hs2 (by rw [ints_length]; exact hm) hmc hl2).boxed (.slice A n c) 29).boxed (.slice A2 m c2) 29
  simp only [World.size_alloc, List.nil_append, List.cons_append] at H0
  have HT := Lib.hid ht
  obtain ⟨lA, hlA⟩ : ∃ l, addL zs ys = l := ⟨_, rfl⟩
  obtain ⟨eA, heA⟩ : ∃ l, addE zs ys = l := ⟨_, rfl⟩
  obtain ⟨lS, hlS⟩ : ∃ l, subL zs ys = l := ⟨_, rfl⟩
  obtain ⟨eS, heS⟩ : ∃ l, subE zs ys = l := ⟨_, rfl⟩
  obtain ⟨lM, hlM⟩ : ∃ l, mulL zs ys = l := ⟨_, rfl⟩
  obtain ⟨eM, heM⟩ : ∃ l, mulE zs ys = l := ⟨_, rfl⟩
  obtain ⟨lQ, hlQ⟩ : ∃ l, divQ zs ys = l := ⟨_, rfl⟩
  obtain ⟨lR, hlR⟩ : ∃ l, divR zs ys = l := ⟨_, rfl⟩
  obtain ⟨eD, heD⟩ : ∃ l, divE zs ys = l := ⟨_, rfl⟩
  obtain ⟨lG, hlG⟩ : ∃ l, gcdL zs ys = l := ⟨_, rfl⟩
  obtain ⟨eG, heG⟩ : ∃ l, gcdE zs ys = l := ⟨_, rfl⟩
  obtain ⟨vI, hvI⟩ : ∃ l, intW zs = l := ⟨_, rfl⟩
  obtain ⟨eI, heI⟩ : ∃ l, intF zs = l := ⟨_, rfl⟩
  obtain ⟨sP, hsP⟩ : ∃ l, str (prtL zs) = l := ⟨_, rfl⟩
  obtain ⟨va, hva⟩ : ∃ b, Na.vld zs = b := ⟨_, rfl⟩
  obtain ⟨vb, hvb⟩ : ∃ b, Na.vld ys = b := ⟨_, rfl⟩
  have HA := Lib.hid (And.intro hlA heA)
  have HS := Lib.hid (And.intro hlS heS)
  have HM := Lib.hid (And.intro hlM heM)
  have HD := Lib.hid (And.intro hlQ (And.intro hlR heD))
  have HG := Lib.hid (And.intro hlG heG)
  have HI := Lib.hid (And.intro hvI heI)
  have HP := Lib.hid hsP
  have HVa := Lib.hid hva
  have HVb := Lib.hid hvb
  have n1 : (eA != eA) = false := by simp
  have n2 : (eS != eS) = false := by simp
  have n3 : (eM != eM) = false := by simp
  have n4 : (eD == eD) = true := by simp
  have n5 : (eG == eG) = true := by simp
  have n6 : (vI == vI) = true := by simp
  have n7 : (eI == eI) = true := by simp
  have n8 : (va == va) = true := by simp
  clear hs hs2 hn hm ht hlA heA hlS heS hlM heM hlQ hlR heD hlG heG hvI heI hsP hva hvb
  go_enter Tryd.func38, Tryd.ntmps38
  have hc0 := H0.cell 0 rfl
  have hc1 := H0.cell 1 rfl
  go_wp2_with fail
  refine (ag_add H0 0 1 rfl rfl).mono ?_
  rw [HA.out.1, HA.out.2]
  rintro e v1 ⟨B1, m1, d1, rfl, H1⟩
  have H2 := H1.boxed (.slice B1 m1 d1) 29
  simp only [List.nil_append, List.cons_append] at H2
  clear H0 hc0 hc1 H1
  have hc0 := H2.cell 0 rfl
  have hc1 := H2.cell 1 rfl
  go_wp2_with fail
  refine (ag_radd H2 0 1 rfl rfl).mono ?_
  rw [HA.out.1, HA.out.2]
  rintro e v3 ⟨B2, m2, d2, rfl, H3⟩
  have H4 := H3.boxed (.slice B2 m2 d2) 29
  simp only [List.nil_append, List.cons_append] at H4
  clear H2 hc0 hc1 H3
  have hc0 := H4.cell 0 rfl
  have hc1 := H4.cell 1 rfl
  go_wp2_with fail
  refine (ag_sub H4 0 1 rfl rfl).mono ?_
  rw [HS.out.1, HS.out.2]
  rintro e v5 ⟨B3, m3, d3, rfl, H5⟩
  have H6 := H5.boxed (.slice B3 m3 d3) 29
  simp only [List.nil_append, List.cons_append] at H6
  clear H4 hc0 hc1 H5
  have hc0 := H6.cell 0 rfl
  have hc1 := H6.cell 1 rfl
  go_wp2_with fail
  refine (ag_rsub H6 0 1 rfl rfl).mono ?_
  rw [HS.out.1, HS.out.2]
  rintro e v7 ⟨B4, m4, d4, rfl, H7⟩
  have H8 := H7.boxed (.slice B4 m4 d4) 29
  simp only [List.nil_append, List.cons_append] at H8
  clear H6 hc0 hc1 H7
  have hc0 := H8.cell 0 rfl
  have hc1 := H8.cell 1 rfl
  go_wp2_with fail
  refine (ag_mul H8 0 1 rfl rfl).mono ?_
  rw [HM.out.1, HM.out.2]
  rintro e v9 ⟨B5, m5, d5, rfl, H9⟩
  have H10 := H9.boxed (.slice B5 m5 d5) 29
  simp only [List.nil_append, List.cons_append] at H10
  clear H8 hc0 hc1 H9
  have hc0 := H10.cell 0 rfl
  have hc1 := H10.cell 1 rfl
  go_wp2_with fail
  refine (ag_rmul H10 0 1 rfl rfl).mono ?_
  rw [HM.out.1, HM.out.2]
  rintro e v11 ⟨B6, m6, d6, rfl, H11⟩
  have H12 := H11.boxed (.slice B6 m6 d6) 29
  simp only [List.nil_append, List.cons_append] at H12
  clear H10 hc0 hc1 H11
  have hc0 := H12.cell 2 rfl
  have hc1 := H12.cell 3 rfl
  go_wp2_with fail
  refine (ag_same H12 2 3 rfl rfl).mono ?_
  rintro e v13 ⟨rfl, H13⟩
  clear H12 hc0 hc1
  have hc0 := H13.cell 4 rfl
  have hc1 := H13.cell 5 rfl
  go_wp2_with fail
  refine (ag_same H13 4 5 rfl rfl).mono ?_
  rintro e v14 ⟨rfl, H14⟩
  clear H13 hc0 hc1
  have hc0 := H14.cell 6 rfl
  have hc1 := H14.cell 7 rfl
  go_wp2_with fail
  refine (ag_same H14 6 7 rfl rfl).mono ?_
  rintro e v15 ⟨rfl, H15⟩
  clear H14 hc0 hc1
  have hc0 := H15.cell 0 rfl
  have hc1 := H15.cell 1 rfl
  go_wp2_with fail
  refine (ag_div H15 0 1 rfl rfl).mono ?_
  rw [HD.out.1, HD.out.2.1, HD.out.2.2]
  rintro e v16 ⟨B7, m7, d7, B8, m8, d8, rfl, H16⟩
  clear H15 hc0 hc1
  have s2 := H16.cell 2 rfl
  have f2 := H16.free 2 rfl
  have H17 := H16.setv 2 rfl (.slice B7 m7 d7)
  simp only [List.set_cons_succ, List.set_cons_zero] at H17
  have s4 := H17.cell 4 rfl
  have f4 := H17.free 4 rfl
  have H18 := H17.setv 4 rfl (.slice B8 m8 d8)
  simp only [List.set_cons_succ, List.set_cons_zero] at H18
  have hc0 := H18.cell 0 rfl
  have hc1 := H18.cell 1 rfl
  go_wp2_with fail
  clear s2 f2 H16 s4 f4 H17
  refine (ag_rdiv H18 0 1 rfl rfl).mono ?_
  rw [HD.out.1, HD.out.2.1, HD.out.2.2]
  rintro e v19 ⟨B9, m9, d9, C1, p1, q1, rfl, H19⟩
  clear H18 hc0 hc1
  have s3 := H19.cell 3 rfl
  have f3 := H19.free 3 rfl
  have H20 := H19.setv 3 rfl (.slice B9 m9 d9)
  simp only [List.set_cons_succ, List.set_cons_zero] at H20
  have s5 := H20.cell 5 rfl
  have f5 := H20.free 5 rfl
  have H21 := H20.setv 5 rfl (.slice C1 p1 q1)
  simp only [List.set_cons_succ, List.set_cons_zero] at H21
  have hc0 := H21.cell 0 rfl
  have hc1 := H21.cell 1 rfl
  go_wp2_with fail
  clear s3 f3 H19 s5 f5 H20
  refine (ag_gcd H21 0 1 rfl rfl HT.out).mono ?_
  rw [HG.out.1, HG.out.2]
  rintro e v22 ⟨C2, p2, q2, rfl, H22⟩
  clear H21 hc0 hc1
  have s6 := H22.cell 6 rfl
  have f6 := H22.free 6 rfl
  have H23 := H22.setv 6 rfl (.slice C2 p2 q2)
  simp only [List.set_cons_succ, List.set_cons_zero] at H23
  have hc0 := H23.cell 0 rfl
  have hc1 := H23.cell 1 rfl
  go_wp2_with fail
  clear s6 f6 H22
  refine (ag_rgcd H23 0 1 rfl rfl).mono ?_
  rw [HG.out.1, HG.out.2]
  rintro e v24 ⟨C3, p3, q3, rfl, H24⟩
  clear H23 hc0 hc1
  have s7 := H24.cell 7 rfl
  have f7 := H24.free 7 rfl
  have H25 := H24.setv 7 rfl (.slice C3 p3 q3)
  simp only [List.set_cons_succ, List.set_cons_zero] at H25
  have hc0 := H25.cell 0 rfl
  go_wp2_with fail
  clear s7 f7 H24
  refine (ag_int H25 0 rfl).mono ?_
  rw [HI.out.1, HI.out.2]
  rintro e v26 ⟨rfl, H26⟩
  clear H25 hc0
  have hc0 := H26.cell 0 rfl
  go_wp2_with fail
  refine (ag_rint H26 0 rfl).mono ?_
  rw [HI.out.1, HI.out.2]
  rintro e v27 ⟨rfl, H27⟩
  clear H26 hc0
  have HF := Lib.hid H27
  have kk0 := cell_regrown (H27.cell 0 rfl)
  have kk1 := cell_regrown (H27.cell 1 rfl)
  have kk2 := cell_regrown (H27.cell 2 rfl)
  have kk3 := cell_regrown (H27.cell 3 rfl)
  have kk4 := cell_regrown (H27.cell 4 rfl)
  have kk5 := cell_regrown (H27.cell 5 rfl)
  have kk6 := cell_regrown (H27.cell 6 rfl)
  have kk7 := cell_regrown (H27.cell 7 rfl)
  go_upto_region 15 with (fail)
  clear  H27
  simp only [List.append_eq, List.cons_append, List.nil_append]
  have cS1 := regrown_call (P := Tryd.prog) (w := v27) (f := 20) (args := #[.agg #[.slice B7 m7 d7], .agg #[.slice B9 m9 d9]]) (v := .bool true) (fun W hW => ag_same_b (HF.out.go hW) 8 10 rfl rfl)
  have cS2 := regrown_call (P := Tryd.prog) (w := v27) (f := 20) (args := #[.agg #[.slice B8 m8 d8], .agg #[.slice C1 p1 q1]]) (v := .bool true) (fun W hW => ag_same_b (HF.out.go hW) 9 11 rfl rfl)
  have cS3 := regrown_call (P := Tryd.prog) (w := v27) (f := 20) (args := #[.agg #[.slice C2 p2 q2], .agg #[.slice C3 p3 q3]]) (v := .bool true) (fun W hW => ag_same_b (HF.out.go hW) 12 13 rfl rfl)
  have cV1 := regrown_call (P := Tryd.prog) (w := v27) (f := 36) (args := #[.agg #[.slice A n c]]) (v := .bool va) (fun W hW => by rw [← HVa.out]; exact ag_vld_b (HF.out.go hW) 0 rfl)
  have cV2 := regrown_call (P := Tryd.prog) (w := v27) (f := 44) (args := #[.agg #[.slice A n c]]) (v := .bool va) (fun W hW => by rw [← HVa.out]; exact ag_rvld_b (HF.out.go hW) 0 rfl)
  have cV3 := regrown_call (P := Tryd.prog) (w := v27) (f := 44) (args := #[.agg #[.slice A2 m c2]]) (v := .bool vb) (fun W hW => by rw [← HVb.out]; exact ag_rvld_b (HF.out.go hW) 1 rfl)
  have cP1 := regrown_call (P := Tryd.prog) (w := v27) (f := 34) (args := #[.agg #[.slice A n c]]) (v := .string sP) (fun W hW => by rw [← HP.out]; exact ag_prt_b (HF.out.go hW) 0 rfl)
  have cP2 := regrown_call (P := Tryd.prog) (w := v27) (f := 68) (args := #[.agg #[.slice A n c]]) (v := .string sP) (fun W hW => by rw [← HP.out]; exact ag_rprt_b (HF.out.go hW) 0 rfl)
  refine wp_region_quiet_below (by kernel_rfl) (by kernel_rfl) ?_
  repeat (go_big_quiet_step ((first | with_reducible exact cS1 _ _ | with_reducible exact cS2 _ _ | with_reducible exact cS3 _ _ | with_reducible exact cV1 _ _ | with_reducible exact cV2 _ _ | with_reducible exact cV3 _ _ | with_reducible exact cP1 _ _ | with_reducible exact cP2 _ _)))
  cases va
  · simp only [Bool.not_false]
    repeat (go_big_quiet_step ((first | with_reducible exact cS1 _ _ | with_reducible exact cS2 _ _ | with_reducible exact cS3 _ _ | with_reducible exact cV1 _ _ | with_reducible exact cV2 _ _ | with_reducible exact cV3 _ _ | with_reducible exact cP1 _ _ | with_reducible exact cP2 _ _)))
    refine wpQuiet_nil ?_
    intro W hW
    have HZ := Lib.hid (HF.out.go (regrown_below hW))
    clear hW kk0 kk1 kk2 kk3 kk4 kk5 kk6 kk7 cS1 cS2 cS3 cV1 cV2 cV3 cP1 cP2
    go_wp2_with fail
    go_ret
    exact ⟨rfl, HZ.out.below⟩
  · simp only [Bool.not_true]
    repeat (go_big_quiet_step ((first | with_reducible exact cS1 _ _ | with_reducible exact cS2 _ _ | with_reducible exact cS3 _ _ | with_reducible exact cV1 _ _ | with_reducible exact cV2 _ _ | with_reducible exact cV3 _ _ | with_reducible exact cP1 _ _ | with_reducible exact cP2 _ _)))
    cases vb
    · simp only [Bool.not_false]
      repeat (go_big_quiet_step ((first | with_reducible exact cS1 _ _ | with_reducible exact cS2 _ _ | with_reducible exact cS3 _ _ | with_reducible exact cV1 _ _ | with_reducible exact cV2 _ _ | with_reducible exact cV3 _ _ | with_reducible exact cP1 _ _ | with_reducible exact cP2 _ _)))
      refine wpQuiet_nil ?_
      intro W hW
      have HZ := Lib.hid (HF.out.go (regrown_below hW))
      clear hW kk0 kk1 kk2 kk3 kk4 kk5 kk6 kk7 cS1 cS2 cS3 cV1 cV2 cV3 cP1 cP2
      go_wp2_with fail
      go_ret
      exact ⟨rfl, HZ.out.below⟩
    · simp only [Bool.not_true]
      obtain ⟨sg, hsg⟩ : ∃ s : Int, Na.sgn (num zs) (num ys) = s := ⟨_, rfl⟩
      have HSg := Lib.hid hsg
      have nn : (sg == sg) = true := by simp
      clear hsg
      have cC1 := regrown_call (P := Tryd.prog) (w := v27) (f := 31) (args := #[.agg #[.slice A n c], .agg #[.slice A2 m c2]]) (v := .int .i64 sg) (fun W hW => by rw [← HSg.out]; exact ag_cmp_b (HF.out.go hW) 0 1 rfl rfl HVa.out HVb.out)
      have cC2 := regrown_call (P := Tryd.prog) (w := v27) (f := 51) (args := #[.agg #[.slice A n c], .agg #[.slice A2 m c2]]) (v := .int .i64 sg) (fun W hW => by rw [← HSg.out]; exact ag_rcmp_b (HF.out.go hW) 0 1 rfl rfl HVa.out HVb.out)
      repeat (go_big_quiet_step ((first | with_reducible exact cS1 _ _ | with_reducible exact cS2 _ _ | with_reducible exact cS3 _ _ | with_reducible exact cV1 _ _ | with_reducible exact cV2 _ _ | with_reducible exact cV3 _ _ | with_reducible exact cP1 _ _ | with_reducible exact cP2 _ _ | with_reducible exact cC1 _ _ | with_reducible exact cC2 _ _)))
      refine wpQuiet_nil ?_
      intro W hW
      have HZ := Lib.hid (HF.out.go (regrown_below hW))
      clear hW kk0 kk1 kk2 kk3 kk4 kk5 kk6 kk7 cS1 cS2 cS3 cV1 cV2 cV3 cP1 cP2 cC1 cC2
      go_wp2_with fail
      go_ret
      exact ⟨rfl, HZ.out.below⟩
end Go.Proofs.YtflgfkelbniblaaDoor

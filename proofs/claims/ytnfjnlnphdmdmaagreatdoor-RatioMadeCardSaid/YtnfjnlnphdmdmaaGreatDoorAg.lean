/- All functions of two numbers, as the program and as the document has them, for any two lists of ints. -/
import Derived.Test.YtnfjnlnphdmdmaaGreatDoorRn
import Derived.Test.YtnfjnlnphdmdmaaGreatDoorWq
import Derived.Test.YtnfjnlnphdmdmaaGreatDoorDv
import Derived.Test.YtnfjnlnphdmdmaaGreatDoorNInt
import Derived.BigQuiet
namespace Go.Proofs.YtnfjnlnphdmdmaaGreatDoor
open Go.RowKit Go.Sort
set_option linter.unusedVariables false
set_option maxRecDepth 100000
def divQ (zs ys : List Int) : List Nat := if Na.vld zs && Na.vld ys then (if num ys = 0 then [] else Na.dig (num zs / num ys)) else []
def divR (zs ys : List Int) : List Nat := if Na.vld zs && Na.vld ys then (if num ys = 0 then [] else Na.dig (num zs % num ys)) else []
def divE (zs ys : List Int) : Int := if Na.vld zs && Na.vld ys then (if num ys = 0 then 4 else 0) else 1
def gcdL (zs ys : List Int) : List Nat := if Na.vld zs && Na.vld ys then Na.dig (Nat.gcd (num zs) (num ys)) else []
def gcdE (zs ys : List Int) : Int := if Na.vld zs && Na.vld ys then 0 else 1
def intW (zs : List Int) : Int := if Na.vld zs then intV (num zs) else 0
def intF (zs : List Int) : Int := if Na.vld zs then intE (num zs) else 1
def prtL (zs : List Int) : List UInt8 := if Na.vld zs then De.text (num zs) else []
def GotO (w0 : World) (g : Option Nat) (M : List (Nat × Value)) (L : List Ob) (O : List Rw) (l : List Nat) (err : Int) (en : Ending) (w' : World) : Prop :=
  ∃ (A : Option Addr) (n c : Nat), en = .returned (.tuple #[.agg #[.slice A n c], .int .i64 err]) ∧ Ow w0 w' g M (L ++ [⟨A, n, c, nats l⟩]) O
def GotO2 (w0 : World) (g : Option Nat) (M : List (Nat × Value)) (L : List Ob) (O : List Rw) (l1 l2 : List Nat) (err : Int) (en : Ending) (w' : World) : Prop :=
  ∃ (A : Option Addr) (n c : Nat) (A2 : Option Addr) (n2 c2 : Nat), en = .returned (.tuple #[.agg #[.slice A n c], .agg #[.slice A2 n2 c2], .int .i64 err]) ∧ Ow w0 w' g M (L ++ [⟨A, n, c, nats l1⟩] ++ [⟨A2, n2, c2, nats l2⟩]) O
theorem dig_1000 {x : Nat} (h : x < Na.top) : (Na.dig x).length ≤ 1000 := Nat.le_trans ((Na.dig_200 x).2 h) (by omega)
theorem resL_1000 (x : Nat) : (resL x).length ≤ 1000 := Nat.le_trans (resL_len x) (by omega)
theorem vv_cases (zs ys : List Int) : (Na.vld zs && Na.vld ys) = false ∨ ((Na.vld zs && Na.vld ys) = true ∧ num zs < Na.top ∧ num ys < Na.top ∧ zs = Na.up (Na.dig (num zs)) ∧ ys = Na.up (Na.dig (num ys))) := by
  cases hv : (Na.vld zs && Na.vld ys)
  · exact .inl rfl
  · obtain ⟨x, y, hx, hy, rfl, rfl⟩ := vv_ex hv
    refine .inr ⟨rfl, ?_⟩
    rw [num_dig, num_dig]
    exact ⟨hx, hy, rfl, rfl⟩
theorem addL_1000 (zs ys : List Int) : (addL zs ys).length ≤ 1000 := by
  unfold addL; split
  · exact resL_1000 _
  · exact Nat.zero_le _
theorem mulL_1000 (zs ys : List Int) : (mulL zs ys).length ≤ 1000 := by
  unfold mulL; split
  · exact resL_1000 _
  · exact Nat.zero_le _
theorem subL_1000 (zs ys : List Int) : (subL zs ys).length ≤ 1000 := by
  rcases vv_cases zs ys with h | ⟨h, hx, hy, e1, e2⟩
  · unfold subL; rw [h]; exact Nat.zero_le _
  · unfold subL; rw [h, if_pos rfl]; split
    · exact Nat.zero_le _
    · exact dig_1000 (Nat.lt_of_le_of_lt (Nat.sub_le _ _) hx)
theorem divQ_1000 (zs ys : List Int) : (divQ zs ys).length ≤ 1000 := by
  rcases vv_cases zs ys with h | ⟨h, hx, hy, e1, e2⟩
  · unfold divQ; rw [h]; exact Nat.zero_le _
  · unfold divQ; rw [h, if_pos rfl]; split
    · exact Nat.zero_le _
    · exact dig_1000 (Nat.lt_of_le_of_lt (Nat.div_le_self _ _) hx)
theorem divR_1000 (zs ys : List Int) : (divR zs ys).length ≤ 1000 := by
  rcases vv_cases zs ys with h | ⟨h, hx, hy, e1, e2⟩
  · unfold divR; rw [h]; exact Nat.zero_le _
  · unfold divR; rw [h, if_pos rfl]; split
    · exact Nat.zero_le _
    · exact dig_1000 (Nat.lt_of_le_of_lt (Nat.mod_le _ _) hx)
theorem gcdL_1000 (zs ys : List Int) : (gcdL zs ys).length ≤ 1000 := by
  rcases vv_cases zs ys with h | ⟨h, hx, hy, e1, e2⟩
  · unfold gcdL; rw [h]; exact Nat.zero_le _
  · unfold gcdL; rw [h, if_pos rfl]; exact dig_1000 (gcd_top hx hy)
section
variable {w0 w w' : World} {g : Option Nat} {M : List (Nat × Value)} {L : List Ob} {O : List Rw} {A A2 : Option Addr} {n c m c2 : Nat} {zs ys : List Int}
theorem got_o (h : Ow w0 w g M L O) {l : List Nat} {e : Int} (hl : l.length ≤ 1000) {en : Ending} (hr : ResN w l e en w') : GotO w0 g M L O l e en w' := by
  obtain ⟨A, n, c, he, -, ho⟩ := h.pushN hr hl
  exact ⟨A, n, c, he, ho⟩
theorem got_o2 (h : Ow w0 w g M L O) {l1 l2 : List Nat} {e : Int} (h1 : l1.length ≤ 1000) (h2 : l2.length ≤ 1000) {en : Ending} (hr : ResD w l1 l2 e en w') : GotO2 w0 g M L O l1 l2 e en w' := by
  obtain ⟨A1, n1, c1, A2, n2, c2, rfl, k1, k2, o1, o2, hb⟩ := hr
  exact ⟨A1, n1, c1, A2, n2, c2, rfl, h.push2 o1 o2 (by omega) (by omega) hb⟩
theorem Ow.raw (h : Ow w0 w g M L O) {i : Nat} (hi : L[i]? = some ⟨A, n, c, ints zs⟩) : zs.length = n ∧ n ≤ c ∧ n ≤ 1000 ∧ Sl w w.heap.size A (ints zs) := by
  obtain ⟨h1, h2, h3, h4⟩ := h.sl hi
  rw [ints_length] at h1
  exact ⟨h1, h2, h3, h4⟩
theorem raw_dig (h : zs.length = n ∧ n ≤ c ∧ n ≤ 1000 ∧ Sl w w.heap.size A (ints zs)) {x : Nat} (e : zs = Na.up (Na.dig x)) : (Na.dig x).length = n ∧ n ≤ c ∧ n ≤ 1000 ∧ Sl w w.heap.size A (nats (Na.dig x)) := by
  subst e
  rw [nats_up, Na.up_length] at h
  exact h
theorem ag_add (h : Ow w0 w g M L O) (i j : Nat) (hi : L[i]? = some ⟨A, n, c, ints zs⟩) (hj : L[j]? = some ⟨A2, m, c2, ints ys⟩) :
    Calls Tryz.prog 43 #[.agg #[.slice A n c], .agg #[.slice A2 m c2]] w (GotO w0 g M L O (addL zs ys) (addE zs ys)) := by
  obtain ⟨h1, h2, h3, h4⟩ := h.raw hi
  obtain ⟨k1, k2, k3, k4⟩ := h.raw hj
  exact (nadd_any A A2 n c m c2 zs ys w h1 k1 h4 k4 (by omega) (by omega)).mono fun en w' hr => got_o h (addL_1000 zs ys) hr
theorem ag_radd (h : Ow w0 w g M L O) (i j : Nat) (hi : L[i]? = some ⟨A, n, c, ints zs⟩) (hj : L[j]? = some ⟨A2, m, c2, ints ys⟩) :
    Calls Tryz.prog 46 #[.agg #[.slice A n c], .agg #[.slice A2 m c2]] w (GotO w0 g M L O (addL zs ys) (addE zs ys)) := by
  obtain ⟨h1, h2, h3, h4⟩ := h.raw hi
  obtain ⟨k1, k2, k3, k4⟩ := h.raw hj
  exact (nradd_any A A2 n c m c2 zs ys w h1 k1 h4 k4 (by omega) (by omega)).mono fun en w' hr => got_o h (addL_1000 zs ys) hr
theorem ag_sub (h : Ow w0 w g M L O) (i j : Nat) (hi : L[i]? = some ⟨A, n, c, ints zs⟩) (hj : L[j]? = some ⟨A2, m, c2, ints ys⟩) :
    Calls Tryz.prog 47 #[.agg #[.slice A n c], .agg #[.slice A2 m c2]] w (GotO w0 g M L O (subL zs ys) (subE zs ys)) := by
  obtain ⟨h1, h2, h3, h4⟩ := h.raw hi
  obtain ⟨k1, k2, k3, k4⟩ := h.raw hj
  exact (nsub_any A A2 n c m c2 zs ys w h1 k1 h4 k4 (by omega) (by omega)).mono fun en w' hr => got_o h (subL_1000 zs ys) hr
theorem ag_rsub (h : Ow w0 w g M L O) (i j : Nat) (hi : L[i]? = some ⟨A, n, c, ints zs⟩) (hj : L[j]? = some ⟨A2, m, c2, ints ys⟩) :
    Calls Tryz.prog 48 #[.agg #[.slice A n c], .agg #[.slice A2 m c2]] w (GotO w0 g M L O (subL zs ys) (subE zs ys)) := by
  obtain ⟨h1, h2, h3, h4⟩ := h.raw hi
  obtain ⟨k1, k2, k3, k4⟩ := h.raw hj
  exact (nrsub_any A A2 n c m c2 zs ys w h1 k1 h2 k2 h4 k4 h3 k3).mono fun en w' hr => got_o h (subL_1000 zs ys) hr
theorem ag_mul (h : Ow w0 w g M L O) (i j : Nat) (hi : L[i]? = some ⟨A, n, c, ints zs⟩) (hj : L[j]? = some ⟨A2, m, c2, ints ys⟩) :
    Calls Tryz.prog 52 #[.agg #[.slice A n c], .agg #[.slice A2 m c2]] w (GotO w0 g M L O (mulL zs ys) (mulE zs ys)) := by
  obtain ⟨h1, h2, h3, h4⟩ := h.raw hi
  obtain ⟨k1, k2, k3, k4⟩ := h.raw hj
  exact (nmul_any A A2 n c m c2 zs ys w h1 k1 h4 k4 (by omega) (by omega)).mono fun en w' hr => got_o h (mulL_1000 zs ys) hr
theorem ag_rmul (h : Ow w0 w g M L O) (i j : Nat) (hi : L[i]? = some ⟨A, n, c, ints zs⟩) (hj : L[j]? = some ⟨A2, m, c2, ints ys⟩) :
    Calls Tryz.prog 53 #[.agg #[.slice A n c], .agg #[.slice A2 m c2]] w (GotO w0 g M L O (mulL zs ys) (mulE zs ys)) := by
  obtain ⟨h1, h2, h3, h4⟩ := h.raw hi
  obtain ⟨k1, k2, k3, k4⟩ := h.raw hj
  exact (nrMul_any A A2 n c m c2 zs ys w h1 k1 h4 k4 (by omega) (by omega)).mono fun en w' hr => got_o h (mulL_1000 zs ys) hr
theorem ag_div (h : Ow w0 w g M L O) (i j : Nat) (hi : L[i]? = some ⟨A, n, c, ints zs⟩) (hj : L[j]? = some ⟨A2, m, c2, ints ys⟩) :
    Calls Tryz.prog 37 #[.agg #[.slice A n c], .agg #[.slice A2 m c2]] w (GotO2 w0 g M L O (divQ zs ys) (divR zs ys) (divE zs ys)) := by
  have p := h.raw hi
  have q := h.raw hj
  have key : Calls Tryz.prog 37 #[.agg #[.slice A n c], .agg #[.slice A2 m c2]] w (ResD w (divQ zs ys) (divR zs ys) (divE zs ys)) := by
    rcases vv_cases zs ys with hv | ⟨hv, hx, hy, e1, e2⟩
    · have a1 : divQ zs ys = [] := by unfold divQ; rw [hv]; rfl
      have a2 : divR zs ys = [] := by unfold divR; rw [hv]; rfl
      have a3 : divE zs ys = 1 := by unfold divE; rw [hv]; rfl
      rw [a1, a2, a3]
      exact nDivide_bad A A2 n c m c2 zs ys w p.1 q.1 p.2.2.2 q.2.2.2 (by have := p.2.2.1; omega) (by have := q.2.2.1; omega) hv
    · have p' := raw_dig p e1
      have q' := raw_dig q e2
      rcases Nat.eq_zero_or_pos (num ys) with h0 | h0
      · have a1 : divQ zs ys = [] := by unfold divQ; rw [hv, if_pos rfl, if_pos h0]
        have a2 : divR zs ys = [] := by unfold divR; rw [hv, if_pos rfl, if_pos h0]
        have a3 : divE zs ys = 4 := by unfold divE; rw [hv, if_pos rfl, if_pos h0]
        rw [a1, a2, a3]
        obtain rfl : m = 0 := by rw [← q'.1, h0, Na.dig_zero]; rfl
        exact nDivide_zero A A2 n c c2 zs ys w p.1 q.1 p.2.2.2 q.2.2.2 (by have := p.2.2.1; omega) hv
      · have a1 : divQ zs ys = Na.dig (num zs / num ys) := by unfold divQ; rw [hv, if_pos rfl, if_neg (by omega)]
        have a2 : divR zs ys = Na.dig (num zs % num ys) := by unfold divR; rw [hv, if_pos rfl, if_neg (by omega)]
        have a3 : divE zs ys = 0 := by unfold divE; rw [hv, if_pos rfl, if_neg (by omega)]
        rw [a1, a2, a3]
        exact nDivide_ok A A2 n c m c2 _ _ w p'.1 q'.1 p'.2.2.2 q'.2.2.2 hx hy h0
  exact key.mono fun en w' hr => got_o2 h (divQ_1000 zs ys) (divR_1000 zs ys) hr
theorem ag_rdiv (h : Ow w0 w g M L O) (i j : Nat) (hi : L[i]? = some ⟨A, n, c, ints zs⟩) (hj : L[j]? = some ⟨A2, m, c2, ints ys⟩) :
    Calls Tryz.prog 40 #[.agg #[.slice A n c], .agg #[.slice A2 m c2]] w (GotO2 w0 g M L O (divQ zs ys) (divR zs ys) (divE zs ys)) := by
  have p := h.raw hi
  have q := h.raw hj
  have key : Calls Tryz.prog 40 #[.agg #[.slice A n c], .agg #[.slice A2 m c2]] w (ResD w (divQ zs ys) (divR zs ys) (divE zs ys)) := by
    rcases vv_cases zs ys with hv | ⟨hv, hx, hy, e1, e2⟩
    · have a1 : divQ zs ys = [] := by unfold divQ; rw [hv]; rfl
      have a2 : divR zs ys = [] := by unfold divR; rw [hv]; rfl
      have a3 : divE zs ys = 1 := by unfold divE; rw [hv]; rfl
      rw [a1, a2, a3]
      exact nrdivide_bad A A2 n c m c2 zs ys w p.1 q.1 p.2.1 q.2.1 p.2.2.2 q.2.2.2 p.2.2.1 q.2.2.1 hv
    · have p' := raw_dig p e1
      have q' := raw_dig q e2
      rcases Nat.eq_zero_or_pos (num ys) with h0 | h0
      · have a1 : divQ zs ys = [] := by unfold divQ; rw [hv, if_pos rfl, if_pos h0]
        have a2 : divR zs ys = [] := by unfold divR; rw [hv, if_pos rfl, if_pos h0]
        have a3 : divE zs ys = 4 := by unfold divE; rw [hv, if_pos rfl, if_pos h0]
        rw [a1, a2, a3]
        obtain rfl : m = 0 := by rw [← q'.1, h0, Na.dig_zero]; rfl
        exact nrdivide_zero A A2 n c 0 c2 _ w p'.1 rfl p'.2.1 q.2.1 p'.2.2.2 hx
      · have a1 : divQ zs ys = Na.dig (num zs / num ys) := by unfold divQ; rw [hv, if_pos rfl, if_neg (by omega)]
        have a2 : divR zs ys = Na.dig (num zs % num ys) := by unfold divR; rw [hv, if_pos rfl, if_neg (by omega)]
        have a3 : divE zs ys = 0 := by unfold divE; rw [hv, if_pos rfl, if_neg (by omega)]
        rw [a1, a2, a3]
        exact nrdivide_ok A A2 n c m c2 _ _ w p'.1 q'.1 p'.2.1 q'.2.1 p'.2.2.2 q'.2.2.2 hx hy h0
  exact key.mono fun en w' hr => got_o2 h (divQ_1000 zs ys) (divR_1000 zs ys) hr
theorem ag_gcd (h : Ow w0 w g M L O) (i j : Nat) (hi : L[i]? = some ⟨A, n, c, ints zs⟩) (hj : L[j]? = some ⟨A2, m, c2, ints ys⟩) (ht : Tab w0) :
    Calls Tryz.prog 36 #[.agg #[.slice A n c], .agg #[.slice A2 m c2]] w (GotO w0 g M L O (gcdL zs ys) (gcdE zs ys)) := by
  have p := h.raw hi
  have q := h.raw hj
  have key : Calls Tryz.prog 36 #[.agg #[.slice A n c], .agg #[.slice A2 m c2]] w (ResN w (gcdL zs ys) (gcdE zs ys)) := by
    rcases vv_cases zs ys with hv | ⟨hv, hx, hy, e1, e2⟩
    · have a1 : gcdL zs ys = [] := by unfold gcdL; rw [hv]; rfl
      have a3 : gcdE zs ys = 1 := by unfold gcdE; rw [hv]; rfl
      rw [a1, a3]
      exact nGcd_bad A A2 n c m c2 zs ys w p.1 q.1 p.2.2.2 q.2.2.2 (by have := p.2.2.1; omega) (by have := q.2.2.1; omega) hv
    · have p' := raw_dig p e1
      have q' := raw_dig q e2
      have a1 : gcdL zs ys = Na.dig (Nat.gcd (num zs) (num ys)) := by unfold gcdL; rw [hv, if_pos rfl]
      have a3 : gcdE zs ys = 0 := by unfold gcdE; rw [hv, if_pos rfl]
      rw [a1, a3]
      exact nGcd_ok A A2 n c m c2 _ _ w p'.1 q'.1 p'.2.2.2 q'.2.2.2 hx hy (ht.below h.below)
  exact key.mono fun en w' hr => got_o h (gcdL_1000 zs ys) hr
theorem ag_rgcd (h : Ow w0 w g M L O) (i j : Nat) (hi : L[i]? = some ⟨A, n, c, ints zs⟩) (hj : L[j]? = some ⟨A2, m, c2, ints ys⟩) :
    Calls Tryz.prog 39 #[.agg #[.slice A n c], .agg #[.slice A2 m c2]] w (GotO w0 g M L O (gcdL zs ys) (gcdE zs ys)) := by
  have p := h.raw hi
  have q := h.raw hj
  have key : Calls Tryz.prog 39 #[.agg #[.slice A n c], .agg #[.slice A2 m c2]] w (ResN w (gcdL zs ys) (gcdE zs ys)) := by
    rcases vv_cases zs ys with hv | ⟨hv, hx, hy, e1, e2⟩
    · have a1 : gcdL zs ys = [] := by unfold gcdL; rw [hv]; rfl
      have a3 : gcdE zs ys = 1 := by unfold gcdE; rw [hv]; rfl
      rw [a1, a3]
      exact nrgcd_bad A A2 n c m c2 zs ys w p.1 q.1 p.2.1 q.2.1 p.2.2.2 q.2.2.2 p.2.2.1 q.2.2.1 hv
    · have p' := raw_dig p e1
      have q' := raw_dig q e2
      have a1 : gcdL zs ys = Na.dig (Nat.gcd (num zs) (num ys)) := by unfold gcdL; rw [hv, if_pos rfl]
      have a3 : gcdE zs ys = 0 := by unfold gcdE; rw [hv, if_pos rfl]
      rw [a1, a3]
      exact nrgcd_ok A A2 n c m c2 _ _ w p'.1 q'.1 p'.2.1 q'.2.1 p'.2.2.2 q'.2.2.2 hx hy
  exact key.mono fun en w' hr => got_o h (gcdL_1000 zs ys) hr
theorem ag_prt_b (h : Ow w0 w g M L O) (i : Nat) (hi : L[i]? = some ⟨A, n, c, ints zs⟩) :
    Calls Tryz.prog 44 #[.agg #[.slice A n c]] w fun e w' => e = .returned (.string (str (prtL zs))) ∧ Below w.heap.size w w' := by
  have p := h.raw hi
  cases hv : Na.vld zs
  · have a1 : prtL zs = [] := by unfold prtL; rw [hv]; rfl
    rw [a1]
    exact nprint_bad A n c zs w p.1 p.2.2.2 (by have := p.2.2.1; omega) hv
  · obtain ⟨x, hx, e1⟩ := Na.vld_ex hv
    have p' := raw_dig p e1
    have a1 : prtL zs = De.text x := by unfold prtL; rw [hv, if_pos rfl, e1, num_dig]
    rw [a1]
    exact nprint_ok A n c x w p'.1 p'.2.2.2 hx
theorem ag_prt (h : Ow w0 w g M L O) (i : Nat) (hi : L[i]? = some ⟨A, n, c, ints zs⟩) :
    Calls Tryz.prog 44 #[.agg #[.slice A n c]] w fun e w' => e = .returned (.string (str (prtL zs))) ∧ Ow w0 w' g M L O :=
  (ag_prt_b h i hi).mono fun en w' ⟨he, hb⟩ => ⟨he, h.go hb⟩
theorem ag_rprt_b (h : Ow w0 w g M L O) (i : Nat) (hi : L[i]? = some ⟨A, n, c, ints zs⟩) :
    Calls Tryz.prog 58 #[.agg #[.slice A n c]] w fun e w' => e = .returned (.string (str (prtL zs))) ∧ Below w.heap.size w w' := by
  have p := h.raw hi
  cases hv : Na.vld zs
  · have a1 : prtL zs = [] := by unfold prtL; rw [hv]; rfl
    rw [a1]
    exact nrprint_bad A n c zs w p.1 p.2.1 p.2.2.2 p.2.2.1 hv
  · obtain ⟨x, hx, e1⟩ := Na.vld_ex hv
    have p' := raw_dig p e1
    have a1 : prtL zs = De.text x := by unfold prtL; rw [hv, if_pos rfl, e1, num_dig]
    rw [a1]
    exact nrprint_ok A n c x w p'.1 p'.2.1 p'.2.2.2 hx
theorem ag_rprt (h : Ow w0 w g M L O) (i : Nat) (hi : L[i]? = some ⟨A, n, c, ints zs⟩) :
    Calls Tryz.prog 58 #[.agg #[.slice A n c]] w fun e w' => e = .returned (.string (str (prtL zs))) ∧ Ow w0 w' g M L O :=
  (ag_rprt_b h i hi).mono fun en w' ⟨he, hb⟩ => ⟨he, h.go hb⟩
theorem ag_vld_b (h : Ow w0 w g M L O) (i : Nat) (hi : L[i]? = some ⟨A, n, c, ints zs⟩) :
    Calls Tryz.prog 34 #[.agg #[.slice A n c]] w fun e w' => e = .returned (.bool (Na.vld zs)) ∧ Below w.heap.size w w' := by
  have p := h.raw hi
  exact (nvalid_any A n c w.heap.size zs w p.1 p.2.2.2 (Nat.le_refl _) (by have := p.2.2.1; omega)).mono fun en w' ⟨he, hb⟩ => ⟨he, hb⟩
theorem ag_vld (h : Ow w0 w g M L O) (i : Nat) (hi : L[i]? = some ⟨A, n, c, ints zs⟩) :
    Calls Tryz.prog 34 #[.agg #[.slice A n c]] w fun e w' => e = .returned (.bool (Na.vld zs)) ∧ Ow w0 w' g M L O :=
  (ag_vld_b h i hi).mono fun en w' ⟨he, hb⟩ => ⟨he, h.go hb⟩
theorem ag_rvld_b (h : Ow w0 w g M L O) (i : Nat) (hi : L[i]? = some ⟨A, n, c, ints zs⟩) :
    Calls Tryz.prog 38 #[.agg #[.slice A n c]] w fun e w' => e = .returned (.bool (Na.vld zs)) ∧ Below w.heap.size w w' := by
  have p := h.raw hi
  exact nrvalid_any A n c w.heap.size zs w p.1 p.2.2.2 (Nat.le_refl _) (by have := p.2.2.1; omega)
theorem ag_same_b (h : Ow w0 w g M L O) (i j : Nat) {l : List Nat} (hi : L[i]? = some ⟨A, n, c, nats l⟩) (hj : L[j]? = some ⟨A2, m, c2, nats l⟩) :
    Calls Tryz.prog 29 #[.agg #[.slice A n c], .agg #[.slice A2 m c2]] w fun e w' => e = .returned (.bool true) ∧ Below w.heap.size w w' := by
  obtain ⟨h1, h2, h3, h4⟩ := h.sl hi
  obtain ⟨k1, k2, k3, k4⟩ := h.sl hj
  rw [nats_length] at h1 k1
  exact (nsame_any A A2 n c m c2 _ (Na.up l) (Na.up l) w (by rw [Na.up_length]; exact h1) (by rw [Na.up_length]; exact k1) (by rw [nats_up]; exact h4) (by rw [nats_up]; exact k4) (Nat.le_refl _) (by omega) (by omega)).mono fun en w' ⟨he, hb⟩ => ⟨by rw [he, decide_eq_true rfl], hb⟩
theorem ag_same (h : Ow w0 w g M L O) (i j : Nat) {l : List Nat} (hi : L[i]? = some ⟨A, n, c, nats l⟩) (hj : L[j]? = some ⟨A2, m, c2, nats l⟩) :
    Calls Tryz.prog 29 #[.agg #[.slice A n c], .agg #[.slice A2 m c2]] w fun e w' => e = .returned (.bool true) ∧ Ow w0 w' g M L O :=
  (ag_same_b h i j hi hj).mono fun en w' ⟨he, hb⟩ => ⟨he, h.go hb⟩
theorem ag_cmp_b (h : Ow w0 w g M L O) (i j : Nat) (hi : L[i]? = some ⟨A, n, c, ints zs⟩) (hj : L[j]? = some ⟨A2, m, c2, ints ys⟩) (hv : Na.vld zs = true) (hv2 : Na.vld ys = true) :
    Calls Tryz.prog 54 #[.agg #[.slice A n c], .agg #[.slice A2 m c2]] w fun e w' => e = .returned (.int .i64 (Na.sgn (num zs) (num ys))) ∧ Below w.heap.size w w' := by
  obtain ⟨x, hx, e1⟩ := Na.vld_ex hv
  obtain ⟨y, hy, e2⟩ := Na.vld_ex hv2
  have p' := raw_dig (h.raw hi) e1
  have q' := raw_dig (h.raw hj) e2
  rw [e1, e2, num_dig, num_dig]
  exact (ncmp_any A A2 n c m c2 w.heap.size x y w p'.1 q'.1 p'.2.2.2 q'.2.2.2 (Nat.le_refl _) (by have := p'.2.2.1; omega) (by have := q'.2.2.1; omega)).mono fun en w' ⟨he, hb⟩ => ⟨he, hb⟩
theorem ag_cmp (h : Ow w0 w g M L O) (i j : Nat) (hi : L[i]? = some ⟨A, n, c, ints zs⟩) (hj : L[j]? = some ⟨A2, m, c2, ints ys⟩) (hv : Na.vld zs = true) (hv2 : Na.vld ys = true) :
    Calls Tryz.prog 54 #[.agg #[.slice A n c], .agg #[.slice A2 m c2]] w fun e w' => e = .returned (.int .i64 (Na.sgn (num zs) (num ys))) ∧ Ow w0 w' g M L O :=
  (ag_cmp_b h i j hi hj hv hv2).mono fun en w' ⟨he, hb⟩ => ⟨he, h.go hb⟩
theorem ag_rcmp_b (h : Ow w0 w g M L O) (i j : Nat) (hi : L[i]? = some ⟨A, n, c, ints zs⟩) (hj : L[j]? = some ⟨A2, m, c2, ints ys⟩) (hv : Na.vld zs = true) (hv2 : Na.vld ys = true) :
    Calls Tryz.prog 55 #[.agg #[.slice A n c], .agg #[.slice A2 m c2]] w fun e w' => e = .returned (.int .i64 (Na.sgn (num zs) (num ys))) ∧ Below w.heap.size w w' := by
  obtain ⟨x, hx, e1⟩ := Na.vld_ex hv
  obtain ⟨y, hy, e2⟩ := Na.vld_ex hv2
  have p' := raw_dig (h.raw hi) e1
  have q' := raw_dig (h.raw hj) e2
  rw [e1, e2, num_dig, num_dig]
  exact (nrcmp_any A A2 n c m c2 x y w p'.1 q'.1 p'.2.1 q'.2.1 p'.2.2.2 q'.2.2.2 p'.2.2.1 q'.2.2.1).mono fun en w' ⟨he, hb⟩ => ⟨he, hb⟩
theorem ag_rcmp (h : Ow w0 w g M L O) (i j : Nat) (hi : L[i]? = some ⟨A, n, c, ints zs⟩) (hj : L[j]? = some ⟨A2, m, c2, ints ys⟩) (hv : Na.vld zs = true) (hv2 : Na.vld ys = true) :
    Calls Tryz.prog 55 #[.agg #[.slice A n c], .agg #[.slice A2 m c2]] w fun e w' => e = .returned (.int .i64 (Na.sgn (num zs) (num ys))) ∧ Ow w0 w' g M L O :=
  (ag_rcmp_b h i j hi hj hv hv2).mono fun en w' ⟨he, hb⟩ => ⟨he, h.go hb⟩
end
end Go.Proofs.YtnfjnlnphdmdmaaGreatDoor

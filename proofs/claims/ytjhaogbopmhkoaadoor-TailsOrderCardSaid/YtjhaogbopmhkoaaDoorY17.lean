/- Num NatU Qma Qmb -/
import Derived.Test.YtjhaogbopmhkoaaDoorY05
import Derived.Test.YtjhaogbopmhkoaaDoorY07
import Derived.Test.YtjhaogbopmhkoaaDoorY08
import Derived.Test.YtjhaogbopmhkoaaDoorY12
import Derived.Test.YtjhaogbopmhkoaaDoorY16
namespace Go.Proofs.YtjhaogbopmhkoaaDoor
open Go.RowKit Go.Sort
set_option linter.unusedVariables false
set_option maxRecDepth 100000
section
variable {w0 w w' : World} {g : Option Nat} {M : List (Nat × Value)} {L : List Ob} {O : List Rw} {A A2 : Option Addr} {n c m c2 x y : Nat}
theorem valid_ok (h : Ow w0 w g M L O) (i : Nat) (hi : L[i]? = some ⟨A, n, c, nats (Na.dig x)⟩) (hx : x < Na.top) :
    Calls Tryd.prog 86 #[.agg #[.slice A n c]] w fun e w' => e = .returned (.bool true) ∧ Ow w0 w' g M L O := by
  rw [← nats_up] at hi
  have := ag_vld h i hi
  rwa [Na.vld_dig hx] at this
end
theorem npower_range (A : Option Addr) (n c x : Nat) (v : Int) (w : World) (hn : (Na.dig x).length = n) (hnc : n ≤ c) (hs : Sl w w.heap.size A (nats (Na.dig x))) (hx : x < Na.top) (hv : v < 0 ∨ 4800 < v) :
    Calls Tryd.prog 82 #[.agg #[.slice A n c], .int .i64 v] w (ResN w [] 2) := by
  have hn2 : n ≤ 200 := by rw [← hn]; exact (Na.dig_200 x).2 hx
  have H0 := (((Ow.of (St.refl w)).old hs (by rw [nats_length]; exact hn) hnc (by omega)).boxed (.slice A n c) 24).boxed (.slice none 0 0) 24
  simp only [World.size_alloc, List.nil_append, List.cons_append] at H0
  have hc0 := H0.cell 0 rfl
  have HH := Lib.hid (valid_ok H0 0 rfl hx)
  clear hn hs H0 hx
  rcases hv with hv | hv
  · have hd : decide (v < 0) = true := decide_eq_true hv
    go_enter Tryd.func82, Tryd.ntmps82
    go_wp2_with fail
    refine HH.out.mono ?_
    rintro e w1 ⟨rfl, H1⟩
    have hs1 := H1.cell 1 rfl
    have hf1 := H1.free 1 rfl
    clear hc0 HH
    go_wp2_with fail
    have G := H1.setv 1 rfl (.slice none 0 0)
    have hz := G.cell 1 rfl
    refine bodyPost_ret (v := .tuple #[.agg #[.slice none 0 0], .int .i64 2]) (by simp [results, Tryd.results82, go_sem, hz]) rfl ?_
    exact resN_nil _ _ _ G.below
  · have hd : decide (v < 0) = false := decide_eq_false (by omega)
    have hd2 : decide (4800 < v) = true := decide_eq_true hv
    go_enter Tryd.func82, Tryd.ntmps82
    go_wp2_with fail
    refine HH.out.mono ?_
    rintro e w1 ⟨rfl, H1⟩
    have hs1 := H1.cell 1 rfl
    have hf1 := H1.free 1 rfl
    clear hc0 HH
    go_wp2_with fail
    have G := H1.setv 1 rfl (.slice none 0 0)
    have hz := G.cell 1 rfl
    refine bodyPost_ret (v := .tuple #[.agg #[.slice none 0 0], .int .i64 2]) (by simp [results, Tryd.results82, go_sem, hz]) rfl ?_
    exact resN_nil _ _ _ G.below
theorem nrpower_range (A : Option Addr) (n c x : Nat) (v : Int) (w : World) (hn : (Na.dig x).length = n) (hnc : n ≤ c) (hs : Sl w w.heap.size A (nats (Na.dig x))) (hx : x < Na.top) (hv : v < 0 ∨ 4800 < v) :
    Calls Tryd.prog 92 #[.agg #[.slice A n c], .int .i64 v] w (ResN w [] 2) := by
  have hn2 : n ≤ 200 := by rw [← hn]; exact (Na.dig_200 x).2 hx
  have H0 := (((Ow.of (St.refl w)).old hs (by rw [nats_length]; exact hn) hnc (by omega)).boxed (.slice A n c) 24).boxed (.slice none 0 0) 24
  simp only [World.size_alloc, List.nil_append, List.cons_append] at H0
  have hc0 := H0.cell 0 rfl
  have HH := Lib.hid (rvalid_ok H0 0 rfl hx)
  clear hn hs H0 hx
  rcases hv with hv | hv
  · have hd : decide (v < 0) = true := decide_eq_true hv
    go_enter Tryd.func92, Tryd.ntmps92
    go_wp2_with fail
    refine HH.out.mono ?_
    rintro e w1 ⟨rfl, H1⟩
    have hs1 := H1.cell 1 rfl
    have hf1 := H1.free 1 rfl
    clear hc0 HH
    go_wp2_with fail
    have G := H1.setv 1 rfl (.slice none 0 0)
    have hz := G.cell 1 rfl
    refine bodyPost_ret (v := .tuple #[.agg #[.slice none 0 0], .int .i64 2]) (by simp [results, Tryd.results92, go_sem, hz]) rfl ?_
    exact resN_nil _ _ _ G.below
  · have hd : decide (v < 0) = false := decide_eq_false (by omega)
    have hd2 : decide (4800 < v) = true := decide_eq_true hv
    go_enter Tryd.func92, Tryd.ntmps92
    go_wp2_with fail
    refine HH.out.mono ?_
    rintro e w1 ⟨rfl, H1⟩
    have hs1 := H1.cell 1 rfl
    have hf1 := H1.free 1 rfl
    clear hc0 HH
    go_wp2_with fail
    have G := H1.setv 1 rfl (.slice none 0 0)
    have hz := G.cell 1 rfl
    refine bodyPost_ret (v := .tuple #[.agg #[.slice none 0 0], .int .i64 2]) (by simp [results, Tryd.results92, go_sem, hz]) rfl ?_
    exact resN_nil _ _ _ G.below
def powL (x : Nat) (v : Int) : List Nat := if v < 0 ∨ 4800 < v then [] else resL (x ^ v.toNat)
def powE (x : Nat) (v : Int) : Int := if v < 0 ∨ 4800 < v then 2 else resE (x ^ v.toNat)
theorem powL_1000 (x : Nat) (v : Int) : (powL x v).length ≤ 1000 := by
  unfold powL
  split
  · exact Nat.zero_le _
  · exact resL_1000 _
theorem choL_1000 (n k : Int) : (choL n k).length ≤ 1000 := by
  unfold choL
  split
  · exact Nat.zero_le _
  · split
    · exact Nat.zero_le _
    · exact Nat.le_trans (Na.bin_top n.toNat k.toNat (by omega)).2 (by omega)
theorem ofL_1000 {v : Int} (h : v ≤ 9223372036854775807) : (ofL v).length ≤ 1000 := by
  unfold ofL
  split
  · exact Nat.zero_le _
  · exact Nat.le_trans (Na.dig_len_le (n := 3) (Nat.lt_of_le_of_lt (show v.toNat ≤ 9223372036854775807 by omega) (by decide))) (by omega)
section
variable {w0 w w' : World} {g : Option Nat} {M : List (Nat × Value)} {L : List Ob} {O : List Rw} {A A2 : Option Addr} {n c m c2 x y : Nat}
theorem ag_pow (h : Ow w0 w g M L O) (i : Nat) (hi : L[i]? = some ⟨A, n, c, nats (Na.dig x)⟩) (hx : x < Na.top) (v : Int) :
    Calls Tryd.prog 82 #[.agg #[.slice A n c], .int .i64 v] w (GotO w0 g M L O (powL x v) (powE x v)) := by
  obtain ⟨h1, h2, h3, h4⟩ := h.sl hi
  rw [nats_length] at h1
  have key : Calls Tryd.prog 82 #[.agg #[.slice A n c], .int .i64 v] w (ResN w (powL x v) (powE x v)) := by
    by_cases hv : v < 0 ∨ 4800 < v
    · have e1 : powL x v = [] := if_pos hv
      have e2 : powE x v = 2 := if_pos hv
      rw [e1, e2]
      exact npower_range A n c x v w h1 h2 h4 hx hv
    · have e1 : powL x v = resL (x ^ v.toNat) := if_neg hv
      have e2 : powE x v = resE (x ^ v.toNat) := if_neg hv
      rw [e1, e2]
      have h0 : 0 ≤ v := by omega
      obtain ⟨k, rfl⟩ := Int.eq_ofNat_of_zero_le h0
      exact npower_ok A n c x k w h1 h4 hx (by omega)
  exact key.mono fun en w' hr => got_o h (powL_1000 x v) hr
theorem ag_rpow (h : Ow w0 w g M L O) (i : Nat) (hi : L[i]? = some ⟨A, n, c, nats (Na.dig x)⟩) (hx : x < Na.top) (v : Int) :
    Calls Tryd.prog 92 #[.agg #[.slice A n c], .int .i64 v] w (GotO w0 g M L O (powL x v) (powE x v)) := by
  obtain ⟨h1, h2, h3, h4⟩ := h.sl hi
  rw [nats_length] at h1
  have key : Calls Tryd.prog 92 #[.agg #[.slice A n c], .int .i64 v] w (ResN w (powL x v) (powE x v)) := by
    by_cases hv : v < 0 ∨ 4800 < v
    · have e1 : powL x v = [] := if_pos hv
      have e2 : powE x v = 2 := if_pos hv
      rw [e1, e2]
      exact nrpower_range A n c x v w h1 h2 h4 hx hv
    · have e1 : powL x v = resL (x ^ v.toNat) := if_neg hv
      have e2 : powE x v = resE (x ^ v.toNat) := if_neg hv
      rw [e1, e2]
      have h0 : 0 ≤ v := by omega
      obtain ⟨k, rfl⟩ := Int.eq_ofNat_of_zero_le h0
      exact nrpower_ok A n c x k w h1 h2 h4 hx (by omega)
  exact key.mono fun en w' hr => got_o h (powL_1000 x v) hr
theorem ag_of (h : Ow w0 w g M L O) (v : Int) (hv : v ≤ 9223372036854775807) : Calls Tryd.prog 81 #[.int .i64 v] w (GotO w0 g M L O (ofL v) (ofE v)) :=
  (nof_any v w hv).mono fun en w' hr => got_o h (ofL_1000 hv) hr
theorem ag_rof (h : Ow w0 w g M L O) (v : Int) (hv : v ≤ 9223372036854775807) : Calls Tryd.prog 53 #[.int .i64 v] w (GotO w0 g M L O (ofL v) (ofE v)) :=
  (nrof_any v w hv).mono fun en w' hr => got_o h (ofL_1000 hv) hr
theorem ag_cho (h : Ow w0 w g M L O) (u v : Int) : Calls Tryd.prog 101 #[.int .i64 u, .int .i64 v] w (GotO w0 g M L O (choL u v) (choE u v)) :=
  (nchoose_any u v w).mono fun en w' hr => got_o h (choL_1000 u v) hr
end
end Go.Proofs.YtjhaogbopmhkoaaDoor

namespace Go.Proofs.YtjhaogbopmhkoaaDoor
open Go.RowKit
set_option linter.unusedVariables false
set_option maxRecDepth 100000
section
variable {w0 w : World} {g : Option Nat} {M : List (Nat × Value)} {L : List Ob} {A A2 : Option Addr} {n c m c2 x y : Nat}
end
namespace De
end De
theorem small_top {x m : Nat} (h : x < 16777216 ^ m) (hm : m ≤ 200) : x < Na.top := Nat.lt_of_lt_of_le h (Nat.pow_le_pow_right (by omega) hm)
end Go.Proofs.YtjhaogbopmhkoaaDoor

namespace Go.Proofs.YtjhaogbopmhkoaaDoor
open Go.RowKit
set_option linter.unusedVariables false
/-- a struct of two cells in a block of its own -/
abbrev Rw.pair (b : Nat) (T : TypeId) (x y : Value) : Rw := ⟨some ⟨b, 0, none⟩, 2, 2, T, [x, y]⟩
section
variable {w0 w w' : World} {g : Option Nat} {M : List (Nat × Value)} {L : List Ob} {O : List Rw}
theorem Ow.pair (h : Ow w0 w g M L O) (x y : Value) (T : TypeId) : Ow w0 (w.alloc (.cells #[x, y] T)) g M L (O ++ [Rw.pair w.heap.size T x y]) :=
  h.add (World.ownsRow_lit (base := w.heap.size) (e := T) (size := 1) w #[x, y] 2 (Nat.le_refl _) (by decide) rfl) (own_box1 _ _)
theorem Ow.p0 (h : Ow w0 w g M L O) (i : Nat) {b : Nat} {T : TypeId} {x y : Value} (hi : O[i]? = some (Rw.pair b T x y)) : w.cell? ⟨b, 0, none⟩ = some x :=
  (h.own i _ hi).cellAt 0 (show 0 < 2 * 1 by decide)
theorem Ow.p1 (h : Ow w0 w g M L O) (i : Nat) {b : Nat} {T : TypeId} {x y : Value} (hi : O[i]? = some (Rw.pair b T x y)) : w.cell? ⟨b, 1, none⟩ = some y :=
  (h.own i _ hi).cellAt 1 (show 1 < 2 * 1 by decide)
theorem Ow.pf (h : Ow w0 w g M L O) (i : Nat) {b : Nat} {T : TypeId} {x y : Value} (hi : O[i]? = some (Rw.pair b T x y)) (k : Nat) : w.frozen? ⟨b, k, none⟩ = false :=
  (h.own i _ hi).frozenAt k
theorem Ow.set0 (h : Ow w0 w g M L O) (i : Nat) {b : Nat} {T : TypeId} {x y : Value} (hi : O[i]? = some (Rw.pair b T x y)) (v : Value) : Ow w0 (w.setCell ⟨b, 0, none⟩ v) g M L (O.set i (Rw.pair b T v y)) := h.put i hi 0 v
theorem Ow.set1 (h : Ow w0 w g M L O) (i : Nat) {b : Nat} {T : TypeId} {x y : Value} (hi : O[i]? = some (Rw.pair b T x y)) (v : Value) : Ow w0 (w.setCell ⟨b, 1, none⟩ v) g M L (O.set i (Rw.pair b T x v)) := h.put i hi 1 v
end
/-- fractions of raw lists: a fraction of small terms, or an error -/
def rv (p q : List Int) : Bool := (Na.vld p && Na.vld q) && (!(decide (num q = 0)) && decide (Nat.gcd (num p) (num q) = 1))
def frE (e : Int) : Nat × Nat × Int := (0, 0, e)
def frM (x y : Nat) : Nat × Nat × Int := if y = 0 then (0, 0, 4) else (x / Nat.gcd x y, y / Nat.gcd x y, 0)
def makeF (p q : List Int) : Nat × Nat × Int := if Na.vld p && Na.vld q then frM (num p) (num q) else frE 1
def rprt (p q : List Int) : List UInt8 := if rv p q then De.text (num p) ++ 47 :: De.text (num q) else []
theorem rv_ex {p q : List Int} (h : rv p q = true) : ∃ x y, x < Na.top ∧ y < Na.top ∧ 0 < y ∧ Nat.gcd x y = 1 ∧ p = Na.up (Na.dig x) ∧ q = Na.up (Na.dig y) := by
  unfold rv at h
  obtain ⟨h1, h4⟩ := Bool.and_eq_true_iff.1 h
  obtain ⟨h2, h3⟩ := Bool.and_eq_true_iff.1 h4
  obtain ⟨x, y, hx, hy, rfl, rfl⟩ := vv_ex h1
  rw [num_dig] at h2
  rw [num_dig, num_dig] at h3
  refine ⟨x, y, hx, hy, ?_, of_decide_eq_true h3, rfl, rfl⟩
  simp at h2
  omega
theorem frM_top {x y : Nat} (hx : x < Na.top) (hy : y < Na.top) : (frM x y).1 < Na.top ∧ (frM x y).2.1 < Na.top := by
  unfold frM
  split
  · exact ⟨by show 0 < Na.top; omega, by show 0 < Na.top; omega⟩
  · exact ⟨Nat.lt_of_le_of_lt (Nat.div_le_self _ _) hx, Nat.lt_of_le_of_lt (Nat.div_le_self _ _) hy⟩
/-- a call that hands back a fraction -/
def ResF (w : World) (t : Nat × Nat × Int) (en : Ending) (w' : World) : Prop :=
  ∃ (A1 : Option Addr) (n1 c1 : Nat) (A2 : Option Addr) (n2 c2 : Nat), en = .returned (.tuple #[.agg #[.slice A1 n1 c1, .slice A2 n2 c2], .int .i64 t.2.2]) ∧ (Na.dig t.1).length = n1 ∧ (Na.dig t.2.1).length = n2 ∧ w'.ownsRow w.heap.size 3 1 (.slice A1 n1 c1) n1 (nats (Na.dig t.1)) ∧ w'.ownsRow w.heap.size 3 1 (.slice A2 n2 c2) n2 (nats (Na.dig t.2.1)) ∧ Below w.heap.size w w'
theorem resF_nil (w w' : World) (err : Int) (h : Below w.heap.size w w') : ResF w (frE err) (.returned (.tuple #[.agg #[.slice none 0 0, .slice none 0 0], .int .i64 err])) w' :=
  ⟨none, 0, 0, none, 0, 0, rfl, by show (Na.dig 0).length = 0; rw [Na.dig_zero]; rfl, by show (Na.dig 0).length = 0; rw [Na.dig_zero]; rfl, by show World.ownsRow _ _ _ _ _ _ (nats (Na.dig 0)); rw [Na.dig_zero]; exact World.ownsRow_nil _ _ _ _, by show World.ownsRow _ _ _ _ _ _ (nats (Na.dig 0)); rw [Na.dig_zero]; exact World.ownsRow_nil _ _ _ _, h⟩
def GotF (w0 : World) (g : Option Nat) (M : List (Nat × Value)) (L : List Ob) (O : List Rw) (t : Nat × Nat × Int) (en : Ending) (w' : World) : Prop :=
  ∃ (A1 : Option Addr) (n1 c1 : Nat) (A2 : Option Addr) (n2 c2 : Nat), en = .returned (.tuple #[.agg #[.slice A1 n1 c1, .slice A2 n2 c2], .int .i64 t.2.2]) ∧ Ow w0 w' g M (L ++ [⟨A1, n1, c1, nats (Na.dig t.1)⟩] ++ [⟨A2, n2, c2, nats (Na.dig t.2.1)⟩]) O
section
variable {w0 w w' : World} {g : Option Nat} {M : List (Nat × Value)} {L : List Ob} {O : List Rw} {A A2 : Option Addr} {n c m c2 x y : Nat}
theorem got_f (h : Ow w0 w g M L O) {t : Nat × Nat × Int} (h1 : t.1 < Na.top) (h2 : t.2.1 < Na.top) {en : Ending} (hr : ResF w t en w') : GotF w0 g M L O t en w' := by
  obtain ⟨A1, n1, c1, A2, n2, c2, rfl, k1, k2, o1, o2, hb⟩ := hr
  exact ⟨A1, n1, c1, A2, n2, c2, rfl, h.push2 o1 o2 (by rw [← k1]; exact dig_1000 h1) (by rw [← k2]; exact dig_1000 h2) hb⟩
theorem resF_of (h : Ow w w' g M L O) (i j : Nat) {e : Int} {t : Nat × Nat × Int} (ht : t.2.2 = e) (hi : O[i]? = some ⟨A, n, c, 3, nats (Na.dig t.1)⟩) (hj : O[j]? = some ⟨A2, m, c2, 3, nats (Na.dig t.2.1)⟩) : ResF w t (.returned (.tuple #[.agg #[.slice A n c, .slice A2 m c2], .int .i64 e])) w' := by
  have ho := h.row i hi
  have hp := h.row j hj
  subst ht
  exact ⟨A, n, c, A2, m, c2, rfl, by have := own_len ho; rwa [nats_length] at this, by have := own_len hp; rwa [nats_length] at this, ho, hp, h.below⟩
/-- a quotient whose owned list is kept -/
theorem div_at (h : Ow w0 w g M L O) (hA : (Na.dig x).length = n ∧ n ≤ c ∧ Sl w w.heap.size A (nats (Na.dig x))) (hB : (Na.dig y).length = m ∧ m ≤ c2 ∧ Sl w w.heap.size A2 (nats (Na.dig y))) (hx : x < Na.top) (hy : y < Na.top) (hy0 : 0 < y) :
    Calls Tryd.prog 89 #[.agg #[.slice A n c], .agg #[.slice A2 m c2]] w fun e w' => ∃ (A1 : Option Addr) (n1 c1 : Nat) (A2 : Option Addr) (n2 c2 : Nat), e = .returned (.tuple #[.agg #[.slice A1 n1 c1], .agg #[.slice A2 n2 c2], .int .i64 0]) ∧ (Na.dig (x / y)).length = n1 ∧ Ow w0 w' g M L (O ++ [⟨A1, n1, c1, 3, nats (Na.dig (x / y))⟩]) :=
  (nDivide_ok A A2 n c m c2 x y w hA.1 hB.1 hA.2.2 hB.2.2 hx hy hy0).mono fun en w' ⟨A1, n1, c1, A3, n2, c3, he, e1, e2, o1, o2, hb⟩ => ⟨A1, n1, c1, A3, n2, c3, he, e1, h.add o1 hb⟩
theorem gcd_at (h : Ow w0 w g M L O) (hA : (Na.dig x).length = n ∧ n ≤ c ∧ Sl w w.heap.size A (nats (Na.dig x))) (hB : (Na.dig y).length = m ∧ m ≤ c2 ∧ Sl w w.heap.size A2 (nats (Na.dig y))) (hx : x < Na.top) (hy : y < Na.top) (ht : Tab w0) :
    Calls Tryd.prog 88 #[.agg #[.slice A n c], .agg #[.slice A2 m c2]] w fun e w' => ∃ (A' : Option Addr) (n' c' : Nat), e = .returned (.tuple #[.agg #[.slice A' n' c'], .int .i64 0]) ∧ (Na.dig (Nat.gcd x y)).length = n' ∧ Ow w0 w' g M L (O ++ [⟨A', n', c', 3, nats (Na.dig (Nat.gcd x y))⟩]) :=
  (nGcd_ok A A2 n c m c2 x y w hA.1 hB.1 hA.2.2 hB.2.2 hx hy (ht.below h.below)).mono fun en w' hr => h.addN hr
theorem rgcd_at (h : Ow w0 w g M L O) (hA : (Na.dig x).length = n ∧ n ≤ c ∧ Sl w w.heap.size A (nats (Na.dig x))) (hB : (Na.dig y).length = m ∧ m ≤ c2 ∧ Sl w w.heap.size A2 (nats (Na.dig y))) (hx : x < Na.top) (hy : y < Na.top) :
    Calls Tryd.prog 63 #[.agg #[.slice A n c], .agg #[.slice A2 m c2]] w fun e w' => ∃ (A' : Option Addr) (n' c' : Nat), e = .returned (.tuple #[.agg #[.slice A' n' c'], .int .i64 0]) ∧ (Na.dig (Nat.gcd x y)).length = n' ∧ Ow w0 w' g M L (O ++ [⟨A', n', c', 3, nats (Na.dig (Nat.gcd x y))⟩]) :=
  (nrgcd_ok A A2 n c m c2 x y w hA.1 hB.1 hA.2.1 hB.2.1 hA.2.2 hB.2.2 hx hy).mono fun en w' hr => h.addN hr
theorem cmp_at (h : Ow w0 w g M L O) (hA : (Na.dig x).length = n ∧ n ≤ c ∧ Sl w w.heap.size A (nats (Na.dig x))) (hB : (Na.dig y).length = m ∧ m ≤ c2 ∧ Sl w w.heap.size A2 (nats (Na.dig y))) (hl : n ≤ 1000) (hl2 : m ≤ 1000) :
    Calls Tryd.prog 58 #[.agg #[.slice A n c], .agg #[.slice A2 m c2]] w fun e w' => e = .returned (.int .i64 (Na.sgn x y)) ∧ Ow w0 w' g M L O :=
  (ncmp_any A A2 n c m c2 w.heap.size x y w hA.1 hB.1 hA.2.2 hB.2.2 (Nat.le_refl _) (by omega) (by omega)).mono fun en w' ⟨he, hb⟩ => ⟨he, h.go hb⟩
end
end Go.Proofs.YtjhaogbopmhkoaaDoor

namespace Go.Proofs.YtjhaogbopmhkoaaDoor
open Go.RowKit
set_option linter.unusedVariables false
theorem frM_pos {x y : Nat} (hy : 0 < y) : frM x y = (x / Nat.gcd x y, y / Nat.gcd x y, 0) := if_neg (by omega)
theorem frM_spec {x y : Nat} (hy : 0 < y) : ∃ n d, frM x y = (n, d, 0) ∧ 0 < d ∧ Nat.gcd n d = 1 ∧ n * y = x * d ∧ n ≤ x ∧ d ≤ y := by
  have hg : 0 < Nat.gcd x y := Nat.gcd_pos_of_pos_right _ hy
  obtain ⟨n, hn⟩ := Nat.gcd_dvd_left x y
  obtain ⟨d, hd⟩ := Nat.gcd_dvd_right x y
  have e1 : x / Nat.gcd x y = n := Nat.div_eq_of_eq_mul_right hg hn
  have e2 : y / Nat.gcd x y = d := Nat.div_eq_of_eq_mul_right hg hd
  have hd0 : 0 < d := by
    rcases Nat.eq_zero_or_pos d with h | h
    · rw [h, Nat.mul_zero] at hd; omega
    · exact h
  refine ⟨n, d, by rw [frM_pos hy, e1, e2], hd0, ?_, ?_, ?_, ?_⟩
  · have := Nat.gcd_div (Nat.gcd_dvd_left x y) (Nat.gcd_dvd_right x y)
    rwa [e1, e2, Nat.div_self hg] at this
  · generalize Nat.gcd x y = k at hn hd
    subst hn hd
    grind
  · rw [← e1]; exact Nat.div_le_self _ _
  · rw [← e2]; exact Nat.div_le_self _ _
theorem rv_low {n d : Nat} (hn : n < Na.top) (hd : d < Na.top) (hd0 : 0 < d) (hg : Nat.gcd n d = 1) : rv (Na.up (Na.dig n)) (Na.up (Na.dig d)) = true := by
  unfold rv
  rw [Na.vld_dig hn, Na.vld_dig hd, num_dig, num_dig]
  simp [hg]
  omega
end Go.Proofs.YtjhaogbopmhkoaaDoor

namespace Go.Proofs.YtjhaogbopmhkoaaDoor
open Go.RowKit Go.Sort
set_option linter.unusedVariables false
set_option maxRecDepth 100000
theorem dig_one : Na.dig 1 = [1] := Na.dig_small 1 (by omega) (by omega)
set_option maxHeartbeats 1000000 in
theorem qone_any (w : World) : Calls Tryd.prog 97 #[] w (FreshS w (Na.dig 1)) := by
  go_enter Tryd.func97, Tryd.ntmps97
  go_wp2_with fail
  have H2 := ((Ow.of (St.refl w)).boxed (.slice (some ⟨w.heap.size + 1, 0, none⟩) 1 1) 24).lit1 (.int .i64 1) 3
  simp only [List.nil_append, World.size_alloc] at H2
  refine bodyPost_ret (v := .agg #[.slice (some ⟨w.heap.size + 1, 0, none⟩) 1 1]) (by simp [results, Tryd.results97, go_sem]) rfl ?_
  rw [dig_one]
  exact freshS_of (l := [1]) H2 0 rfl
set_option maxHeartbeats 1000000 in
theorem qzero_any (A : Option Addr) (n c : Nat) (w : World) (hl : n ≤ 1000) : Calls Tryd.prog 87 #[.agg #[.slice A n c]] w fun e w' => e = .returned (.bool ((n : Int) == 0)) ∧ Below w.heap.size w w' := by
  have H0 := (Ow.of (St.refl w)).boxed (.slice A n c) 24
  simp only [List.nil_append] at H0
  have hc0 := H0.cell 0 rfl
  have HB := Lib.hid H0.below
  clear H0
  go_enter Tryd.func87, Tryd.ntmps87
  go_wp2_with fail
  go_ret
  exact ⟨rfl, HB.out⟩
section
variable {w0 w w' : World} {g : Option Nat} {M : List (Nat × Value)} {L : List Ob} {O : List Rw} {A A2 : Option Addr} {n c m c2 x y : Nat}
theorem qone_ow (h : Ow w0 w g M L O) : Calls Tryd.prog 97 #[] w fun e w' => ∃ (A' : Option Addr) (n' c' : Nat), e = .returned (.agg #[.slice A' n' c']) ∧ Ow w0 w' g M (L ++ [⟨A', n', c', nats (Na.dig 1)⟩]) O :=
  (qone_any w).mono fun e w' hr => by
    obtain ⟨A', n', c', he, -, ho⟩ := h.pushS hr (by rw [dig_one]; decide)
    exact ⟨A', n', c', he, ho⟩
theorem cmp_ow (h : Ow w0 w g M L O) (i j : Nat) (hi : L[i]? = some ⟨A, n, c, nats (Na.dig x)⟩) (hj : L[j]? = some ⟨A2, m, c2, nats (Na.dig y)⟩) :
    Calls Tryd.prog 58 #[.agg #[.slice A n c], .agg #[.slice A2 m c2]] w fun e w' => e = .returned (.int .i64 (Na.sgn x y)) ∧ Ow w0 w' g M L O :=
  cmp_at h (h.seenL i hi) (h.seenL j hj) (h.sl hi).2.2.1 (h.sl hj).2.2.1
theorem gcd_ow {p q : List Int} (h : Ow w0 w g M L O) (i j : Nat) (hi : L[i]? = some ⟨A, n, c, ints p⟩) (hj : L[j]? = some ⟨A2, m, c2, ints q⟩) (h1 : Na.vld p = true) (h2 : Na.vld q = true) (ht : Tab w0) :
    Calls Tryd.prog 88 #[.agg #[.slice A n c], .agg #[.slice A2 m c2]] w (GotO w0 g M L O (Na.dig (Nat.gcd (num p) (num q))) 0) := by
  have h := ag_gcd h i j hi hj ht
  have e1 : gcdL p q = Na.dig (Nat.gcd (num p) (num q)) := by unfold gcdL; rw [h1, h2]; rfl
  have e2 : gcdE p q = 0 := by unfold gcdE; rw [h1, h2]; rfl
  rwa [e1, e2] at h
theorem rgcd_ow {p q : List Int} (h : Ow w0 w g M L O) (i j : Nat) (hi : L[i]? = some ⟨A, n, c, ints p⟩) (hj : L[j]? = some ⟨A2, m, c2, ints q⟩) (h1 : Na.vld p = true) (h2 : Na.vld q = true) :
    Calls Tryd.prog 63 #[.agg #[.slice A n c], .agg #[.slice A2 m c2]] w (GotO w0 g M L O (Na.dig (Nat.gcd (num p) (num q))) 0) := by
  have h := ag_rgcd h i j hi hj
  have e1 : gcdL p q = Na.dig (Nat.gcd (num p) (num q)) := by unfold gcdL; rw [h1, h2]; rfl
  have e2 : gcdE p q = 0 := by unfold gcdE; rw [h1, h2]; rfl
  rwa [e1, e2] at h
theorem qzero_ow (h : Ow w0 w g M L O) (hl : n ≤ 1000) : Calls Tryd.prog 87 #[.agg #[.slice A n c]] w fun e w' => e = .returned (.bool ((n : Int) == 0)) ∧ Ow w0 w' g M L O :=
  (qzero_any A n c w hl).mono fun e w' ⟨he, hb⟩ => ⟨he, h.go hb⟩
end
theorem rv_gcd {p q : List Int} (h1 : Na.vld p = true) (h2 : Na.vld q = true) (h0 : 0 < num q) : rv p q = (Na.sgn (Nat.gcd (num p) (num q)) 1 == 0) := by
  unfold rv
  rw [h1, h2]
  have : decide (num q = 0) = false := decide_eq_false (by omega)
  rw [this]
  rcases Na.sgn_cases (Nat.gcd (num p) (num q)) 1 with ⟨h, e⟩ | ⟨h, e⟩ | ⟨h, e⟩ <;> rw [e]
  · rw [decide_eq_false (by omega)]; rfl
  · simp [h]
  · rw [decide_eq_false (by omega)]; rfl
set_option maxHeartbeats 4000000 in
theorem qvalid_any (A A2 : Option Addr) (n c m c2 : Nat) (p q : List Int) (w : World) (hn : p.length = n) (hm : q.length = m) (hnc : n ≤ c) (hmc : m ≤ c2) (hs : Sl w w.heap.size A (ints p)) (hs2 : Sl w w.heap.size A2 (ints q)) (hl : n ≤ 1000) (hl2 : m ≤ 1000) (ht : Tab w) :
    Calls Tryd.prog 57 #[.agg #[.slice A n c, .slice A2 m c2]] w fun e w' => e = .returned (.bool (rv p q)) ∧ Below w.heap.size w w' := by
  have H0 := (((Ow.of (St.refl w)).old hs (by rw [ints_length]; exact hn) hnc hl).old hs2 (by rw [ints_length]; exact hm) hmc hl2).pair (.slice A n c) (.slice A2 m c2) 26
  simp only [List.nil_append, List.cons_append] at H0
  have hc0 := H0.p0 0 rfl
  have HV := Lib.hid (ag_vld H0 0 rfl)
  have HT := Lib.hid ht
  have HM := Lib.hid hm
  clear H0 hs hs2 hn hm ht
  cases h1 : Na.vld p
  · have hr : rv p q = false := by unfold rv; rw [h1]; rfl
    rw [hr]
    rw [h1] at HV
    clear h1 hr
    go_enter Tryd.func57, Tryd.ntmps57
    go_wp2_with fail
    refine HV.out.mono ?_
    rintro e w1 ⟨rfl, H1⟩
    have HB := Lib.hid H1.below
    clear H1 HV
    go_wp2_with fail
    go_ret
    exact ⟨rfl, HB.out⟩
  rw [h1] at HV
  cases h2 : Na.vld q
  · have hr : rv p q = false := by unfold rv; rw [h1, h2]; rfl
    rw [hr]
    clear h1 hr
    have H2 := Lib.hid h2
    clear h2
    go_enter Tryd.func57, Tryd.ntmps57
    go_wp2_with fail
    refine HV.out.mono ?_
    rintro e w1 ⟨rfl, H1⟩
    have hc1 := H1.p1 0 rfl
    have HK := Lib.hid (ag_vld H1 1 rfl)
    rw [H2.out] at HK
    clear H1 HV
    go_wp2_with fail
    refine HK.out.mono ?_
    rintro e w1 ⟨rfl, H1⟩
    have HB := Lib.hid H1.below
    clear H1 HK
    go_wp2_with fail
    go_ret
    exact ⟨rfl, HB.out⟩
  have H12 := Lib.hid (And.intro h1 h2)
  rcases Nat.eq_zero_or_pos (num q) with h0 | h0
  · have hr : rv p q = false := by unfold rv; rw [h1, h2, h0]; rfl
    obtain rfl : m = 0 := by
      obtain ⟨y, hy, e⟩ := Na.vld_ex h2
      rw [e, num_dig] at h0
      rw [← HM.out, e, h0, Na.dig_zero]; rfl
    rw [hr]
    clear h1 h2 hr h0
    go_enter Tryd.func57, Tryd.ntmps57
    go_wp2_with fail
    refine HV.out.mono ?_
    rintro e w1 ⟨rfl, H1⟩
    have hc1 := H1.p1 0 rfl
    have HK := Lib.hid (ag_vld H1 1 rfl)
    rw [H12.out.2] at HK
    clear H1 HV
    go_wp2_with fail
    refine HK.out.mono ?_
    rintro e w1 ⟨rfl, H1⟩
    have hc1 := H1.p1 0 rfl
    have HZ := Lib.hid (qzero_ow (A := A2) (n := 0) (c := c2) H1 (by omega))
    clear H1 HK
    go_wp2_with fail
    refine HZ.out.mono ?_
    rintro e w1 ⟨rfl, H1⟩
    have HB := Lib.hid H1.below
    clear H1 HZ
    go_wp2_with fail
    go_ret
    exact ⟨rfl, HB.out⟩
  · have hr := rv_gcd h1 h2 h0
    obtain ⟨sg, hsg⟩ : ∃ s : Int, Na.sgn (Nat.gcd (num p) (num q)) 1 = s := ⟨_, rfl⟩
    rw [hsg] at hr
    have HR := Lib.hid hr
    have HS := Lib.hid hsg
    have hm0 : ((m : Int) == 0) = false := by
      rw [beq_eq_false_iff_ne]
      intro e
      obtain ⟨y, hy, e2⟩ := Na.vld_ex h2
      rw [e2, num_dig] at h0
      have h3 := HM.out
      rw [e2, Na.up_length] at h3
      have := Na.dig_len0.1 (show (Na.dig y).length = 0 by omega)
      omega
    clear h1 h2 hr h0 hsg
    go_enter Tryd.func57, Tryd.ntmps57
    go_wp2_with fail
    refine HV.out.mono ?_
    rintro e w1 ⟨rfl, H1⟩
    have hc1 := H1.p1 0 rfl
    have HK := Lib.hid (ag_vld H1 1 rfl)
    rw [H12.out.2] at HK
    clear H1 HV
    go_wp2_with fail
    refine HK.out.mono ?_
    rintro e w1 ⟨rfl, H1⟩
    have hc1 := H1.p1 0 rfl
    have HZ := Lib.hid (qzero_ow (A := A2) (n := m) (c := c2) H1 hl2)
    clear H1 HK
    go_wp2_with fail
    refine HZ.out.mono ?_
    rw [hm0]
    rintro e w1 ⟨rfl, H1⟩
    have hc0 := H1.p0 0 rfl
    have hc1 := H1.p1 0 rfl
    have HG := Lib.hid (gcd_ow H1 0 1 rfl rfl H12.out.1 H12.out.2 HT.out)
    clear H1 HZ
    go_wp2_with fail
    refine HG.out.mono ?_
    rintro e w2 ⟨A3, n3, c3, rfl, H2⟩
    have H3 := H2.boxed (.slice A3 n3 c3) 24
    simp only [List.nil_append, List.cons_append] at H3
    have hk3 := H3.cell 0 rfl
    have HD := Lib.hid H3.drew
    clear HG H2 H3 hc0 hc1
    go_upto_region 4 with (fail)
    go_region_held3 (fun W => W.cell? ⟨w2.heap.size, 0, none⟩ = some (.slice A3 n3 c3)) (first | exact hk3 | exact how.cell 0 rfl | exact how2.cell 0 rfl) ((first | (go_at_call 97; (with_reducible refine (qone_ow HD.out).mono ?_); rintro e w11 ⟨A5, n5, c5, rfl, how⟩) | (go_at_call 58; (with_reducible refine (cmp_ow how 2 3 rfl rfl).mono ?_); rw [HS.out]; rintro e w12 ⟨rfl, how2⟩)))
    have HB := Lib.hid how2.below
    clear how how2
    go_wp2_with fail
    go_ret
    exact ⟨by rw [HR.out]; rfl, HB.out⟩
end Go.Proofs.YtjhaogbopmhkoaaDoor

namespace Go.Proofs.YtjhaogbopmhkoaaDoor
open Go.RowKit Go.Sort
set_option linter.unusedVariables false
set_option maxRecDepth 100000
theorem gcd_le {x y : Nat} (hx : x < Na.top) (hy : y < Na.top) (h0 : 0 < y) : Nat.gcd x y < Na.top ∧ 0 < Nat.gcd x y := ⟨gcd_top hx hy, Nat.gcd_pos_of_pos_right _ h0⟩
set_option maxHeartbeats 4000000 in
theorem qmake_ok (A A2 : Option Addr) (n c m c2 x y : Nat) (w : World) (hn : (Na.dig x).length = n) (hm : (Na.dig y).length = m) (hnc : n ≤ c) (hmc : m ≤ c2) (hs : Sl w w.heap.size A (nats (Na.dig x))) (hs2 : Sl w w.heap.size A2 (nats (Na.dig y))) (hx : x < Na.top) (hy : y < Na.top) (h0 : 0 < y) (ht : Tab w) :
    Calls Tryd.prog 46 #[.agg #[.slice A n c], .agg #[.slice A2 m c2]] w (ResF w (frM x y)) := by
  have hn2 : n ≤ 200 := by rw [← hn]; exact (Na.dig_200 x).2 hx
  have hm2 : m ≤ 200 := by rw [← hm]; exact (Na.dig_200 y).2 hy
  have H0 := (((((Ow.of (St.refl w)).old hs (by rw [nats_length]; exact hn) hnc (by omega)).old hs2 (by rw [nats_length]; exact hm) hmc (by omega)).boxed (.slice A n c) 24).boxed (.slice A2 m c2) 24).pair (.slice none 0 0) (.slice none 0 0) 26
  simp only [World.size_alloc, List.nil_append, List.cons_append] at H0
  have hc0 := H0.cell 0 rfl
  have HV := Lib.hid (ag_vld (zs := Na.up (Na.dig x)) H0 0 (by rw [nats_up]; rfl))
  rw [Na.vld_dig hx] at HV
  have HT := Lib.hid ht
  have HX := Lib.hid (And.intro hx (And.intro hy h0))
  have HGp := Lib.hid (gcd_le hx hy h0)
  have HF := Lib.hid (frM_pos (x := x) h0)
  have hm0 : ((m : Int) == 0) = false := by
    rw [beq_eq_false_iff_ne]
    intro e
    have := Na.dig_len0.1 (show (Na.dig y).length = 0 by omega)
    omega
  clear H0 hs hs2 hn hm ht hx hy h0
  go_enter Tryd.func46, Tryd.ntmps46
  go_wp2_with fail
  refine HV.out.mono ?_
  rintro e w1 ⟨rfl, H1⟩
  have hc1 := H1.cell 1 rfl
  have HK := Lib.hid (ag_vld (zs := Na.up (Na.dig y)) H1 1 (by rw [nats_up]; rfl))
  rw [Na.vld_dig HX.out.2.1] at HK
  clear H1 HV hc0
  go_wp2_with fail
  refine HK.out.mono ?_
  rintro e w1 ⟨rfl, H1⟩
  have hc1 := H1.cell 1 rfl
  have HZ := Lib.hid (qzero_ow (A := A2) (n := m) (c := c2) H1 (by omega))
  clear H1 HK
  go_wp2_with fail
  refine HZ.out.mono ?_
  rw [hm0]
  rintro e w1 ⟨rfl, H1⟩
  have hc0 := H1.cell 0 rfl
  have hc1 := H1.cell 1 rfl
  have HG := Lib.hid (gcd_at H1 (H1.seenL 0 rfl) (H1.seenL 1 rfl) HX.out.1 HX.out.2.1 HT.out)
  clear H1 HZ
  go_wp2_with fail
  refine HG.out.mono ?_
  rintro e w2 ⟨A3, n3, c3, rfl, -, H2⟩
  have H3 := (H2.boxed (.slice A3 n3 c3) 24).pair (.slice none 0 0) (.slice none 0 0) 26
  simp only [List.nil_append, List.cons_append, World.size_alloc] at H3
  have hc0 := H3.cell 0 rfl
  have hc2 := H3.cell 2 rfl
  have HD := Lib.hid (div_at H3 (H3.seenL 0 rfl) (H3.seen 1 rfl) HX.out.1 HGp.out.1 HGp.out.2)
  clear HG H2 H3 hc1
  go_wp2_with fail
  refine HD.out.mono ?_
  rintro e w3 ⟨A4, n4, c4, A5, n5, c5, rfl, -, H4⟩
  simp only [List.nil_append, List.cons_append] at H4
  have hp := H4.p0 2 rfl
  have hpf := H4.pf 2 rfl 0
  have H5 := H4.set0 2 rfl (.slice A4 n4 c4)
  simp only [List.set_cons_succ, List.set_cons_zero] at H5
  have hc1 := H5.cell 1 rfl
  have hc2 := H5.cell 2 rfl
  have HD2 := Lib.hid (div_at H5 (H5.seenL 1 rfl) (H5.seen 1 rfl) HX.out.2.1 HGp.out.1 HGp.out.2)
  clear HD H4 H5 hc0
  go_wp2_with fail
  clear hp hpf
  refine HD2.out.mono ?_
  rintro e w4 ⟨A6, n6, c6, A7, n7, c7, rfl, -, H6⟩
  simp only [List.nil_append, List.cons_append] at H6
  have hq := H6.p1 2 rfl
  have hqf := H6.pf 2 rfl 1
  have H7 := H6.set1 2 rfl (.slice A6 n6 c6)
  simp only [List.set_cons_succ, List.set_cons_zero] at H7
  have ha := H7.p0 2 rfl
  have hb := H7.p1 2 rfl
  have hr0 := H7.p0 0 rfl
  have hr1 := H7.p1 0 rfl
  have hrf0 := H7.pf 0 rfl 0
  have hrf1 := H7.pf 0 rfl 1
  have H8 := (H7.set0 0 rfl (.slice A4 n4 c4)).set1 0 rfl (.slice A6 n6 c6)
  simp only [List.set_cons_zero] at H8
  clear HD2 H6 hc1 hc2
  go_wp2_with fail
  have hs0 := H8.p0 0 rfl
  have hs1 := H8.p1 0 rfl
  refine bodyPost_ret (v := .tuple #[.agg #[.slice A4 n4 c4, .slice A6 n6 c6], .int .i64 0]) (by simp [results, Tryd.results46, go_sem, hs0, hs1]) rfl ?_
  rw [HF.out]
  exact resF_of H8 3 4 rfl rfl rfl
set_option maxHeartbeats 4000000 in
theorem qmake_bad (A A2 : Option Addr) (n c m c2 : Nat) (p q : List Int) (w : World) (hn : p.length = n) (hm : q.length = m) (hnc : n ≤ c) (hmc : m ≤ c2) (hs : Sl w w.heap.size A (ints p)) (hs2 : Sl w w.heap.size A2 (ints q)) (hl : n ≤ 1000) (hl2 : m ≤ 1000) (hb : (Na.vld p && Na.vld q) = false ∨ (Na.vld p = true ∧ Na.vld q = true ∧ m = 0)) :
    Calls Tryd.prog 46 #[.agg #[.slice A n c], .agg #[.slice A2 m c2]] w (ResF w (frE (if (Na.vld p && Na.vld q) then 4 else 1))) := by
  have H0 := (((((Ow.of (St.refl w)).old hs (by rw [ints_length]; exact hn) hnc hl).old hs2 (by rw [ints_length]; exact hm) hmc hl2).boxed (.slice A n c) 24).boxed (.slice A2 m c2) 24).pair (.slice none 0 0) (.slice none 0 0) 26
  simp only [World.size_alloc, List.nil_append, List.cons_append] at H0
  have hc0 := H0.cell 0 rfl
  have HV := Lib.hid (ag_vld H0 0 rfl)
  clear H0 hs hs2 hn hm
  cases h1 : Na.vld p
  · rw [h1] at HV
    rw [Bool.false_and, if_neg (by decide)]
    clear hb h1
    go_enter Tryd.func46, Tryd.ntmps46
    go_wp2_with fail
    refine HV.out.mono ?_
    rintro e w1 ⟨rfl, H1⟩
    have hr0 := H1.p0 0 rfl
    have hr1 := H1.p1 0 rfl
    have hrf0 := H1.pf 0 rfl 0
    have hrf1 := H1.pf 0 rfl 1
    have HH := Lib.hid H1
    clear H1 HV
    go_wp2_with fail
    have H8 := (HH.out.set0 0 rfl (.slice none 0 0)).set1 0 rfl (.slice none 0 0)
    have hs0 := H8.p0 0 rfl
    have hs1 := H8.p1 0 rfl
    refine bodyPost_ret (v := .tuple #[.agg #[.slice none 0 0, .slice none 0 0], .int .i64 1]) (by simp [results, Tryd.results46, go_sem, hs0, hs1]) rfl ?_
    exact resF_nil _ _ _ H8.below
  rw [h1] at HV
  rw [h1, Bool.true_and] at hb
  cases h2 : Na.vld q
  · rw [Bool.and_false, if_neg (by decide)]
    have HQ := Lib.hid h2
    clear hb h1 h2
    go_enter Tryd.func46, Tryd.ntmps46
    go_wp2_with fail
    refine HV.out.mono ?_
    rintro e w1 ⟨rfl, H1⟩
    have hc1 := H1.cell 1 rfl
    have HK := Lib.hid (ag_vld H1 1 rfl)
    rw [HQ.out] at HK
    clear H1 HV
    go_wp2_with fail
    refine HK.out.mono ?_
    rintro e w1 ⟨rfl, H1⟩
    have HV := 0
    have hr0 := H1.p0 0 rfl
    have hr1 := H1.p1 0 rfl
    have hrf0 := H1.pf 0 rfl 0
    have hrf1 := H1.pf 0 rfl 1
    have HH := Lib.hid H1
    clear H1 HV
    go_wp2_with fail
    have H8 := (HH.out.set0 0 rfl (.slice none 0 0)).set1 0 rfl (.slice none 0 0)
    have hs0 := H8.p0 0 rfl
    have hs1 := H8.p1 0 rfl
    refine bodyPost_ret (v := .tuple #[.agg #[.slice none 0 0, .slice none 0 0], .int .i64 1]) (by simp [results, Tryd.results46, go_sem, hs0, hs1]) rfl ?_
    exact resF_nil _ _ _ H8.below
  · obtain rfl : m = 0 := by
      rcases hb with hb | hb
      · rw [h2] at hb; cases hb
      · exact hb.2.2
    rw [Bool.and_true, if_pos rfl]
    have HQ := Lib.hid h2
    clear hb h1 h2
    go_enter Tryd.func46, Tryd.ntmps46
    go_wp2_with fail
    refine HV.out.mono ?_
    rintro e w1 ⟨rfl, H1⟩
    have hc1 := H1.cell 1 rfl
    have HK := Lib.hid (ag_vld H1 1 rfl)
    rw [HQ.out] at HK
    clear H1 HV
    go_wp2_with fail
    refine HK.out.mono ?_
    rintro e w1 ⟨rfl, H1⟩
    have HV := 0
    have hc1 := H1.cell 1 rfl
    have HZ := Lib.hid (qzero_ow (A := A2) (n := 0) (c := c2) H1 (by omega))
    clear H1 HV
    go_wp2_with fail
    refine HZ.out.mono ?_
    rintro e w1 ⟨rfl, H1⟩
    have HV := 0
    have hr0 := H1.p0 0 rfl
    have hr1 := H1.p1 0 rfl
    have hrf0 := H1.pf 0 rfl 0
    have hrf1 := H1.pf 0 rfl 1
    have HH := Lib.hid H1
    clear H1 HV
    go_wp2_with fail
    have H8 := (HH.out.set0 0 rfl (.slice none 0 0)).set1 0 rfl (.slice none 0 0)
    have hs0 := H8.p0 0 rfl
    have hs1 := H8.p1 0 rfl
    refine bodyPost_ret (v := .tuple #[.agg #[.slice none 0 0, .slice none 0 0], .int .i64 4]) (by simp [results, Tryd.results46, go_sem, hs0, hs1]) rfl ?_
    exact resF_nil _ _ _ H8.below
theorem qmake_any (A A2 : Option Addr) (n c m c2 : Nat) (p q : List Int) (w : World) (hn : p.length = n) (hm : q.length = m) (hnc : n ≤ c) (hmc : m ≤ c2) (hs : Sl w w.heap.size A (ints p)) (hs2 : Sl w w.heap.size A2 (ints q)) (hl : n ≤ 1000) (hl2 : m ≤ 1000) (ht : Tab w) :
    Calls Tryd.prog 46 #[.agg #[.slice A n c], .agg #[.slice A2 m c2]] w (ResF w (makeF p q)) := by
  rcases vv_cases p q with hv | ⟨hv, hx, hy, e1, e2⟩
  · have := qmake_bad A A2 n c m c2 p q w hn hm hnc hmc hs hs2 hl hl2 (.inl hv)
    rw [hv] at this
    unfold makeF
    rw [hv]
    exact this
  · unfold makeF
    rw [hv, if_pos rfl]
    rcases Nat.eq_zero_or_pos (num q) with h0 | h0
    · have hm0 : m = 0 := by rw [← hm, e2, h0, Na.dig_zero]; rfl
      have := qmake_bad A A2 n c m c2 p q w hn hm hnc hmc hs hs2 hl hl2 (.inr ⟨(Bool.and_eq_true_iff.1 hv).1, (Bool.and_eq_true_iff.1 hv).2, hm0⟩)
      rw [hv] at this
      unfold frM
      rw [if_pos h0]
      exact this
    · exact qmake_ok A A2 n c m c2 _ _ w (by rw [← hn]; conv => rhs; rw [e1]; rw [Na.up_length]) (by rw [← hm]; conv => rhs; rw [e2]; rw [Na.up_length]) hnc hmc (nats_eq hs e1) (nats_eq hs2 e2) hx hy h0 ht
end Go.Proofs.YtjhaogbopmhkoaaDoor

namespace Go.Proofs.YtjhaogbopmhkoaaDoor
open Go.RowKit Go.Sort
set_option linter.unusedVariables false
set_option maxRecDepth 100000
set_option maxHeartbeats 4000000 in
theorem qrvalid_any (A A2 : Option Addr) (n c m c2 : Nat) (p q : List Int) (w : World) (hn : p.length = n) (hm : q.length = m) (hnc : n ≤ c) (hmc : m ≤ c2) (hs : Sl w w.heap.size A (ints p)) (hs2 : Sl w w.heap.size A2 (ints q)) (hl : n ≤ 1000) (hl2 : m ≤ 1000) :
    Calls Tryd.prog 21 #[.agg #[.slice A n c, .slice A2 m c2]] w fun e w' => e = .returned (.bool (rv p q)) ∧ Below w.heap.size w w' := by
  have H0 := (((Ow.of (St.refl w)).old hs (by rw [ints_length]; exact hn) hnc hl).old hs2 (by rw [ints_length]; exact hm) hmc hl2).pair (.slice A n c) (.slice A2 m c2) 26
  simp only [List.nil_append, List.cons_append] at H0
  have hc0 := H0.p0 0 rfl
  have HV := Lib.hid (rvalid_ow H0 0 rfl)
  have HM := Lib.hid hm
  clear H0 hs hs2 hn hm
  cases h1 : Na.vld p
  · have hr : rv p q = false := by unfold rv; rw [h1]; rfl
    rw [hr]
    rw [h1] at HV
    clear h1 hr
    go_enter Tryd.func21, Tryd.ntmps21
    go_wp2_with fail
    refine HV.out.mono ?_
    rintro e w1 ⟨rfl, H1⟩
    have HB := Lib.hid H1.below
    clear H1 HV
    go_wp2_with fail
    go_ret
    exact ⟨rfl, HB.out⟩
  rw [h1] at HV
  cases h2 : Na.vld q
  · have hr : rv p q = false := by unfold rv; rw [h1, h2]; rfl
    rw [hr]
    clear h1 hr
    have H2 := Lib.hid h2
    clear h2
    go_enter Tryd.func21, Tryd.ntmps21
    go_wp2_with fail
    refine HV.out.mono ?_
    rintro e w1 ⟨rfl, H1⟩
    have hc1 := H1.p1 0 rfl
    have HK := Lib.hid (rvalid_ow H1 1 rfl)
    rw [H2.out] at HK
    clear H1 HV
    go_wp2_with fail
    refine HK.out.mono ?_
    rintro e w1 ⟨rfl, H1⟩
    have HB := Lib.hid H1.below
    clear H1 HK
    go_wp2_with fail
    go_ret
    exact ⟨rfl, HB.out⟩
  have H12 := Lib.hid (And.intro h1 h2)
  rcases Nat.eq_zero_or_pos (num q) with h0 | h0
  · have hr : rv p q = false := by unfold rv; rw [h1, h2, h0]; rfl
    obtain rfl : m = 0 := by
      obtain ⟨y, hy, e⟩ := Na.vld_ex h2
      rw [e, num_dig] at h0
      rw [← HM.out, e, h0, Na.dig_zero]; rfl
    rw [hr]
    clear h1 h2 hr h0
    go_enter Tryd.func21, Tryd.ntmps21
    go_wp2_with fail
    refine HV.out.mono ?_
    rintro e w1 ⟨rfl, H1⟩
    have hc1 := H1.p1 0 rfl
    have HK := Lib.hid (rvalid_ow H1 1 rfl)
    rw [H12.out.2] at HK
    clear H1 HV
    go_wp2_with fail
    refine HK.out.mono ?_
    rintro e w1 ⟨rfl, H1⟩
    have hc1 := H1.p1 0 rfl
    have HB := Lib.hid H1.below
    clear H1 HK
    go_wp2_with fail
    go_ret
    exact ⟨rfl, HB.out⟩
  · have hr := rv_gcd h1 h2 h0
    obtain ⟨sg, hsg⟩ : ∃ s : Int, Na.sgn (Nat.gcd (num p) (num q)) 1 = s := ⟨_, rfl⟩
    rw [hsg] at hr
    have HR := Lib.hid hr
    have HS := Lib.hid hsg
    have hm0 : ((m : Int) == 0) = false := by
      rw [beq_eq_false_iff_ne]
      intro e
      obtain ⟨y, hy, e2⟩ := Na.vld_ex h2
      rw [e2, num_dig] at h0
      have h3 := HM.out
      rw [e2, Na.up_length] at h3
      have := Na.dig_len0.1 (show (Na.dig y).length = 0 by omega)
      omega
    clear h1 h2 hr h0 hsg
    go_enter Tryd.func21, Tryd.ntmps21
    go_wp2_with fail
    refine HV.out.mono ?_
    rintro e w1 ⟨rfl, H1⟩
    have hc1 := H1.p1 0 rfl
    have HK := Lib.hid (rvalid_ow H1 1 rfl)
    rw [H12.out.2] at HK
    clear H1 HV
    go_wp2_with fail
    refine HK.out.mono ?_
    rintro e w1 ⟨rfl, H1⟩
    have hc0 := H1.p0 0 rfl
    have hc1 := H1.p1 0 rfl
    have HG := Lib.hid (rgcd_ow H1 0 1 rfl rfl H12.out.1 H12.out.2)
    clear H1 HK
    go_wp2_with fail
    refine HG.out.mono ?_
    rintro e w2 ⟨A3, n3, c3, rfl, H2⟩
    have H3 := H2.boxed (.slice A3 n3 c3) 24
    simp only [List.nil_append, List.cons_append] at H3
    have HO := Lib.hid (rof_ow H3 1 (by omega))
    clear HG H2 H3 hc0 hc1
    go_wp2_with fail
    refine HO.out.mono ?_
    rintro e w3 ⟨A4, n4, c4, rfl, -, H4⟩
    have H5 := H4.boxed (.slice A4 n4 c4) 24
    simp only [List.nil_append, List.cons_append] at H5
    have hk3 := H5.cell 0 rfl
    have hk4 := H5.cell 1 rfl
    have HC := Lib.hid (rcmp_ow H5 2 3 rfl rfl)
    rw [HS.out] at HC
    clear HO H4 H5
    go_wp2_with fail
    refine HC.out.mono ?_
    rintro e w4 ⟨rfl, H6⟩
    have HB := Lib.hid H6.below
    clear HC H6
    go_wp2_with fail
    go_ret
    exact ⟨by rw [HR.out]; rfl, HB.out⟩
set_option maxHeartbeats 4000000 in
theorem qrmake_ok (A A2 : Option Addr) (n c m c2 x y : Nat) (w : World) (hn : (Na.dig x).length = n) (hm : (Na.dig y).length = m) (hnc : n ≤ c) (hmc : m ≤ c2) (hs : Sl w w.heap.size A (nats (Na.dig x))) (hs2 : Sl w w.heap.size A2 (nats (Na.dig y))) (hx : x < Na.top) (hy : y < Na.top) (h0 : 0 < y) :
    Calls Tryd.prog 52 #[.agg #[.slice A n c], .agg #[.slice A2 m c2]] w (ResF w (frM x y)) := by
  have hn2 : n ≤ 200 := by rw [← hn]; exact (Na.dig_200 x).2 hx
  have hm2 : m ≤ 200 := by rw [← hm]; exact (Na.dig_200 y).2 hy
  have H0 := (((((Ow.of (St.refl w)).old hs (by rw [nats_length]; exact hn) hnc (by omega)).old hs2 (by rw [nats_length]; exact hm) hmc (by omega)).boxed (.slice A n c) 24).boxed (.slice A2 m c2) 24).pair (.slice none 0 0) (.slice none 0 0) 26
  simp only [World.size_alloc, List.nil_append, List.cons_append] at H0
  have hc0 := H0.cell 0 rfl
  have HV := Lib.hid (rvalid_ok H0 0 rfl hx)
  have HX := Lib.hid (And.intro hx (And.intro hy h0))
  have HGp : Hid (Nat.gcd x y < Na.top ∧ 0 < Nat.gcd x y) := ⟨gcd_top hx hy, Nat.gcd_pos_of_pos_right _ h0⟩
  have HF := Lib.hid (frM_pos (x := x) h0)
  have hm0 : ((m : Int) == 0) = false := by
    rw [beq_eq_false_iff_ne]
    intro e
    have := Na.dig_len0.1 (show (Na.dig y).length = 0 by omega)
    omega
  clear H0 hs hs2 hn hm hx hy h0
  go_enter Tryd.func52, Tryd.ntmps52
  go_wp2_with fail
  refine HV.out.mono ?_
  rintro e w1 ⟨rfl, H1⟩
  have hc1 := H1.cell 1 rfl
  have HK := Lib.hid (rvalid_ok H1 1 rfl HX.out.2.1)
  clear H1 HV hc0
  go_wp2_with fail
  refine HK.out.mono ?_
  rintro e w1 ⟨rfl, H1⟩
  have hc0 := H1.cell 0 rfl
  have hc1 := H1.cell 1 rfl
  have HG := Lib.hid (rgcd_at H1 (H1.seenL 0 rfl) (H1.seenL 1 rfl) HX.out.1 HX.out.2.1)
  clear H1 HK
  go_wp2_with fail
  refine HG.out.mono ?_
  rintro e w2 ⟨A3, n3, c3, rfl, -, H2⟩
  have H3 := H2.boxed (.slice A3 n3 c3) 24
  simp only [List.nil_append, List.cons_append] at H3
  have hc0 := H3.cell 0 rfl
  have hc2 := H3.cell 2 rfl
  have HD := Lib.hid (rdivide_at H3 (H3.seenL 0 rfl) (H3.seen 1 rfl) HX.out.1 HGp.out.1 HGp.out.2)
  clear HG H2 H3 hc1
  go_wp2_with fail
  refine HD.out.mono ?_
  rintro e w3 ⟨A4, n4, c4, A5, n5, c5, rfl, -, H4⟩
  have H5 := (H4.boxed (.slice A4 n4 c4) 24).boxed (.slice A5 n5 c5) 24
  simp only [List.nil_append, List.cons_append, World.size_alloc] at H5
  have hc1 := H5.cell 1 rfl
  have hc2 := H5.cell 2 rfl
  have HD2 := Lib.hid (rdivide_at H5 (H5.seenL 1 rfl) (H5.seen 1 rfl) HX.out.2.1 HGp.out.1 HGp.out.2)
  clear HD H4 H5 hc0
  go_wp2_with fail
  refine HD2.out.mono ?_
  rintro e w4 ⟨A6, n6, c6, A7, n7, c7, rfl, -, H6⟩
  have H7 := (H6.boxed (.slice A6 n6 c6) 24).boxed (.slice A7 n7 c7) 24
  simp only [List.nil_append, List.cons_append, World.size_alloc] at H7
  have ha := H7.cell 3 rfl
  have hb := H7.cell 5 rfl
  have hr0 := H7.p0 0 rfl
  have hr1 := H7.p1 0 rfl
  have hrf0 := H7.pf 0 rfl 0
  have hrf1 := H7.pf 0 rfl 1
  have H8 := (H7.set0 0 rfl (.slice A4 n4 c4)).set1 0 rfl (.slice A6 n6 c6)
  simp only [List.set_cons_zero] at H8
  clear HD2 H6 hc1 hc2
  go_wp2_with fail
  have hs0 := H8.p0 0 rfl
  have hs1 := H8.p1 0 rfl
  refine bodyPost_ret (v := .tuple #[.agg #[.slice A4 n4 c4, .slice A6 n6 c6], .int .i64 0]) (by simp [results, Tryd.results52, go_sem, hs0, hs1]) rfl ?_
  rw [HF.out]
  exact resF_of H8 2 3 rfl rfl rfl
set_option maxHeartbeats 4000000 in
theorem qrmake_bad (A A2 : Option Addr) (n c m c2 : Nat) (p q : List Int) (w : World) (hn : p.length = n) (hm : q.length = m) (hnc : n ≤ c) (hmc : m ≤ c2) (hs : Sl w w.heap.size A (ints p)) (hs2 : Sl w w.heap.size A2 (ints q)) (hl : n ≤ 1000) (hl2 : m ≤ 1000) (hb : (Na.vld p && Na.vld q) = false ∨ (Na.vld p = true ∧ Na.vld q = true ∧ m = 0)) :
    Calls Tryd.prog 52 #[.agg #[.slice A n c], .agg #[.slice A2 m c2]] w (ResF w (frE (if (Na.vld p && Na.vld q) then 4 else 1))) := by
  have H0 := (((((Ow.of (St.refl w)).old hs (by rw [ints_length]; exact hn) hnc hl).old hs2 (by rw [ints_length]; exact hm) hmc hl2).boxed (.slice A n c) 24).boxed (.slice A2 m c2) 24).pair (.slice none 0 0) (.slice none 0 0) 26
  simp only [World.size_alloc, List.nil_append, List.cons_append] at H0
  have hc0 := H0.cell 0 rfl
  have HV := Lib.hid (rvalid_ow H0 0 rfl)
  clear H0 hs hs2 hn hm
  cases h1 : Na.vld p
  · rw [h1] at HV
    rw [Bool.false_and, if_neg (by decide)]
    clear hb h1
    go_enter Tryd.func52, Tryd.ntmps52
    go_wp2_with fail
    refine HV.out.mono ?_
    rintro e w1 ⟨rfl, H1⟩
    have hr0 := H1.p0 0 rfl
    have hr1 := H1.p1 0 rfl
    have hrf0 := H1.pf 0 rfl 0
    have hrf1 := H1.pf 0 rfl 1
    have HH := Lib.hid H1
    clear H1 HV
    go_wp2_with fail
    have H8 := (HH.out.set0 0 rfl (.slice none 0 0)).set1 0 rfl (.slice none 0 0)
    have hs0 := H8.p0 0 rfl
    have hs1 := H8.p1 0 rfl
    refine bodyPost_ret (v := .tuple #[.agg #[.slice none 0 0, .slice none 0 0], .int .i64 1]) (by simp [results, Tryd.results52, go_sem, hs0, hs1]) rfl ?_
    exact resF_nil _ _ _ H8.below
  rw [h1] at HV
  rw [h1, Bool.true_and] at hb
  cases h2 : Na.vld q
  · rw [Bool.and_false, if_neg (by decide)]
    have HQ := Lib.hid h2
    clear hb h1 h2
    go_enter Tryd.func52, Tryd.ntmps52
    go_wp2_with fail
    refine HV.out.mono ?_
    rintro e w1 ⟨rfl, H1⟩
    have hc1 := H1.cell 1 rfl
    have HK := Lib.hid (rvalid_ow H1 1 rfl)
    rw [HQ.out] at HK
    clear H1 HV
    go_wp2_with fail
    refine HK.out.mono ?_
    rintro e w1 ⟨rfl, H1⟩
    have HV := 0
    have hr0 := H1.p0 0 rfl
    have hr1 := H1.p1 0 rfl
    have hrf0 := H1.pf 0 rfl 0
    have hrf1 := H1.pf 0 rfl 1
    have HH := Lib.hid H1
    clear H1 HV
    go_wp2_with fail
    have H8 := (HH.out.set0 0 rfl (.slice none 0 0)).set1 0 rfl (.slice none 0 0)
    have hs0 := H8.p0 0 rfl
    have hs1 := H8.p1 0 rfl
    refine bodyPost_ret (v := .tuple #[.agg #[.slice none 0 0, .slice none 0 0], .int .i64 1]) (by simp [results, Tryd.results52, go_sem, hs0, hs1]) rfl ?_
    exact resF_nil _ _ _ H8.below
  · obtain rfl : m = 0 := by
      rcases hb with hb | hb
      · rw [h2] at hb; cases hb
      · exact hb.2.2
    rw [Bool.and_true, if_pos rfl]
    have HQ := Lib.hid h2
    clear hb h1 h2
    go_enter Tryd.func52, Tryd.ntmps52
    go_wp2_with fail
    refine HV.out.mono ?_
    rintro e w1 ⟨rfl, H1⟩
    have hc1 := H1.cell 1 rfl
    have HK := Lib.hid (rvalid_ow H1 1 rfl)
    rw [HQ.out] at HK
    clear H1 HV
    go_wp2_with fail
    refine HK.out.mono ?_
    rintro e w1 ⟨rfl, H1⟩
    have HV := 0
    have hc1 := H1.cell 1 rfl
    have hr0 := H1.p0 0 rfl
    have hr1 := H1.p1 0 rfl
    have hrf0 := H1.pf 0 rfl 0
    have hrf1 := H1.pf 0 rfl 1
    have HH := Lib.hid H1
    clear H1 HV
    go_wp2_with fail
    have H8 := (HH.out.set0 0 rfl (.slice none 0 0)).set1 0 rfl (.slice none 0 0)
    have hs0 := H8.p0 0 rfl
    have hs1 := H8.p1 0 rfl
    refine bodyPost_ret (v := .tuple #[.agg #[.slice none 0 0, .slice none 0 0], .int .i64 4]) (by simp [results, Tryd.results52, go_sem, hs0, hs1]) rfl ?_
    exact resF_nil _ _ _ H8.below
theorem qrmake_any (A A2 : Option Addr) (n c m c2 : Nat) (p q : List Int) (w : World) (hn : p.length = n) (hm : q.length = m) (hnc : n ≤ c) (hmc : m ≤ c2) (hs : Sl w w.heap.size A (ints p)) (hs2 : Sl w w.heap.size A2 (ints q)) (hl : n ≤ 1000) (hl2 : m ≤ 1000) :
    Calls Tryd.prog 52 #[.agg #[.slice A n c], .agg #[.slice A2 m c2]] w (ResF w (makeF p q)) := by
  rcases vv_cases p q with hv | ⟨hv, hx, hy, e1, e2⟩
  · have := qrmake_bad A A2 n c m c2 p q w hn hm hnc hmc hs hs2 hl hl2 (.inl hv)
    rw [hv] at this
    unfold makeF
    rw [hv]
    exact this
  · unfold makeF
    rw [hv, if_pos rfl]
    rcases Nat.eq_zero_or_pos (num q) with h0 | h0
    · have hm0 : m = 0 := by rw [← hm, e2, h0, Na.dig_zero]; rfl
      have := qrmake_bad A A2 n c m c2 p q w hn hm hnc hmc hs hs2 hl hl2 (.inr ⟨(Bool.and_eq_true_iff.1 hv).1, (Bool.and_eq_true_iff.1 hv).2, hm0⟩)
      rw [hv] at this
      unfold frM
      rw [if_pos h0]
      exact this
    · exact qrmake_ok A A2 n c m c2 _ _ w (by rw [← hn]; conv => rhs; rw [e1]; rw [Na.up_length]) (by rw [← hm]; conv => rhs; rw [e2]; rw [Na.up_length]) hnc hmc (nats_eq hs e1) (nats_eq hs2 e2) hx hy h0
end Go.Proofs.YtjhaogbopmhkoaaDoor

namespace Go.Proofs.YtjhaogbopmhkoaaDoor
open Go.RowKit Go.Sort
set_option linter.unusedVariables false
set_option maxRecDepth 100000
theorem makeF_top (p q : List Int) : (makeF p q).1 < Na.top ∧ (makeF p q).2.1 < Na.top := by
  unfold makeF
  rcases vv_cases p q with hv | ⟨hv, hx, hy, e1, e2⟩
  · rw [hv]; exact ⟨by show 0 < Na.top; exact Nat.pos_of_ne_zero (by decide +kernel), by show 0 < Na.top; exact Nat.pos_of_ne_zero (by decide +kernel)⟩
  · rw [hv]; exact frM_top hx hy
section
variable {w0 w w' : World} {g : Option Nat} {M : List (Nat × Value)} {L : List Ob} {O : List Rw} {A A2 : Option Addr} {n c m c2 x y : Nat} {p q : List Int}
theorem qvalid_b (h : Ow w0 w g M L O) (i j : Nat) (hi : L[i]? = some ⟨A, n, c, ints p⟩) (hj : L[j]? = some ⟨A2, m, c2, ints q⟩) (ht : Tab w0) :
    Calls Tryd.prog 57 #[.agg #[.slice A n c, .slice A2 m c2]] w fun e w' => e = .returned (.bool (rv p q)) ∧ Below w.heap.size w w' := by
  have a := h.raw hi
  have b := h.raw hj
  exact qvalid_any A A2 n c m c2 p q w a.1 b.1 a.2.1 b.2.1 a.2.2.2 b.2.2.2 a.2.2.1 b.2.2.1 (ht.below h.below)
theorem qrvalid_b (h : Ow w0 w g M L O) (i j : Nat) (hi : L[i]? = some ⟨A, n, c, ints p⟩) (hj : L[j]? = some ⟨A2, m, c2, ints q⟩) :
    Calls Tryd.prog 21 #[.agg #[.slice A n c, .slice A2 m c2]] w fun e w' => e = .returned (.bool (rv p q)) ∧ Below w.heap.size w w' := by
  have a := h.raw hi
  have b := h.raw hj
  exact qrvalid_any A A2 n c m c2 p q w a.1 b.1 a.2.1 b.2.1 a.2.2.2 b.2.2.2 a.2.2.1 b.2.2.1
theorem qvalid_ow (h : Ow w0 w g M L O) (i j : Nat) (hi : L[i]? = some ⟨A, n, c, ints p⟩) (hj : L[j]? = some ⟨A2, m, c2, ints q⟩) (ht : Tab w0) :
    Calls Tryd.prog 57 #[.agg #[.slice A n c, .slice A2 m c2]] w fun e w' => e = .returned (.bool (rv p q)) ∧ Ow w0 w' g M L O :=
  (qvalid_b h i j hi hj ht).mono fun e w' ⟨he, hb⟩ => ⟨he, h.go hb⟩
theorem qrvalid_ow (h : Ow w0 w g M L O) (i j : Nat) (hi : L[i]? = some ⟨A, n, c, ints p⟩) (hj : L[j]? = some ⟨A2, m, c2, ints q⟩) :
    Calls Tryd.prog 21 #[.agg #[.slice A n c, .slice A2 m c2]] w fun e w' => e = .returned (.bool (rv p q)) ∧ Ow w0 w' g M L O :=
  (qrvalid_b h i j hi hj).mono fun e w' ⟨he, hb⟩ => ⟨he, h.go hb⟩
theorem qmake_r (h : Ow w0 w g M L O) (i j : Nat) (hi : L[i]? = some ⟨A, n, c, ints p⟩) (hj : L[j]? = some ⟨A2, m, c2, ints q⟩) (ht : Tab w0) :
    Calls Tryd.prog 46 #[.agg #[.slice A n c], .agg #[.slice A2 m c2]] w (ResF w (makeF p q)) := by
  have a := h.raw hi
  have b := h.raw hj
  exact qmake_any A A2 n c m c2 p q w a.1 b.1 a.2.1 b.2.1 a.2.2.2 b.2.2.2 a.2.2.1 b.2.2.1 (ht.below h.below)
theorem qrmake_r (h : Ow w0 w g M L O) (i j : Nat) (hi : L[i]? = some ⟨A, n, c, ints p⟩) (hj : L[j]? = some ⟨A2, m, c2, ints q⟩) :
    Calls Tryd.prog 52 #[.agg #[.slice A n c], .agg #[.slice A2 m c2]] w (ResF w (makeF p q)) := by
  have a := h.raw hi
  have b := h.raw hj
  exact qrmake_any A A2 n c m c2 p q w a.1 b.1 a.2.1 b.2.1 a.2.2.2 b.2.2.2 a.2.2.1 b.2.2.1
theorem qmake_ow (h : Ow w0 w g M L O) (i j : Nat) (hi : L[i]? = some ⟨A, n, c, ints p⟩) (hj : L[j]? = some ⟨A2, m, c2, ints q⟩) (ht : Tab w0) :
    Calls Tryd.prog 46 #[.agg #[.slice A n c], .agg #[.slice A2 m c2]] w (GotF w0 g M L O (makeF p q)) :=
  (qmake_r h i j hi hj ht).mono fun e w' hr => got_f h (makeF_top p q).1 (makeF_top p q).2 hr
theorem qrmake_ow (h : Ow w0 w g M L O) (i j : Nat) (hi : L[i]? = some ⟨A, n, c, ints p⟩) (hj : L[j]? = some ⟨A2, m, c2, ints q⟩) :
    Calls Tryd.prog 52 #[.agg #[.slice A n c], .agg #[.slice A2 m c2]] w (GotF w0 g M L O (makeF p q)) :=
  (qrmake_r h i j hi hj).mono fun e w' hr => got_f h (makeF_top p q).1 (makeF_top p q).2 hr
/-- the fractions' lists come as digits: their own contracts -/
theorem qrmake_d (h : Ow w0 w g M L O) (i j : Nat) (hi : L[i]? = some ⟨A, n, c, nats (Na.dig x)⟩) (hj : L[j]? = some ⟨A2, m, c2, nats (Na.dig y)⟩) (hx : x < Na.top) (hy : y < Na.top) :
    Calls Tryd.prog 52 #[.agg #[.slice A n c], .agg #[.slice A2 m c2]] w (ResF w (frM x y)) := by
  have := qrmake_r (p := Na.up (Na.dig x)) (q := Na.up (Na.dig y)) h i j (by rw [nats_up]; exact hi) (by rw [nats_up]; exact hj)
  unfold makeF at this
  rw [Na.vld_dig hx, Na.vld_dig hy, num_dig, num_dig] at this
  exact this
theorem qmake_d (h : Ow w0 w g M L O) (i j : Nat) (hi : L[i]? = some ⟨A, n, c, nats (Na.dig x)⟩) (hj : L[j]? = some ⟨A2, m, c2, nats (Na.dig y)⟩) (hx : x < Na.top) (hy : y < Na.top) (ht : Tab w0) :
    Calls Tryd.prog 46 #[.agg #[.slice A n c], .agg #[.slice A2 m c2]] w (ResF w (frM x y)) := by
  have := qmake_r (p := Na.up (Na.dig x)) (q := Na.up (Na.dig y)) h i j (by rw [nats_up]; exact hi) (by rw [nats_up]; exact hj) ht
  unfold makeF at this
  rw [Na.vld_dig hx, Na.vld_dig hy, num_dig, num_dig] at this
  exact this
end
section
variable {w0 w w' : World} {g : Option Nat} {M : List (Nat × Value)} {L : List Ob} {O : List Rw} {A A2 A3 A4 : Option Addr} {n c m c2 n3 c3 n4 c4 : Nat}
end
end Go.Proofs.YtjhaogbopmhkoaaDoor

namespace Go.Proofs.YtjhaogbopmhkoaaDoor
open Go.RowKit Go.Sort
set_option linter.unusedVariables false
set_option maxRecDepth 100000
theorem get_r {α : Type} (M l : List α) (j : Nat) : (M ++ l)[M.length + j]? = l[j]? := by rw [List.getElem?_append_right (by omega)]; congr 1; omega
theorem set_r {α : Type} (M l : List α) (j : Nat) (x : α) : (M ++ l).set (M.length + j) x = M ++ l.set j x := by rw [List.set_append_right _ _ (by omega)]; congr 2; omega
theorem get_l {α : Type} (M l : List α) {k : Nat} (hk : k < M.length) : (M ++ l)[k]? = M[k]? := List.getElem?_append_left hk
section
variable {w0 w w' : World} {g : Option Nat} {M : List (Nat × Value)} {L : List Ob} {O : List Rw} {A A2 : Option Addr} {n c m c2 : Nat} {p q : List Int}
theorem Ow.fewM {l : List (Nat × Value)} (h : Ow w0 w g (M ++ l) L O) : Ow w0 w g M L O := h.few2 (by rw [List.take_left]) (fun _ h => h)
end
end Go.Proofs.YtjhaogbopmhkoaaDoor

namespace Go.Proofs.YtjhaogbopmhkoaaDoor
open Go.RowKit Go.Sort
set_option linter.unusedVariables false
set_option maxRecDepth 100000
section
variable {w0 w w' : World} {g : Option Nat} {M : List (Nat × Value)} {L : List Ob} {O : List Rw} {A A2 A3 A4 : Option Addr} {n c m c2 n3 c3 n4 c4 : Nat} {p q r s : List Int}
theorem Ow.fewO {l : List Rw} (h : Ow w0 w g M L (O ++ l)) : Ow w0 w g M L O := by
  have := h.few O.length
  rwa [List.take_left] at this
theorem gotF_nil (h : Ow w0 w g M L O) (e0 : Int) : GotF w0 g M L O (frE e0) (.returned (.tuple #[.agg #[.slice none 0 0, .slice none 0 0], .int .i64 e0])) w := by
  refine ⟨none, 0, 0, none, 0, 0, rfl, ?_⟩
  have e1 : nats (Na.dig 0) = [] := by rw [Na.dig_zero]; rfl
  show Ow w0 _ g M (L ++ [⟨none, 0, 0, nats (Na.dig 0)⟩] ++ [⟨none, 0, 0, nats (Na.dig 0)⟩]) O
  rw [e1]
  exact (h.old (A := none) (n := 0) (c := 0) (vs := []) (Sl.nil _ _ _) rfl (Nat.le_refl _) (by decide)).old (A := none) (n := 0) (c := 0) (vs := []) (Sl.nil _ _ _) rfl (Nat.le_refl _) (by decide)
end
end Go.Proofs.YtjhaogbopmhkoaaDoor

namespace Go.Proofs.YtjhaogbopmhkoaaDoor
open Go.RowKit Go.Sort
set_option linter.unusedVariables false
set_option maxRecDepth 100000
theorem mid_less (L l : List Ob) (x y : Ob) : ∀ o ∈ L ++ [x] ++ [y], o ∈ L ++ l ++ [x] ++ [y] := fun o ho => by
  simp only [List.mem_append] at ho ⊢
  rcases ho with (h | h) | h
  · exact .inl (.inl (.inl h))
  · exact .inl (.inr h)
  · exact .inr h
section
variable {w0 w w' : World} {g : Option Nat} {M M2 : List (Nat × Value)} {L : List Ob} {O : List Rw} {A A2 A3 A4 : Option Addr} {b n c m c2 n3 c3 n4 c4 x y : Nat}
end
end Go.Proofs.YtjhaogbopmhkoaaDoor

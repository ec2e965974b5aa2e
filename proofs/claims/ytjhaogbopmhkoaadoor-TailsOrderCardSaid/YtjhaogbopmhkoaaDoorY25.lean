/- Tm -/
import Derived.Test.YtjhaogbopmhkoaaDoorY22
import Derived.Test.YtjhaogbopmhkoaaDoorY24
namespace Go.Proofs.YtjhaogbopmhkoaaDoor
open Go.RowKit Go.Sort
set_option linter.unusedVariables false
set_option maxRecDepth 100000
/-- the first numbers are 1, the others 0 -/
def Ones (L : List Ob) (xs : List Value) (i : Nat) : Prop := xs.length = 41 ∧ (∀ z, z < i → ∃ u, xs[z]? = some u ∧ NumIn L u 1) ∧ ∀ z, i ≤ z → z < 41 → xs[z]? = some (.slice none 0 0)
theorem Ones.more {L l : List Ob} {xs : List Value} {i : Nat} (h : Ones L xs i) : Ones (L ++ l) xs i := ⟨h.1, fun z hz => by
  obtain ⟨u, a, b⟩ := h.2.1 z hz
  exact ⟨u, a, b.more⟩, h.2.2⟩
theorem Ones.set {L : List Ob} {xs : List Value} {i : Nat} {v : Value} (h : Ones L xs i) (hi : i < 41) (hv : NumIn L v 1) : Ones L (xs.set i v) (i + 1) := by
  refine ⟨by rw [List.length_set]; exact h.1, fun z hz => ?_, fun z h1 h2 => by rw [List.getElem?_set_ne (by omega)]; exact h.2.2 z (by omega) h2⟩
  rcases Nat.lt_or_ge z i with h1 | h1
  · obtain ⟨u, a, b⟩ := h.2.1 z h1
    exact ⟨u, by rw [List.getElem?_set_ne (by omega)]; exact a, b⟩
  · obtain rfl : z = i := by omega
    exact ⟨v, List.getElem?_set_self (by rw [h.1]; exact hi), hv⟩
theorem Ones.one {L : List Ob} {xs : List Value} {i : Nat} (h : Ones L xs i) : xs.toArray.all (·.oneCell') = true := by
  rw [Array.all_eq_true_iff_forall_mem]
  intro v hv
  obtain ⟨z, hz, rfl⟩ := List.getElem_of_mem (by simpa using hv)
  rcases Nat.lt_or_ge z i with h1 | h1
  · obtain ⟨u, a, A, n, c, t, e, _⟩ := h.2.1 z h1
    rw [List.getElem?_eq_getElem hz] at a
    rw [Option.some.inj a, e]; rfl
  · have a := h.2.2 z h1 (by rw [← h.1]; exact hz)
    rw [List.getElem?_eq_getElem hz] at a
    rw [Option.some.inj a]; rfl
/-- with a zero among what is held, ones are the ways of one cell -/
theorem Ones.ways {L : List Ob} {xs : List Value} {i n : Nat} (h : Ones L xs i) (hn : n ≤ 40) (hz : NumIn L (.slice none 0 0) 0) : Ways L xs n (oneC i) := ⟨h.1, fun z hz2 => by
  unfold oneC
  rcases Nat.lt_or_ge z i with h1 | h1
  · rw [if_pos h1]
    exact h.2.1 z h1
  · rw [if_neg (by omega)]
    exact ⟨_, h.2.2 z h1 (by omega), hz⟩⟩
theorem TSets.more {L l : List Ob} {A : Option Addr} {m : Nat} (h : TSets L A m) : TSets (L ++ l) A m := by
  obtain ⟨ad, t, vs, h1, h2, h3⟩ := h
  exact ⟨ad, t, vs, h1, by rw [List.getElem?_append_left (get_lt h2)]; exact h2, h3.more⟩
def RC1 (w0 : World) (g : Option Nat) (M : List (Nat × Value)) (L : List Ob) (O : List Rw) (rb nb sb m kk : Nat) (A : Option Addr) (xn : List Value) (v : Value) (wr : World) : Prop :=
  ∃ (i : Nat) (xs : List Value) (Ls : List Ob), i ≤ kk ∧ v = .int .i64 (i : Int) ∧ Hid (Ones (L ++ Ls) xs i ∧ Ones (L ++ Ls) xn 1 ∧ TSets (L ++ Ls) A m ∧ NumIn (L ++ Ls) (.slice none 0 0) 0) ∧ Hid (Ow w0 wr g M (L ++ Ls) (O ++ [Rw.pair rb 26 (.slice none 0 0) (.slice none 0 0), ⟨some ⟨nb, 0, none⟩, 41, 41, 71, xn⟩, ⟨some ⟨sb, 0, none⟩, 41, 41, 71, xs⟩]))
def RC2 (w0 : World) (g : Option Nat) (M : List (Nat × Value)) (L : List Ob) (O : List Rw) (rb nb sb m cc kk : Nat) (A : Option Addr) (v : Value) (wr : World) : Prop :=
  ∃ (r p s : Nat) (xn xo : List Value) (Ls : List Ob), v = .int .i64 (r : Int) ∧ Hid (r ≤ 4096 ∧ cc = p + s * r ∧ Ways (L ++ Ls) xn m (pwc (oneC kk) p) ∧ Ways (L ++ Ls) xo m (pwc (oneC kk) s) ∧ TSets (L ++ Ls) A m ∧ xn.toArray.all (·.oneCell') = true ∧ xo.toArray.all (·.oneCell') = true) ∧ Hid (Ow w0 wr g M (L ++ Ls) (O ++ [Rw.pair rb 26 (.slice none 0 0) (.slice none 0 0), ⟨some ⟨nb, 0, none⟩, 41, 41, 71, xn⟩, ⟨some ⟨sb, 0, none⟩, 41, 41, 71, xo⟩]))
section
variable {w0 w w' : World} {g : Option Nat} {M M2 : List (Nat × Value)} {L : List Ob} {O : List Rw} {A A2 A3 A4 : Option Addr} {b n c m c2 n3 c3 n4 c4 x y : Nat} {p q r s : List Int}
set_option maxHeartbeats 8000000 in
theorem t_cells_range (h : Ow w0 w g M L O) (a b k : Int) (hn : a < 0 ∨ 40 < a ∨ b < 1 ∨ 4096 < b) : Calls Tryd.prog 11 #[.int .i64 a, .int .i64 b, .int .i64 k] w (GotF w0 g M L O (frE 2)) := by
  have H := h.pair (.slice none 0 0) (.slice none 0 0) 26
  clear h
  rcases Int.lt_or_le (a) (0) with h0 | h1
  · have t : decide (a < 0) = true := decide_eq_true (by omega)
    clear hn
    go_enter Tryd.func11, Tryd.ntmps11
    have HF := Lib.hid H.fewO
    clear H
    go_wp2_with fail
    refine bodyPost_ret (v := .tuple #[.agg #[.slice none 0 0, .slice none 0 0], .int .i64 2]) (by simp [results, Tryd.results11, go_sem]) rfl ?_
    exact gotF_nil HF.out 2
  rcases Int.lt_or_le (40) (a) with h0 | h2
  · have t : decide (40 < a) = true := decide_eq_true (by omega)
    have t0 : decide (a < 0) = false := decide_eq_false (by omega)
    clear hn
    go_enter Tryd.func11, Tryd.ntmps11
    have HF := Lib.hid H.fewO
    clear H
    go_wp2_with fail
    refine bodyPost_ret (v := .tuple #[.agg #[.slice none 0 0, .slice none 0 0], .int .i64 2]) (by simp [results, Tryd.results11, go_sem]) rfl ?_
    exact gotF_nil HF.out 2
  rcases Int.lt_or_le (b) (1) with h0 | h3
  · have t : decide (b < 1) = true := decide_eq_true (by omega)
    have t0 : decide (a < 0) = false := decide_eq_false (by omega)
    have t1 : decide (40 < a) = false := decide_eq_false (by omega)
    clear hn
    go_enter Tryd.func11, Tryd.ntmps11
    have HF := Lib.hid H.fewO
    clear H
    go_wp2_with fail
    refine bodyPost_ret (v := .tuple #[.agg #[.slice none 0 0, .slice none 0 0], .int .i64 2]) (by simp [results, Tryd.results11, go_sem]) rfl ?_
    exact gotF_nil HF.out 2
  have t : decide (4096 < b) = true := decide_eq_true (by omega)
  have t0 : decide (a < 0) = false := decide_eq_false (by omega)
  have t1 : decide (40 < a) = false := decide_eq_false (by omega)
  have t2 : decide (b < 1) = false := decide_eq_false (by omega)
  clear hn
  go_enter Tryd.func11, Tryd.ntmps11
  have HF := Lib.hid H.fewO
  clear H
  go_wp2_with fail
  refine bodyPost_ret (v := .tuple #[.agg #[.slice none 0 0, .slice none 0 0], .int .i64 2]) (by simp [results, Tryd.results11, go_sem]) rfl ?_
  exact gotF_nil HF.out 2
theorem ofF_all : ofF 1 1 = (1, 1, 0) := by decide +kernel
set_option maxHeartbeats 8000000 in
theorem t_cells_all (h : Ow w0 w g M L O) (a b k : Int) (ht : Tab w0) (ha : 0 ≤ a ∧ a ≤ 40) (hb : 1 ≤ b ∧ b ≤ 4096) (hk : k ≤ 0) : Calls Tryd.prog 11 #[.int .i64 a, .int .i64 b, .int .i64 k] w (GotF w0 g M L O (1, 1, 0)) := by
  have H := h.pair (.slice none 0 0) (.slice none 0 0) 26
  have t0 : decide (a < 0) = false := decide_eq_false (by omega)
  have t1 : decide (40 < a) = false := decide_eq_false (by omega)
  have t2 : decide (b < 1) = false := decide_eq_false (by omega)
  have t3 : decide (4096 < b) = false := decide_eq_false (by omega)
  have t4 : decide (k ≤ 0) = true := decide_eq_true (by omega)
  have HC := Lib.hid (qof_ow H 1 1 (by omega) (by omega) ht)
  rw [ofF_all] at HC
  clear h H ha hb hk ht
  go_enter Tryd.func11, Tryd.ntmps11
  go_wp2_with fail
  refine HC.out.mono ?_
  rintro e w9 ⟨C1, k1, e1, C2, k2, e2, rfl, G⟩
  clear HC
  have z0 := G.p0 (O.length + 0) (by rw [get_r]; rfl)
  have z1 := G.p1 (O.length + 0) (by rw [get_r]; rfl)
  have f0 := G.pf (O.length + 0) (by rw [get_r]; rfl) 0
  have f1 := G.pf (O.length + 0) (by rw [get_r]; rfl) 1
  have Z3 := G.set0 (O.length + 0) (by rw [get_r]; rfl) (.slice C1 k1 e1)
  rw [set_r] at Z3
  simp only [List.set_cons_zero] at Z3
  have Z4 := Z3.set1 (O.length + 0) (by rw [get_r]; rfl) (.slice C2 k2 e2)
  rw [set_r] at Z4
  simp only [List.set_cons_zero] at Z4
  have r0 := Z4.p0 (O.length + 0) (by rw [get_r]; rfl)
  have r1 := Z4.p1 (O.length + 0) (by rw [get_r]; rfl)
  have HF := Lib.hid Z4.fewO
  clear G Z3 Z4
  go_wp2_with fail
  refine bodyPost_ret (v := .tuple #[.agg #[.slice C1 k1 e1, .slice C2 k2 e2], .int .i64 0]) (by simp [results, Tryd.results11, go_sem, r0, r1]) rfl ?_
  exact ⟨C1, k1, e1, C2, k2, e2, rfl, HF.out⟩
theorem ofF_none : ofF 0 1 = (0, 1, 0) := by decide +kernel
set_option maxHeartbeats 8000000 in
theorem t_cells_none (h : Ow w0 w g M L O) (a b k : Int) (ht : Tab w0) (ha : 0 ≤ a ∧ a ≤ 40) (hb : 1 ≤ b ∧ b ≤ 4096) (hk : 0 < k ∧ a < k) : Calls Tryd.prog 11 #[.int .i64 a, .int .i64 b, .int .i64 k] w (GotF w0 g M L O (0, 1, 0)) := by
  have H := h.pair (.slice none 0 0) (.slice none 0 0) 26
  have t0 : decide (a < 0) = false := decide_eq_false (by omega)
  have t1 : decide (40 < a) = false := decide_eq_false (by omega)
  have t2 : decide (b < 1) = false := decide_eq_false (by omega)
  have t3 : decide (4096 < b) = false := decide_eq_false (by omega)
  have t4 : decide (k ≤ 0) = false := decide_eq_false (by omega)
  have t5 : decide (a < k) = true := decide_eq_true (by omega)
  have HC := Lib.hid (qof_ow H 0 1 (by omega) (by omega) ht)
  rw [ofF_none] at HC
  clear h H ha hb hk ht
  go_enter Tryd.func11, Tryd.ntmps11
  go_wp2_with fail
  refine HC.out.mono ?_
  rintro e w9 ⟨C1, k1, e1, C2, k2, e2, rfl, G⟩
  clear HC
  have z0 := G.p0 (O.length + 0) (by rw [get_r]; rfl)
  have z1 := G.p1 (O.length + 0) (by rw [get_r]; rfl)
  have f0 := G.pf (O.length + 0) (by rw [get_r]; rfl) 0
  have f1 := G.pf (O.length + 0) (by rw [get_r]; rfl) 1
  have Z3 := G.set0 (O.length + 0) (by rw [get_r]; rfl) (.slice C1 k1 e1)
  rw [set_r] at Z3
  simp only [List.set_cons_zero] at Z3
  have Z4 := Z3.set1 (O.length + 0) (by rw [get_r]; rfl) (.slice C2 k2 e2)
  rw [set_r] at Z4
  simp only [List.set_cons_zero] at Z4
  have r0 := Z4.p0 (O.length + 0) (by rw [get_r]; rfl)
  have r1 := Z4.p1 (O.length + 0) (by rw [get_r]; rfl)
  have HF := Lib.hid Z4.fewO
  clear G Z3 Z4
  go_wp2_with fail
  refine bodyPost_ret (v := .tuple #[.agg #[.slice C1 k1 e1, .slice C2 k2 e2], .int .i64 0]) (by simp [results, Tryd.results11, go_sem, r0, r1]) rfl ?_
  exact ⟨C1, k1, e1, C2, k2, e2, rfl, HF.out⟩
structure CsK (w0 : World) (g : Option Nat) (M : List (Nat × Value)) (L : List Ob) (O : List Rw) (nb tb : Nat) (AT : Option Addr) (nT cT : Nat) (AB : Option Addr) (nB cB m a b : Nat) (Ld : Nat → Bool) (u0 u1 u2 u3 u4 u5 u6 u7 u8 u10 : Value) (A : Option Addr) (n c : Nat) (ms : List (Nat × Value)) (Ls : List Ob) (W : World) : Prop where
  ow : Ow w0 W g (M ++ (tb, .slice AT nT cT) :: ms) (L ++ Ls) O
  h0 : Ld 0 = true → u0 = .agg #[.slice AT nT cT]
  h1 : Ld 1 = true → u1 = .int .i64 (m : Int)
  h2 : Ld 2 = true → u2 = .pointer (some ⟨nb, m, none⟩)
  h3 : Ld 3 = true → u3 = .agg #[.slice AB nB cB]
  h4 : Ld 4 = true → u4 = .tuple #[.agg #[.slice A n c], .int .i64 0] ∧ ∃ t : Nat, Ls[t]? = some ⟨A, n, c, nats (Na.dig (a - b))⟩
  h5 : Ld 5 = true → u5 = .tuple #[.agg #[.slice A n c], .int .i64 0]
  h6 : Ld 6 = true → u6 = .agg #[.slice A n c]
  h7 : Ld 7 = true → u7 = .int .i64 0
  h8 : Ld 8 = true → ∃ (t b2 : Nat) (v : Value), u8 = .pointer (some ⟨b2, 0, none⟩) ∧ ms[t]? = some (b2, v) ∧ (Ld 9 = true → v = .slice A n c)
def CsI (w0 : World) (g : Option Nat) (M : List (Nat × Value)) (L : List Ob) (O : List Rw) (nb tb : Nat) (AT : Option Addr) (nT cT : Nat) (AB : Option Addr) (nB cB m a b : Nat) (A0 : Act) (Ld : Nat → Bool) (ac : Act) (W : World) : Prop :=
  ∃ (u0 u1 u2 u3 u4 u5 u6 u7 u8 u10 : Value) (A : Option Addr) (n c : Nat) (ms : List (Nat × Value)) (Ls : List Ob), ac = ((((((((((A0.put (some 80) u0).put (some 81) u1).put (some 82) u2).put (some 83) u3).put (some 84) u4).put (some 79) u5).put (some 85) u6).put (some 86) u7).put (some 14) u8).put (some 15) u10) ∧ CsK w0 g M L O nb tb AT nT cT AB nB cB m a b Ld u0 u1 u2 u3 u4 u5 u6 u7 u8 u10 A n c ms Ls W
section
variable {w0 W W' : World} {g : Option Nat} {M : List (Nat × Value)} {L : List Ob} {O : List Rw} {nb tb : Nat} {AT : Option Addr} {nT cT : Nat} {AB : Option Addr} {nB cB m a b : Nat} {Ld : Nat → Bool} {u0 u1 u2 u3 u4 u5 u6 u7 u8 u10 : Value} {A : Option Addr} {n c : Nat} {ms : List (Nat × Value)} {Ls : List Ob}
theorem CsK.called (h : CsK w0 g M L O nb tb AT nT cT AB nB cB m a b Ld u0 u1 u2 u3 u4 u5 u6 u7 u8 u10 A n c ms Ls W) (f5 : Ld 5 = false) (f6 : Ld 6 = false) (f9 : Ld 9 = false) {D : Option Addr} {i j : Nat} (ho : Ow w0 W' g (M ++ (tb, .slice AT nT cT) :: ms) (L ++ Ls ++ [⟨D, i, j, nats (Na.dig (a - b))⟩]) O) :
    CsK w0 g M L O nb tb AT nT cT AB nB cB m a b (dset Ld 4) u0 u1 u2 u3 (.tuple #[.agg #[.slice D i j], .int .i64 0]) u5 u6 u7 u8 u10 D i j ms (Ls ++ [⟨D, i, j, nats (Na.dig (a - b))⟩]) W' :=
  ⟨by rw [List.append_assoc] at ho; exact ho, h.h0, h.h1, h.h2, h.h3, fun _ => ⟨rfl, Ls.length, by simp⟩, fun e => absurd ((show Ld 5 = true from e).symm.trans f5) (by decide), fun e => absurd ((show Ld 6 = true from e).symm.trans f6) (by decide), h.h7, fun e => by
    obtain ⟨t, b2, v, k1, k2, k3⟩ := h.h8 e
    exact ⟨t, b2, v, k1, k2, fun e2 => absurd ((show Ld 9 = true from e2).symm.trans f9) (by decide)⟩⟩
theorem CsK.alloced (h : CsK w0 g M L O nb tb AT nT cT AB nB cB m a b Ld u0 u1 u2 u3 u4 u5 u6 u7 u8 u10 A n c ms Ls W) (f9 : Ld 9 = false) :
    CsK w0 g M L O nb tb AT nT cT AB nB cB m a b (dset Ld 8) u0 u1 u2 u3 u4 u5 u6 u7 (.pointer (some ⟨W.heap.size, 0, none⟩)) u10 A n c (ms ++ [(W.heap.size, .slice none 0 0)]) Ls (W.alloc (.cells #[.slice none 0 0] 24)) :=
  ⟨by have := h.ow.boxed (.slice none 0 0) 24; rwa [List.append_assoc, List.cons_append] at this, h.h0, h.h1, h.h2, h.h3, h.h4, h.h5, h.h6, h.h7, fun _ => ⟨ms.length, W.heap.size, .slice none 0 0, rfl, by simp, fun e2 => absurd ((show Ld 9 = true from e2).symm.trans f9) (by decide)⟩⟩
theorem CsK.stored (h : CsK w0 g M L O nb tb AT nT cT AB nB cB m a b Ld u0 u1 u2 u3 u4 u5 u6 u7 u8 u10 A n c ms Ls W) (h8 : Ld 8 = true) (h6 : Ld 6 = true) :
    ∃ b2 v ms', u8 = .pointer (some ⟨b2, 0, none⟩) ∧ u6 = .agg #[.slice A n c] ∧ W.cell? ⟨b2, 0, none⟩ = some v ∧ W.frozen? ⟨b2, 0, none⟩ = false ∧ CsK w0 g M L O nb tb AT nT cT AB nB cB m a b (dset Ld 9) u0 u1 u2 u3 u4 u5 u6 u7 u8 u10 A n c ms' Ls (W.setCell ⟨b2, 0, none⟩ (.slice A n c)) := by
  obtain ⟨t, b2, v, a1, a2, a3⟩ := h.h8 h8
  have hi : (M ++ (tb, .slice AT nT cT) :: ms)[M.length + (t + 1)]? = some (b2, v) := by rw [get_r]; exact a2
  have o1 := h.ow.setv _ hi (.slice A n c)
  rw [set_r, List.set_cons_succ] at o1
  exact ⟨b2, v, _, a1, h.h6 h6, h.ow.cell _ hi, h.ow.free _ hi, o1, h.h0, h.h1, h.h2, h.h3, h.h4, h.h5, h.h6, h.h7, fun _ => ⟨t, b2, _, a1, List.getElem?_set_self (get_lt a2), fun _ => rfl⟩⟩
end
set_option maxHeartbeats 16000000 in
theorem t_cells_sum (h : Ow w0 w g M L O) (m cc kk : Nat) (ht : Tab w0) (hm : m ≤ 40) (hc : 1 ≤ cc ∧ cc ≤ 4096) (hk : 1 ≤ kk ∧ kk ≤ m) : Calls Tryd.prog 11 #[.int .i64 (m : Int), .int .i64 (cc : Int), .int .i64 (kk : Int)] w (GotF w0 g M L O (frM (cc ^ m - pwc (oneC kk) cc m) (cc ^ m))) := by
  have H := h.pair (.slice none 0 0) (.slice none 0 0) 26
  have t0 : decide ((m : Int) < 0) = false := decide_eq_false (by omega)
  have t1 : decide (40 < (m : Int)) = false := decide_eq_false (by omega)
  have t1b : decide (40 < m) = false := decide_eq_false (by omega)
  have t2 : decide ((cc : Int) < 1) = false := decide_eq_false (by omega)
  have t2b : decide (cc < 1) = false := decide_eq_false (by omega)
  have t3 : decide (4096 < (cc : Int)) = false := decide_eq_false (by omega)
  have t3b : decide (4096 < cc) = false := decide_eq_false (by omega)
  have t4 : decide ((kk : Int) ≤ 0) = false := decide_eq_false (by omega)
  have t4b : decide (kk ≤ 0) = false := decide_eq_false (by omega)
  have t5 : decide ((m : Int) < (kk : Int)) = false := decide_eq_false (by omega)
  have t5b : decide (m < kk) = false := decide_eq_false (by omega)
  have HT := Lib.hid ht
  have HM : Hid (m ≤ 40 ∧ 1 ≤ cc ∧ cc ≤ 4096 ∧ 1 ≤ kk ∧ kk ≤ m) := ⟨hm, hc.1, hc.2, hk.1, hk.2⟩
  obtain ⟨t, hmk⟩ : ∃ t, frM (cc ^ m - pwc (oneC kk) cc m) (cc ^ m) = t := ⟨_, rfl⟩
  rw [hmk]
  have HMk := Lib.hid hmk
  have HC := Lib.hid (t_pascal H m hm)
  obtain ⟨rb, hrb⟩ : ∃ b, w.heap.size = b := ⟨_, rfl⟩
  clear h H hmk ht
  go_enter Tryd.func11, Tryd.ntmps11
  go_wp2_with fail
  refine HC.out.mono ?_
  rintro e w1 ⟨A, Ls, rfl, G, HS⟩
  clear HC
  have H := (G.arr #[.slice none 0 0, .slice none 0 0, .slice none 0 0, .slice none 0 0, .slice none 0 0, .slice none 0 0, .slice none 0 0, .slice none 0 0, .slice none 0 0, .slice none 0 0, .slice none 0 0, .slice none 0 0, .slice none 0 0, .slice none 0 0, .slice none 0 0, .slice none 0 0, .slice none 0 0, .slice none 0 0, .slice none 0 0, .slice none 0 0, .slice none 0 0, .slice none 0 0, .slice none 0 0, .slice none 0 0, .slice none 0 0, .slice none 0 0, .slice none 0 0, .slice none 0 0, .slice none 0 0, .slice none 0 0, .slice none 0 0, .slice none 0 0, .slice none 0 0, .slice none 0 0, .slice none 0 0, .slice none 0 0, .slice none 0 0, .slice none 0 0, .slice none 0 0, .slice none 0 0, .slice none 0 0] 41 rfl (by omega) 71).arr #[.slice none 0 0, .slice none 0 0, .slice none 0 0, .slice none 0 0, .slice none 0 0, .slice none 0 0, .slice none 0 0, .slice none 0 0, .slice none 0 0, .slice none 0 0, .slice none 0 0, .slice none 0 0, .slice none 0 0, .slice none 0 0, .slice none 0 0, .slice none 0 0, .slice none 0 0, .slice none 0 0, .slice none 0 0, .slice none 0 0, .slice none 0 0, .slice none 0 0, .slice none 0 0, .slice none 0 0, .slice none 0 0, .slice none 0 0, .slice none 0 0, .slice none 0 0, .slice none 0 0, .slice none 0 0, .slice none 0 0, .slice none 0 0, .slice none 0 0, .slice none 0 0, .slice none 0 0, .slice none 0 0, .slice none 0 0, .slice none 0 0, .slice none 0 0, .slice none 0 0, .slice none 0 0] 41 rfl (by omega) 71
  simp only [World.size_alloc, List.append_assoc, List.cons_append, List.nil_append] at H
  rw [hrb] at H
  obtain ⟨lr, hlr⟩ : ∃ l : List Value, ([.slice none 0 0, .slice none 0 0, .slice none 0 0, .slice none 0 0, .slice none 0 0, .slice none 0 0, .slice none 0 0, .slice none 0 0, .slice none 0 0, .slice none 0 0, .slice none 0 0, .slice none 0 0, .slice none 0 0, .slice none 0 0, .slice none 0 0, .slice none 0 0, .slice none 0 0, .slice none 0 0, .slice none 0 0, .slice none 0 0, .slice none 0 0, .slice none 0 0, .slice none 0 0, .slice none 0 0, .slice none 0 0, .slice none 0 0, .slice none 0 0, .slice none 0 0, .slice none 0 0, .slice none 0 0, .slice none 0 0, .slice none 0 0, .slice none 0 0, .slice none 0 0, .slice none 0 0, .slice none 0 0, .slice none 0 0, .slice none 0 0, .slice none 0 0, .slice none 0 0, .slice none 0 0] : List Value) = l := ⟨_, rfl⟩
  have HL9 : Hid (lr.length = 41 ∧ ∀ z, z < 41 → lr[z]? = some (.slice none 0 0)) := by
    refine ⟨by rw [← hlr]; rfl, fun z hz => ?_⟩
    rw [← hlr, show ([.slice none 0 0, .slice none 0 0, .slice none 0 0, .slice none 0 0, .slice none 0 0, .slice none 0 0, .slice none 0 0, .slice none 0 0, .slice none 0 0, .slice none 0 0, .slice none 0 0, .slice none 0 0, .slice none 0 0, .slice none 0 0, .slice none 0 0, .slice none 0 0, .slice none 0 0, .slice none 0 0, .slice none 0 0, .slice none 0 0, .slice none 0 0, .slice none 0 0, .slice none 0 0, .slice none 0 0, .slice none 0 0, .slice none 0 0, .slice none 0 0, .slice none 0 0, .slice none 0 0, .slice none 0 0, .slice none 0 0, .slice none 0 0, .slice none 0 0, .slice none 0 0, .slice none 0 0, .slice none 0 0, .slice none 0 0, .slice none 0 0, .slice none 0 0, .slice none 0 0, .slice none 0 0] : List Value) = List.replicate 41 (.slice none 0 0) from rfl, List.getElem?_replicate, if_pos hz]
  have hlr2 : (#[.slice none 0 0, .slice none 0 0, .slice none 0 0, .slice none 0 0, .slice none 0 0, .slice none 0 0, .slice none 0 0, .slice none 0 0, .slice none 0 0, .slice none 0 0, .slice none 0 0, .slice none 0 0, .slice none 0 0, .slice none 0 0, .slice none 0 0, .slice none 0 0, .slice none 0 0, .slice none 0 0, .slice none 0 0, .slice none 0 0, .slice none 0 0, .slice none 0 0, .slice none 0 0, .slice none 0 0, .slice none 0 0, .slice none 0 0, .slice none 0 0, .slice none 0 0, .slice none 0 0, .slice none 0 0, .slice none 0 0, .slice none 0 0, .slice none 0 0, .slice none 0 0, .slice none 0 0, .slice none 0 0, .slice none 0 0, .slice none 0 0, .slice none 0 0, .slice none 0 0, .slice none 0 0] : Array Value) = lr.toArray := by rw [← hlr]
  have HSs := Lib.hid HS
  have HC := Lib.hid (t_of1 H)
  clear G H HS
  have Hlr := Lib.hid hlr
  have Hlr2 := Lib.hid hlr2
  clear hlr hlr2
  go_wp2_with fail
  refine HC.out.mono ?_
  rintro e w2 ⟨B1, m1, d1, rfl, G⟩
  rw [Hlr.out] at G
  have c0 := cell_row G (i := O.length + 1) (by rw [get_r]; rfl) (HL9.out.2 0 (by omega)) (by omega)
  have f0 := (G.own (O.length + 1) _ (by rw [get_r]; rfl)).frozenAt 0
  have Z := G.put (O.length + 1) (by rw [get_r]; rfl) 0 (.slice B1 m1 d1)
  rw [set_r, List.set_cons_succ, List.set_cons_zero] at Z
  have Z2 := Z.old (A := none) (n := 0) (c := 0) (vs := nats (Na.dig 0)) (by rw [Na.dig_zero]; exact Sl.nil _ _ _) (by rw [Na.dig_zero]; rfl) (Nat.le_refl _) (by decide)
  rw [List.append_assoc (L ++ Ls), List.append_assoc L] at Z2
  have HZ2 := Lib.hid Z2
  clear G Z Z2 HC Hlr Hlr2
  go_wp2_with fail
  clear c0 f0
  go_loopw [11] (fun v wr => RC1 w0 g M L O rb w1.heap.size (w1.heap.size + 1) m kk A (lr.set 0 (.slice B1 m1 d1)) v wr) (fun v _ => kk + 1 - (intOf v).toNat)
  case atStart =>
    refine ⟨0, lr, _, Nat.zero_le _, rfl, ⟨⟨HL9.out.1, fun z hz => absurd hz (by omega), fun z _ hz => HL9.out.2 z hz⟩, ?_, ?_, ?_⟩, HZ2⟩
    · refine Ones.set (i := 0) ⟨HL9.out.1, fun z hz => absurd hz (by omega), fun z _ hz => HL9.out.2 z hz⟩ (by omega) ⟨B1, m1, d1, (L ++ Ls).length + 0, rfl, by rw [← List.append_assoc, get_r]; rfl⟩
    · rw [← List.append_assoc]; exact TSets.more HSs.out
    · exact ⟨none, 0, 0, (L ++ Ls).length + 1, rfl, by rw [← List.append_assoc, get_r]; rfl⟩
  case round =>
    clear HZ2
    obtain ⟨i, xs, Lt, hi, rfl, HV, HO⟩ := hrel
    rcases Nat.eq_or_lt_of_le hi with he | hlt
    · subst he
      have hd : decide ((i : Int) < (i : Int)) = false := decide_eq_false (by omega)
      have hd2 : decide (i < i) = false := decide_eq_false (by omega)
      go_wp2_with fail
      go_loopw [12] (fun v wr => RC2 w0 g M L O rb w1.heap.size (w1.heap.size + 1) m cc i A v wr) (fun v _ => (intOf v).toNat)
      case atStart =>
        have e1 : pwc (oneC i) 0 = oneC 1 := by funext z; show dlt z = oneC 1 z; unfold dlt oneC; by_cases h : z = 0 <;> simp [h]
        refine ⟨cc, 0, 1, _, xs, Lt, rfl, ⟨HM.out.2.2.1, by omega, by rw [e1]; exact HV.out.2.1.ways HM.out.1 HV.out.2.2.2, by rw [pwc_one]; exact HV.out.1.ways HM.out.1 HV.out.2.2.2, HV.out.2.2.1, HV.out.2.1.one, HV.out.1.one⟩, HO⟩
      case round =>
        clear HO HV
        obtain ⟨r, p, s, xn, xo, Lt, rfl, HV, HO⟩ := hrel
        have hr9 := HV.out.1
        rcases Nat.eq_zero_or_pos r with h0 | h0
        · subst h0
          have hd3 : decide ((0 : Int) < ((0 : Nat) : Int)) = false := decide_eq_false (by omega)
          obtain ⟨vb, hvb, AB, nB, cB, ib, rfl, hib⟩ := HV.out.2.2.1.2 m (Nat.le_refl _)
          have hpc : p = cc := by have := HV.out.2.1; rw [Nat.mul_zero] at this; omega
          rw [hpc] at hib
          have hB1 : pwc (oneC i) cc m ≤ cc ^ m := pwc_le (oneC_le i) cc m
          have hc12 : cc ≤ 2 ^ 12 := HM.out.2.2.1
          have hTop : Hid (cc < Na.top ∧ cc ^ m < Na.top ∧ pwc (oneC i) cc m < Na.top ∧ pwc (oneC i) cc m ≤ cc ^ m) := by
            have h1 : cc ^ m < Na.top := le_top (pow_two hc12 m) (by have := HM.out.1; omega)
            exact ⟨le_top hc12 (by omega), h1, Nat.lt_of_le_of_lt hB1 h1, hB1⟩
          obtain ⟨bq, hbq⟩ : ∃ z, pwc (oneC i) cc m = z := ⟨_, rfl⟩
          rw [hbq] at hib hTop
          rw [hbq] at HMk
          obtain ⟨aq, haq⟩ : ∃ z, cc ^ m = z := ⟨_, rfl⟩
          have HC := Lib.hid (t_of HO.out cc (by have := HM.out.2.2.1; omega))
          have HP1 := Lib.hid hvb
          have HP2 := Lib.hid hib
          clear HO HV hpc hB1 hc12 hvb hib hbq
          go_wp2_with fail
          refine HC.out.mono ?_
          clear HC
          rintro e w3 ⟨A3, n3, c3, rfl, G⟩
          have HC := Lib.hid (t_power G ((L ++ Lt).length + 0) (by rw [get_r]; rfl) hTop.out.1 m (by have := HM.out.1; omega) hTop.out.2.1)
          clear G
          go_wp2_with fail
          refine HC.out.mono ?_
          clear HC
          rintro e w4 ⟨AT, nT, cT, rfl, G⟩
          rw [haq] at G hTop HMk
          clear haq
          have H := G.boxed (.slice AT nT cT) 24
          have hia : (L ++ Lt ++ [(⟨A3, n3, c3, nats (Na.dig cc)⟩ : Ob)] ++ [(⟨AT, nT, cT, nats (Na.dig aq)⟩ : Ob)])[(L ++ Lt ++ [(⟨A3, n3, c3, nats (Na.dig cc)⟩ : Ob)]).length + 0]? = some ⟨AT, nT, cT, nats (Na.dig aq)⟩ := by rw [get_r]; rfl
          have hib : (L ++ Lt ++ [(⟨A3, n3, c3, nats (Na.dig cc)⟩ : Ob)] ++ [(⟨AT, nT, cT, nats (Na.dig aq)⟩ : Ob)])[ib]? = some ⟨AB, nB, cB, nats (Na.dig bq)⟩ := by rw [List.append_assoc (L ++ Lt)]; exact (get_l _ _ (get_lt HP2.out)).trans HP2.out
          obtain ⟨ia, hia2⟩ : ∃ z, (L ++ Lt ++ [(⟨A3, n3, c3, nats (Na.dig cc)⟩ : Ob)]).length + 0 = z := ⟨_, rfl⟩
          rw [hia2] at hia
          clear hia2
          obtain ⟨LB, hLB⟩ : ∃ z, L ++ Lt ++ [(⟨A3, n3, c3, nats (Na.dig cc)⟩ : Ob)] ++ [(⟨AT, nT, cT, nats (Na.dig aq)⟩ : Ob)] = z := ⟨_, rfl⟩
          have hless : ∀ (Lz : List Ob), ∀ o ∈ L ++ Lz, o ∈ LB ++ Lz := by
            intro Lz o ho
            rw [← hLB]
            rcases List.mem_append.1 ho with h | h
            · exact List.mem_append_left _ (by simp [h])
            · exact List.mem_append_right _ h
          rw [hLB] at hia hib H
          have HLs := Lib.hid hless
          have HW := Lib.hid H
          have HI := Lib.hid (And.intro hia hib)
          have HI2 : Hid (aq < Na.top ∧ bq < Na.top ∧ bq ≤ aq) := hTop.out.2
          have hm40 : m ≤ 40 := HM.out.1
          have hm41 : (m : Int) < 41 := by omega
          have hm0 : (0 : Int) ≤ (m : Int) := by omega
          have hm42 : m < 41 := by omega
          clear G H hia hib hLB hless hTop
          go_upto_region 21 with (fail)
          refine reg_inv34 (CsI w0 g M LB (O ++ [Rw.pair rb 26 (.slice none 0 0) (.slice none 0 0), ⟨some ⟨w1.heap.size, 0, none⟩, 41, 41, 71, xn⟩, ⟨some ⟨(w1.heap.size + 1), 0, none⟩, 41, 41, 71, xo⟩]) w1.heap.size w4.heap.size AT nT cT AB nB cB m aq bq) (by kernel_rfl) (by kernel_rfl) ?_ ?_ ?_
          · refine ⟨undef, undef, undef, undef, undef, undef, undef, undef, undef, undef, none, 0, 0, [], [], ?_, ⟨by rw [List.append_nil]; exact HW.out.drew, ?_, ?_, ?_, ?_, ?_, ?_, ?_, ?_, ?_⟩⟩
            · simp only [Act.put, List.setIfInBounds_toArray, List.set_cons_zero, List.set_cons_succ]
            all_goals (intro h; cases h)
          · rintro jj Ld b W hj hf hcl hd ⟨u0, u1, u2, u3, u4, u5, u6, u7, u8, u10, A, n, c, ms, Ls, rfl, hC⟩
            have hj' : jj < 11 := hj
            have hcase : jj = 0 ∨ jj = 1 ∨ jj = 2 ∨ jj = 3 ∨ jj = 4 ∨ jj = 5 ∨ jj = 6 ∨ jj = 7 ∨ jj = 8 ∨ jj = 9 ∨ jj = 10 := by omega
            have q0 := hC.ow.cell (M.length + 0) (by rw [get_r]; rfl)
            have q1 := cell_row hC.ow (i := O.length + 1) (by rw [get_r]; rfl) HP1.out (by omega)
            clear hj hj'
            simp only [Act.put, List.setIfInBounds_toArray, List.set_cons_zero, List.set_cons_succ]
            rcases hcase with rfl | rfl | rfl | rfl | rfl | rfl | rfl | rfl | rfl | rfl | rfl
            · clear hd hcl
              refine wpOp_step rfl (fun K hK => ?_)
              go_simp
              refine hK _ _ ⟨_, u1, u2, u3, u4, u5, u6, u7, u8, u10, A, n, c, ms, Ls, ?_, ⟨hC.ow, fun _ => rfl, hC.h1, hC.h2, hC.h3, hC.h4, hC.h5, hC.h6, hC.h7, hC.h8⟩⟩
              simp only [Act.put, List.setIfInBounds_toArray, List.set_cons_zero, List.set_cons_succ]
            · clear hd hcl
              refine wpOp_step rfl (fun K hK => ?_)
              go_simp
              refine hK _ _ ⟨u0, _, u2, u3, u4, u5, u6, u7, u8, u10, A, n, c, ms, Ls, ?_, ⟨hC.ow, hC.h0, fun _ => rfl, hC.h2, hC.h3, hC.h4, hC.h5, hC.h6, hC.h7, hC.h8⟩⟩
              simp only [Act.put, List.setIfInBounds_toArray, List.set_cons_zero, List.set_cons_succ]
            · obtain rfl := hC.h1 (hd 1 (by kernel_rfl))
              clear hd hcl
              refine wpOp_step rfl (fun K hK => ?_)
              go_simp
              refine hK _ _ ⟨u0, _, _, u3, u4, u5, u6, u7, u8, u10, A, n, c, ms, Ls, ?_, ⟨hC.ow, hC.h0, hC.h1, fun _ => rfl, hC.h3, hC.h4, hC.h5, hC.h6, hC.h7, hC.h8⟩⟩
              simp only [Act.put, List.setIfInBounds_toArray, List.set_cons_zero, List.set_cons_succ]
            · obtain rfl := hC.h2 (hd 2 (by kernel_rfl))
              clear hd hcl
              refine wpOp_step rfl (fun K hK => ?_)
              go_simp
              refine hK _ _ ⟨u0, u1, _, _, u4, u5, u6, u7, u8, u10, A, n, c, ms, Ls, ?_, ⟨hC.ow, hC.h0, hC.h1, hC.h2, fun _ => rfl, hC.h4, hC.h5, hC.h6, hC.h7, hC.h8⟩⟩
              simp only [Act.put, List.setIfInBounds_toArray, List.set_cons_zero, List.set_cons_succ]
            · obtain rfl := hC.h0 (hd 0 (by kernel_rfl))
              obtain rfl := hC.h3 (hd 3 (by kernel_rfl))
              have f5 : Ld 5 = false := by cases e : Ld 5 with | false => rfl | true => (rw [hcl 5 4 e (by kernel_rfl)] at hf; cases hf)
              have f6 : Ld 6 = false := by cases e : Ld 6 with | false => rfl | true => (rw [hcl 6 5 e (by kernel_rfl)] at f5; cases f5)
              have f9 : Ld 9 = false := by cases e : Ld 9 with | false => rfl | true => (rw [hcl 9 6 e (by kernel_rfl)] at f6; cases f6)
              clear hd hcl
              refine wpOp_step rfl (fun K hK => ?_)
              go_simp
              have hS := nsub_fr hC.ow ia ib ((get_l _ _ (get_lt HI.out.1)).trans HI.out.1) ((get_l _ _ (get_lt HI.out.2)).trans HI.out.2) HI2.out.1 HI2.out.2.1
              rw [if_neg (Nat.not_lt.2 HI2.out.2.2), if_neg (Nat.not_lt.2 HI2.out.2.2)] at hS
              refine hS.mono ?_
              rintro e W' ⟨D, i, j, rfl, ho⟩
              refine hK _ _ ⟨_, u1, u2, _, _, u5, u6, u7, u8, u10, _, _, _, ms, _, ?_, hC.called f5 f6 f9 ho⟩
              simp only [Act.put, List.setIfInBounds_toArray, List.set_cons_zero, List.set_cons_succ]
            · obtain ⟨rfl, -⟩ := hC.h4 (hd 4 (by kernel_rfl))
              clear hd hcl
              refine wpOp_step rfl (fun K hK => ?_)
              go_simp
              refine hK _ _ ⟨u0, u1, u2, u3, _, _, u6, u7, u8, u10, A, n, c, ms, Ls, ?_, ⟨hC.ow, hC.h0, hC.h1, hC.h2, hC.h3, hC.h4, fun _ => rfl, hC.h6, hC.h7, hC.h8⟩⟩
              simp only [Act.put, List.setIfInBounds_toArray, List.set_cons_zero, List.set_cons_succ]
            · obtain rfl := hC.h5 (hd 5 (by kernel_rfl))
              clear hd hcl
              refine wpOp_step rfl (fun K hK => ?_)
              go_simp
              refine hK _ _ ⟨u0, u1, u2, u3, u4, _, _, u7, u8, u10, A, n, c, ms, Ls, ?_, ⟨hC.ow, hC.h0, hC.h1, hC.h2, hC.h3, hC.h4, hC.h5, fun _ => rfl, hC.h7, hC.h8⟩⟩
              simp only [Act.put, List.setIfInBounds_toArray, List.set_cons_zero, List.set_cons_succ]
            · obtain rfl := hC.h5 (hd 5 (by kernel_rfl))
              clear hd hcl
              refine wpOp_step rfl (fun K hK => ?_)
              go_simp
              refine hK _ _ ⟨u0, u1, u2, u3, u4, _, u6, _, u8, u10, A, n, c, ms, Ls, ?_, ⟨hC.ow, hC.h0, hC.h1, hC.h2, hC.h3, hC.h4, hC.h5, hC.h6, fun _ => rfl, hC.h8⟩⟩
              simp only [Act.put, List.setIfInBounds_toArray, List.set_cons_zero, List.set_cons_succ]
            · have f9 : Ld 9 = false := by cases e : Ld 9 with | false => rfl | true => (rw [hcl 9 8 e (by kernel_rfl)] at hf; cases hf)
              clear hd hcl
              refine wpOp_step rfl (fun K hK => ?_)
              go_simp
              refine hK _ _ ⟨u0, u1, u2, u3, u4, u5, u6, u7, _, u10, A, n, c, _, Ls, ?_, hC.alloced f9⟩
              simp only [Act.put, List.setIfInBounds_toArray, List.set_cons_zero, List.set_cons_succ]
            · obtain ⟨b2, v, ms1, rfl, rfl, z1, z2, hC1⟩ := hC.stored (hd 8 (by kernel_rfl)) (hd 6 (by kernel_rfl))
              clear hd hcl
              refine wpOp_step rfl (fun K hK => ?_)
              go_simp
              refine hK _ _ ⟨u0, u1, u2, u3, u4, u5, _, u7, _, u10, A, n, c, ms1, Ls, ?_, hC1⟩
              simp only [Act.put, List.setIfInBounds_toArray, List.set_cons_zero, List.set_cons_succ]
            · obtain rfl := hC.h7 (hd 7 (by kernel_rfl))
              clear hd hcl
              refine wpOp_step rfl (fun K hK => ?_)
              go_simp
              refine hK _ _ ⟨u0, u1, u2, u3, u4, u5, u6, _, u8, .int .i64 0, A, n, c, ms, Ls, ?_, ⟨hC.ow, hC.h0, hC.h1, hC.h2, hC.h3, hC.h4, hC.h5, hC.h6, hC.h7, hC.h8⟩⟩
              simp only [Act.put, List.setIfInBounds_toArray, List.set_cons_zero, List.set_cons_succ]
          · rintro Ld b W hL ⟨u0, u1, u2, u3, u4, u5, u6, u7, u8, u10, A, n, c, ms, Ls, rfl, hC⟩
            obtain ⟨t8, b2, v8, rfl, r1, r2⟩ := hC.h8 (hL 8 (by show 8 < 11; decide))
            obtain rfl := r2 (hL 9 (by show 9 < 11; decide))
            obtain ⟨-, t4, r4⟩ := hC.h4 (hL 4 (by show 4 < 11; decide))
            have y0 := hC.ow.cell (M.length + 0) (by rw [get_r]; rfl)
            have y1 := hC.ow.cell (M.length + (t8 + 1)) (by rw [get_r]; exact r1)
            have HC := Lib.hid (qmake_fr hC.ow (LB.length + t4) ia ((get_r _ _ _).trans r4) ((get_l _ _ (get_lt HI.out.1)).trans HI.out.1) HT.out (Nat.lt_of_le_of_lt (Nat.sub_le _ _) HI2.out.1) HI2.out.1 HMk.out)
            clear hC r1 r4 hL HW
            go_wp2_with fail
            refine HC.out.mono ?_
            clear HC
            rintro e w9 ⟨C1, k1, e1, C2, k2, e2, rfl, G⟩
            clear y0 y1
            have z0 := G.p0 (O.length + 0) (by rw [get_r]; rfl)
            have z1 := G.p1 (O.length + 0) (by rw [get_r]; rfl)
            have f0 := G.pf (O.length + 0) (by rw [get_r]; rfl) 0
            have f1 := G.pf (O.length + 0) (by rw [get_r]; rfl) 1
            have Z3 := G.set0 (O.length + 0) (by rw [get_r]; rfl) (.slice C1 k1 e1)
            rw [set_r] at Z3
            simp only [List.set_cons_zero] at Z3
            have Z4 := Z3.set1 (O.length + 0) (by rw [get_r]; rfl) (.slice C2 k2 e2)
            rw [set_r] at Z4
            simp only [List.set_cons_zero] at Z4
            have r0 := Z4.p0 (O.length + 0) (by rw [get_r]; rfl)
            have r1 := Z4.p1 (O.length + 0) (by rw [get_r]; rfl)
            have HF := Lib.hid (Z4.fewM.fewO.less (L' := L ++ [⟨C1, k1, e1, nats (Na.dig t.1)⟩] ++ [⟨C2, k2, e2, nats (Na.dig t.2.1)⟩]) (fun o ho => by
              rw [List.append_assoc] at ho
              have h := HLs.out _ o ho
              simp only [List.mem_append] at h ⊢
              rcases h with h | h | h
              · exact .inl (.inl (.inl h))
              · exact .inl (.inr h)
              · exact .inr h))
            clear G Z3 Z4
            go_wp2_with fail
            refine bodyPost_ret (v := .tuple #[.agg #[.slice C1 k1 e1, .slice C2 k2 e2], .int .i64 t.2.2]) (by simp [results, Tryd.results11, go_sem, r0, r1]) rfl ?_
            exact ⟨C1, k1, e1, C2, k2, e2, rfl, HF.out⟩
        · have hd3 : decide ((0 : Int) < (r : Int)) = true := decide_eq_true (by omega)
          have hd4 : decide (0 < r) = true := decide_eq_true h0
          have HB : Hid (p ≤ 4096 ∧ s ≤ 4096) := by
            have h1 := HV.out.2.1
            have h2 := HM.out.2.2.1
            have h3 : s * 1 ≤ s * r := Nat.mul_le_mul_left s h0
            exact ⟨by omega, by omega⟩
          rcases Nat.mod_two_eq_zero_or_one r with hm2 | hm2
          · have q1 : ((r : Int).tmod 2 == 1) = false := by rw [beq_eq_false_iff_ne, Int.tmod_eq_emod_of_nonneg (by omega)]; omega
            have q2 : ((r : Int) % 2 == 1) = false := by rw [beq_eq_false_iff_ne]; omega
            have HWn : Hid (Ways (L ++ Lt) xn m (pwc (oneC i) p) ∧ xn.toArray.all (·.oneCell') = true) := ⟨HV.out.2.2.1, HV.out.2.2.2.2.2.1⟩
            have HWo : Hid (Ways (L ++ Lt) xo m (pwc (oneC i) s) ∧ xo.toArray.all (·.oneCell') = true) := ⟨HV.out.2.2.2.1, HV.out.2.2.2.2.2.2⟩
            have HTs := Lib.hid HV.out.2.2.2.2.1
            obtain ⟨hn1, hn2⟩ := HO.out.rowHeap (O.length + 1) (by rw [get_r]; rfl)
            obtain ⟨ho1, ho2⟩ := HO.out.rowHeap (O.length + 2) (by rw [get_r]; rfl)
            have hin : (Tryd.prog.info? 71).map (·.size) = some xn.toArray.size := by rw [infoWays]; simp [hn2]
            have hio : (Tryd.prog.info? 71).map (·.size) = some xo.toArray.size := by rw [infoWays]; simp [ho2]
            have HC := Lib.hid (t_join HO.out m HM.out.1 xo.toArray xo.toArray A (pwc (oneC i) s) (pwc (oneC i) s) (12 * m) (by have := HM.out.1; omega) HTs.out HWo.out.1 HWo.out.1 (fun z hz => pwc_two (by have := HB.out; omega) hz) (fun z hz => pwc_two (by have := HB.out; omega) hz))
            rw [pwc_add] at HC
            clear HO
            go_wp2_with (refine wpList_load_row rfl 71 (.tmp 10) rfl (w1.heap.size + 1) rfl 71 xo.toArray (0, 0) _ ho1 Tryd.underlying71 rfl hio ?_)
            clear hn1 hn2 ho1 ho2 hin hio
            refine HC.out.mono ?_
            clear HC
            rintro e w51 ⟨vc1, Lz1, rfl, G, HWy, HAl⟩
            obtain ⟨y1, rfl⟩ : ∃ y : List Value, vc1 = y.toArray := ⟨vc1.toList, by simp⟩
            dsimp only at HWy
            have hvc : y1.toArray.size = 41 := by have := HWy.1; simpa using this
            obtain ⟨hg1, hg2⟩ := G.rowHeap (O.length + 2) (by rw [get_r]; rfl)
            have hiv : (Tryd.prog.info? 71).map (·.size) = some y1.toArray.size := by rw [infoWays, hvc]
            have hsv : xo.toArray.size = y1.toArray.size := by rw [hvc]; simp [hg2]
            have Z := G.putRow (O.length + 2) (by rw [get_r]; rfl) y1.toArray hvc (by omega)
            rw [set_r, List.set_cons_succ, List.set_cons_succ, List.set_cons_zero, List.append_assoc] at Z
            have hal : y1.toArray.all (·.oneCell') = true := HAl
            rw [List.append_assoc] at HWy
            have HO1 := Lib.hid Z
            have HY1 : Hid (Ways (L ++ (Lt ++ Lz1)) y1 m (pwc (oneC i) (s + s)) ∧ y1.toArray.all (·.oneCell') = true) := ⟨HWy, HAl⟩
            have hcc : cc = p + (s + s) * (r / 2) := by
              have h5 := HV.out.2.1
              have h6 : 2 * (r / 2) = r := by omega
              have h7 : s * r = (s + s) * (r / 2) := by rw [← Nat.two_mul, Nat.mul_comm 2 s, Nat.mul_assoc, h6]
              omega
            have HV9 : Hid (r / 2 ≤ 4096 ∧ cc = p + (s + s) * (r / 2) ∧ Ways (L ++ (Lt ++ Lz1)) xn m (pwc (oneC i) p) ∧ Ways (L ++ (Lt ++ Lz1)) y1 m (pwc (oneC i) (s + s)) ∧ TSets (L ++ (Lt ++ Lz1)) A m ∧ xn.toArray.all (·.oneCell') = true ∧ y1.toArray.all (·.oneCell') = true) := by
              refine ⟨by omega, hcc, ?_, HY1.out.1, ?_, HWn.out.2, HY1.out.2⟩
              · rw [← List.append_assoc]; exact HWn.out.1.more
              · rw [← List.append_assoc]; exact TSets.more HTs.out
            clear HV HWn HWo HTs HY1 hcc G Z HWy HAl
            go_wp2_with (refine wpList_store_row rfl 71 (.tmp 10) (.tmp 74) rfl (w1.heap.size + 1) y1.toArray rfl rfl 71 xo.toArray hg1 hiv hsv hal ?_)
            go_roundw
            case rel => exact ⟨r / 2, p, s + s, xn, y1, _, int_eqv (by omega), HV9, HO1⟩
            case measure => simp [intOf]; omega
          · have q1 : ((r : Int).tmod 2 == 1) = true := by rw [beq_iff_eq, Int.tmod_eq_emod_of_nonneg (by omega)]; omega
            have q2 : ((r : Int) % 2 == 1) = true := by rw [beq_iff_eq]; omega
            have HWn : Hid (Ways (L ++ Lt) xn m (pwc (oneC i) p) ∧ xn.toArray.all (·.oneCell') = true) := ⟨HV.out.2.2.1, HV.out.2.2.2.2.2.1⟩
            have HWo : Hid (Ways (L ++ Lt) xo m (pwc (oneC i) s) ∧ xo.toArray.all (·.oneCell') = true) := ⟨HV.out.2.2.2.1, HV.out.2.2.2.2.2.2⟩
            have HTs := Lib.hid HV.out.2.2.2.2.1
            obtain ⟨hn1, hn2⟩ := HO.out.rowHeap (O.length + 1) (by rw [get_r]; rfl)
            obtain ⟨ho1, ho2⟩ := HO.out.rowHeap (O.length + 2) (by rw [get_r]; rfl)
            have hin : (Tryd.prog.info? 71).map (·.size) = some xn.toArray.size := by rw [infoWays]; simp [hn2]
            have hio : (Tryd.prog.info? 71).map (·.size) = some xo.toArray.size := by rw [infoWays]; simp [ho2]
            have HC := Lib.hid (t_join HO.out m HM.out.1 xn.toArray xo.toArray A (pwc (oneC i) p) (pwc (oneC i) s) (12 * m) (by have := HM.out.1; omega) HTs.out HWn.out.1 HWo.out.1 (fun z hz => pwc_two (by have := HB.out; omega) hz) (fun z hz => pwc_two (by have := HB.out; omega) hz))
            rw [pwc_add] at HC
            clear HO
            go_wp2_with (first | (refine wpList_load_row rfl 71 (.tmp 9) rfl w1.heap.size rfl 71 xn.toArray (0, 0) _ hn1 Tryd.underlying71 rfl hin ?_) | (refine wpList_load_row rfl 71 (.tmp 10) rfl (w1.heap.size + 1) rfl 71 xo.toArray (0, 0) _ ho1 Tryd.underlying71 rfl hio ?_))
            clear hn1 hn2 ho1 ho2 hin hio
            refine HC.out.mono ?_
            clear HC
            rintro e w51 ⟨vc1, Lz1, rfl, G, HWy, HAl⟩
            obtain ⟨y1, rfl⟩ : ∃ y : List Value, vc1 = y.toArray := ⟨vc1.toList, by simp⟩
            dsimp only at HWy
            have hvc : y1.toArray.size = 41 := by have := HWy.1; simpa using this
            obtain ⟨hg1, hg2⟩ := G.rowHeap (O.length + 1) (by rw [get_r]; rfl)
            have hiv : (Tryd.prog.info? 71).map (·.size) = some y1.toArray.size := by rw [infoWays, hvc]
            have hsv : xn.toArray.size = y1.toArray.size := by rw [hvc]; simp [hg2]
            have Z := G.putRow (O.length + 1) (by rw [get_r]; rfl) y1.toArray hvc (by omega)
            rw [set_r, List.set_cons_succ, List.set_cons_zero, List.append_assoc] at Z
            have hal : y1.toArray.all (·.oneCell') = true := HAl
            rw [List.append_assoc] at HWy
            have HO1 := Lib.hid Z
            have HY1 : Hid (Ways (L ++ (Lt ++ Lz1)) y1 m (pwc (oneC i) (p + s)) ∧ y1.toArray.all (·.oneCell') = true) := ⟨HWy, HAl⟩
            have HWo2 : Hid (Ways (L ++ (Lt ++ Lz1)) xo m (pwc (oneC i) s) ∧ xo.toArray.all (·.oneCell') = true) := ⟨by rw [← List.append_assoc]; exact HWo.out.1.more, HWo.out.2⟩
            have HTs2 : Hid (TSets (L ++ (Lt ++ Lz1)) A m) := by rw [← List.append_assoc]; exact TSets.more HTs.out
            clear HWn HWo HTs G Z HWy HAl
            obtain ⟨hn1, hn2⟩ := HO1.out.rowHeap (O.length + 1) (by rw [get_r]; rfl)
            obtain ⟨ho1, ho2⟩ := HO1.out.rowHeap (O.length + 2) (by rw [get_r]; rfl)
            have hin : (Tryd.prog.info? 71).map (·.size) = some y1.toArray.size := by rw [infoWays]; simp [hn2]
            have hio : (Tryd.prog.info? 71).map (·.size) = some xo.toArray.size := by rw [infoWays]; simp [ho2]
            have HC := Lib.hid (t_join HO1.out m HM.out.1 xo.toArray xo.toArray A (pwc (oneC i) s) (pwc (oneC i) s) (12 * m) (by have := HM.out.1; omega) HTs2.out HWo2.out.1 HWo2.out.1 (fun z hz => pwc_two (by have := HB.out; omega) hz) (fun z hz => pwc_two (by have := HB.out; omega) hz))
            rw [pwc_add] at HC
            clear HO1
            go_wp2_with (first | (refine wpList_store_row rfl 71 (.tmp 9) (.tmp 69) rfl w1.heap.size y1.toArray rfl rfl 71 xn.toArray hg1 hiv hsv hal ?_) | (refine wpList_load_row rfl 71 (.tmp 10) rfl (w1.heap.size + 1) rfl 71 xo.toArray (0, 0) _ ho1 Tryd.underlying71 rfl hio ?_))
            clear hn1 hn2 ho1 ho2 hin hio
            refine HC.out.mono ?_
            clear HC
            rintro e w52 ⟨vc2, Lz2, rfl, G, HWy, HAl⟩
            obtain ⟨y2, rfl⟩ : ∃ y : List Value, vc2 = y.toArray := ⟨vc2.toList, by simp⟩
            dsimp only at HWy
            have hvc : y2.toArray.size = 41 := by have := HWy.1; simpa using this
            obtain ⟨hg1, hg2⟩ := G.rowHeap (O.length + 2) (by rw [get_r]; rfl)
            have hiv : (Tryd.prog.info? 71).map (·.size) = some y2.toArray.size := by rw [infoWays, hvc]
            have hsv : xo.toArray.size = y2.toArray.size := by rw [hvc]; simp [hg2]
            have Z := G.putRow (O.length + 2) (by rw [get_r]; rfl) y2.toArray hvc (by omega)
            rw [set_r, List.set_cons_succ, List.set_cons_succ, List.set_cons_zero, List.append_assoc] at Z
            have hal : y2.toArray.all (·.oneCell') = true := HAl
            rw [List.append_assoc] at HWy
            have HO2 := Lib.hid Z
            have HY2 : Hid (Ways (L ++ ((Lt ++ Lz1) ++ Lz2)) y2 m (pwc (oneC i) (s + s)) ∧ y2.toArray.all (·.oneCell') = true) := ⟨HWy, HAl⟩
            have hcc : cc = p + s + (s + s) * (r / 2) := by
              have h5 := HV.out.2.1
              have h6 : 2 * (r / 2) + 1 = r := by omega
              have h7 : s * r = (s + s) * (r / 2) + s := by rw [← Nat.two_mul, Nat.mul_comm 2 s, Nat.mul_assoc, ← Nat.mul_succ, Nat.succ_eq_add_one, h6]
              omega
            have HV9 : Hid (r / 2 ≤ 4096 ∧ cc = p + s + (s + s) * (r / 2) ∧ Ways (L ++ (Lt ++ Lz1 ++ Lz2)) y1 m (pwc (oneC i) (p + s)) ∧ Ways (L ++ (Lt ++ Lz1 ++ Lz2)) y2 m (pwc (oneC i) (s + s)) ∧ TSets (L ++ (Lt ++ Lz1 ++ Lz2)) A m ∧ y1.toArray.all (·.oneCell') = true ∧ y2.toArray.all (·.oneCell') = true) := by
              refine ⟨by omega, hcc, ?_, HY2.out.1, ?_, HY1.out.2, HY2.out.2⟩
              · rw [← List.append_assoc]; exact HY1.out.1.more
              · rw [← List.append_assoc]; exact TSets.more HTs2.out
            clear HV HWo2 HTs2 HY1 HY2 hcc G Z HWy HAl
            go_wp2_with (refine wpList_store_row rfl 71 (.tmp 10) (.tmp 74) rfl (w1.heap.size + 1) y2.toArray rfl rfl 71 xo.toArray hg1 hiv hsv hal ?_)
            go_roundw
            case rel => exact ⟨r / 2, p + s, s + s, y1, y2, _, int_eqv (by omega), HV9, HO2⟩
            case measure => simp [intOf]; omega
    · have hd : decide ((i : Int) < (kk : Int)) = true := decide_eq_true (by omega)
      have hd2 : decide (i < kk) = true := decide_eq_true hlt
      have hk40 : kk ≤ 40 := by have := HM.out; omega
      have HC := Lib.hid (t_of1 HO.out)
      clear HO
      have hi41 : (i : Int) < 41 := by omega
      have hi0 : (0 : Int) ≤ (i : Int) := by omega
      have hi42 : i < 41 := by omega
      go_wp2_with fail
      refine HC.out.mono ?_
      rintro e w3 ⟨B2, m2, d2, rfl, G⟩
      have c1 := cell_row G (i := O.length + 2) (by rw [get_r]; rfl) (HV.out.1.2.2 i (Nat.le_refl _) (by omega)) (by omega)
      have f1 := (G.own (O.length + 2) _ (by rw [get_r]; rfl)).frozenAt i
      have Z := G.put (O.length + 2) (by rw [get_r]; rfl) i (.slice B2 m2 d2)
      rw [set_r, List.set_cons_succ, List.set_cons_succ, List.set_cons_zero, List.append_assoc] at Z
      have HZ := Lib.hid Z
      have HV2 : Hid (Ones (L ++ (Lt ++ [(⟨B2, m2, d2, nats (Na.dig 1)⟩ : Ob)])) (xs.set i (.slice B2 m2 d2)) (i + 1) ∧ Ones (L ++ (Lt ++ [(⟨B2, m2, d2, nats (Na.dig 1)⟩ : Ob)])) (lr.set 0 (.slice B1 m1 d1)) 1 ∧ TSets (L ++ (Lt ++ [(⟨B2, m2, d2, nats (Na.dig 1)⟩ : Ob)])) A m ∧ NumIn (L ++ (Lt ++ [(⟨B2, m2, d2, nats (Na.dig 1)⟩ : Ob)])) (.slice none 0 0) 0) := by
        rw [← List.append_assoc]
        exact ⟨Ones.set HV.out.1.more (by omega) ⟨B2, m2, d2, (L ++ Lt).length + 0, rfl, by rw [get_r]; rfl⟩, HV.out.2.1.more, TSets.more HV.out.2.2.1, HV.out.2.2.2.more⟩
      clear G Z HC HV
      go_wp2_with fail
      go_roundw
      case rel => exact ⟨i + 1, _, _, hlt, int_eqv (by omega), HV2, HZ⟩
      case measure => simp [intOf]; omega
end
end Go.Proofs.YtjhaogbopmhkoaaDoor

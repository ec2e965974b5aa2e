/- Tx Tn Tp TailsHyperW TailsCellsW LawSl TailTab -/
import Derived.Test.YtjhaogbopmhkoaaDoorY01
import Derived.Test.YtjhaogbopmhkoaaDoorY13
import Derived.Test.YtjhaogbopmhkoaaDoorY18
import Derived.Test.YtjhaogbopmhkoaaDoorY20
import Derived.Test.YtjhaogbopmhkoaaDoorY23
import Derived.Test.YtjhaogbopmhkoaaDoorY25
import Derived.WalkKit
import Derived.ProofKit
import Derived.OpenShut
import Derived.Below
import Derived.Carry
import Derived.Test.YtjhaogbopmhkoaaDoorRows
import Derived.LaidMore
import Derived.Lay
import Derived.SevenTiedAt
import Derived.Stop.Joined
import Derived.Lib.SmallJoins
namespace Go.Proofs.YtjhaogbopmhkoaaDoor
open Go.RowKit Go.Sort
set_option linter.unusedVariables false
set_option maxRecDepth 100000
theorem cs_cells {w0 w : World} {g : Option Nat} {M : List (Nat × Value)} {L : List Ob} {O : List Rw} {tb m n c t : Nat} {v u : Value} {ad : Addr} {zs : List Value} {l : List (Nat × Value)} (h : Ow w0 w g (M ++ (tb, v) :: l) L O) (hd : L[t]? = some ⟨some ad, n, c, zs⟩) (hz : zs[m]? = some u) : w.cell? ⟨tb, 0, none⟩ = some v ∧ w.cell? (ad.add m) = some u :=
  ⟨h.cell (M.length + 0) (by rw [get_r]; rfl), (h.sl hd).2.2.2.c hz⟩
def RCu (w0 : World) (g : Option Nat) (M : List (Nat × Value)) (L : List Ob) (O : List Rw) (m kk : Nat) (v8 v9 v49 : Value) (wr : World) : Prop :=
  ∃ (j : Nat) (A1 : Option Addr) (c1 : Nat) (xs : List Value) (A2 : Option Addr) (c2 : Nat) (ys : List Value) (Ls : List Ob), j ≤ m + 1 ∧ v8 = .slice A1 j c1 ∧ v9 = .slice A2 j c2 ∧ v49 = .int .i64 (j : Int) ∧ Hid (WayTo (L ++ Ls) xs j (oneC kk) ∧ WayTo (L ++ Ls) ys j dlt) ∧ Hid (Ow w0 wr g M (L ++ Ls) (O ++ [⟨A1, j, c1, 24, xs⟩, ⟨A2, j, c2, 24, ys⟩]))
def RCv (w0 : World) (g : Option Nat) (M : List (Nat × Value)) (L : List Ob) (O : List Rw) (m cc kk : Nat) (v9 v14 : Value) (wr : World) : Prop :=
  ∃ (b r : Nat) (z : Int) (D : Option Addr) (c t : Nat) (ys : List Value) (Ls : List Ob), b ≤ 13 ∧ z + 1 = (b : Int) ∧ v9 = .slice D (m + 1) c ∧ v14 = .int .i64 z ∧ Hid (r = cc / 2 ^ b ∧ (L ++ Ls)[t]? = some ⟨D, m + 1, c, ys⟩ ∧ WaysU (L ++ Ls) ys m (pwc (oneC kk) r)) ∧ Hid (Ow w0 wr g M (L ++ Ls) O)
section
variable {w0 w w' : World} {g : Option Nat} {M M2 : List (Nat × Value)} {L : List Ob} {O : List Rw} {A A2 A3 A4 : Option Addr} {b n c m c2 n3 c3 n4 c4 x y : Nat} {p q r s : List Int}
set_option maxHeartbeats 8000000 in
theorem r_cells_range (h : Ow w0 w g M L O) (a b k : Int) (hn : a < 0 ∨ 40 < a ∨ b < 1 ∨ 4096 < b) : Calls Tryd.prog 12 #[.int .i64 a, .int .i64 b, .int .i64 k] w (GotF w0 g M L O (frE 2)) := by
  have H := h.pair (.slice none 0 0) (.slice none 0 0) 26
  clear h
  rcases Int.lt_or_le (a) (0) with h0 | h1
  · have t : decide (a < 0) = true := decide_eq_true (by omega)
    clear hn
    go_enter Tryd.func12, Tryd.ntmps12
    have HF := Lib.hid H.fewO
    clear H
    go_wp2_with fail
    refine bodyPost_ret (v := .tuple #[.agg #[.slice none 0 0, .slice none 0 0], .int .i64 2]) (by simp [results, Tryd.results12, go_sem]) rfl ?_
    exact gotF_nil HF.out 2
  rcases Int.lt_or_le (40) (a) with h0 | h2
  · have t : decide (40 < a) = true := decide_eq_true (by omega)
    have t0 : decide (a < 0) = false := decide_eq_false (by omega)
    clear hn
    go_enter Tryd.func12, Tryd.ntmps12
    have HF := Lib.hid H.fewO
    clear H
    go_wp2_with fail
    refine bodyPost_ret (v := .tuple #[.agg #[.slice none 0 0, .slice none 0 0], .int .i64 2]) (by simp [results, Tryd.results12, go_sem]) rfl ?_
    exact gotF_nil HF.out 2
  rcases Int.lt_or_le (b) (1) with h0 | h3
  · have t : decide (b < 1) = true := decide_eq_true (by omega)
    have t0 : decide (a < 0) = false := decide_eq_false (by omega)
    have t1 : decide (40 < a) = false := decide_eq_false (by omega)
    clear hn
    go_enter Tryd.func12, Tryd.ntmps12
    have HF := Lib.hid H.fewO
    clear H
    go_wp2_with fail
    refine bodyPost_ret (v := .tuple #[.agg #[.slice none 0 0, .slice none 0 0], .int .i64 2]) (by simp [results, Tryd.results12, go_sem]) rfl ?_
    exact gotF_nil HF.out 2
  have t : decide (4096 < b) = true := decide_eq_true (by omega)
  have t0 : decide (a < 0) = false := decide_eq_false (by omega)
  have t1 : decide (40 < a) = false := decide_eq_false (by omega)
  have t2 : decide (b < 1) = false := decide_eq_false (by omega)
  clear hn
  go_enter Tryd.func12, Tryd.ntmps12
  have HF := Lib.hid H.fewO
  clear H
  go_wp2_with fail
  refine bodyPost_ret (v := .tuple #[.agg #[.slice none 0 0, .slice none 0 0], .int .i64 2]) (by simp [results, Tryd.results12, go_sem]) rfl ?_
  exact gotF_nil HF.out 2
set_option maxHeartbeats 8000000 in
theorem r_cells_all (h : Ow w0 w g M L O) (a b k : Int) (ha : 0 ≤ a ∧ a ≤ 40) (hb : 1 ≤ b ∧ b ≤ 4096) (hk : k ≤ 0) : Calls Tryd.prog 12 #[.int .i64 a, .int .i64 b, .int .i64 k] w (GotF w0 g M L O (1, 1, 0)) := by
  have H := h.pair (.slice none 0 0) (.slice none 0 0) 26
  have t0 : decide (a < 0) = false := decide_eq_false (by omega)
  have t1 : decide (40 < a) = false := decide_eq_false (by omega)
  have t2 : decide (b < 1) = false := decide_eq_false (by omega)
  have t3 : decide (4096 < b) = false := decide_eq_false (by omega)
  have t4 : decide (k ≤ 0) = true := decide_eq_true (by omega)
  have HC := Lib.hid (qrof_ow H 1 1 (by omega) (by omega))
  rw [ofF_all] at HC
  clear h H ha hb hk
  go_enter Tryd.func12, Tryd.ntmps12
  go_wp2_with fail
  refine HC.out.mono ?_
  rintro e w9 ⟨C1, k1, e1, C2, k2, e2, rfl, G⟩
  clear HC
  have z0 := G.p0 (O.length + 0) (by rw [get_r]; rfl)
  have z1 := G.p1 (O.length + 0) (by rw [get_r]; rfl)
  have f0 := G.pf (O.length + 0) (by rw [get_r]; rfl) 0
  have f1 := G.pf (O.length + 0) (by rw [get_r]; rfl) 1
  have Z3 := G.set0 (O.length + 0) (by rw [get_r]; rfl) (.slice C1 k1 e1)
  rw [set_r] at Z3
  simp only [List.set_cons_zero] at Z3
  have Z4 := Z3.set1 (O.length + 0) (by rw [get_r]; rfl) (.slice C2 k2 e2)
  rw [set_r] at Z4
  simp only [List.set_cons_zero] at Z4
  have r0 := Z4.p0 (O.length + 0) (by rw [get_r]; rfl)
  have r1 := Z4.p1 (O.length + 0) (by rw [get_r]; rfl)
  have HF := Lib.hid Z4.fewO
  clear G Z3 Z4
  go_wp2_with fail
  refine bodyPost_ret (v := .tuple #[.agg #[.slice C1 k1 e1, .slice C2 k2 e2], .int .i64 0]) (by simp [results, Tryd.results12, go_sem, r0, r1]) rfl ?_
  exact ⟨C1, k1, e1, C2, k2, e2, rfl, HF.out⟩
set_option maxHeartbeats 8000000 in
theorem r_cells_none (h : Ow w0 w g M L O) (a b k : Int) (ha : 0 ≤ a ∧ a ≤ 40) (hb : 1 ≤ b ∧ b ≤ 4096) (hk : 0 < k ∧ a < k) : Calls Tryd.prog 12 #[.int .i64 a, .int .i64 b, .int .i64 k] w (GotF w0 g M L O (0, 1, 0)) := by
  have H := h.pair (.slice none 0 0) (.slice none 0 0) 26
  have t0 : decide (a < 0) = false := decide_eq_false (by omega)
  have t1 : decide (40 < a) = false := decide_eq_false (by omega)
  have t2 : decide (b < 1) = false := decide_eq_false (by omega)
  have t3 : decide (4096 < b) = false := decide_eq_false (by omega)
  have t4 : decide (k ≤ 0) = false := decide_eq_false (by omega)
  have t5 : decide (a < k) = true := decide_eq_true (by omega)
  have HC := Lib.hid (qrof_ow H 0 1 (by omega) (by omega))
  rw [ofF_none] at HC
  clear h H ha hb hk
  go_enter Tryd.func12, Tryd.ntmps12
  go_wp2_with fail
  refine HC.out.mono ?_
  rintro e w9 ⟨C1, k1, e1, C2, k2, e2, rfl, G⟩
  clear HC
  have z0 := G.p0 (O.length + 0) (by rw [get_r]; rfl)
  have z1 := G.p1 (O.length + 0) (by rw [get_r]; rfl)
  have f0 := G.pf (O.length + 0) (by rw [get_r]; rfl) 0
  have f1 := G.pf (O.length + 0) (by rw [get_r]; rfl) 1
  have Z3 := G.set0 (O.length + 0) (by rw [get_r]; rfl) (.slice C1 k1 e1)
  rw [set_r] at Z3
  simp only [List.set_cons_zero] at Z3
  have Z4 := Z3.set1 (O.length + 0) (by rw [get_r]; rfl) (.slice C2 k2 e2)
  rw [set_r] at Z4
  simp only [List.set_cons_zero] at Z4
  have r0 := Z4.p0 (O.length + 0) (by rw [get_r]; rfl)
  have r1 := Z4.p1 (O.length + 0) (by rw [get_r]; rfl)
  have HF := Lib.hid Z4.fewO
  clear G Z3 Z4
  go_wp2_with fail
  refine bodyPost_ret (v := .tuple #[.agg #[.slice C1 k1 e1, .slice C2 k2 e2], .int .i64 0]) (by simp [results, Tryd.results12, go_sem, r0, r1]) rfl ?_
  exact ⟨C1, k1, e1, C2, k2, e2, rfl, HF.out⟩
set_option maxHeartbeats 16000000 in
theorem r_cells_sum (h : Ow w0 w g M L O) (m cc kk : Nat) (hm : m ≤ 40) (hc : 1 ≤ cc ∧ cc ≤ 4096) (hk : 1 ≤ kk ∧ kk ≤ m) : Calls Tryd.prog 12 #[.int .i64 (m : Int), .int .i64 (cc : Int), .int .i64 (kk : Int)] w (GotF w0 g M L O (frM (cc ^ m - pwc (oneC kk) cc m) (cc ^ m))) := by
  have H0 := ((h.pair (.slice none 0 0) (.slice none 0 0) 26).nil 24).nil 24
  rw [List.append_assoc, List.append_assoc, List.cons_append, List.nil_append, List.cons_append, List.nil_append] at H0
  have t0 : decide ((m : Int) < 0) = false := decide_eq_false (by omega)
  have t1 : decide (40 < (m : Int)) = false := decide_eq_false (by omega)
  have t1b : decide (40 < m) = false := decide_eq_false (by omega)
  have t2 : decide ((cc : Int) < 1) = false := decide_eq_false (by omega)
  have t3 : decide (4096 < (cc : Int)) = false := decide_eq_false (by omega)
  have t3b : decide (4096 < cc) = false := decide_eq_false (by omega)
  have t4 : decide ((kk : Int) ≤ 0) = false := decide_eq_false (by omega)
  have t4b : decide (kk = 0) = false := decide_eq_false (by omega)
  have t5 : decide ((m : Int) < (kk : Int)) = false := decide_eq_false (by omega)
  have t5b : decide (m < kk) = false := decide_eq_false (by omega)
  have hw1 : IntKind.i64.wrap ((m : Int) + 1) = (m : Int) + 1 := IntWalk.i64_in _ (by omega)
  obtain ⟨t, hmk⟩ : ∃ t, frM (cc ^ m - pwc (oneC kk) cc m) (cc ^ m) = t := ⟨_, rfl⟩
  rw [hmk]
  have HMk := Lib.hid hmk
  clear hmk
  have HO := Lib.hid H0
  obtain ⟨rb, hrb⟩ : ∃ r, w.heap.size = r := ⟨_, rfl⟩
  rw [hrb] at HO
  have HRB := Lib.hid hrb
  have HB := Lib.hid (And.intro hm (And.intro hc hk))
  clear h H0 hrb
  go_enter Tryd.func12, Tryd.ntmps12
  go_wp2_with fail
  rw [HRB.out]
  go_loopw [8, 9, 49] (fun v8 v9 v49 wr => RCu w0 g M L (O ++ [Rw.pair rb 26 (.slice none 0 0) (.slice none 0 0)]) m kk v8 v9 v49 wr) (fun _ _ v49 _ => m + 2 - (intOf v49).toNat)
  case atStart => exact ⟨0, none, 0, [], none, 0, [], [], by omega, rfl, rfl, rfl, ⟨fun z hz => absurd hz (by omega), fun z hz => absurd hz (by omega)⟩, by rw [List.append_nil, List.append_assoc]; exact HO.out⟩
  case round =>
    clear HO
    obtain ⟨j, A1, c1, xs, A2, c2, ys, Ls, hj, rfl, rfl, rfl, HV, HO0⟩ := hrel
    have HO : Hid (Ow w0 wr g M (L ++ Ls) (O ++ [Rw.pair rb 26 (.slice none 0 0) (.slice none 0 0), ⟨A1, j, c1, 24, xs⟩, ⟨A2, j, c2, 24, ys⟩])) := by
      have := HO0.out
      rw [List.append_assoc] at this
      exact this
    clear HO0
    have HL9 : Hid (xs.length = j ∧ ys.length = j) := ⟨own_len (HO.out.row (O.length + 1) (by rw [get_r]; rfl)), own_len (HO.out.row (O.length + 2) (by rw [get_r]; rfl))⟩
    rcases Nat.eq_or_lt_of_le hj with he | hlt
    · subst he
      have hd : decide (((m + 1 : Nat) : Int) < (m : Int) + 1) = false := decide_eq_false (by omega)
      have hd2 : decide (m + 1 < m + 1) = false := decide_eq_false (by omega)
      have hk1 := HO.out.keep (O.length + 1) (by rw [get_r]; rfl) (by omega)
      rw [set_r, List.set_cons_succ, List.set_cons_zero] at hk1
      have hk2 := hk1.keep (O.length + 2) (by rw [get_r]; rfl) (by omega)
      rw [set_r, List.set_cons_succ, List.set_cons_succ, List.set_cons_zero] at hk2
      have hk3 := hk2.few (O.length + 1)
      rw [List.take_append, List.take_of_length_le (by omega), Nat.add_sub_cancel_left, List.take_succ_cons, List.take_zero] at hk3
      have HC := Lib.hid (r_pascal hk3 m hm)
      have HX1 : Hid ((L ++ Ls ++ [(⟨A1, m + 1, c1, xs⟩ : Ob)] ++ [(⟨A2, m + 1, c2, ys⟩ : Ob)])[(L ++ Ls).length + 0]? = some ⟨A1, m + 1, c1, xs⟩ ∧ (L ++ Ls ++ [(⟨A1, m + 1, c1, xs⟩ : Ob)] ++ [(⟨A2, m + 1, c2, ys⟩ : Ob)])[(L ++ Ls ++ [(⟨A1, m + 1, c1, xs⟩ : Ob)]).length + 0]? = some ⟨A2, m + 1, c2, ys⟩) := ⟨ge_l (by rw [get_r]; rfl), by rw [get_r]; rfl⟩
      have HX2 : Hid (WaysU (L ++ Ls ++ [(⟨A1, m + 1, c1, xs⟩ : Ob)] ++ [(⟨A2, m + 1, c2, ys⟩ : Ob)]) xs m (oneC kk) ∧ WaysU (L ++ Ls ++ [(⟨A1, m + 1, c1, xs⟩ : Ob)] ++ [(⟨A2, m + 1, c2, ys⟩ : Ob)]) ys m dlt) := ⟨fun z hz => by
          obtain ⟨u, a, b⟩ := HV.out.1 z (by omega)
          exact ⟨u, a, b.more.more⟩, fun z hz => by
          obtain ⟨u, a, b⟩ := HV.out.2 z (by omega)
          exact ⟨u, a, b.more.more⟩⟩
      clear hk1 hk2 hk3 HO HV HL9
      obtain ⟨i1, hi1⟩ : ∃ t, (L ++ Ls).length + 0 = t := ⟨_, rfl⟩
      obtain ⟨i2, hi2⟩ : ∃ t, (L ++ Ls ++ [(⟨A1, m + 1, c1, xs⟩ : Ob)]).length + 0 = t := ⟨_, rfl⟩
      rw [hi1, hi2] at HX1
      clear hi1 hi2
      obtain ⟨LB, hLB⟩ : ∃ l, L ++ Ls ++ [(⟨A1, m + 1, c1, xs⟩ : Ob)] ++ [(⟨A2, m + 1, c2, ys⟩ : Ob)] = l := ⟨_, rfl⟩
      have HSub : Hid (∀ o ∈ L, o ∈ LB) := by
        intro o ho
        rw [← hLB]
        exact List.mem_append_left _ (List.mem_append_left _ (List.mem_append_left _ ho))
      rw [hLB] at HC HX1 HX2
      clear hLB
      go_wp2_with fail
      refine HC.out.mono ?_
      clear HC
      rintro e w1 ⟨AS, cS, Lp, rfl, G, HSets⟩
      have HO := Lib.hid G
      have HS := Lib.hid HSets
      clear G HSets
      have HI0 : Hid (0 = cc / 2 ^ 13 ∧ (LB ++ Lp ++ [])[i2]? = some (⟨A2, m + 1, c2, ys⟩ : Ob) ∧ WaysU (LB ++ Lp ++ []) ys m (pwc (oneC kk) 0)) := by
        rw [List.append_nil]
        exact ⟨by have := HB.out.2.1; rw [Nat.div_eq_of_lt]; omega, ge_l HX1.out.2, WaysU.more HX2.out.2⟩
      rw [← List.append_nil (LB ++ Lp)] at HO
      go_wp2_with fail
      go_loopw [9, 14] (fun v9 v14 wr => RCv w0 g M (LB ++ Lp) (O ++ [Rw.pair rb 26 (.slice none 0 0) (.slice none 0 0)]) m cc kk v9 v14 wr) (fun _ v14 _ => (intOf v14 + 1).toNat)
      case atStart =>
        exact ⟨13, 0, 12, A2, c2, i2, ys, [], by omega, by omega, rfl, rfl, HI0, HO⟩
      case round =>
        clear HO
        obtain ⟨b, r, z, D, c, tD, zs, Lt, hb, hz, rfl, rfl, HV, HO⟩ := hrel
        rcases Nat.eq_zero_or_pos b with hb0 | hb0
        · obtain rfl : z = -1 := by omega
          have hr : r = cc := by have := HV.out.1; rw [hb0, Nat.pow_zero, Nat.div_one] at this; exact this
          have hWy := HV.out.2.2 m (Nat.le_refl _)
          obtain ⟨uu, hzs, AB, nB, cB, ib, rfl, hib⟩ := hWy
          rw [hr] at hib
          have hB1 : pwc (oneC kk) cc m ≤ cc ^ m := pwc_le (oneC_le kk) cc m
          have hc12 : cc ≤ 2 ^ 12 := hc.2
          have hTop : Hid (cc < Na.top ∧ cc ^ m < Na.top ∧ pwc (oneC kk) cc m < Na.top ∧ pwc (oneC kk) cc m ≤ cc ^ m) := by
            have h1 : cc ^ m < Na.top := le_top (pow_two hc12 m) (by omega)
            exact ⟨le_top hc12 (by omega), h1, Nat.lt_of_le_of_lt hB1 h1, hB1⟩
          obtain ⟨bq, hbq⟩ : ∃ z, pwc (oneC kk) cc m = z := ⟨_, rfl⟩
          rw [hbq] at hib hTop HMk
          obtain ⟨aq, haq⟩ : ∃ z, cc ^ m = z := ⟨_, rfl⟩
          have HC := Lib.hid (r_of HO.out cc (by omega))
          have HP2 := Lib.hid (And.intro hib (And.intro HV.out.2.1 hzs))
          clear HO HV hB1 hc12 hib hbq hr hb0 hz hzs
          go_wp2_with fail
          refine HC.out.mono ?_
          clear HC
          rintro e w3 ⟨A3, n3, c3, rfl, G⟩
          have HC := Lib.hid (r_power G ((LB ++ Lp ++ Lt).length + 0) (by rw [get_r]; rfl) hTop.out.1 m (by omega) hTop.out.2.1)
          clear G
          go_wp2_with fail
          refine HC.out.mono ?_
          clear HC
          rintro e w4 ⟨AT, nT, cT, rfl, G⟩
          rw [haq] at G hTop HMk
          clear haq
          have H := G.boxed (.slice AT nT cT) 24
          have hia : (LB ++ Lp ++ Lt ++ [(⟨A3, n3, c3, nats (Na.dig cc)⟩ : Ob)] ++ [(⟨AT, nT, cT, nats (Na.dig aq)⟩ : Ob)])[(LB ++ Lp ++ Lt ++ [(⟨A3, n3, c3, nats (Na.dig cc)⟩ : Ob)]).length + 0]? = some ⟨AT, nT, cT, nats (Na.dig aq)⟩ := by rw [get_r]; rfl
          have hib : (LB ++ Lp ++ Lt ++ [(⟨A3, n3, c3, nats (Na.dig cc)⟩ : Ob)] ++ [(⟨AT, nT, cT, nats (Na.dig aq)⟩ : Ob)])[ib]? = some ⟨AB, nB, cB, nats (Na.dig bq)⟩ := ge_l (ge_l HP2.out.1)
          have hid : (LB ++ Lp ++ Lt ++ [(⟨A3, n3, c3, nats (Na.dig cc)⟩ : Ob)] ++ [(⟨AT, nT, cT, nats (Na.dig aq)⟩ : Ob)])[tD]? = some ⟨D, m + 1, c, zs⟩ := ge_l (ge_l HP2.out.2.1)
          obtain ⟨ia, hia2⟩ : ∃ z, (LB ++ Lp ++ Lt ++ [(⟨A3, n3, c3, nats (Na.dig cc)⟩ : Ob)]).length + 0 = z := ⟨_, rfl⟩
          rw [hia2] at hia
          clear hia2
          obtain ⟨LC, hLC⟩ : ∃ z, LB ++ Lp ++ Lt ++ [(⟨A3, n3, c3, nats (Na.dig cc)⟩ : Ob)] ++ [(⟨AT, nT, cT, nats (Na.dig aq)⟩ : Ob)] = z := ⟨_, rfl⟩
          have hless : ∀ o ∈ L, o ∈ LC := by
            intro o ho
            rw [← hLC]
            exact List.mem_append_left _ (List.mem_append_left _ (List.mem_append_left _ (List.mem_append_left _ (HSub.out o ho))))
          rw [hLC] at hia hib hid H
          obtain ⟨adD, rfl, -, -⟩ := (H.sl hid).2.2.2.at_ (k := 0) (by rw [(H.sl hid).1]; omega)
          have HLs := Lib.hid hless
          obtain ⟨W5, hW5⟩ : ∃ W, w4.alloc (.cells #[.slice AT nT cT] 24) = W := ⟨_, rfl⟩
          rw [hW5] at H
          have HW5 := Lib.hid hW5
          clear hW5
          have HW := Lib.hid H.drew
          have HH := Lib.hid H
          have HI := Lib.hid (And.intro hia (And.intro hib (And.intro hid HP2.out.2.2)))
          have HI2 : Hid (aq < Na.top ∧ bq < Na.top ∧ bq ≤ aq) := hTop.out.2
          have hm41 : (m : Int) < (m : Int) + 1 := by omega
          have hm0 : (0 : Int) ≤ (m : Int) := by omega
          have hm42 : m < m + 1 := by omega
          obtain ⟨tb, htb⟩ : ∃ z, w4.heap.size = z := ⟨_, rfl⟩
          rw [htb] at HW HH
          have HTB := Lib.hid htb
          clear G H hia hib hid hLC hless hTop HX1 HX2 HS HSub htb
          go_upto_region 27 with (fail)
          rw [HTB.out, HW5.out]
          have S1 := nrsub_fr HW.out ia ib HI.out.1 HI.out.2.1 HI2.out.1 HI2.out.2.1
          have HWB0 := (HH.out.boxed (.slice none 0 0) 24).drew
          rw [List.append_assoc, List.cons_append, List.nil_append] at HWB0
          have HWB := Lib.hid HWB0
          clear HWB0
          have S2 := nrsub_fr HWB.out ia ib HI.out.1 HI.out.2.1 HI2.out.1 HI2.out.2.1
          rw [if_neg (Nat.not_lt.2 HI2.out.2.2), if_neg (Nat.not_lt.2 HI2.out.2.2)] at S1 S2
          have HS1 := Lib.hid S1
          have HS2 := Lib.hid S2
          clear S1 S2
          have c0 := cs_cells HW.out HI.out.2.2.1 HI.out.2.2.2
          go_region_held3 (fun W => W.cell? ⟨tb, 0, none⟩ = some (.slice AT nT cT) ∧ W.cell? (adD.add m) = some (.slice AB nB cB)) (first | exact c0 | exact cs_cells how2 (ge_l HI.out.2.2.1) HI.out.2.2.2 | exact cs_cells howB (ge_l HI.out.2.2.1) HI.out.2.2.2 | exact cs_cells how (ge_l HI.out.2.2.1) HI.out.2.2.2 | exact cs_cells HWB.out HI.out.2.2.1 HI.out.2.2.2) ((first | (go_at_call 51; (with_reducible refine HS1.out.mono ?_); rintro e v2 ⟨B1, m1, d1, rfl, how⟩; have howB := how.boxed (.slice none 0 0) 24; rw [List.append_assoc, List.cons_append, List.nil_append] at howB; have how2 := how.boxed (.slice B1 m1 d1) 24; rw [List.append_assoc, List.cons_append, List.nil_append] at how2) | (go_at_call 51; (with_reducible refine HS2.out.mono ?_); rintro e v2 ⟨B1, m1, d1, rfl, howB⟩; have z0 := howB.cell (M.length + 1) (by rw [get_r]; rfl); have zf := howB.free (M.length + 1) (by rw [get_r]; rfl); have how2 := howB.setv (M.length + 1) (by rw [get_r]; rfl) (.slice B1 m1 d1); rw [set_r, List.set_cons_succ, List.set_cons_zero] at how2)))
          all_goals (
            have y0 := how2.cell (M.length + 0) (by rw [get_r]; rfl)
            have y1 := how2.cell (M.length + 1) (by rw [get_r]; rfl)
            have HC := Lib.hid (qrmake_fr how2 (LC.length + 0) ia (by rw [get_r]; rfl) (ge_l HI.out.1) (Nat.lt_of_le_of_lt (Nat.sub_le _ _) HI2.out.1) HI2.out.1 HMk.out)
            clear how2 c0
            go_wp2_with fail
            refine HC.out.mono ?_
            clear HC
            rintro e w9 ⟨C1, k1, e1, C2, k2, e2, rfl, G⟩
            clear y0 y1
            have z0 := G.p0 (O.length + 0) (by rw [get_r]; rfl)
            have z1 := G.p1 (O.length + 0) (by rw [get_r]; rfl)
            have f0 := G.pf (O.length + 0) (by rw [get_r]; rfl) 0
            have f1 := G.pf (O.length + 0) (by rw [get_r]; rfl) 1
            have Z3 := G.set0 (O.length + 0) (by rw [get_r]; rfl) (.slice C1 k1 e1)
            rw [set_r] at Z3
            simp only [List.set_cons_zero] at Z3
            have Z4 := Z3.set1 (O.length + 0) (by rw [get_r]; rfl) (.slice C2 k2 e2)
            rw [set_r] at Z4
            simp only [List.set_cons_zero] at Z4
            have r0 := Z4.p0 (O.length + 0) (by rw [get_r]; rfl)
            have r1 := Z4.p1 (O.length + 0) (by rw [get_r]; rfl)
            have HF := Lib.hid (Z4.fewM.fewO.less (L' := L ++ [⟨C1, k1, e1, nats (Na.dig t.1)⟩] ++ [⟨C2, k2, e2, nats (Na.dig t.2.1)⟩]) (fun o ho => by
              simp only [List.mem_append] at ho ⊢
              rcases ho with (h | h) | h
              · exact .inl (.inl (.inl (HLs.out o h)))
              · exact .inl (.inr h)
              · exact .inr h))
            clear G Z3 Z4
            go_wp2_with fail
            refine bodyPost_ret (v := .tuple #[.agg #[.slice C1 k1 e1, .slice C2 k2 e2], .int .i64 t.2.2]) (by simp [results, Tryd.results12, go_sem, r0, r1]) rfl ?_
            exact ⟨C1, k1, e1, C2, k2, e2, rfl, HF.out⟩)
        · obtain ⟨b1, rfl⟩ : ∃ z, b = z + 1 := ⟨b - 1, by omega⟩
          obtain rfl : z = (b1 : Int) := by omega
          have hd5 : decide ((0 : Int) ≤ (b1 : Int)) = true := decide_eq_true (by omega)
          have hb12 : b1 ≤ 12 := by omega
          have hwb : IntKind.i64.wrap ((b1 : Int) - 1) = (b1 : Int) - 1 := IntWalk.i64_in _ (by omega)
          have hr4 : r ≤ 4096 := by have := HV.out.1; have := Nat.div_le_self cc (2 ^ (b1 + 1)); omega
          have HC := Lib.hid (r_join HO.out m hm AS D D cS c c tD tD zs zs (pwc (oneC kk) r) (pwc (oneC kk) r) (12 * m) (by omega) ((HS.out).more) HV.out.2.1 HV.out.2.1 HV.out.2.2 HV.out.2.2 (fun z hz => pwc_two hr4 hz) (fun z hz => pwc_two hr4 hz))
          rw [pwc_add] at HC
          clear HO
          go_wp2_with fail
          refine HC.out.mono ?_
          clear HC
          rintro e w2 ⟨D1, c1, ws, L1, rfl, G, HY⟩
          have HO := Lib.hid G
          have HW := Lib.hid HY
          clear G HY
          obtain ⟨qb, hqb⟩ : ∃ z, cc / 2 ^ b1 = z := ⟨_, rfl⟩
          have hqi : (cc : Int) / 2 ^ b1 = (qb : Int) := by rw [← hqb]; norm_cast
          have hrq : r = qb / 2 := by rw [HV.out.1, ← hqb, Nat.pow_succ, Nat.div_div_eq_div_mul]
          rcases Nat.mod_two_eq_zero_or_one qb with hq | hq
          · have hbt : (bits BinOp.and IntKind.i64 ((cc : Int) / 2 ^ b1) 1 == 1) = false := by rw [hqi, and1, beq_eq_false_iff_ne]; omega
            have HR : Hid (r + r = cc / 2 ^ b1) := by unfold Hid; rw [hqb, hrq]; omega
            clear hqi hrq hq hqb
            go_wp2_with fail
            go_roundw
            case rel => exact ⟨b1, r + r, (b1 : Int) - 1, D1, c1, (LB ++ Lp ++ Lt ++ L1).length + 0, ws, Lt ++ (L1 ++ [(⟨D1, m + 1, c1, ws⟩ : Ob)]), by omega, by omega, rfl, rfl, ⟨HR.out, by rw [← List.append_assoc, ← List.append_assoc, get_r]; rfl, by rw [← List.append_assoc]; exact HW.out⟩, by rw [← List.append_assoc]; exact HO⟩
            case measure => first | (simp [intOf]; done) | (simp [intOf]; omega)
          · have hbt : (bits BinOp.and IntKind.i64 ((cc : Int) / 2 ^ b1) 1 == 1) = true := by rw [hqi, and1, beq_iff_eq]; omega
            have HR : Hid (r + r + 1 = cc / 2 ^ b1) := by unfold Hid; rw [hqb, hrq]; omega
            have hr8 : r + r ≤ 4096 := by have := HR.out; have := Nat.div_le_self cc (2 ^ b1); omega
            have HC := Lib.hid (r_join HO.out m hm AS D1 A1 cS c1 _ ((LB ++ Lp ++ Lt ++ L1).length + 0) i1 ws xs (pwc (oneC kk) (r + r)) (oneC kk) (12 * m) (by omega) (USets.more (USets.more HS.out)) (by rw [← List.append_assoc, get_r]; rfl) (ge_l (ge_l (ge_l HX1.out.1))) HW.out (WaysU.more (WaysU.more (WaysU.more HX2.out.1))) (fun z hz => pwc_two hr8 hz) (fun z hz => Nat.le_trans (oneC_le kk z) (Nat.one_le_two_pow)))
            rw [show conv (pwc (oneC kk) (r + r)) (oneC kk) = pwc (oneC kk) (r + r + 1) from rfl] at HC
            clear hqi hrq hq hqb
            go_wp2_with fail
            refine HC.out.mono ?_
            clear HC
            rintro e w3 ⟨D2, c2x, ws2, L2, rfl, G, HY⟩
            have HO2 := Lib.hid G
            have HW2 := Lib.hid HY
            clear G HY HO HW
            go_wp2_with fail
            have e9 : LB ++ Lp ++ (Lt ++ (L1 ++ [(⟨D1, m + 1, c1, ws⟩ : Ob)]) ++ (L2 ++ [(⟨D2, m + 1, c2x, ws2⟩ : Ob)])) = LB ++ Lp ++ Lt ++ (L1 ++ [(⟨D1, m + 1, c1, ws⟩ : Ob)]) ++ (L2 ++ [(⟨D2, m + 1, c2x, ws2⟩ : Ob)]) := by simp only [List.append_assoc]
            go_roundw
            case rel => exact ⟨b1, r + r + 1, (b1 : Int) - 1, D2, c2x, (LB ++ Lp ++ Lt ++ (L1 ++ [(⟨D1, m + 1, c1, ws⟩ : Ob)]) ++ L2).length + 0, ws2, Lt ++ (L1 ++ [(⟨D1, m + 1, c1, ws⟩ : Ob)]) ++ (L2 ++ [(⟨D2, m + 1, c2x, ws2⟩ : Ob)]), by omega, by omega, rfl, rfl, ⟨HR.out, by rw [e9, ← List.append_assoc, get_r]; rfl, by rw [e9]; exact HW2.out⟩, by rw [e9]; exact HO2⟩
            case measure => first | (simp [intOf]; done) | (simp [intOf]; omega)
    · have hd : decide ((j : Int) < (m : Int) + 1) = true := decide_eq_true (by omega)
      have hd2 : decide (j < m + 1) = true := decide_eq_true hlt
      have hj40 : j ≤ 40 := by omega
      rcases Nat.lt_or_ge j kk with hjk | hjk
      · have g1 : decide ((j : Int) < (kk : Int)) = true := decide_eq_true (by omega)
        have g1b : decide (j < kk) = true := decide_eq_true hjk
        rcases Nat.eq_zero_or_pos j with hj0 | hj0
        · have g2 : (((j : Int)) == 0) = true := by rw [beq_iff_eq]; omega
          have HE : Hid (oneC kk j = 1 ∧ dlt j = 1) := by unfold oneC dlt; rw [if_pos hjk, if_pos hj0]; exact ⟨rfl, rfl⟩
          clear hj0
          have HA1 := Lib.hid (r_of1 HO.out)
          have HOk := HO
          clear HO
          go_wp2_with (first | (go_at_call 47; (with_reducible refine HA1.out.mono ?_); rintro e v2 ⟨B1, m1, d1, rfl, how⟩) | (at_builtin; refine owl_append1 elmN how (O.length + 1) (.tmp 57) (.tmp 60) _ _ (by rw [get_r]; rfl) rfl (by unfold maxLen; omega) (by omega) rfl rfl rfl rfl ?_; intro A' c' w8 how2; rw [set_r, List.set_cons_succ, List.set_cons_zero] at how2; have HA2 := Lib.hid (r_of1 how2)) | (go_at_call 47; (with_reducible refine HA2.out.mono ?_); rintro e v3 ⟨B2, m2, d2, rfl, how3⟩) | (at_builtin; refine owl_append1 elmN how3 (O.length + 2) (.tmp 62) (.tmp 65) _ _ (by rw [get_r]; rfl) rfl (by unfold maxLen; omega) (by omega) rfl rfl rfl rfl ?_; intro A3 c3 w9 how4; rw [set_r, List.set_cons_succ, List.set_cons_succ, List.set_cons_zero, List.append_assoc L, List.append_assoc L] at how4))
          have HZ := Lib.hid how4
          have HW : Hid (WayTo (L ++ (Ls ++ [(⟨B1, m1, d1, nats (Na.dig 1)⟩ : Ob)] ++ [(⟨B2, m2, d2, nats (Na.dig 1)⟩ : Ob)])) (xs ++ [.slice B1 m1 d1]) (j + 1) (oneC kk) ∧ WayTo (L ++ (Ls ++ [(⟨B1, m1, d1, nats (Na.dig 1)⟩ : Ob)] ++ [(⟨B2, m2, d2, nats (Na.dig 1)⟩ : Ob)])) (ys ++ [.slice B2 m2 d2]) (j + 1) dlt) := by
            rw [← List.append_assoc, ← List.append_assoc]
            exact ⟨WayTo.snoc HV.out.1.more.more HL9.out.1 (NumIn.more ⟨B1, m1, d1, (L ++ Ls).length + 0, rfl, by rw [get_r, HE.out.1]; rfl⟩), WayTo.snoc HV.out.2.more.more HL9.out.2 ⟨B2, m2, d2, (L ++ Ls ++ [_]).length + 0, rfl, by rw [get_r, HE.out.2]; rfl⟩⟩
          clear how how2 how3 how4 HA1 HA2 HOk HV
          go_wp2_with fail
          go_roundw
          case rel => exact ⟨j + 1, A', c', _, A3, c3, _, _, by omega, rfl, rfl, int_eqv (by omega), HW, by unfold Hid; rw [List.append_assoc O]; exact HZ.out⟩
          case measure => simp [intOf]; omega
        · have g2 : (((j : Int)) == 0) = false := by rw [beq_eq_false_iff_ne]; omega
          have HE : Hid (oneC kk j = 1 ∧ dlt j = 0) := by unfold oneC dlt; rw [if_pos hjk, if_neg (by omega)]; exact ⟨rfl, rfl⟩
          have HA1 := Lib.hid (r_of1 HO.out)
          have HOk := HO
          clear HO
          go_wp2_with (first | (go_at_call 47; (with_reducible refine HA1.out.mono ?_); rintro e v2 ⟨B1, m1, d1, rfl, how⟩) | (at_builtin; refine owl_append1 elmN how (O.length + 1) (.tmp 57) (.tmp 60) _ _ (by rw [get_r]; rfl) rfl (by unfold maxLen; omega) (by omega) rfl rfl rfl rfl ?_; intro A' c' w8 how2; rw [set_r, List.set_cons_succ, List.set_cons_zero] at how2; have HA2 := Lib.hid (r_of0 how2)) | (go_at_call 47; (with_reducible refine HA2.out.mono ?_); rintro e v3 ⟨B2, m2, d2, rfl, how3⟩) | (at_builtin; refine owl_append1 elmN how3 (O.length + 2) (.tmp 62) (.tmp 65) _ _ (by rw [get_r]; rfl) rfl (by unfold maxLen; omega) (by omega) rfl rfl rfl rfl ?_; intro A3 c3 w9 how4; rw [set_r, List.set_cons_succ, List.set_cons_succ, List.set_cons_zero, List.append_assoc L, List.append_assoc L] at how4))
          have HZ := Lib.hid how4
          have HW : Hid (WayTo (L ++ (Ls ++ [(⟨B1, m1, d1, nats (Na.dig 1)⟩ : Ob)] ++ [(⟨B2, m2, d2, nats (Na.dig 0)⟩ : Ob)])) (xs ++ [.slice B1 m1 d1]) (j + 1) (oneC kk) ∧ WayTo (L ++ (Ls ++ [(⟨B1, m1, d1, nats (Na.dig 1)⟩ : Ob)] ++ [(⟨B2, m2, d2, nats (Na.dig 0)⟩ : Ob)])) (ys ++ [.slice B2 m2 d2]) (j + 1) dlt) := by
            rw [← List.append_assoc, ← List.append_assoc]
            exact ⟨WayTo.snoc HV.out.1.more.more HL9.out.1 (NumIn.more ⟨B1, m1, d1, (L ++ Ls).length + 0, rfl, by rw [get_r, HE.out.1]; rfl⟩), WayTo.snoc HV.out.2.more.more HL9.out.2 ⟨B2, m2, d2, (L ++ Ls ++ [_]).length + 0, rfl, by rw [get_r, HE.out.2]; rfl⟩⟩
          clear how how2 how3 how4 HA1 HA2 HOk HV
          go_wp2_with fail
          go_roundw
          case rel => exact ⟨j + 1, A', c', _, A3, c3, _, _, by omega, rfl, rfl, int_eqv (by omega), HW, by unfold Hid; rw [List.append_assoc O]; exact HZ.out⟩
          case measure => simp [intOf]; omega
      · have g1 : decide ((j : Int) < (kk : Int)) = false := decide_eq_false (by omega)
        have g1b : decide (j < kk) = false := decide_eq_false (by omega)
        have g2 : (((j : Int)) == 0) = false := by rw [beq_eq_false_iff_ne]; have := HB.out.2.2.1; omega
        have HE : Hid (oneC kk j = 0 ∧ dlt j = 0) := by unfold oneC dlt; rw [if_neg (by omega), if_neg (by have := HB.out.2.2.1; omega)]; exact ⟨rfl, rfl⟩
        have HA1 := Lib.hid (r_of0 HO.out)
        have HOk := HO
        clear HO
        go_wp2_with (first | (go_at_call 47; (with_reducible refine HA1.out.mono ?_); rintro e v2 ⟨B1, m1, d1, rfl, how⟩) | (at_builtin; refine owl_append1 elmN how (O.length + 1) (.tmp 57) (.tmp 60) _ _ (by rw [get_r]; rfl) rfl (by unfold maxLen; omega) (by omega) rfl rfl rfl rfl ?_; intro A' c' w8 how2; rw [set_r, List.set_cons_succ, List.set_cons_zero] at how2; have HA2 := Lib.hid (r_of0 how2)) | (go_at_call 47; (with_reducible refine HA2.out.mono ?_); rintro e v3 ⟨B2, m2, d2, rfl, how3⟩) | (at_builtin; refine owl_append1 elmN how3 (O.length + 2) (.tmp 62) (.tmp 65) _ _ (by rw [get_r]; rfl) rfl (by unfold maxLen; omega) (by omega) rfl rfl rfl rfl ?_; intro A3 c3 w9 how4; rw [set_r, List.set_cons_succ, List.set_cons_succ, List.set_cons_zero, List.append_assoc L, List.append_assoc L] at how4))
        have HZ := Lib.hid how4
        have HW : Hid (WayTo (L ++ (Ls ++ [(⟨B1, m1, d1, nats (Na.dig 0)⟩ : Ob)] ++ [(⟨B2, m2, d2, nats (Na.dig 0)⟩ : Ob)])) (xs ++ [.slice B1 m1 d1]) (j + 1) (oneC kk) ∧ WayTo (L ++ (Ls ++ [(⟨B1, m1, d1, nats (Na.dig 0)⟩ : Ob)] ++ [(⟨B2, m2, d2, nats (Na.dig 0)⟩ : Ob)])) (ys ++ [.slice B2 m2 d2]) (j + 1) dlt) := by
          rw [← List.append_assoc, ← List.append_assoc]
          exact ⟨WayTo.snoc HV.out.1.more.more HL9.out.1 (NumIn.more ⟨B1, m1, d1, (L ++ Ls).length + 0, rfl, by rw [get_r, HE.out.1]; rfl⟩), WayTo.snoc HV.out.2.more.more HL9.out.2 ⟨B2, m2, d2, (L ++ Ls ++ [_]).length + 0, rfl, by rw [get_r, HE.out.2]; rfl⟩⟩
        clear how how2 how3 how4 HA1 HA2 HOk HV
        go_wp2_with fail
        go_roundw
        case rel => exact ⟨j + 1, A', c', _, A3, c3, _, _, by omega, rfl, rfl, int_eqv (by omega), HW, by unfold Hid; rw [List.append_assoc O]; exact HZ.out⟩
        case measure => simp [intOf]; omega
end
end Go.Proofs.YtjhaogbopmhkoaaDoor

namespace Go.Proofs.YtjhaogbopmhkoaaDoor
open Go.RowKit Go.Sort
set_option linter.unusedVariables false
set_option maxRecDepth 100000
/-- the chance of so many marked ones, or the error -/
def hypF (a b d e : Int) : Nat × Nat × Int := if a < 0 ∨ 4096 < a ∨ b < 0 ∨ a < b ∨ d < 0 ∨ a < d ∨ 40 < d then frE 2 else frM (sumH a.toNat b.toNat d.toNat e.toNat (d.toNat + 1 - e.toNat)) (Na.bin a.toNat d.toNat)
section
variable {w0 w w' : World} {g : Option Nat} {M M2 : List (Nat × Value)} {L : List Ob} {O : List Rw} {A A2 A3 A4 : Option Addr} {b n c m c2 n3 c3 n4 c4 x y : Nat} {p q r s : List Int}
theorem t_hyper_any (h : Ow w0 w g M L O) (a b d e : Int) (ht : Tab w0) (he : e ≤ 9223372036854775807) : Calls Tryd.prog 24 #[.int .i64 a, .int .i64 b, .int .i64 d, .int .i64 e] w (GotF w0 g M L O (hypF a b d e)) := by
  unfold hypF
  by_cases hn : a < 0 ∨ 4096 < a ∨ b < 0 ∨ a < b ∨ d < 0 ∨ a < d ∨ 40 < d
  · rw [if_pos hn]; exact t_hyper_range h a b d e hn
  · rw [if_neg hn]
    obtain ⟨x, rfl⟩ := Int.eq_ofNat_of_zero_le (a := a) (by omega)
    obtain ⟨y, rfl⟩ := Int.eq_ofNat_of_zero_le (a := b) (by omega)
    obtain ⟨z, rfl⟩ := Int.eq_ofNat_of_zero_le (a := d) (by omega)
    exact t_hyper_sum h x y z e ht (by omega) (by omega) (by omega) (by omega) he
set_option maxHeartbeats 8000000 in
theorem same23 (h : Ow w0 w g M L O) (i j k l : Nat) (hi : L[i]? = some ⟨A, n, c, ints p⟩) (hj : L[j]? = some ⟨A2, m, c2, ints q⟩) (hk : L[k]? = some ⟨A3, n3, c3, ints p⟩) (hl : L[l]? = some ⟨A4, n4, c4, ints q⟩) (e : Int) :
    Calls Tryd.prog 13 #[.agg #[.slice A n c, .slice A2 m c2], .agg #[.slice A3 n3 c3, .slice A4 n4 c4], .int .i64 e, .int .i64 e] w fun en w' => en = .returned (.bool true) ∧ Ow w0 w' g M L O := by
  have H1 := (h.pair (.slice A n c) (.slice A2 m c2) 26).pair (.slice A3 n3 c3) (.slice A4 n4 c4) 26
  simp only [World.size_alloc, List.append_assoc, List.cons_append, List.nil_append] at H1
  have HF := Lib.hid H1
  have x0 := cell_regrown (H1.p0 (O.length + 0) (by rw [get_r]; rfl))
  have x1 := cell_regrown (H1.p1 (O.length + 0) (by rw [get_r]; rfl))
  have y0 := cell_regrown (H1.p0 (O.length + 1) (by rw [get_r]; rfl))
  have y1 := cell_regrown (H1.p1 (O.length + 1) (by rw [get_r]; rfl))
  obtain ⟨sP, hsP⟩ : ∃ z, str (rprt p q) = z := ⟨_, rfl⟩
  have cP1 := regrown_call (P := Tryd.prog) (w := (w.alloc (.cells #[.slice A n c, .slice A2 m c2] 26)).alloc (.cells #[.slice A3 n3 c3, .slice A4 n4 c4] 26)) (f := 23) (args := #[.agg #[.slice A n c, .slice A2 m c2]]) (v := .string sP) (fun W hW => by rw [← hsP]; exact (qrprint_any (HF.out.go hW).self i j hi hj).mono fun e w h => ⟨h.1, h.2.below⟩)
  have cP2 := regrown_call (P := Tryd.prog) (w := (w.alloc (.cells #[.slice A n c, .slice A2 m c2] 26)).alloc (.cells #[.slice A3 n3 c3, .slice A4 n4 c4] 26)) (f := 23) (args := #[.agg #[.slice A3 n3 c3, .slice A4 n4 c4]]) (v := .string sP) (fun W hW => by rw [← hsP]; exact (qrprint_any (HF.out.go hW).self k l hk hl).mono fun e w h => ⟨h.1, h.2.below⟩)
  have hd : (e == e) = true := beq_self_eq_true e
  clear h H1 hi hj hk hl hsP
  go_enter Tryd.func13, Tryd.ntmps13
  go_upto_region 1 with (fail)
  refine wp_region_quiet_below (by kernel_rfl) (by kernel_rfl) ?_
  repeat (go_big_quiet_step ((first | with_reducible exact cP1 _ _ | with_reducible exact cP2 _ _)))
  refine wpQuiet_nil ?_
  intro W hW
  have HZ := Lib.hid (HF.out.go (regrown_below hW)).fewO
  clear hW x0 x1 y0 y1 cP1 cP2
  go_wp2_with fail
  go_ret
  exact ⟨rfl, HZ.out⟩
end
theorem one_pwc : ∀ c : Nat, pwc (oneC 2) c 0 = 1 ∧ pwc (oneC 2) c 1 = c ∧ pwc (oneC 2) c 2 + c = c * c
  | 0 => ⟨rfl, rfl, rfl⟩
  | c + 1 => by
    obtain ⟨h0, h1, h2⟩ := one_pwc c
    have e0 : pwc (oneC 2) (c + 1) 0 = pwc (oneC 2) c 0 := by
      show cvS (pwc (oneC 2) c) (oneC 2) 0 1 = _
      simp [cvS, oneC, Na.bin]
    have e1 : pwc (oneC 2) (c + 1) 1 = pwc (oneC 2) c 0 + pwc (oneC 2) c 1 := by
      show cvS (pwc (oneC 2) c) (oneC 2) 1 2 = _
      simp [cvS, oneC, Na.bin]
    have e2 : pwc (oneC 2) (c + 1) 2 = 2 * pwc (oneC 2) c 1 + pwc (oneC 2) c 2 := by
      show cvS (pwc (oneC 2) c) (oneC 2) 2 3 = _
      simp [cvS, oneC, Na.bin]
    refine ⟨by rw [e0, h0], by rw [e1, h0, h1]; omega, ?_⟩
    rw [e2, h1, show (c + 1) * (c + 1) = c * c + 2 * c + 1 by rw [Nat.succ_mul, Nat.mul_succ]; omega]
    omega
theorem frM_12 : ofF 1 2 = (1, 2, 0) := by decide +kernel
theorem frM_34 : frM (sumB 2 1 1 1 2) (2 ^ 2) = (3, 4, 0) := by decide +kernel
theorem hyp_16 : hypF 4 2 2 2 = (1, 6, 0) := by decide +kernel
theorem frM_4096 : frM (4096 ^ 2 - pwc (oneC 2) 4096 2) (4096 ^ 2) = (1, 4096, 0) := by
  have h := (one_pwc 4096).2.2
  rw [show pwc (oneC 2) 4096 2 = 16773120 by omega]
  decide +kernel
theorem text_34 : str (De.text 3 ++ 47 :: De.text 4) = ⟨#[51, 47, 52]⟩ := by decide +kernel
theorem text_16 : str (De.text 1 ++ 47 :: De.text 6) = ⟨#[49, 47, 54]⟩ := by decide +kernel
theorem text_4096 : str (De.text 1 ++ 47 :: De.text 4096) = ⟨#[49, 47, 52, 48, 57, 54]⟩ := by decide +kernel
theorem half_frK : FrK 1 2 := ⟨tiny_top (by omega), tiny_top (by omega), by omega, by decide⟩
set_option maxHeartbeats 8000000 in
theorem awake23 (w : World) (ht : Tab w) : Calls Tryd.prog 15 #[] w fun e w' => e = .returned (.bool true) ∧ Below w.heap.size w w' := by
  have HT := Lib.hid ht
  have H0 := Ow.of (St.refl w)
  have HC := Lib.hid (qrof_ow H0 1 2 (by omega) (by omega))
  rw [frM_12] at HC
  clear H0 ht
  go_enter Tryd.func15, Tryd.ntmps15
  go_wp2_with fail
  refine HC.out.mono ?_
  rintro e w1 ⟨A1, n1, c1, A2, n2, c2, rfl, H1⟩
  have H2 := H1.pair (.slice A1 n1 c1) (.slice A2 n2 c2) 26
  simp only [List.nil_append, List.cons_append] at H2
  have a0 := H2.p0 0 rfl
  have a1 := H2.p1 0 rfl
  have hn2 : n2 ≤ 2 := by
    have := (H2.seenL 1 (l := Na.dig 2) rfl).1
    rw [← this]
    exact (Na.dig_len_iff 2 2).2 (by decide)
  have HD := Lib.hid (t_binom_sum H2 0 1 2 1 rfl rfl HT.out (by omega) half_frK (by omega) hn2 (by omega))
  rw [show ((2 : Int).toNat) = 2 from rfl, show ((1 : Int).toNat) = 1 from rfl, show (2 + 1 - 1 : Nat) = 2 from rfl, show (2 - 1 : Nat) = 1 from rfl, frM_34] at HD
  clear HC H1 H2 hn2
  go_wp2_with fail
  refine HD.out.mono ?_
  rintro e w2 ⟨A3, n3, c3, A4, n4, c4, rfl, H3⟩
  have H4 := H3.pair (.slice A3 n3 c3) (.slice A4 n4 c4) 26
  simp only [List.nil_append, List.cons_append] at H4
  have HE := Lib.hid (t_hyper_any H4 4 2 2 2 HT.out (by omega))
  rw [hyp_16] at HE
  clear HD H3 H4 a0 a1
  go_wp2_with fail
  refine HE.out.mono ?_
  rintro e w3 ⟨A5, n5, c5, A6, n6, c6, rfl, H5⟩
  have H6 := H5.pair (.slice A5 n5 c5) (.slice A6 n6 c6) 26
  simp only [List.nil_append, List.cons_append] at H6
  have HD := Lib.hid (t_cells_sum H6 2 4096 2 HT.out (by omega) (by omega) (by omega))
  rw [frM_4096, show ((2 : Nat) : Int) = 2 from rfl, show ((4096 : Nat) : Int) = 4096 from rfl] at HD
  clear HE H5 H6
  go_wp2_with fail
  refine HD.out.mono ?_
  rintro e w4 ⟨A7, n7, c7, A8, n8, c8, rfl, H7⟩
  have H8 := H7.pair (.slice A7 n7 c7) (.slice A8 n8 c8) 26
  simp only [List.nil_append, List.cons_append] at H8
  have a0 := H8.p0 1 rfl
  have a1 := H8.p1 1 rfl
  have HE := Lib.hid (qrprint_ok (x := 3) (y := 4) H8 2 3 rfl rfl (tiny_top (by omega)) (tiny_top (by omega)) (rv_low (tiny_top (by omega)) (tiny_top (by omega)) (by omega) (by decide)))
  rw [text_34] at HE
  clear HD H7 H8
  go_wp2_with fail
  refine HE.out.mono ?_
  rintro e w5 ⟨rfl, H9⟩
  clear a0 a1 HE
  have a0 := H9.p0 2 rfl
  have a1 := H9.p1 2 rfl
  have HE := Lib.hid (qrprint_ok (x := 1) (y := 6) H9 4 5 rfl rfl (tiny_top (by omega)) (tiny_top (by omega)) (rv_low (tiny_top (by omega)) (tiny_top (by omega)) (by omega) (by decide)))
  rw [text_16] at HE
  clear H9
  go_wp2_with fail
  refine HE.out.mono ?_
  rintro e w6 ⟨rfl, H10⟩
  clear a0 a1 HE
  have a0 := H10.p0 3 rfl
  have a1 := H10.p1 3 rfl
  have HE := Lib.hid (qrprint_ok (x := 1) (y := 4096) H10 6 7 rfl rfl (tiny_top (by omega)) (tiny_top (by omega)) (rv_low (tiny_top (by omega)) (tiny_top (by omega)) (by omega) (by decide)))
  rw [text_4096] at HE
  clear H10
  go_wp2_with fail
  refine HE.out.mono ?_
  rintro e w7 ⟨rfl, H11⟩
  have HB := Lib.hid H11.below
  clear HE H11 a0 a1
  go_wp2_with fail
  go_ret
  exact ⟨rfl, HB.out⟩
end Go.Proofs.YtjhaogbopmhkoaaDoor

namespace Go.Proofs.YtjhaogbopmhkoaaDoor
open Go.RowKit Go.Sort
set_option linter.unusedVariables false
set_option maxRecDepth 100000
/-- the chance that some cell gets so many, or the error -/
def cellF (a b k : Int) : Nat × Nat × Int := if a < 0 ∨ 40 < a ∨ b < 1 ∨ 4096 < b then frE 2 else if k ≤ 0 then (1, 1, 0) else if a < k then (0, 1, 0) else frM (b.toNat ^ a.toNat - pwc (oneC k.toNat) b.toNat a.toNat) (b.toNat ^ a.toNat)
section
variable {w0 w w' : World} {g : Option Nat} {M M2 : List (Nat × Value)} {L : List Ob} {O : List Rw}
theorem t_cells_any (h : Ow w0 w g M L O) (a b k : Int) (ht : Tab w0) : Calls Tryd.prog 11 #[.int .i64 a, .int .i64 b, .int .i64 k] w (GotF w0 g M L O (cellF a b k)) := by
  unfold cellF
  by_cases h1 : a < 0 ∨ 40 < a ∨ b < 1 ∨ 4096 < b
  · rw [if_pos h1]; exact t_cells_range h a b k h1
  · rw [if_neg h1]
    by_cases h2 : k ≤ 0
    · rw [if_pos h2]; exact t_cells_all h a b k ht (by omega) (by omega) h2
    · rw [if_neg h2]
      by_cases h3 : a < k
      · rw [if_pos h3]; exact t_cells_none h a b k ht (by omega) (by omega) (by omega)
      · rw [if_neg h3]
        obtain ⟨x, rfl⟩ := Int.eq_ofNat_of_zero_le (a := a) (by omega)
        obtain ⟨y, rfl⟩ := Int.eq_ofNat_of_zero_le (a := b) (by omega)
        obtain ⟨z, rfl⟩ := Int.eq_ofNat_of_zero_le (a := k) (by omega)
        exact t_cells_sum h x y z ht (by omega) (by omega) (by omega)
end
end Go.Proofs.YtjhaogbopmhkoaaDoor

namespace Go.Proofs.YtjhaogbopmhkoaaDoor
open Go.RowKit Go.Sort
set_option linter.unusedVariables false
set_option maxRecDepth 100000
theorem awake23_ow {w0 w : World} {g : Option Nat} {M : List (Nat × Value)} {L : List Ob} {O : List Rw} (h : Ow w0 w g M L O) (ht : Tab w0) : Calls Tryd.prog 15 #[] w fun e w' => e = .returned (.bool true) ∧ Ow w0 w' g M L O :=
  (awake23 w (ht.below h.below)).mono fun e w' hr => ⟨hr.1, h.go hr.2⟩
end Go.Proofs.YtjhaogbopmhkoaaDoor

namespace Go.Proofs.YtjhaogbopmhkoaaDoor
open Go.RowKit Go.Sort
set_option linter.unusedVariables false
set_option maxRecDepth 100000
theorem r_cells_any {w0 w : World} {g : Option Nat} {M : List (Nat × Value)} {L : List Ob} {O : List Rw} (h : Ow w0 w g M L O) (a b k : Int) : Calls Tryd.prog 12 #[.int .i64 a, .int .i64 b, .int .i64 k] w (GotF w0 g M L O (cellF a b k)) := by
  unfold cellF
  by_cases h1 : a < 0 ∨ 40 < a ∨ b < 1 ∨ 4096 < b
  · rw [if_pos h1]; exact r_cells_range h a b k h1
  · rw [if_neg h1]
    by_cases h2 : k ≤ 0
    · rw [if_pos h2]; exact r_cells_all h a b k (by omega) (by omega) h2
    · rw [if_neg h2]
      by_cases h3 : a < k
      · rw [if_pos h3]; exact r_cells_none h a b k (by omega) (by omega) (by omega)
      · rw [if_neg h3]
        obtain ⟨x, rfl⟩ := Int.eq_ofNat_of_zero_le (a := a) (by omega)
        obtain ⟨y, rfl⟩ := Int.eq_ofNat_of_zero_le (a := b) (by omega)
        obtain ⟨z, rfl⟩ := Int.eq_ofNat_of_zero_le (a := k) (by omega)
        exact r_cells_sum h x y z (by omega) (by omega) (by omega)
def RCl (w0 : World) (L : List Ob) (O : List Rw) (v : Value) (wr : World) : Prop := ∃ i : Nat, i ≤ 3 ∧ v = .int .i64 (i : Int) ∧ Hid (Ow w0 wr none [] L O)
set_option maxHeartbeats 16000000 in
theorem tailsCells_any (nn cc kk : Int) (w : World) (ht : Tab w) : Calls Tryd.prog 3 #[.int .i64 nn, .int .i64 cc, .int .i64 kk] w fun e w' => e = .returned (.bool true) ∧ Below w.heap.size w w' := by
  have HT := Lib.hid ht
  have H := Ow.of (St.refl w)
  obtain ⟨n, hn⟩ : ∃ n : Nat, nn % 14 = (n : Int) := ⟨(nn % 14).toNat, by omega⟩
  obtain ⟨x1, hx1⟩ : ∃ z, cc % 9 = z := ⟨_, rfl⟩
  obtain ⟨s, hs⟩ : ∃ n : Nat, cc % 13 = (n : Int) := ⟨(cc % 13).toNat, by omega⟩
  obtain ⟨x3, hx3⟩ : ∃ z, cc % 3 = z := ⟨_, rfl⟩
  obtain ⟨z, hz⟩ : ∃ z, kk % 8 = z := ⟨_, rfl⟩
  have b1 : 0 ≤ x1 ∧ x1 < 9 := by omega
  have b2 : s < 13 := by omega
  have b3 : 0 ≤ x3 ∧ x3 < 3 := by omega
  have b5 : 0 ≤ z ∧ z < 8 := by omega
  have hM1 : Hid (∀ w : World, Calls Tryd.prog 14 #[.int .i64 nn, .int .i64 14] w fun e w' => e = .returned (.int .i64 (n : Int)) ∧ w = w') := fun w => by rw [← hn]; exact mod_any nn 14 w (by omega) (by omega)
  have hM2 : Hid (∀ w : World, Calls Tryd.prog 14 #[.int .i64 cc, .int .i64 9] w fun e w' => e = .returned (.int .i64 x1) ∧ w = w') := fun w => by rw [← hx1]; exact mod_any cc 9 w (by omega) (by omega)
  have hM3 : Hid (∀ w : World, Calls Tryd.prog 14 #[.int .i64 cc, .int .i64 13] w fun e w' => e = .returned (.int .i64 (s : Int)) ∧ w = w') := fun w => by rw [← hs]; exact mod_any cc 13 w (by omega) (by omega)
  have hM4 : Hid (∀ w : World, Calls Tryd.prog 14 #[.int .i64 cc, .int .i64 3] w fun e w' => e = .returned (.int .i64 x3) ∧ w = w') := fun w => by rw [← hx3]; exact mod_any cc 3 w (by omega) (by omega)
  have hM5 : Hid (∀ w : World, Calls Tryd.prog 14 #[.int .i64 kk, .int .i64 8] w fun e w' => e = .returned (.int .i64 z) ∧ w = w') := fun w => by rw [← hz]; exact mod_any kk 8 w (by omega) (by omega)
  have w1 : IntKind.i64.wrap (1 + x1) = 1 + x1 := IntWalk.i64_in _ (by omega)
  have w3 : IntKind.i64.wrap (4096 + x3) = 4096 + x3 := IntWalk.i64_in _ (by omega)
  have w4 : IntKind.i64.wrap (4096 + x3 - 1) = 4096 + x3 - 1 := IntWalk.i64_in _ (by omega)
  have w5 : IntKind.i64.wrap (z - 1) = z - 1 := IntWalk.i64_in _ (by omega)
  clear hn hx1 hs hx3 hz ht
  go_enter Tryd.func3, Tryd.ntmps3
  obtain ⟨t1, g1⟩ : ∃ zz, cellF nn cc kk = zz := ⟨_, rfl⟩
  have G1 := Lib.hid g1
  clear g1
  have HC := Lib.hid (t_cells_any H nn cc kk HT.out)
  rw [G1.out] at HC
  clear H
  go_wp2_with (go_at_call 14; ((first | (with_reducible refine (hM1.out _).mono ?_) | (with_reducible refine (hM2.out _).mono ?_) | (with_reducible refine (hM3.out _).mono ?_) | (with_reducible refine (hM4.out _).mono ?_) | (with_reducible refine (hM5.out _).mono ?_)); rintro e w' ⟨rfl, rfl⟩))
  refine HC.out.mono ?_
  rintro e v1 ⟨C1, e1, f1, C2, e2, f2, rfl, G⟩
  clear HC
  have H := G.pair (.slice C1 e1 f1) (.slice C2 e2 f2) 26
  simp only [List.nil_append, List.cons_append] at H
  clear G
  have HC := Lib.hid (r_cells_any H nn cc kk)
  rw [G1.out] at HC
  clear H
  go_wp2_with (go_at_call 14; ((first | (with_reducible refine (hM1.out _).mono ?_) | (with_reducible refine (hM2.out _).mono ?_) | (with_reducible refine (hM3.out _).mono ?_) | (with_reducible refine (hM4.out _).mono ?_) | (with_reducible refine (hM5.out _).mono ?_)); rintro e w' ⟨rfl, rfl⟩))
  refine HC.out.mono ?_
  rintro e v2 ⟨C3, e3, f3, C4, e4, f4, rfl, G⟩
  clear HC
  have H := G.pair (.slice C3 e3 f3) (.slice C4 e4 f4) 26
  simp only [List.nil_append, List.cons_append] at H
  clear G
  have a0 := H.p0 0 rfl
  have a1 := H.p1 0 rfl
  have b0 := H.p0 1 rfl
  have b1 := H.p1 1 rfl
  have HC := Lib.hid (same23 (p := Na.up (Na.dig t1.1)) (q := Na.up (Na.dig t1.2.1)) H 0 1 2 3 (by rw [nats_up]; rfl) (by rw [nats_up]; rfl) (by rw [nats_up]; rfl) (by rw [nats_up]; rfl) t1.2.2)
  clear H
  go_wp2_with (go_at_call 14; ((first | (with_reducible refine (hM1.out _).mono ?_) | (with_reducible refine (hM2.out _).mono ?_) | (with_reducible refine (hM3.out _).mono ?_) | (with_reducible refine (hM4.out _).mono ?_) | (with_reducible refine (hM5.out _).mono ?_)); rintro e w' ⟨rfl, rfl⟩))
  refine HC.out.mono ?_
  rintro e v3 ⟨rfl, H⟩
  clear HC a0 a1 b0 b1
  obtain ⟨y2, hy2⟩ : ∃ y : Int, wrap64 (2 ^ s) = y := ⟨_, rfl⟩
  have HY2 := Lib.hid hy2
  clear hy2
  have hs0 : (0 : Int) ≤ (s : Int) := by omega
  have hs1 : (s : Int) < 64 := by omega
  go_upto_region 7 with (go_at_call 14; ((first | (with_reducible refine (hM1.out _).mono ?_) | (with_reducible refine (hM2.out _).mono ?_) | (with_reducible refine (hM3.out _).mono ?_) | (with_reducible refine (hM4.out _).mono ?_) | (with_reducible refine (hM5.out _).mono ?_)); rintro e w' ⟨rfl, rfl⟩))
  rw [HY2.out]
  have h := H.arr #[.int .i64 (1 + x1), .int .i64 y2, .int .i64 (4096 + x3 - 1)] 3 rfl (by omega) 3
  simp only [List.nil_append, List.cons_append] at h
  have HO := Lib.hid h
  clear h H hM1 hM2 hM3 hM4 w1 w3 w4 b1 b2 b3 hs0 hs1
  obtain ⟨W4, hW4⟩ : ∃ W, v3.alloc (.cells #[.int .i64 (1 + x1), .int .i64 y2, .int .i64 (4096 + x3 - 1)] 3) = W := ⟨_, rfl⟩
  rw [hW4] at HO ⊢
  clear hW4
  go_loopw [53] (fun v wr => RCl w [(⟨C1, e1, f1, nats (Na.dig t1.1)⟩ : Ob), (⟨C2, e2, f2, nats (Na.dig t1.2.1)⟩ : Ob), (⟨C3, e3, f3, nats (Na.dig t1.1)⟩ : Ob), (⟨C4, e4, f4, nats (Na.dig t1.2.1)⟩ : Ob)] [Rw.pair v1.heap.size 26 (.slice C1 e1 f1) (.slice C2 e2 f2), Rw.pair v2.heap.size 26 (.slice C3 e3 f3) (.slice C4 e4 f4), (⟨some ⟨v3.heap.size, 0, none⟩, 3, 3, 3, [.int .i64 (1 + x1), .int .i64 y2, .int .i64 (4096 + x3 - 1)]⟩ : Rw)] v wr) (fun v _ => 3 - (intOf v).toNat)
  case atStart => exact ⟨0, by omega, rfl, HO⟩
  case round =>
    clear HO
    obtain ⟨i, hi, rfl, HO⟩ := hrel
    have H := HO.out
    clear HO
    rcases Nat.eq_or_lt_of_le hi with he | hlt
    · subst he
      have hd : decide (((3 : Nat) : Int) < 3) = false := by decide
      have HC := Lib.hid (awake23_ow H HT.out)
      clear H
      go_wp2_with (go_at_call 14; ((first | (with_reducible refine (hM1.out _).mono ?_) | (with_reducible refine (hM2.out _).mono ?_) | (with_reducible refine (hM3.out _).mono ?_) | (with_reducible refine (hM4.out _).mono ?_) | (with_reducible refine (hM5.out _).mono ?_)); rintro e w' ⟨rfl, rfl⟩))
      refine HC.out.mono ?_
      rintro e v4 ⟨rfl, H⟩
      clear HC
      have HB := Lib.hid H.below
      clear H
      go_wp2_with fail
      go_ret
      exact ⟨rfl, HB.out⟩
    · have hd : decide ((i : Int) < 3) = true := decide_eq_true (by omega)
      have hd2 : decide (i < 3) = true := decide_eq_true hlt
      have hi0 : (0 : Int) ≤ (i : Int) := by omega
      have hi3 : (i : Int) < 3 := by omega
      obtain ⟨mv, hmv⟩ : ∃ mv : Int, ([.int .i64 (1 + x1), .int .i64 y2, .int .i64 (4096 + x3 - 1)] : List Value)[i]? = some (.int .i64 mv) := by
        rcases (show i = 0 ∨ i = 1 ∨ i = 2 by omega) with rfl | rfl | rfl <;> exact ⟨_, rfl⟩
      have ca := cell_row H (i := 2) rfl (k := i) hmv (by omega)
      clear hmv
      obtain ⟨t2, g2⟩ : ∃ zz, cellF (n : Int) mv (z - 1) = zz := ⟨_, rfl⟩
      have G2 := Lib.hid g2
      clear g2
      have HC := Lib.hid (t_cells_any H (n : Int) mv (z - 1) HT.out)
      rw [G2.out] at HC
      clear H
      go_wp2_with (go_at_call 14; ((first | (with_reducible refine (hM1.out _).mono ?_) | (with_reducible refine (hM2.out _).mono ?_) | (with_reducible refine (hM3.out _).mono ?_) | (with_reducible refine (hM4.out _).mono ?_) | (with_reducible refine (hM5.out _).mono ?_)); rintro e w' ⟨rfl, rfl⟩))
      refine HC.out.mono ?_
      rintro e v5 ⟨D1, k1, l1, D2, k2, l2, rfl, G⟩
      clear HC
      have H := G.pair (.slice D1 k1 l1) (.slice D2 k2 l2) 26
      simp only [List.nil_append, List.cons_append] at H
      clear G
      have HC := Lib.hid (r_cells_any H (n : Int) mv (z - 1))
      rw [G2.out] at HC
      clear H
      go_wp2_with (go_at_call 14; ((first | (with_reducible refine (hM1.out _).mono ?_) | (with_reducible refine (hM2.out _).mono ?_) | (with_reducible refine (hM3.out _).mono ?_) | (with_reducible refine (hM4.out _).mono ?_) | (with_reducible refine (hM5.out _).mono ?_)); rintro e w' ⟨rfl, rfl⟩))
      refine HC.out.mono ?_
      rintro e v6 ⟨D3, k3, l3, D4, k4, l4, rfl, G⟩
      clear HC
      have H := G.pair (.slice D3 k3 l3) (.slice D4 k4 l4) 26
      simp only [List.nil_append, List.cons_append] at H
      clear G
      have a0 := H.p0 3 rfl
      have a1 := H.p1 3 rfl
      have b0 := H.p0 4 rfl
      have b1 := H.p1 4 rfl
      have HC := Lib.hid (same23 (p := Na.up (Na.dig t2.1)) (q := Na.up (Na.dig t2.2.1)) H 4 5 6 7 (by rw [nats_up]; rfl) (by rw [nats_up]; rfl) (by rw [nats_up]; rfl) (by rw [nats_up]; rfl) t2.2.2)
      clear H
      go_wp2_with (go_at_call 14; ((first | (with_reducible refine (hM1.out _).mono ?_) | (with_reducible refine (hM2.out _).mono ?_) | (with_reducible refine (hM3.out _).mono ?_) | (with_reducible refine (hM4.out _).mono ?_) | (with_reducible refine (hM5.out _).mono ?_)); rintro e w' ⟨rfl, rfl⟩))
      refine HC.out.mono ?_
      rintro e v7 ⟨rfl, H⟩
      clear HC a0 a1 b0 b1
      have HN := Lib.hid ((Ow.fewO (O := [Rw.pair v1.heap.size 26 (.slice C1 e1 f1) (.slice C2 e2 f2), Rw.pair v2.heap.size 26 (.slice C3 e3 f3) (.slice C4 e4 f4), (⟨some ⟨v3.heap.size, 0, none⟩, 3, 3, 3, [.int .i64 (1 + x1), .int .i64 y2, .int .i64 (4096 + x3 - 1)]⟩ : Rw)]) H).less (L' := [(⟨C1, e1, f1, nats (Na.dig t1.1)⟩ : Ob), (⟨C2, e2, f2, nats (Na.dig t1.2.1)⟩ : Ob), (⟨C3, e3, f3, nats (Na.dig t1.1)⟩ : Ob), (⟨C4, e4, f4, nats (Na.dig t1.2.1)⟩ : Ob)]) (fun o ho => List.mem_append_left _ ho))
      clear H
      go_wp2_with fail
      go_roundw
      case rel => exact ⟨i + 1, by omega, int_eqv (by omega), HN⟩
      case measure => simp [intOf]; omega
end Go.Proofs.YtjhaogbopmhkoaaDoor

namespace Go.Proofs.YtjhaogbopmhkoaaDoor
open Go.ChangeShapes Go.WideShapes Go.ChangeAt Go.RowKit

section
variable {H : Type} {enc : TypeId × Value → H} {P : Program}
/-- arguments read behind the call as before it, if nothing below the old heap's size has turned -/
theorem args_stay (hl : laidOutB P = true) {W W' : World} (hb : Below W.heap.size W W') {sp : Nat → Bool} : ∀ {ts : List TypeId} {vs : List Value} {ds : List (DataW H)} {ps : List MemPlace},
    (∀ t ∈ ts, P.readableRec t = true ∧ t < P.types.size) → DataW.TrodAll enc P W 0 (fun _ => true) true ts vs ds ps → (∀ x ∈ ps, x.block < W.heap.size) → (∀ p ∈ ps, sp p.block = true) →
    DataW.TrodAll enc P W' 0 sp true ts vs ds ps := by
  intro ts
  induction ts with
  | nil =>
    intro vs ds ps _ h _ _
    cases vs <;> cases ds <;> simp [DataW.TrodAll] at h ⊢
    exact h
  | cons t ts ih =>
    intro vs ds ps ht h hlt hs
    obtain ⟨v, vs', d, ds', p, q, rfl, rfl, rfl, h0, h1⟩ := trodAll_cons h
    refine ⟨p, q, ?_, ?_, rfl⟩
    · exact WideElems.Trod_stays hl (ht t (by simp)).1 (ht t (by simp)).2 h0 (fun x hx => hb.same (hlt x (by simp [hx]))) (fun x hx => hs x (by simp [hx]))
    · exact ih (fun u hu => ht u (by simp [hu])) h1 (fun x hx => hlt x (by simp [hx])) (fun x hx => hs x (by simp [hx]))

theorem post_law (hl : laidOutB P = true) {f : Func} {s : ChangeSpec} {W W' : World} {args : Array Value} {ds gs : List (DataW H)} {before : List MemPlace} {tb : TypeId} (hb : Below W.heap.size W W')
    (hvars : s.vars = []) (hW : DataW.Whole enc P f.params.toList s.vars false W args.toList ds gs before)
    (hfn : s.fn H (ds ++ gs) = { results := [.lit (.bool true)], args := ds, vars := [] }) (hres : f.resultTypes = #[tb]) (htb : P.underlying tb = some .bool)
    (hts : ∀ t ∈ f.params.toList, P.readableRec t = true ∧ t < P.types.size) :
    s.post enc P f false true false false W args (.bool true) W' := by
  have hlt : ∀ p ∈ before, p.block < W.heap.size := fun p hp => hW.lt p hp
  have hW' := hW
  obtain ⟨p, q, hA, hV, rfl, hz, hn⟩ := hW
  rw [hvars] at hV
  have hq : q = [] := by
    cases gs with
    | nil => exact hV
    | cons g r => exact absurd hV (by intro h; cases h)
  subst hq
  refine ⟨ds, gs, _, [], p, [], hW', ?_, ?_, ?_, hb.frame _, fun h => by cases h⟩
  · rw [hfn, hres]
    exact trodAll_mk1 (shut_bool htb true)
  · rw [hfn]
    exact args_stay hl hb hts hA (fun x hx => hlt x (by simp [hx])) (fun x hx => by simpa using hlt x (by simp [hx]))
  · rw [hfn, hvars]
    rfl
end
end Go.Proofs.YtjhaogbopmhkoaaDoor

namespace Go.Proofs.YtjhaogbopmhkoaaDoor
open Go.ChangeShapes Go.WideShapes Go.ChangeAt Go.RowKit
set_option linter.unusedVariables false

section
variable {H : Type} {enc : TypeId × Value → H} {P : Program} {W : World}
end
end Go.Proofs.YtjhaogbopmhkoaaDoor

namespace Go.Proofs.YtjhaogbopmhkoaaDoor
open Go.ChangeShapes Go.WideShapes Go.ChangeAt Go.RowKit
set_option linter.unusedVariables false
set_option maxRecDepth 100000
theorem tab_of {W : World} (h : laidMetH Tryd.prog Rows.tailsOrderRow.laid W) : Tab W := by
  rw [MakeChecks.laidMetH_plain _ _ _ (by kernel_rfl)] at h
  obtain ⟨ps, ⟨g, t, cs, fuel, p, q, hg, ht, hv, hd, _, _⟩, _⟩ := h
  obtain rfl := Option.some.inj ((show Tryd.prog.globalNamed "math/bits.deBruijn64tab" = some 0 by kernel_rfl).symm.trans hg)
  obtain rfl := Option.some.inj ((show (Tryd.prog.globals[0]?).map (·.type) = some 195 by kernel_rfl).symm.trans ht)
  obtain ⟨xs, m, _, ex, _, hl, hel⟩ := DataW.trod_array Tryd.underlying195 hd
  have c5 : Tryd.prog.cellsOf 5 = 1 := by kernel_rfl
  have hlen : Lib.deBruijn64tab.length = 64 := by kernel_rfl
  have e3 : (xs.map (·.1)) = Lib.deBruijn64tab.map fun n : Nat => .lit (.int .u8 (n : Int)) := (DataW.agg.inj (Prod.mk.inj ex).1).symm
  have hcell : ∀ k v : Nat, Lib.deBruijn64tab[k]? = some v → W.cell? ⟨0, k, none⟩ = some (.int .u8 (v : Int)) := by
    intro r v hr
    have hr64 : r < 64 := by
      rcases Nat.lt_or_ge r 64 with h | h
      · exact h
      · rw [List.getElem?_eq_none (by omega)] at hr; cases hr
    have hE := hel r hr64
    rw [c5, Nat.mul_one, List.getElem?_eq_getElem (by omega)] at hE
    obtain ⟨z, e1, e2, _⟩ := DataW.trod_int Tryd.underlying5 hE
    have e4 : (xs.map (·.1))[r]? = (Lib.deBruijn64tab.map fun n : Nat => (DataW.lit (.int .u8 (n : Int)) : DataW Unit))[r]? := by rw [e3]
    rw [List.getElem?_map, List.getElem?_map, List.getElem?_eq_getElem (by omega : r < xs.length), hr, e2] at e4
    have hz : z = (v : Int) := by
      simp only [Option.map_some, Option.some.injEq, DataW.lit.injEq, Lit.int.injEq, true_and] at e4
      exact e4
    rw [World.var?_cell hg hv r, ← hz]
    have : cs.toList[r]? = some (.int .u8 z) := by
      have h0 : ((cs.toList.drop r).take 1)[0]? = some (.int .u8 z) := by rw [e1]; rfl
      simpa using h0
    simpa using this
  refine ⟨?_, hcell⟩
  have h0 := hcell 0 0 (by kernel_rfl)
  rcases Nat.eq_zero_or_pos W.heap.size with h | h
  · exfalso
    unfold World.cell? at h0
    rw [Array.getElem?_eq_none (by simp only; omega)] at h0
    cases h0
  · exact h
end Go.Proofs.YtjhaogbopmhkoaaDoor

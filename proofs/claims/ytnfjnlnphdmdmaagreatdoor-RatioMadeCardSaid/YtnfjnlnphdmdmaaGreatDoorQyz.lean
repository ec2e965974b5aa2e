/- XQy XQz joined. -/
import Derived.Test.YtnfjnlnphdmdmaaGreatDoorQmc
import Derived.Test.YtnfjnlnphdmdmaaGreatDoorQx
/- The document's product, sum, difference and order of any fractions. -/
namespace Go.Proofs.YtnfjnlnphdmdmaaGreatDoor
open Go.RowKit Go.Sort
set_option linter.unusedVariables false
set_option maxRecDepth 100000
theorem nrmul_fr {w0 w : World} {g : Option Nat} {M : List (Nat × Value)} {L : List Ob} {O : List Rw} {A A2 : Option Addr} {n c m c2 x y : Nat} (h : Ow w0 w g M L O) (i j : Nat) (hi : L[i]? = some ⟨A, n, c, nats (Na.dig x)⟩) (hj : L[j]? = some ⟨A2, m, c2, nats (Na.dig y)⟩) (hx : x < Na.top) (hy : y < Na.top) :
    Calls Tryz.prog 53 #[.agg #[.slice A n c], .agg #[.slice A2 m c2]] w (GotO w0 g M L O (resL (x * y)) (resE (x * y))) := by
  have := ag_rmul (zs := Na.up (Na.dig x)) (ys := Na.up (Na.dig y)) h i j (by rw [nats_up]; exact hi) (by rw [nats_up]; exact hj)
  rwa [(mul_ok hx hy).1, (mul_ok hx hy).2] at this
theorem nradd_fr {w0 w : World} {g : Option Nat} {M : List (Nat × Value)} {L : List Ob} {O : List Rw} {A A2 : Option Addr} {n c m c2 x y : Nat} (h : Ow w0 w g M L O) (i j : Nat) (hi : L[i]? = some ⟨A, n, c, nats (Na.dig x)⟩) (hj : L[j]? = some ⟨A2, m, c2, nats (Na.dig y)⟩) (hx : x < Na.top) (hy : y < Na.top) :
    Calls Tryz.prog 46 #[.agg #[.slice A n c], .agg #[.slice A2 m c2]] w (GotO w0 g M L O (resL (x + y)) (resE (x + y))) := by
  have := ag_radd (zs := Na.up (Na.dig x)) (ys := Na.up (Na.dig y)) h i j (by rw [nats_up]; exact hi) (by rw [nats_up]; exact hj)
  unfold addL addE at this
  rw [Na.vld_dig hx, Na.vld_dig hy, num_dig, num_dig] at this
  exact this
theorem nrsub_fr {w0 w : World} {g : Option Nat} {M : List (Nat × Value)} {L : List Ob} {O : List Rw} {A A2 : Option Addr} {n c m c2 x y : Nat} (h : Ow w0 w g M L O) (i j : Nat) (hi : L[i]? = some ⟨A, n, c, nats (Na.dig x)⟩) (hj : L[j]? = some ⟨A2, m, c2, nats (Na.dig y)⟩) (hx : x < Na.top) (hy : y < Na.top) :
    Calls Tryz.prog 48 #[.agg #[.slice A n c], .agg #[.slice A2 m c2]] w (GotO w0 g M L O (if x < y then [] else Na.dig (x - y)) (if x < y then 5 else 0)) := by
  have := ag_rsub (zs := Na.up (Na.dig x)) (ys := Na.up (Na.dig y)) h i j (by rw [nats_up]; exact hi) (by rw [nats_up]; exact hj)
  unfold subL subE at this
  rw [Na.vld_dig hx, Na.vld_dig hy, num_dig, num_dig] at this
  exact this
theorem nrcmp_fr {w0 w : World} {g : Option Nat} {M : List (Nat × Value)} {L : List Ob} {O : List Rw} {A A2 : Option Addr} {n c m c2 x y : Nat} (h : Ow w0 w g M L O) (i j : Nat) (hi : L[i]? = some ⟨A, n, c, nats (Na.dig x)⟩) (hj : L[j]? = some ⟨A2, m, c2, nats (Na.dig y)⟩) (hx : x < Na.top) (hy : y < Na.top) :
    Calls Tryz.prog 55 #[.agg #[.slice A n c], .agg #[.slice A2 m c2]] w fun e w' => e = .returned (.int .i64 (Na.sgn x y)) ∧ Ow w0 w' g M L O := by
  have := ag_rcmp (zs := Na.up (Na.dig x)) (ys := Na.up (Na.dig y)) h i j (by rw [nats_up]; exact hi) (by rw [nats_up]; exact hj) (Na.vld_dig hx) (Na.vld_dig hy)
  rwa [num_dig, num_dig] at this
theorem qrmake_fr {w0 w : World} {g : Option Nat} {M : List (Nat × Value)} {L : List Ob} {O : List Rw} {A A2 : Option Addr} {n c m c2 x y : Nat} {t : Nat × Nat × Int} (h : Ow w0 w g M L O) (i j : Nat) (hi : L[i]? = some ⟨A, n, c, nats (Na.dig x)⟩) (hj : L[j]? = some ⟨A2, m, c2, nats (Na.dig y)⟩) (hx : x < Na.top) (hy : y < Na.top) (e : frM x y = t) :
    Calls Tryz.prog 13 #[.agg #[.slice A n c], .agg #[.slice A2 m c2]] w (GotF w0 g M L O t) := by
  have := qrmake_ow (p := Na.up (Na.dig x)) (q := Na.up (Na.dig y)) h i j (by rw [nats_up]; exact hi) (by rw [nats_up]; exact hj)
  unfold makeF at this
  rw [Na.vld_dig hx, Na.vld_dig hy, num_dig, num_dig, e] at this
  exact this
section
variable {w0 w w' : World} {g : Option Nat} {M M2 : List (Nat × Value)} {L : List Ob} {O : List Rw} {A A2 A3 A4 : Option Addr} {b n c m c2 n3 c3 n4 c4 x y : Nat} {p q r s : List Int}
set_option maxHeartbeats 8000000 in
theorem qrmul_any (h : Ow w0 w g M L O) (i j k l : Nat) (hi : L[i]? = some ⟨A, n, c, ints p⟩) (hj : L[j]? = some ⟨A2, m, c2, ints q⟩) (hk : L[k]? = some ⟨A3, n3, c3, ints r⟩) (hl : L[l]? = some ⟨A4, n4, c4, ints s⟩)  :
    Calls Tryz.prog 22 #[.agg #[.slice A n c, .slice A2 m c2], .agg #[.slice A3 n3 c3, .slice A4 n4 c4]] w (GotF w0 g M L O (mulF p q r s)) := by
  have H0 := ((h.pair (.slice A n c) (.slice A2 m c2) 26).pair (.slice A3 n3 c3) (.slice A4 n4 c4) 26).pair (.slice none 0 0) (.slice none 0 0) 26
  simp only [World.size_alloc, List.append_assoc, List.cons_append, List.nil_append] at H0
  have a0 := H0.p0 (O.length + 0) (by rw [get_r]; rfl)
  have a1 := H0.p1 (O.length + 0) (by rw [get_r]; rfl)
  have HV := Lib.hid (qrvalid_ow H0 i j hi hj)
  cases h1 : rv p q with
  | false =>
  rw [h1] at HV
  rw [show mulF p q r s = frE 1 by unfold mulF; rw [h1]; rfl]
  clear h H0 hi hj hk hl h1
  go_enter Tryz.func22, Tryz.ntmps22
  go_wp2_with fail
  refine HV.out.mono ?_
  rintro e w1 ⟨rfl, H⟩
  clear HV a0 a1
  have k0 := H.p0 (O.length + 2) (by rw [get_r]; rfl)
  have k1 := H.p1 (O.length + 2) (by rw [get_r]; rfl)
  have f0 := H.pf (O.length + 2) (by rw [get_r]; rfl) 0
  have f1 := H.pf (O.length + 2) (by rw [get_r]; rfl) 1
  have Z3 := H.set0 (O.length + 2) (by rw [get_r]; rfl) (.slice none 0 0)
  rw [set_r] at Z3
  simp only [List.set_cons_succ, List.set_cons_zero] at Z3
  have Z4 := Z3.set1 (O.length + 2) (by rw [get_r]; rfl) (.slice none 0 0)
  rw [set_r] at Z4
  simp only [List.set_cons_succ, List.set_cons_zero] at Z4
  have s0 := Z4.p0 (O.length + 2) (by rw [get_r]; rfl)
  have s1 := Z4.p1 (O.length + 2) (by rw [get_r]; rfl)
  have HF := Lib.hid (Z4.fewO)
  clear H Z3 Z4
  go_wp2_with fail
  refine bodyPost_ret (v := .tuple #[.agg #[.slice none 0 0, .slice none 0 0], .int .i64 1]) (by simp [results, Tryz.results22, go_sem, s0, s1]) rfl ?_
  exact gotF_nil HF.out 1
  | true =>
  rw [h1] at HV
  cases h2 : rv r s with
  | false =>
  rw [show mulF p q r s = frE 1 by unfold mulF; rw [h1, h2]; rfl]
  have HR := Lib.hid (And.intro hk (And.intro hl h2))
  clear h H0 hi hj hk hl h1 h2
  go_enter Tryz.func22, Tryz.ntmps22
  go_wp2_with fail
  refine HV.out.mono ?_
  rintro e w1 ⟨rfl, H⟩
  have b0 := H.p0 (O.length + 1) (by rw [get_r]; rfl)
  have b1 := H.p1 (O.length + 1) (by rw [get_r]; rfl)
  have HW := Lib.hid (qrvalid_ow H k l HR.out.1 HR.out.2.1)
  rw [HR.out.2.2] at HW
  clear HV H a0 a1
  go_wp2_with fail
  refine HW.out.mono ?_
  rintro e w2 ⟨rfl, H⟩
  clear HW b0 b1
  have k0 := H.p0 (O.length + 2) (by rw [get_r]; rfl)
  have k1 := H.p1 (O.length + 2) (by rw [get_r]; rfl)
  have f0 := H.pf (O.length + 2) (by rw [get_r]; rfl) 0
  have f1 := H.pf (O.length + 2) (by rw [get_r]; rfl) 1
  have Z3 := H.set0 (O.length + 2) (by rw [get_r]; rfl) (.slice none 0 0)
  rw [set_r] at Z3
  simp only [List.set_cons_succ, List.set_cons_zero] at Z3
  have Z4 := Z3.set1 (O.length + 2) (by rw [get_r]; rfl) (.slice none 0 0)
  rw [set_r] at Z4
  simp only [List.set_cons_succ, List.set_cons_zero] at Z4
  have s0 := Z4.p0 (O.length + 2) (by rw [get_r]; rfl)
  have s1 := Z4.p1 (O.length + 2) (by rw [get_r]; rfl)
  have HF := Lib.hid (Z4.fewO)
  clear H Z3 Z4
  go_wp2_with fail
  refine bodyPost_ret (v := .tuple #[.agg #[.slice none 0 0, .slice none 0 0], .int .i64 1]) (by simp [results, Tryz.results22, go_sem, s0, s1]) rfl ?_
  exact gotF_nil HF.out 1
  | true =>
  have HR := Lib.hid (And.intro hk (And.intro hl h2))
  have e1 : mulF p q r s = if num p * num r < Na.top ∧ num q * num s < Na.top then frM (num p * num r) (num q * num s) else frE 3 := by unfold mulF; rw [h1, h2]; rfl
  rw [e1]
  clear e1
  obtain ⟨x, y, hx, hy, -, -, rfl, rfl⟩ := rv_ex h1
  obtain ⟨u, v, hu, hv, -, -, rfl, rfl⟩ := rv_ex h2
  rw [num_dig, num_dig, num_dig, num_dig]
  have HI := Lib.hid (And.intro (nats_lay hi) (And.intro (nats_lay hj) (And.intro (nats_lay hk) (nats_lay hl))))
  have HX := Lib.hid (And.intro hx (And.intro hy (And.intro hu hv)))
  clear h H0 hi hj hk hl h1 h2 hx hy hu hv
  by_cases hX : x * u < Na.top
  · by_cases hZ : y * v < Na.top
    · rw [if_pos ⟨hX, hZ⟩]
      obtain ⟨t, hmk⟩ : ∃ t, frM (x * u) (y * v) = t := ⟨_, rfl⟩
      rw [hmk]
      have HE := Lib.hid (And.intro hX (And.intro hZ hmk))
      clear hX hZ hmk
      go_enter Tryz.func22, Tryz.ntmps22
      go_wp2_with fail
      refine HV.out.mono ?_
      rintro e w1 ⟨rfl, H⟩
      have b0 := H.p0 (O.length + 1) (by rw [get_r]; rfl)
      have b1 := H.p1 (O.length + 1) (by rw [get_r]; rfl)
      have HW := Lib.hid (qrvalid_ow H k l HR.out.1 HR.out.2.1)
      rw [HR.out.2.2] at HW
      clear HV H a0 a1
      go_wp2_with fail
      refine HW.out.mono ?_
      rintro e w2 ⟨rfl, H⟩
      clear HW b0 b1
      have a0 := H.p0 (O.length + 0) (by rw [get_r]; rfl)
      have b0 := H.p0 (O.length + 1) (by rw [get_r]; rfl)
      have HC := Lib.hid (nrmul_fr H i k HI.out.1 HI.out.2.2.1 HX.out.1 HX.out.2.2.1)
      rw [resL_ok HE.out.1, resE_ok HE.out.1] at HC
      clear H
      go_wp2_with fail
      refine HC.out.mono ?_
      rintro e w3 ⟨B3, m3, d3, rfl, G⟩
      have H := G.boxed (.slice B3 m3 d3) 24
      try simp only [List.append_assoc, List.cons_append, List.nil_append] at H
      clear HC G a0 b0
      have a1 := H.p1 (O.length + 0) (by rw [get_r]; rfl)
      have b1 := H.p1 (O.length + 1) (by rw [get_r]; rfl)
      have HC := Lib.hid (nrmul_fr H j l ((get_l _ _ (get_lt HI.out.2.1)).trans HI.out.2.1) ((get_l _ _ (get_lt HI.out.2.2.2)).trans HI.out.2.2.2) HX.out.2.1 HX.out.2.2.2)
      rw [resL_ok HE.out.2.1, resE_ok HE.out.2.1] at HC
      clear H
      go_wp2_with fail
      refine HC.out.mono ?_
      rintro e w4 ⟨B4, m4, d4, rfl, G⟩
      have H := G.boxed (.slice B4 m4 d4) 24
      try simp only [List.append_assoc, List.cons_append, List.nil_append] at H
      clear HC G a1 b1
      have k0 := H.cell (M.length + 0) (by rw [get_r]; rfl)
      have k1 := H.cell (M.length + 1) (by rw [get_r]; rfl)
      have HC := Lib.hid (qrmake_fr H (L.length + 0) (L.length + 1) (by rw [get_r]; rfl) (by rw [get_r]; rfl) HE.out.1 HE.out.2.1 HE.out.2.2)
      clear H
      go_wp2_with fail
      refine HC.out.mono ?_
      rintro e w9 ⟨C1, i1, e1, C2, k2, e2, rfl, G⟩
      clear HC k0 k1
      rw [show L ++ [(⟨B3, m3, d3, nats (Na.dig (x * u))⟩ : Ob), ⟨B4, m4, d4, nats (Na.dig (y * v))⟩] = L ++ ([⟨B3, m3, d3, nats (Na.dig (x * u))⟩] ++ [⟨B4, m4, d4, nats (Na.dig (y * v))⟩]) from rfl] at G
      have z0 := G.p0 (O.length + 2) (by rw [get_r]; rfl)
      have z1 := G.p1 (O.length + 2) (by rw [get_r]; rfl)
      have f0 := G.pf (O.length + 2) (by rw [get_r]; rfl) 0
      have f1 := G.pf (O.length + 2) (by rw [get_r]; rfl) 1
      have Z3 := G.set0 (O.length + 2) (by rw [get_r]; rfl) (.slice C1 i1 e1)
      rw [set_r] at Z3
      simp only [List.set_cons_succ, List.set_cons_zero] at Z3
      have Z4 := Z3.set1 (O.length + 2) (by rw [get_r]; rfl) (.slice C2 k2 e2)
      rw [set_r] at Z4
      simp only [List.set_cons_succ, List.set_cons_zero] at Z4
      have s0 := Z4.p0 (O.length + 2) (by rw [get_r]; rfl)
      have s1 := Z4.p1 (O.length + 2) (by rw [get_r]; rfl)
      have HF := Lib.hid (Z4.fewM.fewO.less (mid_less L _ _ _))
      clear G Z3 Z4
      go_wp2_with fail
      refine bodyPost_ret (v := .tuple #[.agg #[.slice C1 i1 e1, .slice C2 k2 e2], .int .i64 t.2.2]) (by simp [results, Tryz.results22, go_sem, s0, s1]) rfl ?_
      exact ⟨C1, i1, e1, C2, k2, e2, rfl, HF.out⟩
    · rw [if_neg (fun h => hZ h.2)]
      have HE := Lib.hid (And.intro hX hZ)
      clear hX hZ
      go_enter Tryz.func22, Tryz.ntmps22
      go_wp2_with fail
      refine HV.out.mono ?_
      rintro e w1 ⟨rfl, H⟩
      have b0 := H.p0 (O.length + 1) (by rw [get_r]; rfl)
      have b1 := H.p1 (O.length + 1) (by rw [get_r]; rfl)
      have HW := Lib.hid (qrvalid_ow H k l HR.out.1 HR.out.2.1)
      rw [HR.out.2.2] at HW
      clear HV H a0 a1
      go_wp2_with fail
      refine HW.out.mono ?_
      rintro e w2 ⟨rfl, H⟩
      clear HW b0 b1
      have a0 := H.p0 (O.length + 0) (by rw [get_r]; rfl)
      have b0 := H.p0 (O.length + 1) (by rw [get_r]; rfl)
      have HC := Lib.hid (nrmul_fr H i k HI.out.1 HI.out.2.2.1 HX.out.1 HX.out.2.2.1)
      rw [resL_ok HE.out.1, resE_ok HE.out.1] at HC
      clear H
      go_wp2_with fail
      refine HC.out.mono ?_
      rintro e w3 ⟨B3, m3, d3, rfl, G⟩
      have H := G.boxed (.slice B3 m3 d3) 24
      try simp only [List.append_assoc, List.cons_append, List.nil_append] at H
      clear HC G a0 b0
      have a1 := H.p1 (O.length + 0) (by rw [get_r]; rfl)
      have b1 := H.p1 (O.length + 1) (by rw [get_r]; rfl)
      have HC := Lib.hid (nrmul_fr H j l ((get_l _ _ (get_lt HI.out.2.1)).trans HI.out.2.1) ((get_l _ _ (get_lt HI.out.2.2.2)).trans HI.out.2.2.2) HX.out.2.1 HX.out.2.2.2)
      rw [resE_nt HE.out.2] at HC
      clear H
      go_wp2_with fail
      refine HC.out.mono ?_
      rintro e w4 ⟨B4, m4, d4, rfl, G⟩
      have H := G.boxed (.slice B4 m4 d4) 24
      try simp only [List.append_assoc, List.cons_append, List.nil_append] at H
      clear HC G a1 b1
      have k0 := H.p0 (O.length + 2) (by rw [get_r]; rfl)
      have k1 := H.p1 (O.length + 2) (by rw [get_r]; rfl)
      have f0 := H.pf (O.length + 2) (by rw [get_r]; rfl) 0
      have f1 := H.pf (O.length + 2) (by rw [get_r]; rfl) 1
      have Z3 := H.set0 (O.length + 2) (by rw [get_r]; rfl) (.slice none 0 0)
      rw [set_r] at Z3
      simp only [List.set_cons_succ, List.set_cons_zero] at Z3
      have Z4 := Z3.set1 (O.length + 2) (by rw [get_r]; rfl) (.slice none 0 0)
      rw [set_r] at Z4
      simp only [List.set_cons_succ, List.set_cons_zero] at Z4
      have s0 := Z4.p0 (O.length + 2) (by rw [get_r]; rfl)
      have s1 := Z4.p1 (O.length + 2) (by rw [get_r]; rfl)
      have HF := Lib.hid (Z4.fewM.fewO.less (L' := L) (fun o ho => by simp [ho]))
      clear H Z3 Z4
      go_wp2_with fail
      refine bodyPost_ret (v := .tuple #[.agg #[.slice none 0 0, .slice none 0 0], .int .i64 3]) (by simp [results, Tryz.results22, go_sem, s0, s1]) rfl ?_
      exact gotF_nil HF.out 3
  · rw [if_neg (fun h => hX h.1)]
    have HE := Lib.hid hX
    clear hX
    go_enter Tryz.func22, Tryz.ntmps22
    go_wp2_with fail
    refine HV.out.mono ?_
    rintro e w1 ⟨rfl, H⟩
    have b0 := H.p0 (O.length + 1) (by rw [get_r]; rfl)
    have b1 := H.p1 (O.length + 1) (by rw [get_r]; rfl)
    have HW := Lib.hid (qrvalid_ow H k l HR.out.1 HR.out.2.1)
    rw [HR.out.2.2] at HW
    clear HV H a0 a1
    go_wp2_with fail
    refine HW.out.mono ?_
    rintro e w2 ⟨rfl, H⟩
    clear HW b0 b1
    have a0 := H.p0 (O.length + 0) (by rw [get_r]; rfl)
    have b0 := H.p0 (O.length + 1) (by rw [get_r]; rfl)
    have HC := Lib.hid (nrmul_fr H i k HI.out.1 HI.out.2.2.1 HX.out.1 HX.out.2.2.1)
    rw [resE_nt HE.out] at HC
    clear H
    go_wp2_with fail
    refine HC.out.mono ?_
    rintro e w3 ⟨B3, m3, d3, rfl, G⟩
    have H := G.boxed (.slice B3 m3 d3) 24
    try simp only [List.append_assoc, List.cons_append, List.nil_append] at H
    clear HC G a0 b0
    have a1 := H.p1 (O.length + 0) (by rw [get_r]; rfl)
    have b1 := H.p1 (O.length + 1) (by rw [get_r]; rfl)
    have HC := Lib.hid (nrmul_fr H j l ((get_l _ _ (get_lt HI.out.2.1)).trans HI.out.2.1) ((get_l _ _ (get_lt HI.out.2.2.2)).trans HI.out.2.2.2) HX.out.2.1 HX.out.2.2.2)
    clear H
    go_wp2_with fail
    refine HC.out.mono ?_
    rintro e w4 ⟨B4, m4, d4, rfl, G⟩
    have H := G.boxed (.slice B4 m4 d4) 24
    try simp only [List.append_assoc, List.cons_append, List.nil_append] at H
    clear HC G a1 b1
    have k0 := H.p0 (O.length + 2) (by rw [get_r]; rfl)
    have k1 := H.p1 (O.length + 2) (by rw [get_r]; rfl)
    have f0 := H.pf (O.length + 2) (by rw [get_r]; rfl) 0
    have f1 := H.pf (O.length + 2) (by rw [get_r]; rfl) 1
    have Z3 := H.set0 (O.length + 2) (by rw [get_r]; rfl) (.slice none 0 0)
    rw [set_r] at Z3
    simp only [List.set_cons_succ, List.set_cons_zero] at Z3
    have Z4 := Z3.set1 (O.length + 2) (by rw [get_r]; rfl) (.slice none 0 0)
    rw [set_r] at Z4
    simp only [List.set_cons_succ, List.set_cons_zero] at Z4
    have s0 := Z4.p0 (O.length + 2) (by rw [get_r]; rfl)
    have s1 := Z4.p1 (O.length + 2) (by rw [get_r]; rfl)
    have HF := Lib.hid (Z4.fewM.fewO.less (L' := L) (fun o ho => by simp [ho]))
    clear H Z3 Z4
    go_wp2_with fail
    refine bodyPost_ret (v := .tuple #[.agg #[.slice none 0 0, .slice none 0 0], .int .i64 3]) (by simp [results, Tryz.results22, go_sem, s0, s1]) rfl ?_
    exact gotF_nil HF.out 3
set_option maxHeartbeats 8000000 in
theorem qrcmp_any (h : Ow w0 w g M L O) (i j k l : Nat) (hi : L[i]? = some ⟨A, n, c, ints p⟩) (hj : L[j]? = some ⟨A2, m, c2, ints q⟩) (hk : L[k]? = some ⟨A3, n3, c3, ints r⟩) (hl : L[l]? = some ⟨A4, n4, c4, ints s⟩)  :
    Calls Tryz.prog 26 #[.agg #[.slice A n c, .slice A2 m c2], .agg #[.slice A3 n3 c3, .slice A4 n4 c4]] w (fun e w' => e = .returned (.tuple #[.int .i64 (cmpV p q r s), .int .i64 (cmpE p q r s)]) ∧ Ow w0 w' g M L O) := by
  have H0 := (h.pair (.slice A n c) (.slice A2 m c2) 26).pair (.slice A3 n3 c3) (.slice A4 n4 c4) 26
  simp only [World.size_alloc, List.append_assoc, List.cons_append, List.nil_append] at H0
  have a0 := H0.p0 (O.length + 0) (by rw [get_r]; rfl)
  have a1 := H0.p1 (O.length + 0) (by rw [get_r]; rfl)
  have HV := Lib.hid (qrvalid_ow H0 i j hi hj)
  cases h1 : rv p q with
  | false =>
  rw [h1] at HV
  rw [show cmpV p q r s = 0 by unfold cmpV; rw [h1]; rfl, show cmpE p q r s = 1 by unfold cmpE; rw [h1]; rfl]
  clear h H0 hi hj hk hl h1
  go_enter Tryz.func26, Tryz.ntmps26
  go_wp2_with fail
  refine HV.out.mono ?_
  rintro e w1 ⟨rfl, H⟩
  clear HV a0 a1
  have HF := Lib.hid (H.fewO)
  clear H
  go_wp2_with fail
  go_ret2
  exact ⟨rfl, HF.out⟩
  | true =>
  rw [h1] at HV
  cases h2 : rv r s with
  | false =>
  rw [show cmpV p q r s = 0 by unfold cmpV; rw [h1, h2]; rfl, show cmpE p q r s = 1 by unfold cmpE; rw [h1, h2]; rfl]
  have HR := Lib.hid (And.intro hk (And.intro hl h2))
  clear h H0 hi hj hk hl h1 h2
  go_enter Tryz.func26, Tryz.ntmps26
  go_wp2_with fail
  refine HV.out.mono ?_
  rintro e w1 ⟨rfl, H⟩
  have b0 := H.p0 (O.length + 1) (by rw [get_r]; rfl)
  have b1 := H.p1 (O.length + 1) (by rw [get_r]; rfl)
  have HW := Lib.hid (qrvalid_ow H k l HR.out.1 HR.out.2.1)
  rw [HR.out.2.2] at HW
  clear HV H a0 a1
  go_wp2_with fail
  refine HW.out.mono ?_
  rintro e w2 ⟨rfl, H⟩
  clear HW b0 b1
  have HF := Lib.hid (H.fewO)
  clear H
  go_wp2_with fail
  go_ret2
  exact ⟨rfl, HF.out⟩
  | true =>
  have HR := Lib.hid (And.intro hk (And.intro hl h2))
  have e1 : cmpV p q r s = if num p * num s < Na.top ∧ num r * num q < Na.top then Na.sgn (num p * num s) (num r * num q) else 0 := by unfold cmpV; rw [h1, h2]; rfl
  have e2 : cmpE p q r s = if num p * num s < Na.top ∧ num r * num q < Na.top then 0 else 3 := by unfold cmpE; rw [h1, h2]; rfl
  rw [e1, e2]
  clear e1 e2
  obtain ⟨x, y, hx, hy, -, -, rfl, rfl⟩ := rv_ex h1
  obtain ⟨u, v, hu, hv, -, -, rfl, rfl⟩ := rv_ex h2
  rw [num_dig, num_dig, num_dig, num_dig]
  have HI := Lib.hid (And.intro (nats_lay hi) (And.intro (nats_lay hj) (And.intro (nats_lay hk) (nats_lay hl))))
  have HX := Lib.hid (And.intro hx (And.intro hy (And.intro hu hv)))
  clear h H0 hi hj hk hl h1 h2 hx hy hu hv
  by_cases hX : x * v < Na.top
  · by_cases hZ : u * y < Na.top
    · rw [if_pos ⟨hX, hZ⟩, if_pos ⟨hX, hZ⟩]
      obtain ⟨t, hmk⟩ : ∃ t, Na.sgn (x * v) (u * y) = t := ⟨_, rfl⟩
      rw [hmk]
      have HE := Lib.hid (And.intro hX (And.intro hZ hmk))
      clear hX hZ hmk
      go_enter Tryz.func26, Tryz.ntmps26
      go_wp2_with fail
      refine HV.out.mono ?_
      rintro e w1 ⟨rfl, H⟩
      have b0 := H.p0 (O.length + 1) (by rw [get_r]; rfl)
      have b1 := H.p1 (O.length + 1) (by rw [get_r]; rfl)
      have HW := Lib.hid (qrvalid_ow H k l HR.out.1 HR.out.2.1)
      rw [HR.out.2.2] at HW
      clear HV H a0 a1
      go_wp2_with fail
      refine HW.out.mono ?_
      rintro e w2 ⟨rfl, H⟩
      clear HW b0 b1
      have a0 := H.p0 (O.length + 0) (by rw [get_r]; rfl)
      have b1 := H.p1 (O.length + 1) (by rw [get_r]; rfl)
      have HC := Lib.hid (nrmul_fr H i l HI.out.1 HI.out.2.2.2 HX.out.1 HX.out.2.2.2)
      rw [resL_ok HE.out.1, resE_ok HE.out.1] at HC
      clear H
      go_wp2_with fail
      refine HC.out.mono ?_
      rintro e w3 ⟨B3, m3, d3, rfl, G⟩
      have H := G.boxed (.slice B3 m3 d3) 24
      try simp only [List.append_assoc, List.cons_append, List.nil_append] at H
      clear HC G a0 b1
      have b0 := H.p0 (O.length + 1) (by rw [get_r]; rfl)
      have a1 := H.p1 (O.length + 0) (by rw [get_r]; rfl)
      have HC := Lib.hid (nrmul_fr H k j ((get_l _ _ (get_lt HI.out.2.2.1)).trans HI.out.2.2.1) ((get_l _ _ (get_lt HI.out.2.1)).trans HI.out.2.1) HX.out.2.2.1 HX.out.2.1)
      rw [resL_ok HE.out.2.1, resE_ok HE.out.2.1] at HC
      clear H
      go_wp2_with fail
      refine HC.out.mono ?_
      rintro e w4 ⟨B4, m4, d4, rfl, G⟩
      have H := G.boxed (.slice B4 m4 d4) 24
      try simp only [List.append_assoc, List.cons_append, List.nil_append] at H
      clear HC G b0 a1
      have k0 := H.cell (M.length + 0) (by rw [get_r]; rfl)
      have k1 := H.cell (M.length + 1) (by rw [get_r]; rfl)
      have HC := Lib.hid (nrcmp_fr H (L.length + 0) (L.length + 1) (by rw [get_r]; rfl) (by rw [get_r]; rfl) HE.out.1 HE.out.2.1)
      rw [HE.out.2.2] at HC
      clear H
      go_wp2_with fail
      refine HC.out.mono ?_
      rintro e w5 ⟨rfl, H⟩
      clear HC k0 k1
      have HF := Lib.hid (H.fewM.fewO.less (L' := L) (fun o ho => by simp [ho]))
      clear H
      go_wp2_with fail
      go_ret2
      exact ⟨rfl, HF.out⟩
    · rw [if_neg (fun h => hZ h.2), if_neg (fun h => hZ h.2)]
      have HE := Lib.hid (And.intro hX hZ)
      clear hX hZ
      go_enter Tryz.func26, Tryz.ntmps26
      go_wp2_with fail
      refine HV.out.mono ?_
      rintro e w1 ⟨rfl, H⟩
      have b0 := H.p0 (O.length + 1) (by rw [get_r]; rfl)
      have b1 := H.p1 (O.length + 1) (by rw [get_r]; rfl)
      have HW := Lib.hid (qrvalid_ow H k l HR.out.1 HR.out.2.1)
      rw [HR.out.2.2] at HW
      clear HV H a0 a1
      go_wp2_with fail
      refine HW.out.mono ?_
      rintro e w2 ⟨rfl, H⟩
      clear HW b0 b1
      have a0 := H.p0 (O.length + 0) (by rw [get_r]; rfl)
      have b1 := H.p1 (O.length + 1) (by rw [get_r]; rfl)
      have HC := Lib.hid (nrmul_fr H i l HI.out.1 HI.out.2.2.2 HX.out.1 HX.out.2.2.2)
      rw [resL_ok HE.out.1, resE_ok HE.out.1] at HC
      clear H
      go_wp2_with fail
      refine HC.out.mono ?_
      rintro e w3 ⟨B3, m3, d3, rfl, G⟩
      have H := G.boxed (.slice B3 m3 d3) 24
      try simp only [List.append_assoc, List.cons_append, List.nil_append] at H
      clear HC G a0 b1
      have b0 := H.p0 (O.length + 1) (by rw [get_r]; rfl)
      have a1 := H.p1 (O.length + 0) (by rw [get_r]; rfl)
      have HC := Lib.hid (nrmul_fr H k j ((get_l _ _ (get_lt HI.out.2.2.1)).trans HI.out.2.2.1) ((get_l _ _ (get_lt HI.out.2.1)).trans HI.out.2.1) HX.out.2.2.1 HX.out.2.1)
      rw [resE_nt HE.out.2] at HC
      clear H
      go_wp2_with fail
      refine HC.out.mono ?_
      rintro e w4 ⟨B4, m4, d4, rfl, G⟩
      have H := G.boxed (.slice B4 m4 d4) 24
      try simp only [List.append_assoc, List.cons_append, List.nil_append] at H
      clear HC G b0 a1
      have HF := Lib.hid (H.fewM.fewO.less (L' := L) (fun o ho => by simp [ho]))
      clear H
      go_wp2_with fail
      go_ret2
      exact ⟨rfl, HF.out⟩
  · rw [if_neg (fun h => hX h.1), if_neg (fun h => hX h.1)]
    have HE := Lib.hid hX
    clear hX
    go_enter Tryz.func26, Tryz.ntmps26
    go_wp2_with fail
    refine HV.out.mono ?_
    rintro e w1 ⟨rfl, H⟩
    have b0 := H.p0 (O.length + 1) (by rw [get_r]; rfl)
    have b1 := H.p1 (O.length + 1) (by rw [get_r]; rfl)
    have HW := Lib.hid (qrvalid_ow H k l HR.out.1 HR.out.2.1)
    rw [HR.out.2.2] at HW
    clear HV H a0 a1
    go_wp2_with fail
    refine HW.out.mono ?_
    rintro e w2 ⟨rfl, H⟩
    clear HW b0 b1
    have a0 := H.p0 (O.length + 0) (by rw [get_r]; rfl)
    have b1 := H.p1 (O.length + 1) (by rw [get_r]; rfl)
    have HC := Lib.hid (nrmul_fr H i l HI.out.1 HI.out.2.2.2 HX.out.1 HX.out.2.2.2)
    rw [resE_nt HE.out] at HC
    clear H
    go_wp2_with fail
    refine HC.out.mono ?_
    rintro e w3 ⟨B3, m3, d3, rfl, G⟩
    have H := G.boxed (.slice B3 m3 d3) 24
    try simp only [List.append_assoc, List.cons_append, List.nil_append] at H
    clear HC G a0 b1
    have b0 := H.p0 (O.length + 1) (by rw [get_r]; rfl)
    have a1 := H.p1 (O.length + 0) (by rw [get_r]; rfl)
    have HC := Lib.hid (nrmul_fr H k j ((get_l _ _ (get_lt HI.out.2.2.1)).trans HI.out.2.2.1) ((get_l _ _ (get_lt HI.out.2.1)).trans HI.out.2.1) HX.out.2.2.1 HX.out.2.1)
    clear H
    go_wp2_with fail
    refine HC.out.mono ?_
    rintro e w4 ⟨B4, m4, d4, rfl, G⟩
    have H := G.boxed (.slice B4 m4 d4) 24
    try simp only [List.append_assoc, List.cons_append, List.nil_append] at H
    clear HC G b0 a1
    have HF := Lib.hid (H.fewM.fewO.less (L' := L) (fun o ho => by simp [ho]))
    clear H
    go_wp2_with fail
    go_ret2
    exact ⟨rfl, HF.out⟩
theorem Ow.apart {M : List (Nat × Value)} (h : Ow w0 w g M L O) (i j : Nat) {b c : Nat} {u v : Value} (hi : M[i]? = some (b, u)) (hj : M[j]? = some (c, v)) (hij : i ≠ j) : b ≠ c := by
  rintro rfl
  exact hij (h.st.one i j b u v hi hj)
def GotX (w0 : World) (g : Option Nat) (M : List (Nat × Value)) (L : List Ob) (O : List Rw) (l1 l2 l3 : List Nat) (e0 : Int) (en : Ending) (w' : World) : Prop :=
  ∃ (A1 : Option Addr) (n1 c1 : Nat) (A2 : Option Addr) (n2 c2 : Nat) (A3 : Option Addr) (n3 c3 : Nat), en = .returned (.tuple #[.agg #[.slice A1 n1 c1], .agg #[.slice A2 n2 c2], .agg #[.slice A3 n3 c3], .int .i64 e0]) ∧ Ow w0 w' g M (L ++ [⟨A1, n1, c1, nats l1⟩, ⟨A2, n2, c2, nats l2⟩, ⟨A3, n3, c3, nats l3⟩]) O
theorem gotX_nil (h : Ow w0 w g M L O) (e0 : Int) : GotX w0 g M L O [] [] [] e0 (.returned (.tuple #[.agg #[.slice none 0 0], .agg #[.slice none 0 0], .agg #[.slice none 0 0], .int .i64 e0])) w := by
  refine ⟨none, 0, 0, none, 0, 0, none, 0, 0, rfl, ?_⟩
  have := ((h.old (A := none) (n := 0) (c := 0) (vs := nats []) (Sl.nil _ _ _) rfl (Nat.le_refl _) (by decide)).old (A := none) (n := 0) (c := 0) (vs := nats []) (Sl.nil _ _ _) rfl (Nat.le_refl _) (by decide)).old (A := none) (n := 0) (c := 0) (vs := nats []) (Sl.nil _ _ _) rfl (Nat.le_refl _) (by decide)
  rwa [List.append_assoc, List.append_assoc] at this
set_option maxHeartbeats 8000000 in
theorem qcross_ok {x y u v : Nat} (h : Ow w0 w g M L O) (i j k l : Nat) (hi : L[i]? = some ⟨A, n, c, nats (Na.dig x)⟩) (hj : L[j]? = some ⟨A2, m, c2, nats (Na.dig y)⟩) (hk : L[k]? = some ⟨A3, n3, c3, nats (Na.dig u)⟩) (hl : L[l]? = some ⟨A4, n4, c4, nats (Na.dig v)⟩) (hx : x < Na.top) (hy : y < Na.top) (hu : u < Na.top) (hv : v < Na.top) (hX : x * v < Na.top) (hY : u * y < Na.top) (hZ : y * v < Na.top) :
    Calls Tryz.prog 45 #[.agg #[.slice A n c, .slice A2 m c2], .agg #[.slice A3 n3 c3, .slice A4 n4 c4]] w (GotX w0 g M L O (Na.dig (x * v)) (Na.dig (u * y)) (Na.dig (y * v)) 0) := by
  have H0 := ((((h.pair (.slice A n c) (.slice A2 m c2) 26).pair (.slice A3 n3 c3) (.slice A4 n4 c4) 26).boxed (.slice none 0 0) 24).boxed (.slice none 0 0) 24).boxed (.slice none 0 0) 24
  simp only [World.size_alloc, List.append_assoc, List.cons_append, List.nil_append] at H0
  have H := H0
  have HI := Lib.hid (And.intro hi (And.intro hj (And.intro hk hl)))
  have HX := Lib.hid (And.intro hx (And.intro hy (And.intro hu hv)))
  have HE := Lib.hid (And.intro hX (And.intro hY hZ))
  have q1 := H.p0 (O.length + 0) (by rw [get_r]; rfl)
  have q2 := H.p1 (O.length + 1) (by rw [get_r]; rfl)
  have HC := Lib.hid (nrmul_fr H i l HI.out.1 HI.out.2.2.2 HX.out.1 HX.out.2.2.2)
  rw [resL_ok HE.out.1, resE_ok HE.out.1] at HC
  clear h H0 H hi hj hk hl hx hy hu hv hX hY hZ
  go_enter Tryz.func45, Tryz.ntmps45
  go_wp2_with fail
  refine HC.out.mono ?_
  rintro e w3 ⟨B3, m3, d3, rfl, G⟩
  have H := G.boxed (.slice B3 m3 d3) 24
  simp only [List.append_assoc, List.cons_append, List.nil_append] at H
  clear HC G q1 q2
  have b0 := H.p0 (O.length + 1) (by rw [get_r]; rfl)
  have a1 := H.p1 (O.length + 0) (by rw [get_r]; rfl)
  have HC := Lib.hid (nrmul_fr H k j ((get_l _ _ (get_lt HI.out.2.2.1)).trans HI.out.2.2.1) ((get_l _ _ (get_lt HI.out.2.1)).trans HI.out.2.1) HX.out.2.2.1 HX.out.2.1)
  rw [resL_ok HE.out.2.1, resE_ok HE.out.2.1] at HC
  clear H
  go_wp2_with fail
  refine HC.out.mono ?_
  rintro e w4 ⟨B4, m4, d4, rfl, G⟩
  have H := G.boxed (.slice B4 m4 d4) 24
  try simp only [List.append_assoc, List.cons_append, List.nil_append] at H
  clear HC G b0 a1
  have a1 := H.p1 (O.length + 0) (by rw [get_r]; rfl)
  have b1 := H.p1 (O.length + 1) (by rw [get_r]; rfl)
  have HC := Lib.hid (nrmul_fr H j l ((get_l _ _ (get_lt HI.out.2.1)).trans HI.out.2.1) ((get_l _ _ (get_lt HI.out.2.2.2)).trans HI.out.2.2.2) HX.out.2.1 HX.out.2.2.2)
  rw [resL_ok HE.out.2.2, resE_ok HE.out.2.2] at HC
  clear H
  go_wp2_with fail
  refine HC.out.mono ?_
  rintro e w5 ⟨B5, m5, d5, rfl, G⟩
  have H := G.boxed (.slice B5 m5 d5) 24
  try simp only [List.append_assoc, List.cons_append, List.nil_append] at H
  clear HC G a1 b1
  have HD := Lib.hid H.drew
  have HN := Lib.hid H
  have k0 := H.cell (M.length + 0) (by rw [get_r]; rfl)
  have k1 := H.cell (M.length + 1) (by rw [get_r]; rfl)
  have k2 := H.cell (M.length + 2) (by rw [get_r]; rfl)
  have k3 := H.cell (M.length + 3) (by rw [get_r]; rfl)
  have k4 := H.cell (M.length + 4) (by rw [get_r]; rfl)
  have k5 := H.cell (M.length + 5) (by rw [get_r]; rfl)
  have f0 := H.free (M.length + 0) (by rw [get_r]; rfl)
  have f1 := H.free (M.length + 1) (by rw [get_r]; rfl)
  have f2 := H.free (M.length + 2) (by rw [get_r]; rfl)
  have n03 := H.apart (M.length + 3) (M.length + 0) (by rw [get_r]; rfl) (by rw [get_r]; rfl) (by omega)
  have n04 := H.apart (M.length + 4) (M.length + 0) (by rw [get_r]; rfl) (by rw [get_r]; rfl) (by omega)
  have n05 := H.apart (M.length + 5) (M.length + 0) (by rw [get_r]; rfl) (by rw [get_r]; rfl) (by omega)
  have n13 := H.apart (M.length + 3) (M.length + 1) (by rw [get_r]; rfl) (by rw [get_r]; rfl) (by omega)
  have n14 := H.apart (M.length + 4) (M.length + 1) (by rw [get_r]; rfl) (by rw [get_r]; rfl) (by omega)
  have n15 := H.apart (M.length + 5) (M.length + 1) (by rw [get_r]; rfl) (by rw [get_r]; rfl) (by omega)
  have n23 := H.apart (M.length + 3) (M.length + 2) (by rw [get_r]; rfl) (by rw [get_r]; rfl) (by omega)
  have n24 := H.apart (M.length + 4) (M.length + 2) (by rw [get_r]; rfl) (by rw [get_r]; rfl) (by omega)
  have n25 := H.apart (M.length + 5) (M.length + 2) (by rw [get_r]; rfl) (by rw [get_r]; rfl) (by omega)
  clear H
  go_upto_region 6 with (fail)
  have x0 := HD.out.cell (M.length + 0) (by rw [get_r]; rfl)
  have x1 := HD.out.cell (M.length + 1) (by rw [get_r]; rfl)
  have x2 := HD.out.cell (M.length + 2) (by rw [get_r]; rfl)
  have x3 := HD.out.cell (M.length + 3) (by rw [get_r]; rfl)
  have x4 := HD.out.cell (M.length + 4) (by rw [get_r]; rfl)
  have x5 := HD.out.cell (M.length + 5) (by rw [get_r]; rfl)
  have y0 := HD.out.free (M.length + 0) (by rw [get_r]; rfl)
  have y1 := HD.out.free (M.length + 1) (by rw [get_r]; rfl)
  have y2 := HD.out.free (M.length + 2) (by rw [get_r]; rfl)
  go_region
  have Z1 := HN.out.setv (M.length + 0) (by rw [get_r]; rfl) (.slice B3 m3 d3)
  rw [set_r] at Z1
  simp only [List.set_cons_zero] at Z1
  have Z2 := Z1.setv (M.length + 1) (by rw [get_r]; rfl) (.slice B4 m4 d4)
  rw [set_r] at Z2
  simp only [List.set_cons_succ, List.set_cons_zero] at Z2
  have Z3 := Z2.setv (M.length + 2) (by rw [get_r]; rfl) (.slice B5 m5 d5)
  rw [set_r] at Z3
  simp only [List.set_cons_succ, List.set_cons_zero] at Z3
  have s0 := Z3.cell (M.length + 0) (by rw [get_r]; rfl)
  have s1 := Z3.cell (M.length + 1) (by rw [get_r]; rfl)
  have s2 := Z3.cell (M.length + 2) (by rw [get_r]; rfl)
  have HF := Lib.hid Z3.drew.fewM.fewO
  clear HD HN Z1 Z2 Z3 k0 k1 k2 k3 k4 k5 f0 f1 f2 x0 x1 x2 x3 x4 x5 y0 y1 y2 n03 n04 n05 n13 n14 n15 n23 n24 n25
  go_wp2_with fail
  refine bodyPost_ret (v := .tuple #[.agg #[.slice B3 m3 d3], .agg #[.slice B4 m4 d4], .agg #[.slice B5 m5 d5], .int .i64 0]) (by simp [results, Tryz.results45, go_sem, s0, s1, s2]) rfl ?_
  exact ⟨B3, m3, d3, B4, m4, d4, B5, m5, d5, rfl, HF.out⟩
set_option maxHeartbeats 8000000 in
theorem qcross_x {x y u v : Nat} (h : Ow w0 w g M L O) (i j k l : Nat) (hi : L[i]? = some ⟨A, n, c, nats (Na.dig x)⟩) (hj : L[j]? = some ⟨A2, m, c2, nats (Na.dig y)⟩) (hk : L[k]? = some ⟨A3, n3, c3, nats (Na.dig u)⟩) (hl : L[l]? = some ⟨A4, n4, c4, nats (Na.dig v)⟩) (hx : x < Na.top) (hy : y < Na.top) (hu : u < Na.top) (hv : v < Na.top) (hX : ¬ x * v < Na.top) :
    Calls Tryz.prog 45 #[.agg #[.slice A n c, .slice A2 m c2], .agg #[.slice A3 n3 c3, .slice A4 n4 c4]] w (GotX w0 g M L O [] [] [] 3) := by
  have H0 := ((((h.pair (.slice A n c) (.slice A2 m c2) 26).pair (.slice A3 n3 c3) (.slice A4 n4 c4) 26).boxed (.slice none 0 0) 24).boxed (.slice none 0 0) 24).boxed (.slice none 0 0) 24
  simp only [World.size_alloc, List.append_assoc, List.cons_append, List.nil_append] at H0
  have H := H0
  have HI := Lib.hid (And.intro hi (And.intro hj (And.intro hk hl)))
  have HX := Lib.hid (And.intro hx (And.intro hy (And.intro hu hv)))
  have HE := Lib.hid hX
  have q1 := H.p0 (O.length + 0) (by rw [get_r]; rfl)
  have q2 := H.p1 (O.length + 1) (by rw [get_r]; rfl)
  have HC := Lib.hid (nrmul_fr H i l HI.out.1 HI.out.2.2.2 HX.out.1 HX.out.2.2.2)
  rw [resE_nt HE.out] at HC
  clear h H0 H hi hj hk hl hx hy hu hv hX
  go_enter Tryz.func45, Tryz.ntmps45
  go_wp2_with fail
  refine HC.out.mono ?_
  rintro e w3 ⟨B3, m3, d3, rfl, G⟩
  have H := G.boxed (.slice B3 m3 d3) 24
  simp only [List.append_assoc, List.cons_append, List.nil_append] at H
  clear HC G q1 q2
  have b0 := H.p0 (O.length + 1) (by rw [get_r]; rfl)
  have a1 := H.p1 (O.length + 0) (by rw [get_r]; rfl)
  have HC := Lib.hid (nrmul_fr H k j ((get_l _ _ (get_lt HI.out.2.2.1)).trans HI.out.2.2.1) ((get_l _ _ (get_lt HI.out.2.1)).trans HI.out.2.1) HX.out.2.2.1 HX.out.2.1)
  clear H
  go_wp2_with fail
  refine HC.out.mono ?_
  rintro e w4 ⟨B4, m4, d4, rfl, G⟩
  have H := G.boxed (.slice B4 m4 d4) 24
  try simp only [List.append_assoc, List.cons_append, List.nil_append] at H
  clear HC G b0 a1
  have a1 := H.p1 (O.length + 0) (by rw [get_r]; rfl)
  have b1 := H.p1 (O.length + 1) (by rw [get_r]; rfl)
  have HC := Lib.hid (nrmul_fr H j l ((get_l _ _ (get_lt HI.out.2.1)).trans HI.out.2.1) ((get_l _ _ (get_lt HI.out.2.2.2)).trans HI.out.2.2.2) HX.out.2.1 HX.out.2.2.2)
  clear H
  go_wp2_with fail
  refine HC.out.mono ?_
  rintro e w5 ⟨B5, m5, d5, rfl, G⟩
  have H := G.boxed (.slice B5 m5 d5) 24
  try simp only [List.append_assoc, List.cons_append, List.nil_append] at H
  clear HC G a1 b1
  have k0 := H.cell (M.length + 0) (by rw [get_r]; rfl)
  have k1 := H.cell (M.length + 1) (by rw [get_r]; rfl)
  have k2 := H.cell (M.length + 2) (by rw [get_r]; rfl)
  have f0 := H.free (M.length + 0) (by rw [get_r]; rfl)
  have f1 := H.free (M.length + 1) (by rw [get_r]; rfl)
  have f2 := H.free (M.length + 2) (by rw [get_r]; rfl)
  have Z1 := H.setv (M.length + 0) (by rw [get_r]; rfl) (.slice none 0 0)
  rw [set_r] at Z1
  simp only [List.set_cons_zero] at Z1
  have Z2 := Z1.setv (M.length + 1) (by rw [get_r]; rfl) (.slice none 0 0)
  rw [set_r] at Z2
  simp only [List.set_cons_succ, List.set_cons_zero] at Z2
  have Z3 := Z2.setv (M.length + 2) (by rw [get_r]; rfl) (.slice none 0 0)
  rw [set_r] at Z3
  simp only [List.set_cons_succ, List.set_cons_zero] at Z3
  have s0 := Z3.cell (M.length + 0) (by rw [get_r]; rfl)
  have s1 := Z3.cell (M.length + 1) (by rw [get_r]; rfl)
  have s2 := Z3.cell (M.length + 2) (by rw [get_r]; rfl)
  have HF := Lib.hid (Z3.fewM.fewO.less (L' := L) (fun o ho => by simp [ho]))
  clear H Z1 Z2 Z3
  go_wp2_with fail
  refine bodyPost_ret (v := .tuple #[.agg #[.slice none 0 0], .agg #[.slice none 0 0], .agg #[.slice none 0 0], .int .i64 3]) (by simp [results, Tryz.results45, go_sem, s0, s1, s2]) rfl ?_
  exact gotX_nil HF.out 3
set_option maxHeartbeats 8000000 in
theorem qcross_y {x y u v : Nat} (h : Ow w0 w g M L O) (i j k l : Nat) (hi : L[i]? = some ⟨A, n, c, nats (Na.dig x)⟩) (hj : L[j]? = some ⟨A2, m, c2, nats (Na.dig y)⟩) (hk : L[k]? = some ⟨A3, n3, c3, nats (Na.dig u)⟩) (hl : L[l]? = some ⟨A4, n4, c4, nats (Na.dig v)⟩) (hx : x < Na.top) (hy : y < Na.top) (hu : u < Na.top) (hv : v < Na.top) (hX : x * v < Na.top) (hY : ¬ u * y < Na.top) :
    Calls Tryz.prog 45 #[.agg #[.slice A n c, .slice A2 m c2], .agg #[.slice A3 n3 c3, .slice A4 n4 c4]] w (GotX w0 g M L O [] [] [] 3) := by
  have H0 := ((((h.pair (.slice A n c) (.slice A2 m c2) 26).pair (.slice A3 n3 c3) (.slice A4 n4 c4) 26).boxed (.slice none 0 0) 24).boxed (.slice none 0 0) 24).boxed (.slice none 0 0) 24
  simp only [World.size_alloc, List.append_assoc, List.cons_append, List.nil_append] at H0
  have H := H0
  have HI := Lib.hid (And.intro hi (And.intro hj (And.intro hk hl)))
  have HX := Lib.hid (And.intro hx (And.intro hy (And.intro hu hv)))
  have HE := Lib.hid (And.intro hX hY)
  have q1 := H.p0 (O.length + 0) (by rw [get_r]; rfl)
  have q2 := H.p1 (O.length + 1) (by rw [get_r]; rfl)
  have HC := Lib.hid (nrmul_fr H i l HI.out.1 HI.out.2.2.2 HX.out.1 HX.out.2.2.2)
  rw [resL_ok HE.out.1, resE_ok HE.out.1] at HC
  clear h H0 H hi hj hk hl hx hy hu hv hX hY
  go_enter Tryz.func45, Tryz.ntmps45
  go_wp2_with fail
  refine HC.out.mono ?_
  rintro e w3 ⟨B3, m3, d3, rfl, G⟩
  have H := G.boxed (.slice B3 m3 d3) 24
  simp only [List.append_assoc, List.cons_append, List.nil_append] at H
  clear HC G q1 q2
  have b0 := H.p0 (O.length + 1) (by rw [get_r]; rfl)
  have a1 := H.p1 (O.length + 0) (by rw [get_r]; rfl)
  have HC := Lib.hid (nrmul_fr H k j ((get_l _ _ (get_lt HI.out.2.2.1)).trans HI.out.2.2.1) ((get_l _ _ (get_lt HI.out.2.1)).trans HI.out.2.1) HX.out.2.2.1 HX.out.2.1)
  rw [resE_nt HE.out.2] at HC
  clear H
  go_wp2_with fail
  refine HC.out.mono ?_
  rintro e w4 ⟨B4, m4, d4, rfl, G⟩
  have H := G.boxed (.slice B4 m4 d4) 24
  try simp only [List.append_assoc, List.cons_append, List.nil_append] at H
  clear HC G b0 a1
  have a1 := H.p1 (O.length + 0) (by rw [get_r]; rfl)
  have b1 := H.p1 (O.length + 1) (by rw [get_r]; rfl)
  have HC := Lib.hid (nrmul_fr H j l ((get_l _ _ (get_lt HI.out.2.1)).trans HI.out.2.1) ((get_l _ _ (get_lt HI.out.2.2.2)).trans HI.out.2.2.2) HX.out.2.1 HX.out.2.2.2)
  clear H
  go_wp2_with fail
  refine HC.out.mono ?_
  rintro e w5 ⟨B5, m5, d5, rfl, G⟩
  have H := G.boxed (.slice B5 m5 d5) 24
  try simp only [List.append_assoc, List.cons_append, List.nil_append] at H
  clear HC G a1 b1
  have k0 := H.cell (M.length + 0) (by rw [get_r]; rfl)
  have k1 := H.cell (M.length + 1) (by rw [get_r]; rfl)
  have k2 := H.cell (M.length + 2) (by rw [get_r]; rfl)
  have f0 := H.free (M.length + 0) (by rw [get_r]; rfl)
  have f1 := H.free (M.length + 1) (by rw [get_r]; rfl)
  have f2 := H.free (M.length + 2) (by rw [get_r]; rfl)
  have Z1 := H.setv (M.length + 0) (by rw [get_r]; rfl) (.slice none 0 0)
  rw [set_r] at Z1
  simp only [List.set_cons_zero] at Z1
  have Z2 := Z1.setv (M.length + 1) (by rw [get_r]; rfl) (.slice none 0 0)
  rw [set_r] at Z2
  simp only [List.set_cons_succ, List.set_cons_zero] at Z2
  have Z3 := Z2.setv (M.length + 2) (by rw [get_r]; rfl) (.slice none 0 0)
  rw [set_r] at Z3
  simp only [List.set_cons_succ, List.set_cons_zero] at Z3
  have s0 := Z3.cell (M.length + 0) (by rw [get_r]; rfl)
  have s1 := Z3.cell (M.length + 1) (by rw [get_r]; rfl)
  have s2 := Z3.cell (M.length + 2) (by rw [get_r]; rfl)
  have HF := Lib.hid (Z3.fewM.fewO.less (L' := L) (fun o ho => by simp [ho]))
  clear H Z1 Z2 Z3
  go_wp2_with fail
  refine bodyPost_ret (v := .tuple #[.agg #[.slice none 0 0], .agg #[.slice none 0 0], .agg #[.slice none 0 0], .int .i64 3]) (by simp [results, Tryz.results45, go_sem, s0, s1, s2]) rfl ?_
  exact gotX_nil HF.out 3
set_option maxHeartbeats 8000000 in
theorem qcross_z {x y u v : Nat} (h : Ow w0 w g M L O) (i j k l : Nat) (hi : L[i]? = some ⟨A, n, c, nats (Na.dig x)⟩) (hj : L[j]? = some ⟨A2, m, c2, nats (Na.dig y)⟩) (hk : L[k]? = some ⟨A3, n3, c3, nats (Na.dig u)⟩) (hl : L[l]? = some ⟨A4, n4, c4, nats (Na.dig v)⟩) (hx : x < Na.top) (hy : y < Na.top) (hu : u < Na.top) (hv : v < Na.top) (hX : x * v < Na.top) (hY : u * y < Na.top) (hZ : ¬ y * v < Na.top) :
    Calls Tryz.prog 45 #[.agg #[.slice A n c, .slice A2 m c2], .agg #[.slice A3 n3 c3, .slice A4 n4 c4]] w (GotX w0 g M L O [] [] [] 3) := by
  have H0 := ((((h.pair (.slice A n c) (.slice A2 m c2) 26).pair (.slice A3 n3 c3) (.slice A4 n4 c4) 26).boxed (.slice none 0 0) 24).boxed (.slice none 0 0) 24).boxed (.slice none 0 0) 24
  simp only [World.size_alloc, List.append_assoc, List.cons_append, List.nil_append] at H0
  have H := H0
  have HI := Lib.hid (And.intro hi (And.intro hj (And.intro hk hl)))
  have HX := Lib.hid (And.intro hx (And.intro hy (And.intro hu hv)))
  have HE := Lib.hid (And.intro hX (And.intro hY hZ))
  have q1 := H.p0 (O.length + 0) (by rw [get_r]; rfl)
  have q2 := H.p1 (O.length + 1) (by rw [get_r]; rfl)
  have HC := Lib.hid (nrmul_fr H i l HI.out.1 HI.out.2.2.2 HX.out.1 HX.out.2.2.2)
  rw [resL_ok HE.out.1, resE_ok HE.out.1] at HC
  clear h H0 H hi hj hk hl hx hy hu hv hX hY hZ
  go_enter Tryz.func45, Tryz.ntmps45
  go_wp2_with fail
  refine HC.out.mono ?_
  rintro e w3 ⟨B3, m3, d3, rfl, G⟩
  have H := G.boxed (.slice B3 m3 d3) 24
  simp only [List.append_assoc, List.cons_append, List.nil_append] at H
  clear HC G q1 q2
  have b0 := H.p0 (O.length + 1) (by rw [get_r]; rfl)
  have a1 := H.p1 (O.length + 0) (by rw [get_r]; rfl)
  have HC := Lib.hid (nrmul_fr H k j ((get_l _ _ (get_lt HI.out.2.2.1)).trans HI.out.2.2.1) ((get_l _ _ (get_lt HI.out.2.1)).trans HI.out.2.1) HX.out.2.2.1 HX.out.2.1)
  rw [resL_ok HE.out.2.1, resE_ok HE.out.2.1] at HC
  clear H
  go_wp2_with fail
  refine HC.out.mono ?_
  rintro e w4 ⟨B4, m4, d4, rfl, G⟩
  have H := G.boxed (.slice B4 m4 d4) 24
  try simp only [List.append_assoc, List.cons_append, List.nil_append] at H
  clear HC G b0 a1
  have a1 := H.p1 (O.length + 0) (by rw [get_r]; rfl)
  have b1 := H.p1 (O.length + 1) (by rw [get_r]; rfl)
  have HC := Lib.hid (nrmul_fr H j l ((get_l _ _ (get_lt HI.out.2.1)).trans HI.out.2.1) ((get_l _ _ (get_lt HI.out.2.2.2)).trans HI.out.2.2.2) HX.out.2.1 HX.out.2.2.2)
  rw [resE_nt HE.out.2.2] at HC
  clear H
  go_wp2_with fail
  refine HC.out.mono ?_
  rintro e w5 ⟨B5, m5, d5, rfl, G⟩
  have H := G.boxed (.slice B5 m5 d5) 24
  try simp only [List.append_assoc, List.cons_append, List.nil_append] at H
  clear HC G a1 b1
  have k0 := H.cell (M.length + 0) (by rw [get_r]; rfl)
  have k1 := H.cell (M.length + 1) (by rw [get_r]; rfl)
  have k2 := H.cell (M.length + 2) (by rw [get_r]; rfl)
  have f0 := H.free (M.length + 0) (by rw [get_r]; rfl)
  have f1 := H.free (M.length + 1) (by rw [get_r]; rfl)
  have f2 := H.free (M.length + 2) (by rw [get_r]; rfl)
  have Z1 := H.setv (M.length + 0) (by rw [get_r]; rfl) (.slice none 0 0)
  rw [set_r] at Z1
  simp only [List.set_cons_zero] at Z1
  have Z2 := Z1.setv (M.length + 1) (by rw [get_r]; rfl) (.slice none 0 0)
  rw [set_r] at Z2
  simp only [List.set_cons_succ, List.set_cons_zero] at Z2
  have Z3 := Z2.setv (M.length + 2) (by rw [get_r]; rfl) (.slice none 0 0)
  rw [set_r] at Z3
  simp only [List.set_cons_succ, List.set_cons_zero] at Z3
  have s0 := Z3.cell (M.length + 0) (by rw [get_r]; rfl)
  have s1 := Z3.cell (M.length + 1) (by rw [get_r]; rfl)
  have s2 := Z3.cell (M.length + 2) (by rw [get_r]; rfl)
  have HF := Lib.hid (Z3.fewM.fewO.less (L' := L) (fun o ho => by simp [ho]))
  clear H Z1 Z2 Z3
  go_wp2_with fail
  refine bodyPost_ret (v := .tuple #[.agg #[.slice none 0 0], .agg #[.slice none 0 0], .agg #[.slice none 0 0], .int .i64 3]) (by simp [results, Tryz.results45, go_sem, s0, s1, s2]) rfl ?_
  exact gotX_nil HF.out 3
theorem qcross_no {x y u v : Nat} (h : Ow w0 w g M L O) (i j k l : Nat) (hi : L[i]? = some ⟨A, n, c, nats (Na.dig x)⟩) (hj : L[j]? = some ⟨A2, m, c2, nats (Na.dig y)⟩) (hk : L[k]? = some ⟨A3, n3, c3, nats (Na.dig u)⟩) (hl : L[l]? = some ⟨A4, n4, c4, nats (Na.dig v)⟩) (hx : x < Na.top) (hy : y < Na.top) (hu : u < Na.top) (hv : v < Na.top) (hn : ¬(x * v < Na.top ∧ u * y < Na.top ∧ y * v < Na.top)) :
    Calls Tryz.prog 45 #[.agg #[.slice A n c, .slice A2 m c2], .agg #[.slice A3 n3 c3, .slice A4 n4 c4]] w (GotX w0 g M L O [] [] [] 3) := by
  by_cases hX : x * v < Na.top
  · by_cases hY : u * y < Na.top
    · exact qcross_z h i j k l hi hj hk hl hx hy hu hv hX hY (fun h => hn ⟨hX, hY, h⟩)
    · exact qcross_y h i j k l hi hj hk hl hx hy hu hv hX hY
  · exact qcross_x h i j k l hi hj hk hl hx hy hu hv hX
set_option maxHeartbeats 8000000 in
theorem qrAdd_any (h : Ow w0 w g M L O) (i j k l : Nat) (hi : L[i]? = some ⟨A, n, c, ints p⟩) (hj : L[j]? = some ⟨A2, m, c2, ints q⟩) (hk : L[k]? = some ⟨A3, n3, c3, ints r⟩) (hl : L[l]? = some ⟨A4, n4, c4, ints s⟩)  :
    Calls Tryz.prog 18 #[.agg #[.slice A n c, .slice A2 m c2], .agg #[.slice A3 n3 c3, .slice A4 n4 c4]] w (GotF w0 g M L O (addF p q r s)) := by
  have H0 := ((h.pair (.slice A n c) (.slice A2 m c2) 26).pair (.slice A3 n3 c3) (.slice A4 n4 c4) 26).pair (.slice none 0 0) (.slice none 0 0) 26
  simp only [World.size_alloc, List.append_assoc, List.cons_append, List.nil_append] at H0
  have a0 := H0.p0 (O.length + 0) (by rw [get_r]; rfl)
  have a1 := H0.p1 (O.length + 0) (by rw [get_r]; rfl)
  have HV := Lib.hid (qrvalid_ow H0 i j hi hj)
  cases h1 : rv p q with
  | false =>
  rw [h1] at HV
  rw [show addF p q r s = frE 1 by unfold addF; rw [h1]; rfl]
  clear h H0 hi hj hk hl h1
  go_enter Tryz.func18, Tryz.ntmps18
  go_wp2_with fail
  refine HV.out.mono ?_
  rintro e w1 ⟨rfl, H⟩
  clear HV a0 a1
  have k0 := H.p0 (O.length + 2) (by rw [get_r]; rfl)
  have k1 := H.p1 (O.length + 2) (by rw [get_r]; rfl)
  have f0 := H.pf (O.length + 2) (by rw [get_r]; rfl) 0
  have f1 := H.pf (O.length + 2) (by rw [get_r]; rfl) 1
  have Z3 := H.set0 (O.length + 2) (by rw [get_r]; rfl) (.slice none 0 0)
  rw [set_r] at Z3
  simp only [List.set_cons_succ, List.set_cons_zero] at Z3
  have Z4 := Z3.set1 (O.length + 2) (by rw [get_r]; rfl) (.slice none 0 0)
  rw [set_r] at Z4
  simp only [List.set_cons_succ, List.set_cons_zero] at Z4
  have s0 := Z4.p0 (O.length + 2) (by rw [get_r]; rfl)
  have s1 := Z4.p1 (O.length + 2) (by rw [get_r]; rfl)
  have HF := Lib.hid (Z4.fewO)
  clear H Z3 Z4
  go_wp2_with fail
  refine bodyPost_ret (v := .tuple #[.agg #[.slice none 0 0, .slice none 0 0], .int .i64 1]) (by simp [results, Tryz.results18, go_sem, s0, s1]) rfl ?_
  exact gotF_nil HF.out 1
  | true =>
  rw [h1] at HV
  cases h2 : rv r s with
  | false =>
  rw [show addF p q r s = frE 1 by unfold addF; rw [h1, h2]; rfl]
  have HR := Lib.hid (And.intro hk (And.intro hl h2))
  clear h H0 hi hj hk hl h1 h2
  go_enter Tryz.func18, Tryz.ntmps18
  go_wp2_with fail
  refine HV.out.mono ?_
  rintro e w1 ⟨rfl, H⟩
  have b0 := H.p0 (O.length + 1) (by rw [get_r]; rfl)
  have b1 := H.p1 (O.length + 1) (by rw [get_r]; rfl)
  have HW := Lib.hid (qrvalid_ow H k l HR.out.1 HR.out.2.1)
  rw [HR.out.2.2] at HW
  clear HV H a0 a1
  go_wp2_with fail
  refine HW.out.mono ?_
  rintro e w2 ⟨rfl, H⟩
  clear HW b0 b1
  have k0 := H.p0 (O.length + 2) (by rw [get_r]; rfl)
  have k1 := H.p1 (O.length + 2) (by rw [get_r]; rfl)
  have f0 := H.pf (O.length + 2) (by rw [get_r]; rfl) 0
  have f1 := H.pf (O.length + 2) (by rw [get_r]; rfl) 1
  have Z3 := H.set0 (O.length + 2) (by rw [get_r]; rfl) (.slice none 0 0)
  rw [set_r] at Z3
  simp only [List.set_cons_succ, List.set_cons_zero] at Z3
  have Z4 := Z3.set1 (O.length + 2) (by rw [get_r]; rfl) (.slice none 0 0)
  rw [set_r] at Z4
  simp only [List.set_cons_succ, List.set_cons_zero] at Z4
  have s0 := Z4.p0 (O.length + 2) (by rw [get_r]; rfl)
  have s1 := Z4.p1 (O.length + 2) (by rw [get_r]; rfl)
  have HF := Lib.hid (Z4.fewO)
  clear H Z3 Z4
  go_wp2_with fail
  refine bodyPost_ret (v := .tuple #[.agg #[.slice none 0 0, .slice none 0 0], .int .i64 1]) (by simp [results, Tryz.results18, go_sem, s0, s1]) rfl ?_
  exact gotF_nil HF.out 1
  | true =>
  have HR := Lib.hid (And.intro hk (And.intro hl h2))
  have e1 : addF p q r s = if num p * num s < Na.top ∧ num r * num q < Na.top ∧ num q * num s < Na.top ∧ num p * num s + num r * num q < Na.top then frM (num p * num s + num r * num q) (num q * num s) else frE 3 := by unfold addF; rw [h1, h2]; rfl
  rw [e1]
  clear e1
  obtain ⟨x, y, hx, hy, -, -, rfl, rfl⟩ := rv_ex h1
  obtain ⟨u, v, hu, hv, -, -, rfl, rfl⟩ := rv_ex h2
  rw [num_dig, num_dig, num_dig, num_dig]
  have HI := Lib.hid (And.intro (nats_lay hi) (And.intro (nats_lay hj) (And.intro (nats_lay hk) (nats_lay hl))))
  have HX := Lib.hid (And.intro hx (And.intro hy (And.intro hu hv)))
  clear h H0 hi hj hk hl h1 h2 hx hy hu hv
  by_cases hn : x * v < Na.top ∧ u * y < Na.top ∧ y * v < Na.top
  · obtain ⟨hX, hY, hZ⟩ := hn
    by_cases hs : x * v + u * y < Na.top
    · rw [if_pos ⟨hX, hY, hZ, hs⟩]
      obtain ⟨t, hmk⟩ : ∃ t, frM (x * v + (u * y)) (y * v) = t := ⟨_, rfl⟩
      rw [hmk]
      have HE := Lib.hid (And.intro hX (And.intro hY (And.intro hZ (And.intro hs hmk))))
      clear hX hY hZ hs hmk
      go_enter Tryz.func18, Tryz.ntmps18
      go_wp2_with fail
      refine HV.out.mono ?_
      rintro e w1 ⟨rfl, H⟩
      have b0 := H.p0 (O.length + 1) (by rw [get_r]; rfl)
      have b1 := H.p1 (O.length + 1) (by rw [get_r]; rfl)
      have HW := Lib.hid (qrvalid_ow H k l HR.out.1 HR.out.2.1)
      rw [HR.out.2.2] at HW
      clear HV H a0 a1
      go_wp2_with fail
      refine HW.out.mono ?_
      rintro e w2 ⟨rfl, H⟩
      clear HW b0 b1
      have a0 := H.p0 (O.length + 0) (by rw [get_r]; rfl)
      have a1 := H.p1 (O.length + 0) (by rw [get_r]; rfl)
      have b0 := H.p0 (O.length + 1) (by rw [get_r]; rfl)
      have b1 := H.p1 (O.length + 1) (by rw [get_r]; rfl)
      have HC := Lib.hid (qcross_ok H i j k l HI.out.1 HI.out.2.1 HI.out.2.2.1 HI.out.2.2.2 HX.out.1 HX.out.2.1 HX.out.2.2.1 HX.out.2.2.2 HE.out.1 HE.out.2.1 HE.out.2.2.1)
      clear H
      go_wp2_with fail
      refine HC.out.mono ?_
      rintro e w3 ⟨B3, m3, d3, B4, m4, d4, B5, m5, d5, rfl, G⟩
      have H := ((G.boxed (.slice B3 m3 d3) 24).boxed (.slice B4 m4 d4) 24).boxed (.slice B5 m5 d5) 24
      simp only [World.size_alloc, List.append_assoc, List.cons_append, List.nil_append] at H
      clear HC G a0 a1 b0 b1
      have k0 := H.cell (M.length + 0) (by rw [get_r]; rfl)
      have k1 := H.cell (M.length + 1) (by rw [get_r]; rfl)
      have HC := Lib.hid (nradd_fr H (L.length + 0) (L.length + 1) (by rw [get_r]; rfl) (by rw [get_r]; rfl) HE.out.1 HE.out.2.1)
      rw [resL_ok HE.out.2.2.2.1, resE_ok HE.out.2.2.2.1] at HC
      clear H
      go_wp2_with fail
      refine HC.out.mono ?_
      rintro e w4 ⟨B6, m6, d6, rfl, G⟩
      have H := G.boxed (.slice B6 m6 d6) 24
      simp only [List.append_assoc, List.cons_append, List.nil_append] at H
      clear HC G k0 k1
      have k0 := H.cell (M.length + 3) (by rw [get_r]; rfl)
      have k1 := H.cell (M.length + 2) (by rw [get_r]; rfl)
      have HC := Lib.hid (qrmake_fr H (L.length + 3) (L.length + 2) (by rw [get_r]; rfl) (by rw [get_r]; rfl) HE.out.2.2.2.1 HE.out.2.2.1 HE.out.2.2.2.2)
      clear H
      go_wp2_with fail
      refine HC.out.mono ?_
      rintro e w9 ⟨C1, i1, e1, C2, k2, e2, rfl, G⟩
      clear HC k0 k1
      have z0 := G.p0 (O.length + 2) (by rw [get_r]; rfl)
      have z1 := G.p1 (O.length + 2) (by rw [get_r]; rfl)
      have f0 := G.pf (O.length + 2) (by rw [get_r]; rfl) 0
      have f1 := G.pf (O.length + 2) (by rw [get_r]; rfl) 1
      have Z3 := G.set0 (O.length + 2) (by rw [get_r]; rfl) (.slice C1 i1 e1)
      rw [set_r] at Z3
      simp only [List.set_cons_succ, List.set_cons_zero] at Z3
      have Z4 := Z3.set1 (O.length + 2) (by rw [get_r]; rfl) (.slice C2 k2 e2)
      rw [set_r] at Z4
      simp only [List.set_cons_succ, List.set_cons_zero] at Z4
      have s0 := Z4.p0 (O.length + 2) (by rw [get_r]; rfl)
      have s1 := Z4.p1 (O.length + 2) (by rw [get_r]; rfl)
      have HF := Lib.hid (Z4.fewM.fewO.less (L' := L ++ [⟨C1, i1, e1, _⟩] ++ [⟨C2, k2, e2, _⟩]) (fun o ho => by
        simp only [List.mem_append, List.mem_singleton] at ho ⊢
        rcases ho with (h | h) | h
        · exact .inl (.inl (.inl h))
        · exact .inl (.inr h)
        · exact .inr h))
      clear G Z3 Z4
      go_wp2_with fail
      refine bodyPost_ret (v := .tuple #[.agg #[.slice C1 i1 e1, .slice C2 k2 e2], .int .i64 t.2.2]) (by simp [results, Tryz.results18, go_sem, s0, s1]) rfl ?_
      exact ⟨C1, i1, e1, C2, k2, e2, rfl, HF.out⟩
    · rw [if_neg (fun h => hs h.2.2.2)]
      have HE := Lib.hid (And.intro hX (And.intro hY (And.intro hZ hs)))
      clear hX hY hZ hs
      go_enter Tryz.func18, Tryz.ntmps18
      go_wp2_with fail
      refine HV.out.mono ?_
      rintro e w1 ⟨rfl, H⟩
      have b0 := H.p0 (O.length + 1) (by rw [get_r]; rfl)
      have b1 := H.p1 (O.length + 1) (by rw [get_r]; rfl)
      have HW := Lib.hid (qrvalid_ow H k l HR.out.1 HR.out.2.1)
      rw [HR.out.2.2] at HW
      clear HV H a0 a1
      go_wp2_with fail
      refine HW.out.mono ?_
      rintro e w2 ⟨rfl, H⟩
      clear HW b0 b1
      have a0 := H.p0 (O.length + 0) (by rw [get_r]; rfl)
      have a1 := H.p1 (O.length + 0) (by rw [get_r]; rfl)
      have b0 := H.p0 (O.length + 1) (by rw [get_r]; rfl)
      have b1 := H.p1 (O.length + 1) (by rw [get_r]; rfl)
      have HC := Lib.hid (qcross_ok H i j k l HI.out.1 HI.out.2.1 HI.out.2.2.1 HI.out.2.2.2 HX.out.1 HX.out.2.1 HX.out.2.2.1 HX.out.2.2.2 HE.out.1 HE.out.2.1 HE.out.2.2.1)
      clear H
      go_wp2_with fail
      refine HC.out.mono ?_
      rintro e w3 ⟨B3, m3, d3, B4, m4, d4, B5, m5, d5, rfl, G⟩
      have H := ((G.boxed (.slice B3 m3 d3) 24).boxed (.slice B4 m4 d4) 24).boxed (.slice B5 m5 d5) 24
      simp only [World.size_alloc, List.append_assoc, List.cons_append, List.nil_append] at H
      clear HC G a0 a1 b0 b1
      have k0 := H.cell (M.length + 0) (by rw [get_r]; rfl)
      have k1 := H.cell (M.length + 1) (by rw [get_r]; rfl)
      have HC := Lib.hid (nradd_fr H (L.length + 0) (L.length + 1) (by rw [get_r]; rfl) (by rw [get_r]; rfl) HE.out.1 HE.out.2.1)
      rw [resE_nt HE.out.2.2.2] at HC
      clear H
      go_wp2_with fail
      refine HC.out.mono ?_
      rintro e w4 ⟨B6, m6, d6, rfl, G⟩
      have H := G.boxed (.slice B6 m6 d6) 24
      simp only [List.append_assoc, List.cons_append, List.nil_append] at H
      clear HC G k0 k1
      have k0 := H.p0 (O.length + 2) (by rw [get_r]; rfl)
      have k1 := H.p1 (O.length + 2) (by rw [get_r]; rfl)
      have f0 := H.pf (O.length + 2) (by rw [get_r]; rfl) 0
      have f1 := H.pf (O.length + 2) (by rw [get_r]; rfl) 1
      have Z3 := H.set0 (O.length + 2) (by rw [get_r]; rfl) (.slice none 0 0)
      rw [set_r] at Z3
      simp only [List.set_cons_succ, List.set_cons_zero] at Z3
      have Z4 := Z3.set1 (O.length + 2) (by rw [get_r]; rfl) (.slice none 0 0)
      rw [set_r] at Z4
      simp only [List.set_cons_succ, List.set_cons_zero] at Z4
      have s0 := Z4.p0 (O.length + 2) (by rw [get_r]; rfl)
      have s1 := Z4.p1 (O.length + 2) (by rw [get_r]; rfl)
      have HF := Lib.hid (Z4.fewM.fewO.less (L' := L) (fun o ho => by simp [ho]))
      clear H Z3 Z4
      go_wp2_with fail
      refine bodyPost_ret (v := .tuple #[.agg #[.slice none 0 0, .slice none 0 0], .int .i64 3]) (by simp [results, Tryz.results18, go_sem, s0, s1]) rfl ?_
      exact gotF_nil HF.out 3
  · rw [if_neg (fun h => hn ⟨h.1, h.2.1, h.2.2.1⟩)]
    have HE := Lib.hid hn
    clear hn
    go_enter Tryz.func18, Tryz.ntmps18
    go_wp2_with fail
    refine HV.out.mono ?_
    rintro e w1 ⟨rfl, H⟩
    have b0 := H.p0 (O.length + 1) (by rw [get_r]; rfl)
    have b1 := H.p1 (O.length + 1) (by rw [get_r]; rfl)
    have HW := Lib.hid (qrvalid_ow H k l HR.out.1 HR.out.2.1)
    rw [HR.out.2.2] at HW
    clear HV H a0 a1
    go_wp2_with fail
    refine HW.out.mono ?_
    rintro e w2 ⟨rfl, H⟩
    clear HW b0 b1
    have a0 := H.p0 (O.length + 0) (by rw [get_r]; rfl)
    have a1 := H.p1 (O.length + 0) (by rw [get_r]; rfl)
    have b0 := H.p0 (O.length + 1) (by rw [get_r]; rfl)
    have b1 := H.p1 (O.length + 1) (by rw [get_r]; rfl)
    have HC := Lib.hid (qcross_no H i j k l HI.out.1 HI.out.2.1 HI.out.2.2.1 HI.out.2.2.2 HX.out.1 HX.out.2.1 HX.out.2.2.1 HX.out.2.2.2 HE.out)
    clear H
    go_wp2_with fail
    refine HC.out.mono ?_
    rintro e w3 ⟨B3, m3, d3, B4, m4, d4, B5, m5, d5, rfl, G⟩
    have H := ((G.boxed (.slice B3 m3 d3) 24).boxed (.slice B4 m4 d4) 24).boxed (.slice B5 m5 d5) 24
    simp only [World.size_alloc, List.append_assoc, List.cons_append, List.nil_append] at H
    clear HC G a0 a1 b0 b1
    have k0 := H.p0 (O.length + 2) (by rw [get_r]; rfl)
    have k1 := H.p1 (O.length + 2) (by rw [get_r]; rfl)
    have f0 := H.pf (O.length + 2) (by rw [get_r]; rfl) 0
    have f1 := H.pf (O.length + 2) (by rw [get_r]; rfl) 1
    have Z3 := H.set0 (O.length + 2) (by rw [get_r]; rfl) (.slice none 0 0)
    rw [set_r] at Z3
    simp only [List.set_cons_succ, List.set_cons_zero] at Z3
    have Z4 := Z3.set1 (O.length + 2) (by rw [get_r]; rfl) (.slice none 0 0)
    rw [set_r] at Z4
    simp only [List.set_cons_succ, List.set_cons_zero] at Z4
    have s0 := Z4.p0 (O.length + 2) (by rw [get_r]; rfl)
    have s1 := Z4.p1 (O.length + 2) (by rw [get_r]; rfl)
    have HF := Lib.hid (Z4.fewM.fewO.less (L' := L) (fun o ho => by simp [ho]))
    clear H Z3 Z4
    go_wp2_with fail
    refine bodyPost_ret (v := .tuple #[.agg #[.slice none 0 0, .slice none 0 0], .int .i64 3]) (by simp [results, Tryz.results18, go_sem, s0, s1]) rfl ?_
    exact gotF_nil HF.out 3
set_option maxHeartbeats 8000000 in
theorem qrSub_any (h : Ow w0 w g M L O) (i j k l : Nat) (hi : L[i]? = some ⟨A, n, c, ints p⟩) (hj : L[j]? = some ⟨A2, m, c2, ints q⟩) (hk : L[k]? = some ⟨A3, n3, c3, ints r⟩) (hl : L[l]? = some ⟨A4, n4, c4, ints s⟩)  :
    Calls Tryz.prog 20 #[.agg #[.slice A n c, .slice A2 m c2], .agg #[.slice A3 n3 c3, .slice A4 n4 c4]] w (GotF w0 g M L O (subF p q r s)) := by
  have H0 := ((h.pair (.slice A n c) (.slice A2 m c2) 26).pair (.slice A3 n3 c3) (.slice A4 n4 c4) 26).pair (.slice none 0 0) (.slice none 0 0) 26
  simp only [World.size_alloc, List.append_assoc, List.cons_append, List.nil_append] at H0
  have a0 := H0.p0 (O.length + 0) (by rw [get_r]; rfl)
  have a1 := H0.p1 (O.length + 0) (by rw [get_r]; rfl)
  have HV := Lib.hid (qrvalid_ow H0 i j hi hj)
  cases h1 : rv p q with
  | false =>
  rw [h1] at HV
  rw [show subF p q r s = frE 1 by unfold subF; rw [h1]; rfl]
  clear h H0 hi hj hk hl h1
  go_enter Tryz.func20, Tryz.ntmps20
  go_wp2_with fail
  refine HV.out.mono ?_
  rintro e w1 ⟨rfl, H⟩
  clear HV a0 a1
  have k0 := H.p0 (O.length + 2) (by rw [get_r]; rfl)
  have k1 := H.p1 (O.length + 2) (by rw [get_r]; rfl)
  have f0 := H.pf (O.length + 2) (by rw [get_r]; rfl) 0
  have f1 := H.pf (O.length + 2) (by rw [get_r]; rfl) 1
  have Z3 := H.set0 (O.length + 2) (by rw [get_r]; rfl) (.slice none 0 0)
  rw [set_r] at Z3
  simp only [List.set_cons_succ, List.set_cons_zero] at Z3
  have Z4 := Z3.set1 (O.length + 2) (by rw [get_r]; rfl) (.slice none 0 0)
  rw [set_r] at Z4
  simp only [List.set_cons_succ, List.set_cons_zero] at Z4
  have s0 := Z4.p0 (O.length + 2) (by rw [get_r]; rfl)
  have s1 := Z4.p1 (O.length + 2) (by rw [get_r]; rfl)
  have HF := Lib.hid (Z4.fewO)
  clear H Z3 Z4
  go_wp2_with fail
  refine bodyPost_ret (v := .tuple #[.agg #[.slice none 0 0, .slice none 0 0], .int .i64 1]) (by simp [results, Tryz.results20, go_sem, s0, s1]) rfl ?_
  exact gotF_nil HF.out 1
  | true =>
  rw [h1] at HV
  cases h2 : rv r s with
  | false =>
  rw [show subF p q r s = frE 1 by unfold subF; rw [h1, h2]; rfl]
  have HR := Lib.hid (And.intro hk (And.intro hl h2))
  clear h H0 hi hj hk hl h1 h2
  go_enter Tryz.func20, Tryz.ntmps20
  go_wp2_with fail
  refine HV.out.mono ?_
  rintro e w1 ⟨rfl, H⟩
  have b0 := H.p0 (O.length + 1) (by rw [get_r]; rfl)
  have b1 := H.p1 (O.length + 1) (by rw [get_r]; rfl)
  have HW := Lib.hid (qrvalid_ow H k l HR.out.1 HR.out.2.1)
  rw [HR.out.2.2] at HW
  clear HV H a0 a1
  go_wp2_with fail
  refine HW.out.mono ?_
  rintro e w2 ⟨rfl, H⟩
  clear HW b0 b1
  have k0 := H.p0 (O.length + 2) (by rw [get_r]; rfl)
  have k1 := H.p1 (O.length + 2) (by rw [get_r]; rfl)
  have f0 := H.pf (O.length + 2) (by rw [get_r]; rfl) 0
  have f1 := H.pf (O.length + 2) (by rw [get_r]; rfl) 1
  have Z3 := H.set0 (O.length + 2) (by rw [get_r]; rfl) (.slice none 0 0)
  rw [set_r] at Z3
  simp only [List.set_cons_succ, List.set_cons_zero] at Z3
  have Z4 := Z3.set1 (O.length + 2) (by rw [get_r]; rfl) (.slice none 0 0)
  rw [set_r] at Z4
  simp only [List.set_cons_succ, List.set_cons_zero] at Z4
  have s0 := Z4.p0 (O.length + 2) (by rw [get_r]; rfl)
  have s1 := Z4.p1 (O.length + 2) (by rw [get_r]; rfl)
  have HF := Lib.hid (Z4.fewO)
  clear H Z3 Z4
  go_wp2_with fail
  refine bodyPost_ret (v := .tuple #[.agg #[.slice none 0 0, .slice none 0 0], .int .i64 1]) (by simp [results, Tryz.results20, go_sem, s0, s1]) rfl ?_
  exact gotF_nil HF.out 1
  | true =>
  have HR := Lib.hid (And.intro hk (And.intro hl h2))
  have e1 : subF p q r s = if num p * num s < Na.top ∧ num r * num q < Na.top ∧ num q * num s < Na.top then (if num r * num q ≤ num p * num s then frM (num p * num s - num r * num q) (num q * num s) else frE 5) else frE 3 := by unfold subF; rw [h1, h2]; rfl
  rw [e1]
  clear e1
  obtain ⟨x, y, hx, hy, -, -, rfl, rfl⟩ := rv_ex h1
  obtain ⟨u, v, hu, hv, -, -, rfl, rfl⟩ := rv_ex h2
  rw [num_dig, num_dig, num_dig, num_dig]
  have HI := Lib.hid (And.intro (nats_lay hi) (And.intro (nats_lay hj) (And.intro (nats_lay hk) (nats_lay hl))))
  have HX := Lib.hid (And.intro hx (And.intro hy (And.intro hu hv)))
  clear h H0 hi hj hk hl h1 h2 hx hy hu hv
  by_cases hn : x * v < Na.top ∧ u * y < Na.top ∧ y * v < Na.top
  · obtain ⟨hX, hY, hZ⟩ := hn
    by_cases hs : u * y ≤ x * v
    · rw [if_pos ⟨hX, hY, hZ⟩, if_pos hs]
      obtain ⟨t, hmk⟩ : ∃ t, frM (x * v - (u * y)) (y * v) = t := ⟨_, rfl⟩
      rw [hmk]
      have HE := Lib.hid (And.intro hX (And.intro hY (And.intro hZ (And.intro hs hmk))))
      clear hX hY hZ hs hmk
      go_enter Tryz.func20, Tryz.ntmps20
      go_wp2_with fail
      refine HV.out.mono ?_
      rintro e w1 ⟨rfl, H⟩
      have b0 := H.p0 (O.length + 1) (by rw [get_r]; rfl)
      have b1 := H.p1 (O.length + 1) (by rw [get_r]; rfl)
      have HW := Lib.hid (qrvalid_ow H k l HR.out.1 HR.out.2.1)
      rw [HR.out.2.2] at HW
      clear HV H a0 a1
      go_wp2_with fail
      refine HW.out.mono ?_
      rintro e w2 ⟨rfl, H⟩
      clear HW b0 b1
      have a0 := H.p0 (O.length + 0) (by rw [get_r]; rfl)
      have a1 := H.p1 (O.length + 0) (by rw [get_r]; rfl)
      have b0 := H.p0 (O.length + 1) (by rw [get_r]; rfl)
      have b1 := H.p1 (O.length + 1) (by rw [get_r]; rfl)
      have HC := Lib.hid (qcross_ok H i j k l HI.out.1 HI.out.2.1 HI.out.2.2.1 HI.out.2.2.2 HX.out.1 HX.out.2.1 HX.out.2.2.1 HX.out.2.2.2 HE.out.1 HE.out.2.1 HE.out.2.2.1)
      clear H
      go_wp2_with fail
      refine HC.out.mono ?_
      rintro e w3 ⟨B3, m3, d3, B4, m4, d4, B5, m5, d5, rfl, G⟩
      have H := ((G.boxed (.slice B3 m3 d3) 24).boxed (.slice B4 m4 d4) 24).boxed (.slice B5 m5 d5) 24
      simp only [World.size_alloc, List.append_assoc, List.cons_append, List.nil_append] at H
      clear HC G a0 a1 b0 b1
      have k0 := H.cell (M.length + 0) (by rw [get_r]; rfl)
      have k1 := H.cell (M.length + 1) (by rw [get_r]; rfl)
      have HC := Lib.hid (nrsub_fr H (L.length + 0) (L.length + 1) (by rw [get_r]; rfl) (by rw [get_r]; rfl) HE.out.1 HE.out.2.1)
      rw [if_neg (Nat.not_lt.2 HE.out.2.2.2.1), if_neg (Nat.not_lt.2 HE.out.2.2.2.1)] at HC
      clear H
      go_wp2_with fail
      refine HC.out.mono ?_
      rintro e w4 ⟨B6, m6, d6, rfl, G⟩
      have H := G.boxed (.slice B6 m6 d6) 24
      simp only [List.append_assoc, List.cons_append, List.nil_append] at H
      clear HC G k0 k1
      have k0 := H.cell (M.length + 3) (by rw [get_r]; rfl)
      have k1 := H.cell (M.length + 2) (by rw [get_r]; rfl)
      have HC := Lib.hid (qrmake_fr H (L.length + 3) (L.length + 2) (by rw [get_r]; rfl) (by rw [get_r]; rfl) (Nat.lt_of_le_of_lt (Nat.sub_le _ _) HE.out.1) HE.out.2.2.1 HE.out.2.2.2.2)
      clear H
      go_wp2_with fail
      refine HC.out.mono ?_
      rintro e w9 ⟨C1, i1, e1, C2, k2, e2, rfl, G⟩
      clear HC k0 k1
      have z0 := G.p0 (O.length + 2) (by rw [get_r]; rfl)
      have z1 := G.p1 (O.length + 2) (by rw [get_r]; rfl)
      have f0 := G.pf (O.length + 2) (by rw [get_r]; rfl) 0
      have f1 := G.pf (O.length + 2) (by rw [get_r]; rfl) 1
      have Z3 := G.set0 (O.length + 2) (by rw [get_r]; rfl) (.slice C1 i1 e1)
      rw [set_r] at Z3
      simp only [List.set_cons_succ, List.set_cons_zero] at Z3
      have Z4 := Z3.set1 (O.length + 2) (by rw [get_r]; rfl) (.slice C2 k2 e2)
      rw [set_r] at Z4
      simp only [List.set_cons_succ, List.set_cons_zero] at Z4
      have s0 := Z4.p0 (O.length + 2) (by rw [get_r]; rfl)
      have s1 := Z4.p1 (O.length + 2) (by rw [get_r]; rfl)
      have HF := Lib.hid (Z4.fewM.fewO.less (L' := L ++ [⟨C1, i1, e1, _⟩] ++ [⟨C2, k2, e2, _⟩]) (fun o ho => by
        simp only [List.mem_append, List.mem_singleton] at ho ⊢
        rcases ho with (h | h) | h
        · exact .inl (.inl (.inl h))
        · exact .inl (.inr h)
        · exact .inr h))
      clear G Z3 Z4
      go_wp2_with fail
      refine bodyPost_ret (v := .tuple #[.agg #[.slice C1 i1 e1, .slice C2 k2 e2], .int .i64 t.2.2]) (by simp [results, Tryz.results20, go_sem, s0, s1]) rfl ?_
      exact ⟨C1, i1, e1, C2, k2, e2, rfl, HF.out⟩
    · rw [if_pos ⟨hX, hY, hZ⟩, if_neg hs]
      have HE := Lib.hid (And.intro hX (And.intro hY (And.intro hZ hs)))
      clear hX hY hZ hs
      go_enter Tryz.func20, Tryz.ntmps20
      go_wp2_with fail
      refine HV.out.mono ?_
      rintro e w1 ⟨rfl, H⟩
      have b0 := H.p0 (O.length + 1) (by rw [get_r]; rfl)
      have b1 := H.p1 (O.length + 1) (by rw [get_r]; rfl)
      have HW := Lib.hid (qrvalid_ow H k l HR.out.1 HR.out.2.1)
      rw [HR.out.2.2] at HW
      clear HV H a0 a1
      go_wp2_with fail
      refine HW.out.mono ?_
      rintro e w2 ⟨rfl, H⟩
      clear HW b0 b1
      have a0 := H.p0 (O.length + 0) (by rw [get_r]; rfl)
      have a1 := H.p1 (O.length + 0) (by rw [get_r]; rfl)
      have b0 := H.p0 (O.length + 1) (by rw [get_r]; rfl)
      have b1 := H.p1 (O.length + 1) (by rw [get_r]; rfl)
      have HC := Lib.hid (qcross_ok H i j k l HI.out.1 HI.out.2.1 HI.out.2.2.1 HI.out.2.2.2 HX.out.1 HX.out.2.1 HX.out.2.2.1 HX.out.2.2.2 HE.out.1 HE.out.2.1 HE.out.2.2.1)
      clear H
      go_wp2_with fail
      refine HC.out.mono ?_
      rintro e w3 ⟨B3, m3, d3, B4, m4, d4, B5, m5, d5, rfl, G⟩
      have H := ((G.boxed (.slice B3 m3 d3) 24).boxed (.slice B4 m4 d4) 24).boxed (.slice B5 m5 d5) 24
      simp only [World.size_alloc, List.append_assoc, List.cons_append, List.nil_append] at H
      clear HC G a0 a1 b0 b1
      have k0 := H.cell (M.length + 0) (by rw [get_r]; rfl)
      have k1 := H.cell (M.length + 1) (by rw [get_r]; rfl)
      have HC := Lib.hid (nrsub_fr H (L.length + 0) (L.length + 1) (by rw [get_r]; rfl) (by rw [get_r]; rfl) HE.out.1 HE.out.2.1)
      rw [if_pos (Nat.lt_of_not_le HE.out.2.2.2), if_pos (Nat.lt_of_not_le HE.out.2.2.2)] at HC
      clear H
      go_wp2_with fail
      refine HC.out.mono ?_
      rintro e w4 ⟨B6, m6, d6, rfl, G⟩
      have H := G.boxed (.slice B6 m6 d6) 24
      simp only [List.append_assoc, List.cons_append, List.nil_append] at H
      clear HC G k0 k1
      have k0 := H.p0 (O.length + 2) (by rw [get_r]; rfl)
      have k1 := H.p1 (O.length + 2) (by rw [get_r]; rfl)
      have f0 := H.pf (O.length + 2) (by rw [get_r]; rfl) 0
      have f1 := H.pf (O.length + 2) (by rw [get_r]; rfl) 1
      have Z3 := H.set0 (O.length + 2) (by rw [get_r]; rfl) (.slice none 0 0)
      rw [set_r] at Z3
      simp only [List.set_cons_succ, List.set_cons_zero] at Z3
      have Z4 := Z3.set1 (O.length + 2) (by rw [get_r]; rfl) (.slice none 0 0)
      rw [set_r] at Z4
      simp only [List.set_cons_succ, List.set_cons_zero] at Z4
      have s0 := Z4.p0 (O.length + 2) (by rw [get_r]; rfl)
      have s1 := Z4.p1 (O.length + 2) (by rw [get_r]; rfl)
      have HF := Lib.hid (Z4.fewM.fewO.less (L' := L) (fun o ho => by simp [ho]))
      clear H Z3 Z4
      go_wp2_with fail
      refine bodyPost_ret (v := .tuple #[.agg #[.slice none 0 0, .slice none 0 0], .int .i64 5]) (by simp [results, Tryz.results20, go_sem, s0, s1]) rfl ?_
      exact gotF_nil HF.out 5
  · rw [if_neg (fun h => hn ⟨h.1, h.2.1, h.2.2⟩)]
    have HE := Lib.hid hn
    clear hn
    go_enter Tryz.func20, Tryz.ntmps20
    go_wp2_with fail
    refine HV.out.mono ?_
    rintro e w1 ⟨rfl, H⟩
    have b0 := H.p0 (O.length + 1) (by rw [get_r]; rfl)
    have b1 := H.p1 (O.length + 1) (by rw [get_r]; rfl)
    have HW := Lib.hid (qrvalid_ow H k l HR.out.1 HR.out.2.1)
    rw [HR.out.2.2] at HW
    clear HV H a0 a1
    go_wp2_with fail
    refine HW.out.mono ?_
    rintro e w2 ⟨rfl, H⟩
    clear HW b0 b1
    have a0 := H.p0 (O.length + 0) (by rw [get_r]; rfl)
    have a1 := H.p1 (O.length + 0) (by rw [get_r]; rfl)
    have b0 := H.p0 (O.length + 1) (by rw [get_r]; rfl)
    have b1 := H.p1 (O.length + 1) (by rw [get_r]; rfl)
    have HC := Lib.hid (qcross_no H i j k l HI.out.1 HI.out.2.1 HI.out.2.2.1 HI.out.2.2.2 HX.out.1 HX.out.2.1 HX.out.2.2.1 HX.out.2.2.2 HE.out)
    clear H
    go_wp2_with fail
    refine HC.out.mono ?_
    rintro e w3 ⟨B3, m3, d3, B4, m4, d4, B5, m5, d5, rfl, G⟩
    have H := ((G.boxed (.slice B3 m3 d3) 24).boxed (.slice B4 m4 d4) 24).boxed (.slice B5 m5 d5) 24
    simp only [World.size_alloc, List.append_assoc, List.cons_append, List.nil_append] at H
    clear HC G a0 a1 b0 b1
    have k0 := H.p0 (O.length + 2) (by rw [get_r]; rfl)
    have k1 := H.p1 (O.length + 2) (by rw [get_r]; rfl)
    have f0 := H.pf (O.length + 2) (by rw [get_r]; rfl) 0
    have f1 := H.pf (O.length + 2) (by rw [get_r]; rfl) 1
    have Z3 := H.set0 (O.length + 2) (by rw [get_r]; rfl) (.slice none 0 0)
    rw [set_r] at Z3
    simp only [List.set_cons_succ, List.set_cons_zero] at Z3
    have Z4 := Z3.set1 (O.length + 2) (by rw [get_r]; rfl) (.slice none 0 0)
    rw [set_r] at Z4
    simp only [List.set_cons_succ, List.set_cons_zero] at Z4
    have s0 := Z4.p0 (O.length + 2) (by rw [get_r]; rfl)
    have s1 := Z4.p1 (O.length + 2) (by rw [get_r]; rfl)
    have HF := Lib.hid (Z4.fewM.fewO.less (L' := L) (fun o ho => by simp [ho]))
    clear H Z3 Z4
    go_wp2_with fail
    refine bodyPost_ret (v := .tuple #[.agg #[.slice none 0 0, .slice none 0 0], .int .i64 3]) (by simp [results, Tryz.results20, go_sem, s0, s1]) rfl ?_
    exact gotF_nil HF.out 3
end
end Go.Proofs.YtnfjnlnphdmdmaaGreatDoor

/- The document's quotient and whole part of any fractions; what agree compares. -/
namespace Go.Proofs.YtnfjnlnphdmdmaaGreatDoor
open Go.RowKit Go.Sort
set_option linter.unusedVariables false
set_option maxRecDepth 100000
theorem Ow.self {w0 w : World} {g : Option Nat} {M : List (Nat × Value)} {L : List Ob} {O : List Rw} (h : Ow w0 w g M L O) : Ow w w none [] L [] :=
  Ow.of ⟨Below.refl _ _, fun x e => (by cases e), fun i b v h => (by simp at h), fun i j b u v h => (by simp at h), fun o ho => by
    obtain ⟨h1, h2, h3, B, hB, hs, -⟩ := h.st.held o ho
    exact ⟨h1, h2, h3, B, hB, hs, fun ad _ _ => ⟨(by simp), fun i b v h => (by simp at h)⟩⟩⟩
section
variable {w0 w w' : World} {g : Option Nat} {M M2 : List (Nat × Value)} {L : List Ob} {O : List Rw} {A A2 A3 A4 : Option Addr} {b n c m c2 n3 c3 n4 c4 x y : Nat} {p q r s : List Int}
set_option maxHeartbeats 8000000 in
theorem qrdiv_any (h : Ow w0 w g M L O) (i j k l : Nat) (hi : L[i]? = some ⟨A, n, c, ints p⟩) (hj : L[j]? = some ⟨A2, m, c2, ints q⟩) (hk : L[k]? = some ⟨A3, n3, c3, ints r⟩) (hl : L[l]? = some ⟨A4, n4, c4, ints s⟩)  :
    Calls Tryz.prog 24 #[.agg #[.slice A n c, .slice A2 m c2], .agg #[.slice A3 n3 c3, .slice A4 n4 c4]] w (GotF w0 g M L O (divF p q r s)) := by
  have hn3 : n3 = r.length := by have := (h.sl hk).1; rw [ints_length] at this; exact this.symm
  have H0 := ((h.pair (.slice A n c) (.slice A2 m c2) 26).pair (.slice A3 n3 c3) (.slice A4 n4 c4) 26).pair (.slice none 0 0) (.slice none 0 0) 26
  simp only [World.size_alloc, List.append_assoc, List.cons_append, List.nil_append] at H0
  have a0 := H0.p0 (O.length + 0) (by rw [get_r]; rfl)
  have a1 := H0.p1 (O.length + 0) (by rw [get_r]; rfl)
  have HV := Lib.hid (qrvalid_ow H0 i j hi hj)
  cases h1 : rv p q with
  | false =>
  rw [h1] at HV
  rw [show divF p q r s = frE 1 by unfold divF; rw [h1]; rfl]
  clear h H0 hi hj hk hl h1 hn3
  go_enter Tryz.func24, Tryz.ntmps24
  go_wp2_with fail
  refine HV.out.mono ?_
  rintro e w1 ⟨rfl, H⟩
  clear HV a0 a1
  have k0 := H.p0 (O.length + 2) (by rw [get_r]; rfl)
  have k1 := H.p1 (O.length + 2) (by rw [get_r]; rfl)
  have f0 := H.pf (O.length + 2) (by rw [get_r]; rfl) 0
  have f1 := H.pf (O.length + 2) (by rw [get_r]; rfl) 1
  have Z3 := H.set0 (O.length + 2) (by rw [get_r]; rfl) (.slice none 0 0)
  rw [set_r] at Z3
  simp only [List.set_cons_succ, List.set_cons_zero] at Z3
  have Z4 := Z3.set1 (O.length + 2) (by rw [get_r]; rfl) (.slice none 0 0)
  rw [set_r] at Z4
  simp only [List.set_cons_succ, List.set_cons_zero] at Z4
  have s0 := Z4.p0 (O.length + 2) (by rw [get_r]; rfl)
  have s1 := Z4.p1 (O.length + 2) (by rw [get_r]; rfl)
  have HF := Lib.hid (Z4.fewO)
  clear H Z3 Z4
  go_wp2_with fail
  refine bodyPost_ret (v := .tuple #[.agg #[.slice none 0 0, .slice none 0 0], .int .i64 1]) (by simp [results, Tryz.results24, go_sem, s0, s1]) rfl ?_
  exact gotF_nil HF.out 1
  | true =>
  rw [h1] at HV
  cases h2 : rv r s with
  | false =>
  rw [show divF p q r s = frE 1 by unfold divF; rw [h1, h2]; rfl]
  have HR := Lib.hid (And.intro hk (And.intro hl h2))
  clear h H0 hi hj hk hl h1 h2 hn3
  go_enter Tryz.func24, Tryz.ntmps24
  go_wp2_with fail
  refine HV.out.mono ?_
  rintro e w1 ⟨rfl, H⟩
  have b0 := H.p0 (O.length + 1) (by rw [get_r]; rfl)
  have b1 := H.p1 (O.length + 1) (by rw [get_r]; rfl)
  have HW := Lib.hid (qrvalid_ow H k l HR.out.1 HR.out.2.1)
  rw [HR.out.2.2] at HW
  clear HV H a0 a1
  go_wp2_with fail
  refine HW.out.mono ?_
  rintro e w2 ⟨rfl, H⟩
  clear HW b0 b1
  have k0 := H.p0 (O.length + 2) (by rw [get_r]; rfl)
  have k1 := H.p1 (O.length + 2) (by rw [get_r]; rfl)
  have f0 := H.pf (O.length + 2) (by rw [get_r]; rfl) 0
  have f1 := H.pf (O.length + 2) (by rw [get_r]; rfl) 1
  have Z3 := H.set0 (O.length + 2) (by rw [get_r]; rfl) (.slice none 0 0)
  rw [set_r] at Z3
  simp only [List.set_cons_succ, List.set_cons_zero] at Z3
  have Z4 := Z3.set1 (O.length + 2) (by rw [get_r]; rfl) (.slice none 0 0)
  rw [set_r] at Z4
  simp only [List.set_cons_succ, List.set_cons_zero] at Z4
  have s0 := Z4.p0 (O.length + 2) (by rw [get_r]; rfl)
  have s1 := Z4.p1 (O.length + 2) (by rw [get_r]; rfl)
  have HF := Lib.hid (Z4.fewO)
  clear H Z3 Z4
  go_wp2_with fail
  refine bodyPost_ret (v := .tuple #[.agg #[.slice none 0 0, .slice none 0 0], .int .i64 1]) (by simp [results, Tryz.results24, go_sem, s0, s1]) rfl ?_
  exact gotF_nil HF.out 1
  | true =>
  have HR := Lib.hid (And.intro hk (And.intro hl h2))
  have e1 : divF p q r s = if num r = 0 then frE 4 else if num p * num s < Na.top ∧ num q * num r < Na.top then frM (num p * num s) (num q * num r) else frE 3 := by unfold divF; rw [h1, h2]; rfl
  rw [e1]
  clear e1
  obtain ⟨x, y, hx, hy, -, -, rfl, rfl⟩ := rv_ex h1
  obtain ⟨u, v, hu, hv, -, -, rfl, rfl⟩ := rv_ex h2
  rw [num_dig, num_dig, num_dig, num_dig]
  rw [Na.up_length] at hn3
  have HI := Lib.hid (And.intro (nats_lay hi) (And.intro (nats_lay hj) (And.intro (nats_lay hk) (nats_lay hl))))
  have HX := Lib.hid (And.intro hx (And.intro hy (And.intro hu hv)))
  clear h H0 hi hj hk hl h1 h2 hx hy hu hv
  by_cases h0 : u = 0
  · rw [if_pos h0]
    have hz : ((n3 : Int) == 0) = true := by rw [hn3, h0, Na.dig_zero]; rfl
    clear hn3 h0
    go_enter Tryz.func24, Tryz.ntmps24
    go_wp2_with fail
    refine HV.out.mono ?_
    rintro e w1 ⟨rfl, H⟩
    have b0 := H.p0 (O.length + 1) (by rw [get_r]; rfl)
    have b1 := H.p1 (O.length + 1) (by rw [get_r]; rfl)
    have HW := Lib.hid (qrvalid_ow H k l HR.out.1 HR.out.2.1)
    rw [HR.out.2.2] at HW
    clear HV H a0 a1
    go_wp2_with fail
    refine HW.out.mono ?_
    rintro e w2 ⟨rfl, H⟩
    clear HW b0 b1
    have b0 := H.p0 (O.length + 1) (by rw [get_r]; rfl)
    have k0 := H.p0 (O.length + 2) (by rw [get_r]; rfl)
    have k1 := H.p1 (O.length + 2) (by rw [get_r]; rfl)
    have f0 := H.pf (O.length + 2) (by rw [get_r]; rfl) 0
    have f1 := H.pf (O.length + 2) (by rw [get_r]; rfl) 1
    have Z3 := H.set0 (O.length + 2) (by rw [get_r]; rfl) (.slice none 0 0)
    rw [set_r] at Z3
    simp only [List.set_cons_succ, List.set_cons_zero] at Z3
    have Z4 := Z3.set1 (O.length + 2) (by rw [get_r]; rfl) (.slice none 0 0)
    rw [set_r] at Z4
    simp only [List.set_cons_succ, List.set_cons_zero] at Z4
    have s0 := Z4.p0 (O.length + 2) (by rw [get_r]; rfl)
    have s1 := Z4.p1 (O.length + 2) (by rw [get_r]; rfl)
    have HF := Lib.hid (Z4.fewO)
    clear H Z3 Z4
    go_wp2_with fail
    refine bodyPost_ret (v := .tuple #[.agg #[.slice none 0 0, .slice none 0 0], .int .i64 4]) (by simp [results, Tryz.results24, go_sem, s0, s1]) rfl ?_
    exact gotF_nil HF.out 4
  · rw [if_neg h0]
    have hz : ((n3 : Int) == 0) = false := by
      rw [beq_eq_false_iff_ne]
      intro e
      exact h0 (Na.dig_len0.1 (show (Na.dig u).length = 0 by omega))
    clear hn3 h0
    by_cases hX : x * v < Na.top
    · by_cases hZ : y * u < Na.top
      · rw [if_pos ⟨hX, hZ⟩]
        obtain ⟨t, hmk⟩ : ∃ t, frM (x * v) (y * u) = t := ⟨_, rfl⟩
        rw [hmk]
        have HE := Lib.hid (And.intro hX (And.intro hZ hmk))
        clear hX hZ hmk
        go_enter Tryz.func24, Tryz.ntmps24
        go_wp2_with fail
        refine HV.out.mono ?_
        rintro e w1 ⟨rfl, H⟩
        have b0 := H.p0 (O.length + 1) (by rw [get_r]; rfl)
        have b1 := H.p1 (O.length + 1) (by rw [get_r]; rfl)
        have HW := Lib.hid (qrvalid_ow H k l HR.out.1 HR.out.2.1)
        rw [HR.out.2.2] at HW
        clear HV H a0 a1
        go_wp2_with fail
        refine HW.out.mono ?_
        rintro e w2 ⟨rfl, H⟩
        clear HW b0 b1
        have b0 := H.p0 (O.length + 1) (by rw [get_r]; rfl)
        have a0 := H.p0 (O.length + 0) (by rw [get_r]; rfl)
        have b1 := H.p1 (O.length + 1) (by rw [get_r]; rfl)
        have HC := Lib.hid (nrmul_fr H i l HI.out.1 HI.out.2.2.2 HX.out.1 HX.out.2.2.2)
        rw [resL_ok HE.out.1, resE_ok HE.out.1] at HC
        clear H
        go_wp2_with fail
        refine HC.out.mono ?_
        rintro e w3 ⟨B3, m3, d3, rfl, G⟩
        have H := G.boxed (.slice B3 m3 d3) 24
        try simp only [List.append_assoc, List.cons_append, List.nil_append] at H
        clear HC G a0 b1 b0
        have a1 := H.p1 (O.length + 0) (by rw [get_r]; rfl)
        have b0 := H.p0 (O.length + 1) (by rw [get_r]; rfl)
        have HC := Lib.hid (nrmul_fr H j k ((get_l _ _ (get_lt HI.out.2.1)).trans HI.out.2.1) ((get_l _ _ (get_lt HI.out.2.2.1)).trans HI.out.2.2.1) HX.out.2.1 HX.out.2.2.1)
        rw [resL_ok HE.out.2.1, resE_ok HE.out.2.1] at HC
        clear H
        go_wp2_with fail
        refine HC.out.mono ?_
        rintro e w4 ⟨B4, m4, d4, rfl, G⟩
        have H := G.boxed (.slice B4 m4 d4) 24
        try simp only [List.append_assoc, List.cons_append, List.nil_append] at H
        clear HC G a1 b0
        have k0 := H.cell (M.length + 0) (by rw [get_r]; rfl)
        have k1 := H.cell (M.length + 1) (by rw [get_r]; rfl)
        have HC := Lib.hid (qrmake_fr H (L.length + 0) (L.length + 1) (by rw [get_r]; rfl) (by rw [get_r]; rfl) HE.out.1 HE.out.2.1 HE.out.2.2)
        clear H
        go_wp2_with fail
        refine HC.out.mono ?_
        rintro e w9 ⟨C1, i1, e1, C2, k2, e2, rfl, G⟩
        clear HC k0 k1
        rw [show L ++ [(⟨B3, m3, d3, nats (Na.dig (x * v))⟩ : Ob), ⟨B4, m4, d4, nats (Na.dig (y * u))⟩] = L ++ ([⟨B3, m3, d3, nats (Na.dig (x * v))⟩] ++ [⟨B4, m4, d4, nats (Na.dig (y * u))⟩]) from rfl] at G
        have z0 := G.p0 (O.length + 2) (by rw [get_r]; rfl)
        have z1 := G.p1 (O.length + 2) (by rw [get_r]; rfl)
        have f0 := G.pf (O.length + 2) (by rw [get_r]; rfl) 0
        have f1 := G.pf (O.length + 2) (by rw [get_r]; rfl) 1
        have Z3 := G.set0 (O.length + 2) (by rw [get_r]; rfl) (.slice C1 i1 e1)
        rw [set_r] at Z3
        simp only [List.set_cons_succ, List.set_cons_zero] at Z3
        have Z4 := Z3.set1 (O.length + 2) (by rw [get_r]; rfl) (.slice C2 k2 e2)
        rw [set_r] at Z4
        simp only [List.set_cons_succ, List.set_cons_zero] at Z4
        have s0 := Z4.p0 (O.length + 2) (by rw [get_r]; rfl)
        have s1 := Z4.p1 (O.length + 2) (by rw [get_r]; rfl)
        have HF := Lib.hid (Z4.fewM.fewO.less (mid_less L _ _ _))
        clear G Z3 Z4
        go_wp2_with fail
        refine bodyPost_ret (v := .tuple #[.agg #[.slice C1 i1 e1, .slice C2 k2 e2], .int .i64 t.2.2]) (by simp [results, Tryz.results24, go_sem, s0, s1]) rfl ?_
        exact ⟨C1, i1, e1, C2, k2, e2, rfl, HF.out⟩
      · rw [if_neg (fun h => hZ h.2)]
        have HE := Lib.hid (And.intro hX hZ)
        clear hX hZ
        go_enter Tryz.func24, Tryz.ntmps24
        go_wp2_with fail
        refine HV.out.mono ?_
        rintro e w1 ⟨rfl, H⟩
        have b0 := H.p0 (O.length + 1) (by rw [get_r]; rfl)
        have b1 := H.p1 (O.length + 1) (by rw [get_r]; rfl)
        have HW := Lib.hid (qrvalid_ow H k l HR.out.1 HR.out.2.1)
        rw [HR.out.2.2] at HW
        clear HV H a0 a1
        go_wp2_with fail
        refine HW.out.mono ?_
        rintro e w2 ⟨rfl, H⟩
        clear HW b0 b1
        have b0 := H.p0 (O.length + 1) (by rw [get_r]; rfl)
        have a0 := H.p0 (O.length + 0) (by rw [get_r]; rfl)
        have b1 := H.p1 (O.length + 1) (by rw [get_r]; rfl)
        have HC := Lib.hid (nrmul_fr H i l HI.out.1 HI.out.2.2.2 HX.out.1 HX.out.2.2.2)
        rw [resL_ok HE.out.1, resE_ok HE.out.1] at HC
        clear H
        go_wp2_with fail
        refine HC.out.mono ?_
        rintro e w3 ⟨B3, m3, d3, rfl, G⟩
        have H := G.boxed (.slice B3 m3 d3) 24
        try simp only [List.append_assoc, List.cons_append, List.nil_append] at H
        clear HC G a0 b1 b0
        have a1 := H.p1 (O.length + 0) (by rw [get_r]; rfl)
        have b0 := H.p0 (O.length + 1) (by rw [get_r]; rfl)
        have HC := Lib.hid (nrmul_fr H j k ((get_l _ _ (get_lt HI.out.2.1)).trans HI.out.2.1) ((get_l _ _ (get_lt HI.out.2.2.1)).trans HI.out.2.2.1) HX.out.2.1 HX.out.2.2.1)
        rw [resE_nt HE.out.2] at HC
        clear H
        go_wp2_with fail
        refine HC.out.mono ?_
        rintro e w4 ⟨B4, m4, d4, rfl, G⟩
        have H := G.boxed (.slice B4 m4 d4) 24
        try simp only [List.append_assoc, List.cons_append, List.nil_append] at H
        clear HC G a1 b0
        have k0 := H.p0 (O.length + 2) (by rw [get_r]; rfl)
        have k1 := H.p1 (O.length + 2) (by rw [get_r]; rfl)
        have f0 := H.pf (O.length + 2) (by rw [get_r]; rfl) 0
        have f1 := H.pf (O.length + 2) (by rw [get_r]; rfl) 1
        have Z3 := H.set0 (O.length + 2) (by rw [get_r]; rfl) (.slice none 0 0)
        rw [set_r] at Z3
        simp only [List.set_cons_succ, List.set_cons_zero] at Z3
        have Z4 := Z3.set1 (O.length + 2) (by rw [get_r]; rfl) (.slice none 0 0)
        rw [set_r] at Z4
        simp only [List.set_cons_succ, List.set_cons_zero] at Z4
        have s0 := Z4.p0 (O.length + 2) (by rw [get_r]; rfl)
        have s1 := Z4.p1 (O.length + 2) (by rw [get_r]; rfl)
        have HF := Lib.hid (Z4.fewM.fewO.less (L' := L) (fun o ho => by simp [ho]))
        clear H Z3 Z4
        go_wp2_with fail
        refine bodyPost_ret (v := .tuple #[.agg #[.slice none 0 0, .slice none 0 0], .int .i64 3]) (by simp [results, Tryz.results24, go_sem, s0, s1]) rfl ?_
        exact gotF_nil HF.out 3
    · rw [if_neg (fun h => hX h.1)]
      have HE := Lib.hid hX
      clear hX
      go_enter Tryz.func24, Tryz.ntmps24
      go_wp2_with fail
      refine HV.out.mono ?_
      rintro e w1 ⟨rfl, H⟩
      have b0 := H.p0 (O.length + 1) (by rw [get_r]; rfl)
      have b1 := H.p1 (O.length + 1) (by rw [get_r]; rfl)
      have HW := Lib.hid (qrvalid_ow H k l HR.out.1 HR.out.2.1)
      rw [HR.out.2.2] at HW
      clear HV H a0 a1
      go_wp2_with fail
      refine HW.out.mono ?_
      rintro e w2 ⟨rfl, H⟩
      clear HW b0 b1
      have b0 := H.p0 (O.length + 1) (by rw [get_r]; rfl)
      have a0 := H.p0 (O.length + 0) (by rw [get_r]; rfl)
      have b1 := H.p1 (O.length + 1) (by rw [get_r]; rfl)
      have HC := Lib.hid (nrmul_fr H i l HI.out.1 HI.out.2.2.2 HX.out.1 HX.out.2.2.2)
      rw [resE_nt HE.out] at HC
      clear H
      go_wp2_with fail
      refine HC.out.mono ?_
      rintro e w3 ⟨B3, m3, d3, rfl, G⟩
      have H := G.boxed (.slice B3 m3 d3) 24
      try simp only [List.append_assoc, List.cons_append, List.nil_append] at H
      clear HC G a0 b1 b0
      have a1 := H.p1 (O.length + 0) (by rw [get_r]; rfl)
      have b0 := H.p0 (O.length + 1) (by rw [get_r]; rfl)
      have HC := Lib.hid (nrmul_fr H j k ((get_l _ _ (get_lt HI.out.2.1)).trans HI.out.2.1) ((get_l _ _ (get_lt HI.out.2.2.1)).trans HI.out.2.2.1) HX.out.2.1 HX.out.2.2.1)
      clear H
      go_wp2_with fail
      refine HC.out.mono ?_
      rintro e w4 ⟨B4, m4, d4, rfl, G⟩
      have H := G.boxed (.slice B4 m4 d4) 24
      try simp only [List.append_assoc, List.cons_append, List.nil_append] at H
      clear HC G a1 b0
      have k0 := H.p0 (O.length + 2) (by rw [get_r]; rfl)
      have k1 := H.p1 (O.length + 2) (by rw [get_r]; rfl)
      have f0 := H.pf (O.length + 2) (by rw [get_r]; rfl) 0
      have f1 := H.pf (O.length + 2) (by rw [get_r]; rfl) 1
      have Z3 := H.set0 (O.length + 2) (by rw [get_r]; rfl) (.slice none 0 0)
      rw [set_r] at Z3
      simp only [List.set_cons_succ, List.set_cons_zero] at Z3
      have Z4 := Z3.set1 (O.length + 2) (by rw [get_r]; rfl) (.slice none 0 0)
      rw [set_r] at Z4
      simp only [List.set_cons_succ, List.set_cons_zero] at Z4
      have s0 := Z4.p0 (O.length + 2) (by rw [get_r]; rfl)
      have s1 := Z4.p1 (O.length + 2) (by rw [get_r]; rfl)
      have HF := Lib.hid (Z4.fewM.fewO.less (L' := L) (fun o ho => by simp [ho]))
      clear H Z3 Z4
      go_wp2_with fail
      refine bodyPost_ret (v := .tuple #[.agg #[.slice none 0 0, .slice none 0 0], .int .i64 3]) (by simp [results, Tryz.results24, go_sem, s0, s1]) rfl ?_
      exact gotF_nil HF.out 3
set_option maxHeartbeats 4000000 in
theorem qrfloor_any (h : Ow w0 w g M L O) (i j : Nat) (hi : L[i]? = some ⟨A, n, c, ints p⟩) (hj : L[j]? = some ⟨A2, m, c2, ints q⟩) :
    Calls Tryz.prog 28 #[.agg #[.slice A n c, .slice A2 m c2]] w (GotO w0 g M L O (flrL p q) (flrE p q)) := by
  unfold flrL flrE
  have H0 := (h.pair (.slice A n c) (.slice A2 m c2) 26).boxed (.slice none 0 0) 24
  simp only [World.size_alloc] at H0
  have a0 := H0.p0 (O.length + 0) (by rw [get_r]; rfl)
  have a1 := H0.p1 (O.length + 0) (by rw [get_r]; rfl)
  have HV := Lib.hid (qrvalid_ow H0 i j hi hj)
  cases hb : rv p q with
  | false =>
  show Calls _ _ _ _ (GotO w0 g M L O [] 1)
  rw [hb] at HV
  clear h H0 hi hj hb
  go_enter Tryz.func28, Tryz.ntmps28
  go_wp2_with fail
  refine HV.out.mono ?_
  rintro e w1 ⟨rfl, H1⟩
  have k0 := H1.cell (M.length + 0) (by rw [get_r]; rfl)
  have f0 := H1.free (M.length + 0) (by rw [get_r]; rfl)
  have H4 := H1.setv (M.length + 0) (by rw [get_r]; rfl) (.slice none 0 0)
  rw [set_r] at H4
  simp only [List.set_cons_zero] at H4
  have s0 := H4.cell (M.length + 0) (by rw [get_r]; rfl)
  have HF := Lib.hid H4.fewM.fewO
  clear HV H1 H4 a0 a1
  go_wp2_with fail
  refine bodyPost_ret (v := .tuple #[.agg #[.slice none 0 0], .int .i64 1]) (by simp [results, Tryz.results28, go_sem, s0]) rfl ?_
  exact ⟨none, 0, 0, rfl, HF.out.old (A := none) (n := 0) (c := 0) (vs := nats []) (Sl.nil _ _ _) rfl (Nat.le_refl _) (by decide)⟩
  | true =>
  rw [hb] at HV
  obtain ⟨x, y, hx, hy, hy0, -, rfl, rfl⟩ := rv_ex hb
  rw [num_dig, num_dig, if_pos rfl, if_pos rfl]
  have HI := Lib.hid (And.intro hi hj)
  have e1 : divQ (Na.up (Na.dig x)) (Na.up (Na.dig y)) = Na.dig (x / y) := by unfold divQ; rw [Na.vld_dig hx, Na.vld_dig hy, num_dig, num_dig, Bool.and_true, if_pos rfl, if_neg (by omega)]
  have e2 : divE (Na.up (Na.dig x)) (Na.up (Na.dig y)) = 0 := by unfold divE; rw [Na.vld_dig hx, Na.vld_dig hy, num_dig, Bool.and_true, if_pos rfl, if_neg (by omega)]
  have HX := Lib.hid (And.intro e1 e2)
  clear h H0 hi hj hb hx hy hy0 e1 e2
  go_enter Tryz.func28, Tryz.ntmps28
  go_wp2_with fail
  refine HV.out.mono ?_
  rintro e w1 ⟨rfl, H1⟩
  have a0 := H1.p0 (O.length + 0) (by rw [get_r]; rfl)
  have a1 := H1.p1 (O.length + 0) (by rw [get_r]; rfl)
  have HD := Lib.hid (ag_rdiv H1 i j HI.out.1 HI.out.2)
  rw [HX.out.1, HX.out.2] at HD
  clear HV H1
  go_wp2_with fail
  refine HD.out.mono ?_
  rintro e w2 ⟨B1, m1, d1, B2, m2, d2, rfl, H2⟩
  have H3 := (H2.boxed (.slice B1 m1 d1) 24).boxed (.slice B2 m2 d2) 24
  simp only [World.size_alloc, List.append_assoc, List.cons_append, List.nil_append] at H3
  have k1 := H3.cell (M.length + 1) (by rw [get_r]; rfl)
  have k0 := H3.cell (M.length + 0) (by rw [get_r]; rfl)
  have f0 := H3.free (M.length + 0) (by rw [get_r]; rfl)
  have H4 := H3.setv (M.length + 0) (by rw [get_r]; rfl) (.slice B1 m1 d1)
  rw [set_r] at H4
  simp only [List.set_cons_zero] at H4
  have s0 := H4.cell (M.length + 0) (by rw [get_r]; rfl)
  have HF := Lib.hid (H4.fewM.fewO.less (flr_less L _ _))
  clear HD H2 H3 H4 a0 a1
  go_wp2_with fail
  refine bodyPost_ret (v := .tuple #[.agg #[.slice B1 m1 d1], .int .i64 0]) (by simp [results, Tryz.results28, go_sem, s0]) rfl ?_
  exact ⟨B1, m1, d1, rfl, HF.out⟩
set_option maxHeartbeats 16000000 in
theorem agree02 (h : Ow w0 w g M L O) (i j k l : Nat) (hi : L[i]? = some ⟨A, n, c, ints p⟩) (hj : L[j]? = some ⟨A2, m, c2, ints q⟩) (hk : L[k]? = some ⟨A3, n3, c3, ints r⟩) (hl : L[l]? = some ⟨A4, n4, c4, ints s⟩) (ht : Tab w0) :
    Calls Tryz.prog 6 #[.agg #[.slice A n c, .slice A2 m c2], .agg #[.slice A3 n3 c3, .slice A4 n4 c4]] w (fun e w' => e = .returned (.bool true) ∧ Below w.heap.size w w') := by
  have H0 := (((((((Ow.of (St.refl w)).old (h.sl hi).2.2.2 (h.sl hi).1 (h.sl hi).2.1 (h.sl hi).2.2.1).old (h.sl hj).2.2.2 (h.sl hj).1 (h.sl hj).2.1 (h.sl hj).2.2.1).old (h.sl hk).2.2.2 (h.sl hk).1 (h.sl hk).2.1 (h.sl hk).2.2.1).old (h.sl hl).2.2.2 (h.sl hl).1 (h.sl hl).2.1 (h.sl hl).2.2.1).pair (.slice A n c) (.slice A2 m c2) 26).pair (.slice A3 n3 c3) (.slice A4 n4 c4) 26)
  simp only [List.nil_append, List.cons_append, World.size_alloc] at H0
  have HT := Lib.hid (ht.below h.below)
  obtain ⟨t1, ht1⟩ : ∃ z, addF p q r s = z := ⟨_, rfl⟩
  obtain ⟨t2, ht2⟩ : ∃ z, subF p q r s = z := ⟨_, rfl⟩
  obtain ⟨t3, ht3⟩ : ∃ z, mulF p q r s = z := ⟨_, rfl⟩
  obtain ⟨t4, ht4⟩ : ∃ z, divF p q r s = z := ⟨_, rfl⟩
  obtain ⟨v5, hv5⟩ : ∃ z, cmpV p q r s = z := ⟨_, rfl⟩
  obtain ⟨e5, he5⟩ : ∃ z, cmpE p q r s = z := ⟨_, rfl⟩
  obtain ⟨l6, hl6⟩ : ∃ z, flrL p q = z := ⟨_, rfl⟩
  obtain ⟨e6, he6⟩ : ∃ z, flrE p q = z := ⟨_, rfl⟩
  obtain ⟨vb, hvb⟩ : ∃ z, rv p q = z := ⟨_, rfl⟩
  obtain ⟨sP, hsP⟩ : ∃ z, str (rprt p q) = z := ⟨_, rfl⟩
  have HE := Lib.hid (And.intro ht1 (And.intro ht2 (And.intro ht3 (And.intro ht4 (And.intro hv5 (And.intro he5 (And.intro hl6 (And.intro he6 (And.intro hvb (hsP))))))))))
  have bt1 : (t1.2.2 != t1.2.2) = false := by simp
  have bt2 : (t2.2.2 != t2.2.2) = false := by simp
  have bt3 : (t3.2.2 != t3.2.2) = false := by simp
  have bt4 : (t4.2.2 == t4.2.2) = true := by simp
  have bv5 : (v5 == v5) = true := by simp
  have be5 : (e5 == e5) = true := by simp
  have be6 : (e6 == e6) = true := by simp
  clear h hi hj hk hl ht ht1 ht2 ht3 ht4 hv5 he5 hl6 he6 hvb hsP
  go_enter Tryz.func6, Tryz.ntmps6
  have a0 := H0.p0 0 rfl
  have a1 := H0.p1 0 rfl
  have b0 := H0.p0 1 rfl
  have b1 := H0.p1 1 rfl
  have HC := Lib.hid (qAdd_any H0 0 1 2 3 rfl rfl rfl rfl HT.out)
  rw [HE.out.1] at HC
  clear H0
  go_wp2_with fail
  refine HC.out.mono ?_
  rintro e w1 ⟨B1, m1, d1, D1, l1, f1, rfl, G⟩
  clear a0 a1 b0 b1 HC
  have H1 := G.pair (.slice B1 m1 d1) (.slice D1 l1 f1) 26
  simp only [List.nil_append, List.cons_append] at H1
  clear G
  have a0 := H1.p0 0 rfl
  have a1 := H1.p1 0 rfl
  have b0 := H1.p0 1 rfl
  have b1 := H1.p1 1 rfl
  have HC := Lib.hid (qrAdd_any H1 0 1 2 3 rfl rfl rfl rfl)
  rw [HE.out.1] at HC
  clear H1
  go_wp2_with fail
  refine HC.out.mono ?_
  rintro e w2 ⟨B2, m2, d2, D2, l2, f2, rfl, G⟩
  clear a0 a1 b0 b1 HC
  have H2 := G.pair (.slice B2 m2 d2) (.slice D2 l2 f2) 26
  simp only [List.nil_append, List.cons_append] at H2
  clear G
  have a0 := H2.p0 0 rfl
  have a1 := H2.p1 0 rfl
  have b0 := H2.p0 1 rfl
  have b1 := H2.p1 1 rfl
  have HC := Lib.hid (qSub_any H2 0 1 2 3 rfl rfl rfl rfl HT.out)
  rw [HE.out.2.1] at HC
  clear H2
  go_wp2_with fail
  refine HC.out.mono ?_
  rintro e w3 ⟨B3, m3, d3, D3, l3, f3, rfl, G⟩
  clear a0 a1 b0 b1 HC
  have H3 := G.pair (.slice B3 m3 d3) (.slice D3 l3 f3) 26
  simp only [List.nil_append, List.cons_append] at H3
  clear G
  have a0 := H3.p0 0 rfl
  have a1 := H3.p1 0 rfl
  have b0 := H3.p0 1 rfl
  have b1 := H3.p1 1 rfl
  have HC := Lib.hid (qrSub_any H3 0 1 2 3 rfl rfl rfl rfl)
  rw [HE.out.2.1] at HC
  clear H3
  go_wp2_with fail
  refine HC.out.mono ?_
  rintro e w4 ⟨B4, m4, d4, D4, l4, f4, rfl, G⟩
  clear a0 a1 b0 b1 HC
  have H4 := G.pair (.slice B4 m4 d4) (.slice D4 l4 f4) 26
  simp only [List.nil_append, List.cons_append] at H4
  clear G
  have a0 := H4.p0 0 rfl
  have a1 := H4.p1 0 rfl
  have b0 := H4.p0 1 rfl
  have b1 := H4.p1 1 rfl
  have HC := Lib.hid (qmul_any H4 0 1 2 3 rfl rfl rfl rfl HT.out)
  rw [HE.out.2.2.1] at HC
  clear H4
  go_wp2_with fail
  refine HC.out.mono ?_
  rintro e w5 ⟨B5, m5, d5, D5, l5, f5, rfl, G⟩
  clear a0 a1 b0 b1 HC
  have H5 := G.pair (.slice B5 m5 d5) (.slice D5 l5 f5) 26
  simp only [List.nil_append, List.cons_append] at H5
  clear G
  have a0 := H5.p0 0 rfl
  have a1 := H5.p1 0 rfl
  have b0 := H5.p0 1 rfl
  have b1 := H5.p1 1 rfl
  have HC := Lib.hid (qrmul_any H5 0 1 2 3 rfl rfl rfl rfl)
  rw [HE.out.2.2.1] at HC
  clear H5
  go_wp2_with fail
  refine HC.out.mono ?_
  rintro e w6 ⟨B6, m6, d6, D6, l6, f6, rfl, G⟩
  clear a0 a1 b0 b1 HC
  have H6 := G.pair (.slice B6 m6 d6) (.slice D6 l6 f6) 26
  simp only [List.nil_append, List.cons_append] at H6
  clear G
  have a0 := H6.p0 2 rfl
  have a1 := H6.p1 2 rfl
  have b0 := H6.p0 3 rfl
  have b1 := H6.p1 3 rfl
  have HC := Lib.hid (qsame_ow H6 4 5 6 7 rfl rfl rfl rfl)
  clear H6
  go_wp2_with fail
  refine HC.out.mono ?_
  rintro e w7 ⟨rfl, G⟩
  clear a0 a1 b0 b1 HC
  have a0 := G.p0 4 rfl
  have a1 := G.p1 4 rfl
  have b0 := G.p0 5 rfl
  have b1 := G.p1 5 rfl
  have HC := Lib.hid (qsame_ow G 8 9 10 11 rfl rfl rfl rfl)
  clear G
  go_wp2_with fail
  refine HC.out.mono ?_
  rintro e w8 ⟨rfl, G⟩
  clear a0 a1 b0 b1 HC
  have a0 := G.p0 6 rfl
  have a1 := G.p1 6 rfl
  have b0 := G.p0 7 rfl
  have b1 := G.p1 7 rfl
  have HC := Lib.hid (qsame_ow G 12 13 14 15 rfl rfl rfl rfl)
  clear G
  go_wp2_with fail
  refine HC.out.mono ?_
  rintro e w9 ⟨rfl, G⟩
  clear a0 a1 b0 b1 HC
  have a0 := G.p0 0 rfl
  have a1 := G.p1 0 rfl
  have b0 := G.p0 1 rfl
  have b1 := G.p1 1 rfl
  have HC := Lib.hid (qdiv_any G 0 1 2 3 rfl rfl rfl rfl HT.out)
  rw [HE.out.2.2.2.1] at HC
  clear G
  go_wp2_with fail
  refine HC.out.mono ?_
  rintro e w10 ⟨B7, m7, d7, D7, l7, f7, rfl, G⟩
  clear a0 a1 b0 b1 HC
  have Z0 := G.set0 2 rfl (.slice B7 m7 d7)
  simp only [List.set_cons_succ, List.set_cons_zero] at Z0
  have H10 := Z0.set1 2 rfl (.slice D7 l7 f7)
  simp only [List.set_cons_succ, List.set_cons_zero, List.nil_append, List.cons_append] at H10
  have z0 := G.p0 2 rfl
  have z1 := G.p1 2 rfl
  have f0 := G.pf 2 rfl 0
  have f1 := G.pf 2 rfl 1
  clear G Z0
  have a0 := H10.p0 0 rfl
  have a1 := H10.p1 0 rfl
  have b0 := H10.p0 1 rfl
  have b1 := H10.p1 1 rfl
  have HC := Lib.hid (qrdiv_any H10 0 1 2 3 rfl rfl rfl rfl)
  rw [HE.out.2.2.2.1] at HC
  clear H10
  go_wp2_with fail
  refine HC.out.mono ?_
  rintro e w11 ⟨B8, m8, d8, D8, l8, f8, rfl, G⟩
  clear z0 z1 f0 f1 a0 a1 b0 b1 HC
  have Z0 := G.set0 3 rfl (.slice B8 m8 d8)
  simp only [List.set_cons_succ, List.set_cons_zero] at Z0
  have H11 := Z0.set1 3 rfl (.slice D8 l8 f8)
  simp only [List.set_cons_succ, List.set_cons_zero, List.nil_append, List.cons_append] at H11
  have z0 := G.p0 3 rfl
  have z1 := G.p1 3 rfl
  have f0 := G.pf 3 rfl 0
  have f1 := G.pf 3 rfl 1
  clear G Z0
  have a0 := H11.p0 0 rfl
  have a1 := H11.p1 0 rfl
  have b0 := H11.p0 1 rfl
  have b1 := H11.p1 1 rfl
  have HC := Lib.hid (qcmp_any H11 0 1 2 3 rfl rfl rfl rfl HT.out)
  rw [HE.out.2.2.2.2.1, HE.out.2.2.2.2.2.1] at HC
  clear H11
  go_wp2_with fail
  refine HC.out.mono ?_
  rintro e w12 ⟨rfl, G⟩
  clear z0 z1 f0 f1 a0 a1 b0 b1 HC
  have a0 := G.p0 0 rfl
  have a1 := G.p1 0 rfl
  have b0 := G.p0 1 rfl
  have b1 := G.p1 1 rfl
  have HC := Lib.hid (qrcmp_any G 0 1 2 3 rfl rfl rfl rfl)
  rw [HE.out.2.2.2.2.1, HE.out.2.2.2.2.2.1] at HC
  clear G
  go_wp2_with fail
  refine HC.out.mono ?_
  rintro e w13 ⟨rfl, G⟩
  clear a0 a1 b0 b1 HC
  have a0 := G.p0 0 rfl
  have a1 := G.p1 0 rfl
  have HC := Lib.hid (qfloor_any G 0 1 rfl rfl HT.out)
  rw [HE.out.2.2.2.2.2.2.1, HE.out.2.2.2.2.2.2.2.1] at HC
  clear G
  go_wp2_with fail
  refine HC.out.mono ?_
  rintro e w14 ⟨B9, m9, d9, rfl, G⟩
  clear a0 a1 HC
  have H14 := G.boxed (.slice B9 m9 d9) 24
  simp only [List.nil_append, List.cons_append] at H14
  clear G
  have a0 := H14.p0 0 rfl
  have a1 := H14.p1 0 rfl
  have HC := Lib.hid (qrfloor_any H14 0 1 rfl rfl)
  rw [HE.out.2.2.2.2.2.2.1, HE.out.2.2.2.2.2.2.2.1] at HC
  clear H14
  go_wp2_with fail
  refine HC.out.mono ?_
  rintro e w15 ⟨B10, m10, d10, rfl, G⟩
  clear a0 a1 HC
  have H15 := G.boxed (.slice B10 m10 d10) 24
  simp only [List.nil_append, List.cons_append] at H15
  clear G
  have HF := Lib.hid H15
  have k0 := cell_regrown (H15.cell 0 rfl)
  have k1 := cell_regrown (H15.cell 1 rfl)
  have x0 := cell_regrown (H15.p0 2 rfl)
  have x1 := cell_regrown (H15.p1 2 rfl)
  have y0 := cell_regrown (H15.p0 3 rfl)
  have y1 := cell_regrown (H15.p1 3 rfl)
  have a0 := cell_regrown (H15.p0 0 rfl)
  have a1 := cell_regrown (H15.p1 0 rfl)
  go_upto_region 15 with (fail)
  clear H15
  have cS := regrown_call (P := Tryz.prog) (w := w15.alloc (.cells #[.slice B10 m10 d10] 24)) (f := 14) (args := #[.agg #[.slice B7 m7 d7, .slice D7 l7 f7], .agg #[.slice B8 m8 d8, .slice D8 l8 f8]]) (v := .bool true) (fun W hW => qsame_b (HF.out.go hW) 16 17 18 19 rfl rfl rfl rfl)
  have cF := regrown_call (P := Tryz.prog) (w := w15.alloc (.cells #[.slice B10 m10 d10] 24)) (f := 29) (args := #[.agg #[.slice B9 m9 d9], .agg #[.slice B10 m10 d10]]) (v := .bool true) (fun W hW => ag_same_b (HF.out.go hW) 20 21 rfl rfl)
  have cV1 := regrown_call (P := Tryz.prog) (w := w15.alloc (.cells #[.slice B10 m10 d10] 24)) (f := 30) (args := #[.agg #[.slice A n c, .slice A2 m c2]]) (v := .bool vb) (fun W hW => by rw [← HE.out.2.2.2.2.2.2.2.2.1]; exact qvalid_b (HF.out.go hW) 0 1 rfl rfl HT.out)
  have cV2 := regrown_call (P := Tryz.prog) (w := w15.alloc (.cells #[.slice B10 m10 d10] 24)) (f := 31) (args := #[.agg #[.slice A n c, .slice A2 m c2]]) (v := .bool vb) (fun W hW => by rw [← HE.out.2.2.2.2.2.2.2.2.1]; exact qrvalid_b (HF.out.go hW) 0 1 rfl rfl)
  have cP1 := regrown_call (P := Tryz.prog) (w := w15.alloc (.cells #[.slice B10 m10 d10] 24)) (f := 17) (args := #[.agg #[.slice A n c, .slice A2 m c2]]) (v := .string sP) (fun W hW => by rw [← HE.out.2.2.2.2.2.2.2.2.2]; exact (qprint_any (HF.out.go hW).self 0 1 rfl rfl (HT.out.below (HF.out.go hW).below)).mono fun e w h => ⟨h.1, h.2.below⟩)
  have cP2 := regrown_call (P := Tryz.prog) (w := w15.alloc (.cells #[.slice B10 m10 d10] 24)) (f := 32) (args := #[.agg #[.slice A n c, .slice A2 m c2]]) (v := .string sP) (fun W hW => by rw [← HE.out.2.2.2.2.2.2.2.2.2]; exact (qrprint_any (HF.out.go hW).self 0 1 rfl rfl).mono fun e w h => ⟨h.1, h.2.below⟩)
  refine wp_region_quiet_below (by kernel_rfl) (by kernel_rfl) ?_
  repeat (go_big_quiet_step ((first | with_reducible exact cS _ _ | with_reducible exact cF _ _ | with_reducible exact cV1 _ _ | with_reducible exact cV2 _ _ | with_reducible exact cP1 _ _ | with_reducible exact cP2 _ _)))
  refine wpQuiet_nil ?_
  intro W hW
  have HZ := Lib.hid (HF.out.go (regrown_below hW))
  clear hW k0 k1 x0 x1 y0 y1 a0 a1 cS cF cV1 cV2 cP1 cP2
  go_wp2_with fail
  go_ret
  exact ⟨rfl, HZ.out.below⟩
end
end Go.Proofs.YtnfjnlnphdmdmaaGreatDoor

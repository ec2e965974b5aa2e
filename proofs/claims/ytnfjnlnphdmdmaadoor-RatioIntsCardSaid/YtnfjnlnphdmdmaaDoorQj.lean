/- The whole part and the text of a fraction. -/
import Derived.Test.YtnfjnlnphdmdmaaDoorQmb
namespace Go.Proofs.YtnfjnlnphdmdmaaDoor
open Go.RowKit Go.Sort
set_option linter.unusedVariables false
set_option maxRecDepth 100000
theorem top_ten {x k : Nat} (hk : k = 24 * 200) (h : x < Na.top) : x < 10 ^ k := by
  have h1 : Na.top ≤ (10 ^ 24) ^ 200 := Nat.pow_le_pow_left (by decide) 200
  rw [← Nat.pow_mul, ← hk] at h1
  exact Nat.lt_of_lt_of_le h h1
theorem text_size {x : Nat} (h : x < Na.top) : (str (De.text x)).size ≤ 4801 := by
  rw [str_size]
  unfold De.text
  split
  · decide
  · rw [List.length_reverse, List.length_map]
    obtain ⟨k, hk⟩ : ∃ k, k = 24 * 200 := ⟨_, rfl⟩
    exact Nat.le_trans ((De.dig_len_iff x k).2 (top_ten hk h)) (by omega)
theorem flr_less (L : List Ob) (x y : Ob) : ∀ o ∈ L ++ [x], o ∈ L ++ [x, y] := fun o ho => by
  simp only [List.mem_append, List.mem_cons, List.mem_nil_iff, or_false] at ho ⊢
  rcases ho with h | h
  · exact .inl h
  · exact .inr (.inl h)
section
variable {w0 w w' : World} {g : Option Nat} {M M2 : List (Nat × Value)} {L : List Ob} {O : List Rw} {A A2 : Option Addr} {b n c m c2 x y : Nat}
theorem divide_d (h : Ow w0 w g M L O) (i j : Nat) (hi : L[i]? = some ⟨A, n, c, nats (Na.dig x)⟩) (hj : L[j]? = some ⟨A2, m, c2, nats (Na.dig y)⟩) (hx : x < Na.top) (hy : y < Na.top) (h0 : 0 < y) :
    Calls Tryd.prog 55 #[.agg #[.slice A n c], .agg #[.slice A2 m c2]] w (GotO2 w0 g M L O (Na.dig (x / y)) (Na.dig (x % y)) 0) :=
  (nDivide_ok A A2 n c m c2 x y w (h.seenL i hi).1 (h.seenL j hj).1 (h.seenL i hi).2.2 (h.seenL j hj).2.2 hx hy h0).mono fun e w' hr => got_o2 h (dig_1000 (Nat.lt_of_le_of_lt (Nat.div_le_self _ _) hx)) (dig_1000 (Nat.lt_of_le_of_lt (Nat.mod_le _ _) hx)) hr
set_option maxHeartbeats 4000000 in
theorem qfloor_ok (h : Ow w0 w g M L O) (i j : Nat) (hi : L[i]? = some ⟨A, n, c, nats (Na.dig x)⟩) (hj : L[j]? = some ⟨A2, m, c2, nats (Na.dig y)⟩) (ht : Tab w0) (hx : x < Na.top) (hy : y < Na.top) (h0 : 0 < y) (h1 : rv (Na.up (Na.dig x)) (Na.up (Na.dig y)) = true) :
    Calls Tryd.prog 29 #[.agg #[.slice A n c, .slice A2 m c2]] w (GotO w0 g M L O (Na.dig (x / y)) 0) := by
  have H0 := (h.pair (.slice A n c) (.slice A2 m c2) 28).boxed (.slice none 0 0) 25
  simp only [World.size_alloc] at H0
  have a0 := H0.p0 (O.length + 0) (by rw [get_r]; rfl)
  have a1 := H0.p1 (O.length + 0) (by rw [get_r]; rfl)
  have HV := Lib.hid (qvalid_ow (p := Na.up (Na.dig x)) (q := Na.up (Na.dig y)) H0 i j (by rw [nats_up]; exact hi) (by rw [nats_up]; exact hj) ht)
  rw [h1] at HV
  have HI := Lib.hid (And.intro hi hj)
  have HX := Lib.hid (And.intro hx (And.intro hy h0))
  clear h H0 hi hj ht h1 hx hy h0
  go_enter Tryd.func29, Tryd.ntmps29
  go_wp2_with fail
  refine HV.out.mono ?_
  rintro e w1 ⟨rfl, H1⟩
  have a0 := H1.p0 (O.length + 0) (by rw [get_r]; rfl)
  have a1 := H1.p1 (O.length + 0) (by rw [get_r]; rfl)
  have HD := Lib.hid (divide_d H1 i j HI.out.1 HI.out.2 HX.out.1 HX.out.2.1 HX.out.2.2)
  clear HV H1
  go_wp2_with fail
  refine HD.out.mono ?_
  rintro e w2 ⟨B1, m1, d1, B2, m2, d2, rfl, H2⟩
  have H3 := (H2.boxed (.slice B1 m1 d1) 25).boxed (.slice B2 m2 d2) 25
  simp only [World.size_alloc, List.append_assoc, List.cons_append, List.nil_append] at H3
  have k1 := H3.cell (M.length + 1) (by rw [get_r]; rfl)
  have k0 := H3.cell (M.length + 0) (by rw [get_r]; rfl)
  have f0 := H3.free (M.length + 0) (by rw [get_r]; rfl)
  have H4 := H3.setv (M.length + 0) (by rw [get_r]; rfl) (.slice B1 m1 d1)
  rw [set_r] at H4
  simp only [List.set_cons_zero] at H4
  have s0 := H4.cell (M.length + 0) (by rw [get_r]; rfl)
  have HF := Lib.hid (H4.fewM.fewO.less (flr_less L _ _))
  clear HD H2 H3 H4 a0 a1
  go_wp2_with fail
  refine bodyPost_ret (v := .tuple #[.agg #[.slice B1 m1 d1], .int .i64 0]) (by simp [results, Tryd.results29, go_sem, s0]) rfl ?_
  exact ⟨B1, m1, d1, rfl, HF.out⟩
theorem prt_d (h : Ow w0 w g M L O) (i : Nat) (hi : L[i]? = some ⟨A, n, c, nats (Na.dig x)⟩) (hx : x < Na.top) :
    Calls Tryd.prog 91 #[.agg #[.slice A n c]] w fun e w' => e = .returned (.string (str (De.text x))) ∧ Below w.heap.size w w' := by
  have := ag_prt_b (zs := Na.up (Na.dig x)) h i (by rw [nats_up]; exact hi)
  unfold prtL at this
  rw [Na.vld_dig hx, num_dig] at this
  exact this
theorem prt_d_ow (h : Ow w0 w g M L O) (i : Nat) (hi : L[i]? = some ⟨A, n, c, nats (Na.dig x)⟩) (hx : x < Na.top) :
    Calls Tryd.prog 91 #[.agg #[.slice A n c]] w fun e w' => e = .returned (.string (str (De.text x))) ∧ Ow w0 w' g M L O :=
  (prt_d h i hi hx).mono fun e w' ⟨he, hb⟩ => ⟨he, h.go hb⟩
set_option maxHeartbeats 4000000 in
theorem qprint_ok (h : Ow w0 w g M L O) (i j : Nat) (hi : L[i]? = some ⟨A, n, c, nats (Na.dig x)⟩) (hj : L[j]? = some ⟨A2, m, c2, nats (Na.dig y)⟩) (ht : Tab w0) (hx : x < Na.top) (hy : y < Na.top) (h1 : rv (Na.up (Na.dig x)) (Na.up (Na.dig y)) = true) :
    Calls Tryd.prog 49 #[.agg #[.slice A n c, .slice A2 m c2]] w fun e w' => e = .returned (.string (str (De.text x ++ 47 :: De.text y))) ∧ Ow w0 w' g M L O := by
  have H0 := h.pair (.slice A n c) (.slice A2 m c2) 28
  have a0 := H0.p0 (O.length + 0) (by rw [get_r]; rfl)
  have a1 := H0.p1 (O.length + 0) (by rw [get_r]; rfl)
  have HV := Lib.hid (qvalid_ow (p := Na.up (Na.dig x)) (q := Na.up (Na.dig y)) H0 i j (by rw [nats_up]; exact hi) (by rw [nats_up]; exact hj) ht)
  rw [h1] at HV
  have HI := Lib.hid (And.intro hi hj)
  have HX := Lib.hid (And.intro hx hy)
  obtain ⟨sx, hsx⟩ : ∃ s, str (De.text x) = s := ⟨_, rfl⟩
  obtain ⟨sy, hsy⟩ : ∃ s, str (De.text y) = s := ⟨_, rfl⟩
  have hz1 : sx.size ≤ 4801 := by rw [← hsx]; exact text_size hx
  have hz2 : sy.size ≤ 4801 := by rw [← hsy]; exact text_size hy
  have hz3 : ¬ 9223372036854775807 < sx.size + 1 := by omega
  have hz4 : ¬ 9223372036854775807 < sx.size + 1 + sy.size := by omega
  clear hz1 hz2
  have HS : Hid (sx ++ ⟨#[47]⟩ ++ sy = str (De.text x ++ 47 :: De.text y)) := by
    unfold Hid
    rw [← hsx, ← hsy, show (⟨#[47]⟩ : ByteArray) = str [47] from rfl, str_append, str_append, List.append_assoc]; rfl
  have HSx := Lib.hid hsx
  have HSy := Lib.hid hsy
  clear h H0 hi hj h1 hx hy hsx hsy ht
  go_enter Tryd.func49, Tryd.ntmps49
  go_wp2_with fail
  refine HV.out.mono ?_
  rintro e w1 ⟨rfl, H1⟩
  have HF := Lib.hid H1
  have HD := Lib.hid H1.drew
  have a0 := HD.out.p0 (O.length + 0) (by rw [get_r]; rfl)
  have a1 := HD.out.p1 (O.length + 0) (by rw [get_r]; rfl)
  have cP1 := Lib.hid (prt_d_ow HD.out i HI.out.1 HX.out.1)
  rw [HSx.out] at cP1
  clear H1 HV HF
  go_upto_region 3 with (fail)
  go_region_held3 (fun W => W.cell? ⟨w.heap.size, 0, none⟩ = some (.slice A n c) ∧ W.cell? ⟨w.heap.size, 1, none⟩ = some (.slice A2 m c2)) (first | exact ⟨a0, a1⟩ | exact ⟨how.p0 (O.length + 0) (by rw [get_r]; rfl), how.p1 (O.length + 0) (by rw [get_r]; rfl)⟩ | exact ⟨how2.p0 (O.length + 0) (by rw [get_r]; rfl), how2.p1 (O.length + 0) (by rw [get_r]; rfl)⟩) ((first | (go_at_call 91; (with_reducible refine cP1.out.mono ?_); rintro e v2 ⟨rfl, how⟩; have cP2 := Lib.hid (prt_d_ow how j HI.out.2 HX.out.2); rw [HSy.out] at cP2) | (go_at_call 91; (with_reducible refine cP2.out.mono ?_); rintro e v3 ⟨rfl, how2⟩)))
  have HZ := Lib.hid how2.fewO
  clear a0 a1 cP1 cP2 how how2
  go_wp2_with fail
  go_ret
  rw [← HS.out]
  exact ⟨rfl, HZ.out⟩
theorem rprt_d (h : Ow w0 w g M L O) (i : Nat) (hi : L[i]? = some ⟨A, n, c, nats (Na.dig x)⟩) (hx : x < Na.top) :
    Calls Tryd.prog 47 #[.agg #[.slice A n c]] w fun e w' => e = .returned (.string (str (De.text x))) ∧ Below w.heap.size w w' := by
  have := ag_rprt_b (zs := Na.up (Na.dig x)) h i (by rw [nats_up]; exact hi)
  unfold prtL at this
  rw [Na.vld_dig hx, num_dig] at this
  exact this
theorem rprt_d_ow (h : Ow w0 w g M L O) (i : Nat) (hi : L[i]? = some ⟨A, n, c, nats (Na.dig x)⟩) (hx : x < Na.top) :
    Calls Tryd.prog 47 #[.agg #[.slice A n c]] w fun e w' => e = .returned (.string (str (De.text x))) ∧ Ow w0 w' g M L O :=
  (rprt_d h i hi hx).mono fun e w' ⟨he, hb⟩ => ⟨he, h.go hb⟩
set_option maxHeartbeats 4000000 in
theorem qrprint_ok (h : Ow w0 w g M L O) (i j : Nat) (hi : L[i]? = some ⟨A, n, c, nats (Na.dig x)⟩) (hj : L[j]? = some ⟨A2, m, c2, nats (Na.dig y)⟩) (hx : x < Na.top) (hy : y < Na.top) (h1 : rv (Na.up (Na.dig x)) (Na.up (Na.dig y)) = true) :
    Calls Tryd.prog 46 #[.agg #[.slice A n c, .slice A2 m c2]] w fun e w' => e = .returned (.string (str (De.text x ++ 47 :: De.text y))) ∧ Ow w0 w' g M L O := by
  have H0 := h.pair (.slice A n c) (.slice A2 m c2) 28
  have a0 := H0.p0 (O.length + 0) (by rw [get_r]; rfl)
  have a1 := H0.p1 (O.length + 0) (by rw [get_r]; rfl)
  have HV := Lib.hid (qrvalid_ow (p := Na.up (Na.dig x)) (q := Na.up (Na.dig y)) H0 i j (by rw [nats_up]; exact hi) (by rw [nats_up]; exact hj))
  rw [h1] at HV
  have HI := Lib.hid (And.intro hi hj)
  have HX := Lib.hid (And.intro hx hy)
  obtain ⟨sx, hsx⟩ : ∃ s, str (De.text x) = s := ⟨_, rfl⟩
  obtain ⟨sy, hsy⟩ : ∃ s, str (De.text y) = s := ⟨_, rfl⟩
  have hz1 : sx.size ≤ 4801 := by rw [← hsx]; exact text_size hx
  have hz2 : sy.size ≤ 4801 := by rw [← hsy]; exact text_size hy
  have hz3 : ¬ 9223372036854775807 < sx.size + 1 := by omega
  have hz4 : ¬ 9223372036854775807 < sx.size + 1 + sy.size := by omega
  clear hz1 hz2
  have HS : Hid (sx ++ ⟨#[47]⟩ ++ sy = str (De.text x ++ 47 :: De.text y)) := by
    unfold Hid
    rw [← hsx, ← hsy, show (⟨#[47]⟩ : ByteArray) = str [47] from rfl, str_append, str_append, List.append_assoc]; rfl
  have HSx := Lib.hid hsx
  have HSy := Lib.hid hsy
  clear h H0 hi hj h1 hx hy hsx hsy
  go_enter Tryd.func46, Tryd.ntmps46
  go_wp2_with fail
  refine HV.out.mono ?_
  rintro e w1 ⟨rfl, H1⟩
  have HF := Lib.hid H1
  have HD := Lib.hid H1.drew
  have a0 := HD.out.p0 (O.length + 0) (by rw [get_r]; rfl)
  have a1 := HD.out.p1 (O.length + 0) (by rw [get_r]; rfl)
  have cP1 := Lib.hid (rprt_d_ow HD.out i HI.out.1 HX.out.1)
  rw [HSx.out] at cP1
  clear H1 HV HF
  go_upto_region 3 with (fail)
  go_region_held3 (fun W => W.cell? ⟨w.heap.size, 0, none⟩ = some (.slice A n c) ∧ W.cell? ⟨w.heap.size, 1, none⟩ = some (.slice A2 m c2)) (first | exact ⟨a0, a1⟩ | exact ⟨how.p0 (O.length + 0) (by rw [get_r]; rfl), how.p1 (O.length + 0) (by rw [get_r]; rfl)⟩ | exact ⟨how2.p0 (O.length + 0) (by rw [get_r]; rfl), how2.p1 (O.length + 0) (by rw [get_r]; rfl)⟩) ((first | (go_at_call 47; (with_reducible refine cP1.out.mono ?_); rintro e v2 ⟨rfl, how⟩; have cP2 := Lib.hid (rprt_d_ow how j HI.out.2 HX.out.2); rw [HSy.out] at cP2) | (go_at_call 47; (with_reducible refine cP2.out.mono ?_); rintro e v3 ⟨rfl, how2⟩)))
  have HZ := Lib.hid how2.fewO
  clear a0 a1 cP1 cP2 how how2
  go_wp2_with fail
  go_ret
  rw [← HS.out]
  exact ⟨rfl, HZ.out⟩
end
end Go.Proofs.YtnfjnlnphdmdmaaDoor

/- Products and quotients of any two fractions. -/
import Derived.Test.YtnfjnlnphdmdmaaDoorQmb
namespace Go.Proofs.YtnfjnlnphdmdmaaDoor
open Go.RowKit Go.Sort
set_option linter.unusedVariables false
set_option maxRecDepth 100000
theorem nats_lay {L : List Ob} {i : Nat} {A : Option Addr} {n c : Nat} {l : List Nat} (h : L[i]? = some ⟨A, n, c, ints (Na.up l)⟩) : L[i]? = some ⟨A, n, c, nats l⟩ := by rw [nats_up] at h; exact h
def doE (e0 : Int) (v : Nat) : Int := if e0 = 0 then resE v else e0
def doL (e0 : Int) (v : Nat) : List Nat := if e0 = 0 then resL v else []
def sbE (e0 : Int) (x y : Nat) : Int := if e0 = 0 then (if x < y then 5 else 0) else e0
def sbL (e0 : Int) (x y : Nat) : List Nat := if e0 = 0 then (if x < y then [] else Na.dig (x - y)) else []
def mkF (e0 : Int) (x y : Nat) : Nat × Nat × Int := if e0 = 0 then frM x y else frE e0
theorem resE_zero {v : Nat} (h : resE v = 0) : v < Na.top := by
  unfold resE at h
  split at h
  · assumption
  · cases h
theorem resE_nt {v : Nat} (h : ¬ v < Na.top) : resE v = 3 := if_neg h
theorem doE_zero {e : Int} {v : Nat} (h : doE e v = 0) : e = 0 ∧ v < Na.top := by
  unfold doE at h
  split at h
  · exact ⟨by assumption, resE_zero h⟩
  · exact absurd h (by assumption)
theorem doL_of {v : Nat} (h : v < Na.top) : doL 0 v = Na.dig v := by rw [doL, if_pos rfl, resL_ok h]
theorem doE_of {v : Nat} (h : v < Na.top) : doE 0 v = 0 := by rw [doE, if_pos rfl, resE_ok h]
theorem doE_no {v : Nat} (h : ¬ v < Na.top) : doE 0 v = 3 := by rw [doE, if_pos rfl, resE_nt h]
theorem doE_on {e : Int} (v : Nat) (h : e ≠ 0) : doE e v = e := if_neg h
theorem do2_ok {X Z : Nat} (h : doE (doE 0 X) Z = 0) : doL 0 X = Na.dig X ∧ doL (doE 0 X) Z = Na.dig Z ∧ X < Na.top ∧ Z < Na.top := by
  obtain ⟨h1, hz⟩ := doE_zero h
  obtain ⟨-, hx⟩ := doE_zero h1
  rw [h1]
  exact ⟨doL_of hx, doL_of hz, hx, hz⟩
theorem mk2 (X Z : Nat) : mkF (doE (doE 0 X) Z) X Z = if X < Na.top ∧ Z < Na.top then frM X Z else frE 3 := by
  by_cases hx : X < Na.top
  · rw [doE_of hx]
    by_cases hz : Z < Na.top
    · rw [doE_of hz, if_pos ⟨hx, hz⟩]; rfl
    · rw [doE_no hz, if_neg (fun h => hz h.2)]; rfl
  · rw [doE_no hx, doE_on _ (by decide), if_neg (fun h => hx h.1)]; rfl
section
variable {w0 w w' : World} {g : Option Nat} {M M2 : List (Nat × Value)} {L : List Ob} {O : List Rw} {A A2 A3 A4 : Option Addr} {b n c m c2 n3 c3 n4 c4 x y : Nat} {p q r s : List Int}
theorem do_mulx {e0 : Int} {l1 l2 : List Nat} (h : Ow w0 w g (M ++ (b, .int .i64 e0) :: M2) L O) (i j : Nat) (hi : L[i]? = some ⟨A, n, c, nats l1⟩) (hj : L[j]? = some ⟨A2, m, c2, nats l2⟩) (he : e0 = 0 → l1 = Na.dig x ∧ l2 = Na.dig y ∧ x < Na.top ∧ y < Na.top) :
    Calls Tryd.prog 65 #[.pointer (some ⟨b, 0, none⟩), .func (.func 30) #[] #[], .agg #[.slice A n c], .agg #[.slice A2 m c2]] w (DoR w0 g M M2 b L O (doE e0 (x * y)) (doL e0 (x * y))) := by
  unfold doE doL
  by_cases h0 : e0 = 0
  · subst h0
    obtain ⟨rfl, rfl, hx, hy⟩ := he rfl
    rw [if_pos rfl, if_pos rfl]
    exact do_mul h i j hi hj hx hy
  · rw [if_neg h0, if_neg h0]
    exact do_no h (by simpa using h0) _
theorem smake_x {e0 : Int} {l1 l2 : List Nat} (h : Ow w0 w g (M ++ (b, .int .i64 e0) :: M2) L O) (i j : Nat) (hi : L[i]? = some ⟨A, n, c, nats l1⟩) (hj : L[j]? = some ⟨A2, m, c2, nats l2⟩) (he : e0 = 0 → l1 = Na.dig x ∧ l2 = Na.dig y ∧ x < Na.top ∧ y < Na.top) (ht : Tab w0) :
    Calls Tryd.prog 64 #[.pointer (some ⟨b, 0, none⟩), .agg #[.slice A n c], .agg #[.slice A2 m c2]] w (GotF w0 g (M ++ (b, .int .i64 e0) :: M2) L O (mkF e0 x y)) := by
  unfold mkF
  by_cases h0 : e0 = 0
  · subst h0
    obtain ⟨rfl, rfl, hx, hy⟩ := he rfl
    rw [if_pos rfl]
    exact smake_d h i j hi hj hx hy ht
  · rw [if_neg h0]
    exact smake_no h (by simpa using h0)
set_option maxHeartbeats 8000000 in
theorem qmul_any (h : Ow w0 w g M L O) (i j k l : Nat) (hi : L[i]? = some ⟨A, n, c, ints p⟩) (hj : L[j]? = some ⟨A2, m, c2, ints q⟩) (hk : L[k]? = some ⟨A3, n3, c3, ints r⟩) (hl : L[l]? = some ⟨A4, n4, c4, ints s⟩) (ht : Tab w0) :
    Calls Tryd.prog 24 #[.agg #[.slice A n c, .slice A2 m c2], .agg #[.slice A3 n3 c3, .slice A4 n4 c4]] w (GotF w0 g M L O (mulF p q r s)) := by
  cases hb : rv p q && rv r s with
  | false =>
    have e1 : mulF p q r s = frE 1 := by unfold mulF; rw [hb]; rfl
    rw [e1]
    exact qmul_bad h i j k l hi hj hk hl ht hb
  | true =>
  have e1 : mulF p q r s = mkF (doE (doE 0 (num p * num r)) (num q * num s)) (num p * num r) (num q * num s) := by unfold mulF; rw [hb, mk2]; rfl
  rw [e1]
  clear e1
  obtain ⟨h1, h2⟩ := Bool.and_eq_true_iff.1 hb
  obtain ⟨x, y, hx, hy, -, -, rfl, rfl⟩ := rv_ex h1
  obtain ⟨u, v, hu, hv, -, -, rfl, rfl⟩ := rv_ex h2
  rw [num_dig, num_dig, num_dig, num_dig]
  have H0 := ((h.pair (.slice A n c) (.slice A2 m c2) 28).pair (.slice A3 n3 c3) (.slice A4 n4 c4) 28).pair (.slice none 0 0) (.slice none 0 0) 28
  simp only [World.size_alloc, List.append_assoc, List.cons_append, List.nil_append] at H0
  have a0 := H0.p0 (O.length + 0) (by rw [get_r]; rfl)
  have a1 := H0.p1 (O.length + 0) (by rw [get_r]; rfl)
  have b0 := H0.p0 (O.length + 1) (by rw [get_r]; rfl)
  have b1 := H0.p1 (O.length + 1) (by rw [get_r]; rfl)
  have HV := Lib.hid (qboth_ow H0 i j k l hi hj hk hl ht)
  rw [hb] at HV
  have HI := Lib.hid (And.intro (nats_lay hi) (And.intro (nats_lay hj) (And.intro (nats_lay hk) (And.intro (nats_lay hl) ht))))
  have HX := Lib.hid (And.intro hx (And.intro hy (And.intro hu hv)))
  have hok := @do2_ok (x * u) (y * v)
  obtain ⟨er, her⟩ : ∃ e, doE 0 (x * u) = e := ⟨_, rfl⟩
  rw [her] at hok ⊢
  obtain ⟨l1, hl1⟩ : ∃ e, doL 0 (x * u) = e := ⟨_, rfl⟩
  rw [hl1] at hok
  obtain ⟨er2, her2⟩ : ∃ e, doE er (y * v) = e := ⟨_, rfl⟩
  rw [her2] at hok ⊢
  obtain ⟨l2, hl2⟩ : ∃ e, doL er (y * v) = e := ⟨_, rfl⟩
  rw [hl2] at hok
  obtain ⟨t, hmk⟩ : ∃ t, mkF er2 (x * u) (y * v) = t := ⟨_, rfl⟩
  rw [hmk]
  have HE := Lib.hid (And.intro her (And.intro hl1 (And.intro her2 (And.intro hl2 (And.intro hmk hok)))))
  clear h H0 hi hj hk hl ht h1 h2 hx hy hu hv hmk her hl1 her2 hl2 hok hb
  go_enter Tryd.func24, Tryd.ntmps24
  go_wp2_with fail
  refine HV.out.mono ?_
  rintro e w1 ⟨rfl, H1⟩
  have HD := Lib.hid (H1.boxed (.int .i64 0) 73).drew
  clear HV H1 a0 a1 b0 b1
  go_upto_region 4 with (fail)
  have a0 := HD.out.p0 (O.length + 0) (by rw [get_r]; rfl)
  have a1 := HD.out.p1 (O.length + 0) (by rw [get_r]; rfl)
  have b0 := HD.out.p0 (O.length + 1) (by rw [get_r]; rfl)
  have b1 := HD.out.p1 (O.length + 1) (by rw [get_r]; rfl)
  have HA1 := Lib.hid (do_mulx HD.out i k HI.out.1 HI.out.2.2.1 (fun _ => ⟨rfl, rfl, HX.out.1, HX.out.2.2.1⟩))
  rw [HE.out.1, HE.out.2.1] at HA1
  go_region_held3 (fun W => W.cell? ⟨w.heap.size, 0, none⟩ = some (.slice A n c) ∧ W.cell? ⟨w.heap.size, 1, none⟩ = some (.slice A2 m c2) ∧ W.cell? ⟨w.heap.size + 1, 0, none⟩ = some (.slice A3 n3 c3) ∧ W.cell? ⟨w.heap.size + 1, 1, none⟩ = some (.slice A4 n4 c4)) (first | exact ⟨a0, a1, b0, b1⟩ | exact ⟨how4.p0 (O.length + 0) (by rw [get_r]; rfl), how4.p1 (O.length + 0) (by rw [get_r]; rfl), how4.p0 (O.length + 1) (by rw [get_r]; rfl), how4.p1 (O.length + 1) (by rw [get_r]; rfl)⟩ | exact ⟨how.p0 (O.length + 0) (by rw [get_r]; rfl), how.p1 (O.length + 0) (by rw [get_r]; rfl), how.p0 (O.length + 1) (by rw [get_r]; rfl), how.p1 (O.length + 1) (by rw [get_r]; rfl)⟩ | exact ⟨how2.p0 (O.length + 0) (by rw [get_r]; rfl), how2.p1 (O.length + 0) (by rw [get_r]; rfl), how2.p0 (O.length + 1) (by rw [get_r]; rfl), how2.p1 (O.length + 1) (by rw [get_r]; rfl)⟩ | exact ⟨how3.p0 (O.length + 0) (by rw [get_r]; rfl), how3.p1 (O.length + 0) (by rw [get_r]; rfl), how3.p0 (O.length + 1) (by rw [get_r]; rfl), how3.p1 (O.length + 1) (by rw [get_r]; rfl)⟩) ((first | (go_at_call 65; (with_reducible refine HA1.out.mono ?_); rintro e v2 ⟨B1, m1, d1, rfl, how⟩; have HA2 := Lib.hid (do_mulx how j l ((get_l _ _ (get_lt HI.out.2.1)).trans HI.out.2.1) ((get_l _ _ (get_lt HI.out.2.2.2.1)).trans HI.out.2.2.2.1) (fun _ => ⟨rfl, rfl, HX.out.2.1, HX.out.2.2.2⟩)); rw [HE.out.2.2.1, HE.out.2.2.2.1] at HA2) | (go_at_call 65; (with_reducible refine HA2.out.mono ?_); rintro e v3 ⟨B2, m2, d2, rfl, how2⟩; rw [List.append_assoc] at how2; have HA3 := Lib.hid (smake_x how2 (L.length + 0) (L.length + 1) (by rw [get_r]; rfl) (by rw [get_r]; rfl) HE.out.2.2.2.2.2 HI.out.2.2.2.2); rw [HE.out.2.2.2.2.1] at HA3) | (go_at_call 64; (with_reducible refine HA3.out.mono ?_); rintro e v4 ⟨C1, k1, e1, C2, k2, e2, rfl, how3⟩; have z0 := how3.p0 (O.length + 2) (by rw [get_r]; rfl); have z1 := how3.p1 (O.length + 2) (by rw [get_r]; rfl); have f0 := how3.pf (O.length + 2) (by rw [get_r]; rfl) 0; have f1 := how3.pf (O.length + 2) (by rw [get_r]; rfl) 1; have how4' := how3.set0 (O.length + 2) (by rw [get_r]; rfl) (.slice C1 k1 e1); rw [set_r] at how4'; simp only [List.set_cons_succ, List.set_cons_zero] at how4'; have how4 := how4'.set1 (O.length + 2) (by rw [get_r]; rfl) (.slice C2 k2 e2); rw [set_r] at how4; simp only [List.set_cons_succ, List.set_cons_zero] at how4)))
  have s0 := how4.p0 (O.length + 2) (by rw [get_r]; rfl)
  have s1 := how4.p1 (O.length + 2) (by rw [get_r]; rfl)
  have HF := Lib.hid (how4.fewM.fewO.less (mid_less L _ _ _))
  clear how how2 how3 how4' how4 a0 a1 b0 b1 z0 z1 f0 f1 HA1 HA2 HA3
  go_wp2_with fail
  refine bodyPost_ret (v := .tuple #[.agg #[.slice C1 k1 e1, .slice C2 k2 e2], .int .i64 t.2.2]) (by simp [results, Tryd.results24, go_sem, s0, s1]) rfl ?_
  exact ⟨C1, k1, e1, C2, k2, e2, rfl, HF.out⟩
theorem rv_turn {p q : List Int} (h : rv p q = true) (h0 : num p ≠ 0) : rv q p = true := by
  obtain ⟨x, y, hx, hy, hy0, hg, rfl, rfl⟩ := rv_ex h
  rw [num_dig] at h0
  exact rv_low hy hx (by omega) (by rw [Nat.gcd_comm]; exact hg)
theorem divF_go {p q r s : List Int} (h1 : rv p q = true) (h2 : rv r s = true) (h0 : num r ≠ 0) : divF p q r s = mulF p q s r := by
  unfold divF mulF
  rw [h1, h2, rv_turn h2 h0, Bool.and_true, if_pos rfl, if_pos rfl, if_neg h0]
theorem rv_len {r s : List Int} (h : rv r s = true) : r = [] ↔ num r = 0 := by
  obtain ⟨x, y, hx, hy, hy0, hg, rfl, rfl⟩ := rv_ex h
  rw [num_dig]
  constructor
  · intro e
    have : (Na.up (Na.dig x)).length = 0 := by rw [e]; rfl
    rw [Na.up_length] at this
    exact Na.dig_len0.1 this
  · rintro rfl
    rw [Na.dig_zero]; rfl
set_option maxHeartbeats 8000000 in
theorem qdiv_any (h : Ow w0 w g M L O) (i j k l : Nat) (hi : L[i]? = some ⟨A, n, c, ints p⟩) (hj : L[j]? = some ⟨A2, m, c2, ints q⟩) (hk : L[k]? = some ⟨A3, n3, c3, ints r⟩) (hl : L[l]? = some ⟨A4, n4, c4, ints s⟩) (ht : Tab w0) :
    Calls Tryd.prog 22 #[.agg #[.slice A n c, .slice A2 m c2], .agg #[.slice A3 n3 c3, .slice A4 n4 c4]] w (GotF w0 g M L O (divF p q r s)) := by
  have hn3 : n3 = r.length ∧ n3 ≤ 1000 := ⟨by have := (h.sl hk).1; rw [ints_length] at this; exact this.symm, (h.sl hk).2.2.1⟩
  have H0 := ((h.pair (.slice A n c) (.slice A2 m c2) 28).pair (.slice A3 n3 c3) (.slice A4 n4 c4) 28).pair (.slice none 0 0) (.slice none 0 0) 28
  simp only [World.size_alloc, List.append_assoc, List.cons_append, List.nil_append] at H0
  have a0 := H0.p0 (O.length + 0) (by rw [get_r]; rfl)
  have a1 := H0.p1 (O.length + 0) (by rw [get_r]; rfl)
  have b0 := H0.p0 (O.length + 1) (by rw [get_r]; rfl)
  have b1 := H0.p1 (O.length + 1) (by rw [get_r]; rfl)
  have HV := Lib.hid (qboth_ow H0 i j k l hi hj hk hl ht)
  cases hb : rv p q && rv r s with
  | false =>
  have e1 : divF p q r s = frE 1 := by unfold divF; rw [hb]; rfl
  rw [e1]
  rw [hb] at HV
  clear h H0 hi hj hk hl ht hb e1 hn3
  go_enter Tryd.func22, Tryd.ntmps22
  go_wp2_with fail
  refine HV.out.mono ?_
  rintro e w1 ⟨rfl, H1⟩
  clear HV a0 a1 b0 b1
  have k0 := H1.p0 (O.length + 2) (by rw [get_r]; rfl)
  have k1 := H1.p1 (O.length + 2) (by rw [get_r]; rfl)
  have f0 := H1.pf (O.length + 2) (by rw [get_r]; rfl) 0
  have f1 := H1.pf (O.length + 2) (by rw [get_r]; rfl) 1
  have H3 := H1.set0 (O.length + 2) (by rw [get_r]; rfl) (.slice none 0 0)
  rw [set_r] at H3
  simp only [List.set_cons_succ, List.set_cons_zero] at H3
  have H4 := H3.set1 (O.length + 2) (by rw [get_r]; rfl) (.slice none 0 0)
  rw [set_r] at H4
  simp only [List.set_cons_succ, List.set_cons_zero] at H4
  have s0 := H4.p0 (O.length + 2) (by rw [get_r]; rfl)
  have s1 := H4.p1 (O.length + 2) (by rw [get_r]; rfl)
  have HF := Lib.hid H4.fewO
  clear H1 H3 H4
  go_wp2_with fail
  refine bodyPost_ret (v := .tuple #[.agg #[.slice none 0 0, .slice none 0 0], .int .i64 1]) (by simp [results, Tryd.results22, go_sem, s0, s1]) rfl ?_
  exact gotF_nil HF.out 1
  | true =>
  rw [hb] at HV
  obtain ⟨h1, h2⟩ := Bool.and_eq_true_iff.1 hb
  by_cases h0 : num r = 0
  · have e1 : divF p q r s = frE 4 := by unfold divF; rw [hb, if_pos rfl, if_pos h0]
    rw [e1]
    have hz : ((n3 : Int) == 0) = true := by rw [hn3.1, (rv_len h2).2 h0]; rfl
    have HN := Lib.hid hn3
    clear h H0 hi hj hk hl ht hb e1 hn3 h1 h2 h0
    go_enter Tryd.func22, Tryd.ntmps22
    go_wp2_with fail
    refine HV.out.mono ?_
    rintro e w1 ⟨rfl, H1⟩
    have b0 := H1.p0 (O.length + 1) (by rw [get_r]; rfl)
    have HZ := Lib.hid (qzero_ow (A := A3) (n := n3) (c := c3) H1 HN.out.2)
    rw [hz] at HZ
    clear HV H1 a0 a1 b1
    go_wp2_with fail
    refine HZ.out.mono ?_
    rintro e w2 ⟨rfl, H2⟩
    clear HZ b0
    have k0 := H2.p0 (O.length + 2) (by rw [get_r]; rfl)
    have k1 := H2.p1 (O.length + 2) (by rw [get_r]; rfl)
    have f0 := H2.pf (O.length + 2) (by rw [get_r]; rfl) 0
    have f1 := H2.pf (O.length + 2) (by rw [get_r]; rfl) 1
    have H3 := H2.set0 (O.length + 2) (by rw [get_r]; rfl) (.slice none 0 0)
    rw [set_r] at H3
    simp only [List.set_cons_succ, List.set_cons_zero] at H3
    have H4 := H3.set1 (O.length + 2) (by rw [get_r]; rfl) (.slice none 0 0)
    rw [set_r] at H4
    simp only [List.set_cons_succ, List.set_cons_zero] at H4
    have s0 := H4.p0 (O.length + 2) (by rw [get_r]; rfl)
    have s1 := H4.p1 (O.length + 2) (by rw [get_r]; rfl)
    have HF := Lib.hid H4.fewO
    clear H2 H3 H4
    go_wp2_with fail
    refine bodyPost_ret (v := .tuple #[.agg #[.slice none 0 0, .slice none 0 0], .int .i64 4]) (by simp [results, Tryd.results22, go_sem, s0, s1]) rfl ?_
    exact gotF_nil HF.out 4
  · rw [divF_go h1 h2 h0]
    have hz : ((n3 : Int) == 0) = false := by
      rw [beq_eq_false_iff_ne]
      intro e
      have : r = [] := List.eq_nil_of_length_eq_zero (by omega)
      exact h0 ((rv_len h2).1 this)
    have HN := Lib.hid hn3
    have HI := Lib.hid (And.intro hi (And.intro hj (And.intro hk (And.intro hl ht))))
    obtain ⟨t, hmk⟩ : ∃ t, mulF p q s r = t := ⟨_, rfl⟩
    have HMk := Lib.hid hmk
    rw [hmk]
    clear h H0 hi hj hk hl ht hb hn3 h1 h2 h0 hmk
    go_enter Tryd.func22, Tryd.ntmps22
    go_wp2_with fail
    refine HV.out.mono ?_
    rintro e w1 ⟨rfl, H1⟩
    have b0 := H1.p0 (O.length + 1) (by rw [get_r]; rfl)
    have HZ := Lib.hid (qzero_ow (A := A3) (n := n3) (c := c3) H1 HN.out.2)
    rw [hz] at HZ
    clear HV H1 a0 a1 b1
    go_wp2_with fail
    refine HZ.out.mono ?_
    rintro e w2 ⟨rfl, H2⟩
    have a0 := H2.p0 (O.length + 0) (by rw [get_r]; rfl)
    have a1 := H2.p1 (O.length + 0) (by rw [get_r]; rfl)
    have b0 := H2.p0 (O.length + 1) (by rw [get_r]; rfl)
    have b1 := H2.p1 (O.length + 1) (by rw [get_r]; rfl)
    have HM := Lib.hid (qmul_any H2 i j l k HI.out.1 HI.out.2.1 HI.out.2.2.2.1 HI.out.2.2.1 HI.out.2.2.2.2)
    rw [HMk.out] at HM
    clear HZ H2
    go_wp2_with fail
    refine HM.out.mono ?_
    rintro e w3 ⟨C1, k1, e1, C2, k2, e2, rfl, how3⟩
    clear HM a0 a1 b0 b1
    have z0 := how3.p0 (O.length + 2) (by rw [get_r]; rfl)
    have z1 := how3.p1 (O.length + 2) (by rw [get_r]; rfl)
    have f0 := how3.pf (O.length + 2) (by rw [get_r]; rfl) 0
    have f1 := how3.pf (O.length + 2) (by rw [get_r]; rfl) 1
    have how4' := how3.set0 (O.length + 2) (by rw [get_r]; rfl) (.slice C1 k1 e1)
    rw [set_r] at how4'
    simp only [List.set_cons_succ, List.set_cons_zero] at how4'
    have how4 := how4'.set1 (O.length + 2) (by rw [get_r]; rfl) (.slice C2 k2 e2)
    rw [set_r] at how4
    simp only [List.set_cons_succ, List.set_cons_zero] at how4
    have s0 := how4.p0 (O.length + 2) (by rw [get_r]; rfl)
    have s1 := how4.p1 (O.length + 2) (by rw [get_r]; rfl)
    have HF := Lib.hid how4.fewO
    clear how3 how4' how4
    go_wp2_with fail
    refine bodyPost_ret (v := .tuple #[.agg #[.slice C1 k1 e1, .slice C2 k2 e2], .int .i64 t.2.2]) (by simp [results, Tryd.results22, go_sem, s0, s1]) rfl ?_
    exact ⟨C1, k1, e1, C2, k2, e2, rfl, HF.out⟩
end
end Go.Proofs.YtnfjnlnphdmdmaaDoor

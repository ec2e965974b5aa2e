/- XQk XQu XQv XQj XQw joined. -/
import Derived.Test.YtnfjnlnphdmdmaaGreatDoorQmb
import Derived.Test.YtnfjnlnphdmdmaaGreatDoorRegInv
/- Two products side by side, each put into a variable: what is held while the region goes on, in whatever order. -/
namespace Go.Proofs.YtnfjnlnphdmdmaaGreatDoor
open Go.RowKit Go.Sort
set_option linter.unusedVariables false
set_option maxRecDepth 100000
def BX (L : Nat → Bool) (a s : Nat) (v u : Value) (ps : List (Nat × Value)) : Prop :=
  L a = true → ∃ (t b : Nat) (x : Value), v = .pointer (some ⟨b, 0, none⟩) ∧ ps[t]? = some (b, x) ∧ (L s = false → x = .slice none 0 0) ∧ (L s = true → u = .agg #[x])
def GX (L : Nat → Bool) (k : Nat) (u : Value) (X : Nat) (Ls : List Ob) : Prop :=
  L k = true → ∃ (t : Nat) (B : Option Addr) (m d : Nat), u = .agg #[.slice B m d] ∧ Ls[t]? = some ⟨B, m, d, nats (Na.dig X)⟩
theorem GX.more {L : Nat → Bool} {k : Nat} {u : Value} {X : Nat} {Ls l : List Ob} (h : GX L k u X Ls) : GX L k u X (Ls ++ l) := fun e => by
  obtain ⟨t, B, m, d, h1, h2⟩ := h e
  exact ⟨t, B, m, d, h1, by rw [List.getElem?_append_left (get_lt h2)]; exact h2⟩
theorem BX.more {L : Nat → Bool} {a s : Nat} {v u : Value} {ps l : List (Nat × Value)} (h : BX L a s v u ps) : BX L a s v u (ps ++ l) := fun e => by
  obtain ⟨t, b, x, h1, h2, h3⟩ := h e
  exact ⟨t, b, x, h1, by rw [List.getElem?_append_left (get_lt h2)]; exact h2, h3⟩
theorem BX.set {L : Nat → Bool} {a s : Nat} {v v' u : Value} {ps : List (Nat × Value)} (h : BX L a s v u ps) {t b : Nat} {x y : Value} (ht : ps[t]? = some (b, x)) (e : v' = .pointer (some ⟨b, 0, none⟩)) (hne : L a = true → v ≠ v') : BX L a s v u (ps.set t (b, y)) := fun hl => by
  obtain ⟨t', b', x', h1, h2, h3⟩ := h hl
  refine ⟨t', b', x', h1, ?_, h3⟩
  rw [List.getElem?_set_ne]
  · exact h2
  · rintro rfl
    rw [ht] at h2
    obtain ⟨rfl, rfl⟩ := Prod.mk.inj (Option.some.inj h2)
    exact hne hl (by rw [h1, e])
section
variable {w0 W : World} {g : Option Nat} {M ps : List (Nat × Value)} {s : Nat × Value} {Ls : List Ob} {O : List Rw}
theorem Ow.psc (h : Ow w0 W g (M ++ s :: ps) Ls O) {t b : Nat} {x : Value} (ht : ps[t]? = some (b, x)) : W.cell? ⟨b, 0, none⟩ = some x ∧ W.frozen? ⟨b, 0, none⟩ = false := by
  have e : (M ++ s :: ps)[M.length + (t + 1)]? = some (b, x) := by rw [get_r]; exact ht
  exact ⟨h.cell _ e, h.free _ e⟩
theorem Ow.pss (h : Ow w0 W g (M ++ s :: ps) Ls O) {t b : Nat} {x : Value} (ht : ps[t]? = some (b, x)) (y : Value) : Ow w0 (W.setCell ⟨b, 0, none⟩ y) g (M ++ s :: ps.set t (b, y)) Ls O := by
  have e : (M ++ s :: ps)[M.length + (t + 1)]? = some (b, x) := by rw [get_r]; exact ht
  have := h.setv _ e y
  rwa [set_r, List.set_cons_succ] at this
theorem Ow.psb (h : Ow w0 W g (M ++ s :: ps) Ls O) (v : Value) (T : TypeId) : Ow w0 (W.alloc (.cells #[v] T)) g (M ++ s :: (ps ++ [(W.heap.size, v)])) Ls O := by
  have := h.boxed v T
  rwa [List.append_assoc, List.cons_append] at this
theorem Ow.psl (h : Ow w0 W g (M ++ s :: ps) Ls O) {t b : Nat} {x : Value} (ht : ps[t]? = some (b, x)) : b < W.heap.size :=
  (h.st.box (M.length + (t + 1)) b x (by rw [get_r]; exact ht)).1
end
structure Four where
  A : Option Addr
  n : Nat
  c : Nat
  A2 : Option Addr
  m : Nat
  c2 : Nat
  A3 : Option Addr
  n3 : Nat
  c3 : Nat
  A4 : Option Addr
  n4 : Nat
  c4 : Nat
end Go.Proofs.YtnfjnlnphdmdmaaGreatDoor

/- Products and quotients of any two fractions. -/
namespace Go.Proofs.YtnfjnlnphdmdmaaGreatDoor
open Go.RowKit Go.Sort
set_option linter.unusedVariables false
set_option maxRecDepth 100000
theorem nats_lay {L : List Ob} {i : Nat} {A : Option Addr} {n c : Nat} {l : List Nat} (h : L[i]? = some ⟨A, n, c, ints (Na.up l)⟩) : L[i]? = some ⟨A, n, c, nats l⟩ := by rw [nats_up] at h; exact h
def doE (e0 : Int) (v : Nat) : Int := if e0 = 0 then resE v else e0
def doL (e0 : Int) (v : Nat) : List Nat := if e0 = 0 then resL v else []
def sbE (e0 : Int) (x y : Nat) : Int := if e0 = 0 then (if x < y then 5 else 0) else e0
def sbL (e0 : Int) (x y : Nat) : List Nat := if e0 = 0 then (if x < y then [] else Na.dig (x - y)) else []
def mkF (e0 : Int) (x y : Nat) : Nat × Nat × Int := if e0 = 0 then frM x y else frE e0
theorem resE_zero {v : Nat} (h : resE v = 0) : v < Na.top := by
  unfold resE at h
  split at h
  · assumption
  · cases h
theorem resE_nt {v : Nat} (h : ¬ v < Na.top) : resE v = 3 := if_neg h
theorem doE_zero {e : Int} {v : Nat} (h : doE e v = 0) : e = 0 ∧ v < Na.top := by
  unfold doE at h
  split at h
  · exact ⟨by assumption, resE_zero h⟩
  · exact absurd h (by assumption)
theorem doL_of {v : Nat} (h : v < Na.top) : doL 0 v = Na.dig v := by rw [doL, if_pos rfl, resL_ok h]
theorem doE_of {v : Nat} (h : v < Na.top) : doE 0 v = 0 := by rw [doE, if_pos rfl, resE_ok h]
theorem doE_no {v : Nat} (h : ¬ v < Na.top) : doE 0 v = 3 := by rw [doE, if_pos rfl, resE_nt h]
theorem doE_on {e : Int} (v : Nat) (h : e ≠ 0) : doE e v = e := if_neg h
theorem do2_ok {X Z : Nat} (h : doE (doE 0 X) Z = 0) : doL 0 X = Na.dig X ∧ doL (doE 0 X) Z = Na.dig Z ∧ X < Na.top ∧ Z < Na.top := by
  obtain ⟨h1, hz⟩ := doE_zero h
  obtain ⟨-, hx⟩ := doE_zero h1
  rw [h1]
  exact ⟨doL_of hx, doL_of hz, hx, hz⟩
theorem mk2 (X Z : Nat) : mkF (doE (doE 0 X) Z) X Z = if X < Na.top ∧ Z < Na.top then frM X Z else frE 3 := by
  by_cases hx : X < Na.top
  · rw [doE_of hx]
    by_cases hz : Z < Na.top
    · rw [doE_of hz, if_pos ⟨hx, hz⟩]; rfl
    · rw [doE_no hz, if_neg (fun h => hz h.2)]; rfl
  · rw [doE_no hx, doE_on _ (by decide), if_neg (fun h => hx h.1)]; rfl
section
variable {w0 w w' : World} {g : Option Nat} {M M2 : List (Nat × Value)} {L : List Ob} {O : List Rw} {A A2 A3 A4 : Option Addr} {b n c m c2 n3 c3 n4 c4 x y : Nat} {p q r s : List Int}
theorem do_mulx {e0 : Int} {l1 l2 : List Nat} (h : Ow w0 w g (M ++ (b, .int .i64 e0) :: M2) L O) (i j : Nat) (hi : L[i]? = some ⟨A, n, c, nats l1⟩) (hj : L[j]? = some ⟨A2, m, c2, nats l2⟩) (he : e0 = 0 → l1 = Na.dig x ∧ l2 = Na.dig y ∧ x < Na.top ∧ y < Na.top) :
    Calls Tryz.prog 51 #[.pointer (some ⟨b, 0, none⟩), .func (.func 52) #[] #[], .agg #[.slice A n c], .agg #[.slice A2 m c2]] w (DoR w0 g M M2 b L O (doE e0 (x * y)) (doL e0 (x * y))) := by
  unfold doE doL
  by_cases h0 : e0 = 0
  · subst h0
    obtain ⟨rfl, rfl, hx, hy⟩ := he rfl
    rw [if_pos rfl, if_pos rfl]
    exact do_mul h i j hi hj hx hy
  · rw [if_neg h0, if_neg h0]
    exact do_no h (by simpa using h0) _
theorem smake_x {e0 : Int} {l1 l2 : List Nat} (h : Ow w0 w g (M ++ (b, .int .i64 e0) :: M2) L O) (i j : Nat) (hi : L[i]? = some ⟨A, n, c, nats l1⟩) (hj : L[j]? = some ⟨A2, m, c2, nats l2⟩) (he : e0 = 0 → l1 = Na.dig x ∧ l2 = Na.dig y ∧ x < Na.top ∧ y < Na.top) (ht : Tab w0) :
    Calls Tryz.prog 50 #[.pointer (some ⟨b, 0, none⟩), .agg #[.slice A n c], .agg #[.slice A2 m c2]] w (GotF w0 g (M ++ (b, .int .i64 e0) :: M2) L O (mkF e0 x y)) := by
  unfold mkF
  by_cases h0 : e0 = 0
  · subst h0
    obtain ⟨rfl, rfl, hx, hy⟩ := he rfl
    rw [if_pos rfl]
    exact smake_d h i j hi hj hx hy ht
  · rw [if_neg h0]
    exact smake_no h (by simpa using h0)
set_option maxHeartbeats 8000000 in
theorem qmul_any (h : Ow w0 w g M L O) (i j k l : Nat) (hi : L[i]? = some ⟨A, n, c, ints p⟩) (hj : L[j]? = some ⟨A2, m, c2, ints q⟩) (hk : L[k]? = some ⟨A3, n3, c3, ints r⟩) (hl : L[l]? = some ⟨A4, n4, c4, ints s⟩) (ht : Tab w0) :
    Calls Tryz.prog 21 #[.agg #[.slice A n c, .slice A2 m c2], .agg #[.slice A3 n3 c3, .slice A4 n4 c4]] w (GotF w0 g M L O (mulF p q r s)) := by
  cases hb : rv p q && rv r s with
  | false =>
    have e1 : mulF p q r s = frE 1 := by unfold mulF; rw [hb]; rfl
    rw [e1]
    exact qmul_bad h i j k l hi hj hk hl ht hb
  | true =>
  have e1 : mulF p q r s = mkF (doE (doE 0 (num p * num r)) (num q * num s)) (num p * num r) (num q * num s) := by unfold mulF; rw [hb, mk2]; rfl
  rw [e1]
  clear e1
  obtain ⟨h1, h2⟩ := Bool.and_eq_true_iff.1 hb
  obtain ⟨x, y, hx, hy, -, -, rfl, rfl⟩ := rv_ex h1
  obtain ⟨u, v, hu, hv, -, -, rfl, rfl⟩ := rv_ex h2
  rw [num_dig, num_dig, num_dig, num_dig]
  have H0 := ((h.pair (.slice A n c) (.slice A2 m c2) 26).pair (.slice A3 n3 c3) (.slice A4 n4 c4) 26).pair (.slice none 0 0) (.slice none 0 0) 26
  simp only [World.size_alloc, List.append_assoc, List.cons_append, List.nil_append] at H0
  have a0 := H0.p0 (O.length + 0) (by rw [get_r]; rfl)
  have a1 := H0.p1 (O.length + 0) (by rw [get_r]; rfl)
  have b0 := H0.p0 (O.length + 1) (by rw [get_r]; rfl)
  have b1 := H0.p1 (O.length + 1) (by rw [get_r]; rfl)
  have HV := Lib.hid (qboth_ow H0 i j k l hi hj hk hl ht)
  rw [hb] at HV
  have HI := Lib.hid (And.intro (nats_lay hi) (And.intro (nats_lay hj) (And.intro (nats_lay hk) (And.intro (nats_lay hl) ht))))
  have HX := Lib.hid (And.intro hx (And.intro hy (And.intro hu hv)))
  have hok := @do2_ok (x * u) (y * v)
  obtain ⟨er, her⟩ : ∃ e, doE 0 (x * u) = e := ⟨_, rfl⟩
  rw [her] at hok ⊢
  obtain ⟨l1, hl1⟩ : ∃ e, doL 0 (x * u) = e := ⟨_, rfl⟩
  rw [hl1] at hok
  obtain ⟨er2, her2⟩ : ∃ e, doE er (y * v) = e := ⟨_, rfl⟩
  rw [her2] at hok ⊢
  obtain ⟨l2, hl2⟩ : ∃ e, doL er (y * v) = e := ⟨_, rfl⟩
  rw [hl2] at hok
  obtain ⟨t, hmk⟩ : ∃ t, mkF er2 (x * u) (y * v) = t := ⟨_, rfl⟩
  rw [hmk]
  have HE := Lib.hid (And.intro her (And.intro hl1 (And.intro her2 (And.intro hl2 (And.intro hmk hok)))))
  clear h H0 hi hj hk hl ht h1 h2 hx hy hu hv hmk her hl1 her2 hl2 hok hb
  go_enter Tryz.func21, Tryz.ntmps21
  go_wp2_with fail
  refine HV.out.mono ?_
  rintro e w1 ⟨rfl, H1⟩
  have HD := Lib.hid (H1.boxed (.int .i64 0) 60).drew
  clear HV H1 a0 a1 b0 b1
  go_upto_region 4 with (fail)
  have a0 := HD.out.p0 (O.length + 0) (by rw [get_r]; rfl)
  have a1 := HD.out.p1 (O.length + 0) (by rw [get_r]; rfl)
  have b0 := HD.out.p0 (O.length + 1) (by rw [get_r]; rfl)
  have b1 := HD.out.p1 (O.length + 1) (by rw [get_r]; rfl)
  have HA1 := Lib.hid (do_mulx HD.out i k HI.out.1 HI.out.2.2.1 (fun _ => ⟨rfl, rfl, HX.out.1, HX.out.2.2.1⟩))
  rw [HE.out.1, HE.out.2.1] at HA1
  go_region_held3 (fun W => W.cell? ⟨w.heap.size, 0, none⟩ = some (.slice A n c) ∧ W.cell? ⟨w.heap.size, 1, none⟩ = some (.slice A2 m c2) ∧ W.cell? ⟨w.heap.size + 1, 0, none⟩ = some (.slice A3 n3 c3) ∧ W.cell? ⟨w.heap.size + 1, 1, none⟩ = some (.slice A4 n4 c4)) (first | exact ⟨a0, a1, b0, b1⟩ | exact ⟨how4.p0 (O.length + 0) (by rw [get_r]; rfl), how4.p1 (O.length + 0) (by rw [get_r]; rfl), how4.p0 (O.length + 1) (by rw [get_r]; rfl), how4.p1 (O.length + 1) (by rw [get_r]; rfl)⟩ | exact ⟨how.p0 (O.length + 0) (by rw [get_r]; rfl), how.p1 (O.length + 0) (by rw [get_r]; rfl), how.p0 (O.length + 1) (by rw [get_r]; rfl), how.p1 (O.length + 1) (by rw [get_r]; rfl)⟩ | exact ⟨how2.p0 (O.length + 0) (by rw [get_r]; rfl), how2.p1 (O.length + 0) (by rw [get_r]; rfl), how2.p0 (O.length + 1) (by rw [get_r]; rfl), how2.p1 (O.length + 1) (by rw [get_r]; rfl)⟩ | exact ⟨how3.p0 (O.length + 0) (by rw [get_r]; rfl), how3.p1 (O.length + 0) (by rw [get_r]; rfl), how3.p0 (O.length + 1) (by rw [get_r]; rfl), how3.p1 (O.length + 1) (by rw [get_r]; rfl)⟩) ((first | (go_at_call 51; (with_reducible refine HA1.out.mono ?_); rintro e v2 ⟨B1, m1, d1, rfl, how⟩; have HA2 := Lib.hid (do_mulx how j l ((get_l _ _ (get_lt HI.out.2.1)).trans HI.out.2.1) ((get_l _ _ (get_lt HI.out.2.2.2.1)).trans HI.out.2.2.2.1) (fun _ => ⟨rfl, rfl, HX.out.2.1, HX.out.2.2.2⟩)); rw [HE.out.2.2.1, HE.out.2.2.2.1] at HA2) | (go_at_call 51; (with_reducible refine HA2.out.mono ?_); rintro e v3 ⟨B2, m2, d2, rfl, how2⟩; rw [List.append_assoc] at how2; have HA3 := Lib.hid (smake_x how2 (L.length + 0) (L.length + 1) (by rw [get_r]; rfl) (by rw [get_r]; rfl) HE.out.2.2.2.2.2 HI.out.2.2.2.2); rw [HE.out.2.2.2.2.1] at HA3) | (go_at_call 50; (with_reducible refine HA3.out.mono ?_); rintro e v4 ⟨C1, k1, e1, C2, k2, e2, rfl, how3⟩; have z0 := how3.p0 (O.length + 2) (by rw [get_r]; rfl); have z1 := how3.p1 (O.length + 2) (by rw [get_r]; rfl); have f0 := how3.pf (O.length + 2) (by rw [get_r]; rfl) 0; have f1 := how3.pf (O.length + 2) (by rw [get_r]; rfl) 1; have how4' := how3.set0 (O.length + 2) (by rw [get_r]; rfl) (.slice C1 k1 e1); rw [set_r] at how4'; simp only [List.set_cons_succ, List.set_cons_zero] at how4'; have how4 := how4'.set1 (O.length + 2) (by rw [get_r]; rfl) (.slice C2 k2 e2); rw [set_r] at how4; simp only [List.set_cons_succ, List.set_cons_zero] at how4)))
  have s0 := how4.p0 (O.length + 2) (by rw [get_r]; rfl)
  have s1 := how4.p1 (O.length + 2) (by rw [get_r]; rfl)
  have HF := Lib.hid (how4.fewM.fewO.less (mid_less L _ _ _))
  clear how how2 how3 how4' how4 a0 a1 b0 b1 z0 z1 f0 f1 HA1 HA2 HA3
  go_wp2_with fail
  refine bodyPost_ret (v := .tuple #[.agg #[.slice C1 k1 e1, .slice C2 k2 e2], .int .i64 t.2.2]) (by simp [results, Tryz.results21, go_sem, s0, s1]) rfl ?_
  exact ⟨C1, k1, e1, C2, k2, e2, rfl, HF.out⟩
theorem rv_turn {p q : List Int} (h : rv p q = true) (h0 : num p ≠ 0) : rv q p = true := by
  obtain ⟨x, y, hx, hy, hy0, hg, rfl, rfl⟩ := rv_ex h
  rw [num_dig] at h0
  exact rv_low hy hx (by omega) (by rw [Nat.gcd_comm]; exact hg)
theorem divF_go {p q r s : List Int} (h1 : rv p q = true) (h2 : rv r s = true) (h0 : num r ≠ 0) : divF p q r s = mulF p q s r := by
  unfold divF mulF
  rw [h1, h2, rv_turn h2 h0, Bool.and_true, if_pos rfl, if_pos rfl, if_neg h0]
theorem rv_len {r s : List Int} (h : rv r s = true) : r = [] ↔ num r = 0 := by
  obtain ⟨x, y, hx, hy, hy0, hg, rfl, rfl⟩ := rv_ex h
  rw [num_dig]
  constructor
  · intro e
    have : (Na.up (Na.dig x)).length = 0 := by rw [e]; rfl
    rw [Na.up_length] at this
    exact Na.dig_len0.1 this
  · rintro rfl
    rw [Na.dig_zero]; rfl
set_option maxHeartbeats 8000000 in
theorem qdiv_any (h : Ow w0 w g M L O) (i j k l : Nat) (hi : L[i]? = some ⟨A, n, c, ints p⟩) (hj : L[j]? = some ⟨A2, m, c2, ints q⟩) (hk : L[k]? = some ⟨A3, n3, c3, ints r⟩) (hl : L[l]? = some ⟨A4, n4, c4, ints s⟩) (ht : Tab w0) :
    Calls Tryz.prog 23 #[.agg #[.slice A n c, .slice A2 m c2], .agg #[.slice A3 n3 c3, .slice A4 n4 c4]] w (GotF w0 g M L O (divF p q r s)) := by
  have hn3 : n3 = r.length ∧ n3 ≤ 1000 := ⟨by have := (h.sl hk).1; rw [ints_length] at this; exact this.symm, (h.sl hk).2.2.1⟩
  have H0 := ((h.pair (.slice A n c) (.slice A2 m c2) 26).pair (.slice A3 n3 c3) (.slice A4 n4 c4) 26).pair (.slice none 0 0) (.slice none 0 0) 26
  simp only [World.size_alloc, List.append_assoc, List.cons_append, List.nil_append] at H0
  have a0 := H0.p0 (O.length + 0) (by rw [get_r]; rfl)
  have a1 := H0.p1 (O.length + 0) (by rw [get_r]; rfl)
  have b0 := H0.p0 (O.length + 1) (by rw [get_r]; rfl)
  have b1 := H0.p1 (O.length + 1) (by rw [get_r]; rfl)
  have HV := Lib.hid (qboth_ow H0 i j k l hi hj hk hl ht)
  cases hb : rv p q && rv r s with
  | false =>
  have e1 : divF p q r s = frE 1 := by unfold divF; rw [hb]; rfl
  rw [e1]
  rw [hb] at HV
  clear h H0 hi hj hk hl ht hb e1 hn3
  go_enter Tryz.func23, Tryz.ntmps23
  go_wp2_with fail
  refine HV.out.mono ?_
  rintro e w1 ⟨rfl, H1⟩
  clear HV a0 a1 b0 b1
  have k0 := H1.p0 (O.length + 2) (by rw [get_r]; rfl)
  have k1 := H1.p1 (O.length + 2) (by rw [get_r]; rfl)
  have f0 := H1.pf (O.length + 2) (by rw [get_r]; rfl) 0
  have f1 := H1.pf (O.length + 2) (by rw [get_r]; rfl) 1
  have H3 := H1.set0 (O.length + 2) (by rw [get_r]; rfl) (.slice none 0 0)
  rw [set_r] at H3
  simp only [List.set_cons_succ, List.set_cons_zero] at H3
  have H4 := H3.set1 (O.length + 2) (by rw [get_r]; rfl) (.slice none 0 0)
  rw [set_r] at H4
  simp only [List.set_cons_succ, List.set_cons_zero] at H4
  have s0 := H4.p0 (O.length + 2) (by rw [get_r]; rfl)
  have s1 := H4.p1 (O.length + 2) (by rw [get_r]; rfl)
  have HF := Lib.hid H4.fewO
  clear H1 H3 H4
  go_wp2_with fail
  refine bodyPost_ret (v := .tuple #[.agg #[.slice none 0 0, .slice none 0 0], .int .i64 1]) (by simp [results, Tryz.results23, go_sem, s0, s1]) rfl ?_
  exact gotF_nil HF.out 1
  | true =>
  rw [hb] at HV
  obtain ⟨h1, h2⟩ := Bool.and_eq_true_iff.1 hb
  by_cases h0 : num r = 0
  · have e1 : divF p q r s = frE 4 := by unfold divF; rw [hb, if_pos rfl, if_pos h0]
    rw [e1]
    have hz : ((n3 : Int) == 0) = true := by rw [hn3.1, (rv_len h2).2 h0]; rfl
    have HN := Lib.hid hn3
    clear h H0 hi hj hk hl ht hb e1 hn3 h1 h2 h0
    go_enter Tryz.func23, Tryz.ntmps23
    go_wp2_with fail
    refine HV.out.mono ?_
    rintro e w1 ⟨rfl, H1⟩
    have b0 := H1.p0 (O.length + 1) (by rw [get_r]; rfl)
    have HZ := Lib.hid (qzero_ow (A := A3) (n := n3) (c := c3) H1 HN.out.2)
    rw [hz] at HZ
    clear HV H1 a0 a1 b1
    go_wp2_with fail
    refine HZ.out.mono ?_
    rintro e w2 ⟨rfl, H2⟩
    clear HZ b0
    have k0 := H2.p0 (O.length + 2) (by rw [get_r]; rfl)
    have k1 := H2.p1 (O.length + 2) (by rw [get_r]; rfl)
    have f0 := H2.pf (O.length + 2) (by rw [get_r]; rfl) 0
    have f1 := H2.pf (O.length + 2) (by rw [get_r]; rfl) 1
    have H3 := H2.set0 (O.length + 2) (by rw [get_r]; rfl) (.slice none 0 0)
    rw [set_r] at H3
    simp only [List.set_cons_succ, List.set_cons_zero] at H3
    have H4 := H3.set1 (O.length + 2) (by rw [get_r]; rfl) (.slice none 0 0)
    rw [set_r] at H4
    simp only [List.set_cons_succ, List.set_cons_zero] at H4
    have s0 := H4.p0 (O.length + 2) (by rw [get_r]; rfl)
    have s1 := H4.p1 (O.length + 2) (by rw [get_r]; rfl)
    have HF := Lib.hid H4.fewO
    clear H2 H3 H4
    go_wp2_with fail
    refine bodyPost_ret (v := .tuple #[.agg #[.slice none 0 0, .slice none 0 0], .int .i64 4]) (by simp [results, Tryz.results23, go_sem, s0, s1]) rfl ?_
    exact gotF_nil HF.out 4
  · rw [divF_go h1 h2 h0]
    have hz : ((n3 : Int) == 0) = false := by
      rw [beq_eq_false_iff_ne]
      intro e
      have : r = [] := List.eq_nil_of_length_eq_zero (by omega)
      exact h0 ((rv_len h2).1 this)
    have HN := Lib.hid hn3
    have HI := Lib.hid (And.intro hi (And.intro hj (And.intro hk (And.intro hl ht))))
    obtain ⟨t, hmk⟩ : ∃ t, mulF p q s r = t := ⟨_, rfl⟩
    have HMk := Lib.hid hmk
    rw [hmk]
    clear h H0 hi hj hk hl ht hb hn3 h1 h2 h0 hmk
    go_enter Tryz.func23, Tryz.ntmps23
    go_wp2_with fail
    refine HV.out.mono ?_
    rintro e w1 ⟨rfl, H1⟩
    have b0 := H1.p0 (O.length + 1) (by rw [get_r]; rfl)
    have HZ := Lib.hid (qzero_ow (A := A3) (n := n3) (c := c3) H1 HN.out.2)
    rw [hz] at HZ
    clear HV H1 a0 a1 b1
    go_wp2_with fail
    refine HZ.out.mono ?_
    rintro e w2 ⟨rfl, H2⟩
    have a0 := H2.p0 (O.length + 0) (by rw [get_r]; rfl)
    have a1 := H2.p1 (O.length + 0) (by rw [get_r]; rfl)
    have b0 := H2.p0 (O.length + 1) (by rw [get_r]; rfl)
    have b1 := H2.p1 (O.length + 1) (by rw [get_r]; rfl)
    have HM := Lib.hid (qmul_any H2 i j l k HI.out.1 HI.out.2.1 HI.out.2.2.2.1 HI.out.2.2.1 HI.out.2.2.2.2)
    rw [HMk.out] at HM
    clear HZ H2
    go_wp2_with fail
    refine HM.out.mono ?_
    rintro e w3 ⟨C1, k1, e1, C2, k2, e2, rfl, how3⟩
    clear HM a0 a1 b0 b1
    have z0 := how3.p0 (O.length + 2) (by rw [get_r]; rfl)
    have z1 := how3.p1 (O.length + 2) (by rw [get_r]; rfl)
    have f0 := how3.pf (O.length + 2) (by rw [get_r]; rfl) 0
    have f1 := how3.pf (O.length + 2) (by rw [get_r]; rfl) 1
    have how4' := how3.set0 (O.length + 2) (by rw [get_r]; rfl) (.slice C1 k1 e1)
    rw [set_r] at how4'
    simp only [List.set_cons_succ, List.set_cons_zero] at how4'
    have how4 := how4'.set1 (O.length + 2) (by rw [get_r]; rfl) (.slice C2 k2 e2)
    rw [set_r] at how4
    simp only [List.set_cons_succ, List.set_cons_zero] at how4
    have s0 := how4.p0 (O.length + 2) (by rw [get_r]; rfl)
    have s1 := how4.p1 (O.length + 2) (by rw [get_r]; rfl)
    have HF := Lib.hid how4.fewO
    clear how3 how4' how4
    go_wp2_with fail
    refine bodyPost_ret (v := .tuple #[.agg #[.slice C1 k1 e1, .slice C2 k2 e2], .int .i64 t.2.2]) (by simp [results, Tryz.results23, go_sem, s0, s1]) rfl ?_
    exact ⟨C1, k1, e1, C2, k2, e2, rfl, HF.out⟩
end
end Go.Proofs.YtnfjnlnphdmdmaaGreatDoor

/- Two products side by side under one error variable, each put into a variable: what is held while the region goes on, in whatever order. -/
namespace Go.Proofs.YtnfjnlnphdmdmaaGreatDoor
open Go.RowKit Go.Sort
set_option linter.unusedVariables false
set_option maxRecDepth 100000
theorem Value.slice_of {A : Option Addr} {n c : Nat} {x : Value} (h : Value.agg #[.slice A n c] = .agg #[x]) : x = .slice A n c := by
  injection h with h
  simp at h
  exact h.symm
def GY (L : Nat → Bool) (k : Nat) (u : Value) (l : List Nat) (Ls : List Ob) : Prop :=
  L k = true → ∃ (t : Nat) (B : Option Addr) (m d : Nat), u = .agg #[.slice B m d] ∧ Ls[t]? = some ⟨B, m, d, nats l⟩
theorem GY.more {L : Nat → Bool} {k : Nat} {u : Value} {l0 : List Nat} {Ls l : List Ob} (h : GY L k u l0 Ls) : GY L k u l0 (Ls ++ l) := fun e => by
  obtain ⟨t, B, m, d, h1, h2⟩ := h e
  exact ⟨t, B, m, d, h1, by rw [List.getElem?_append_left (get_lt h2)]; exact h2⟩
/-- the error variable, and what the products are as long as there is none -/
structure KO (L : Nat → Bool) (X Y : Nat) (er : Int) (l4 l9 : List Nat) : Prop where
  a : er = 0 → L 4 = true → X < Na.top ∧ l4 = Na.dig X
  b : er = 0 → L 9 = true → Y < Na.top ∧ l9 = Na.dig Y
  no : er ≠ 0 → er = 3 ∧ ¬(X < Na.top ∧ Y < Na.top)
theorem KO.c4 {L : Nat → Bool} {X Y : Nat} {er : Int} {l4 l9 : List Nat} (h : KO L X Y er l4 l9) : KO (dset L 4) X Y (doE er X) (doL er X) l9 := by
  refine ⟨fun e _ => ?_, fun e e2 => h.b (doE_zero e).1 e2, fun e => ?_⟩
  · obtain ⟨rfl, h1⟩ := doE_zero e
    exact ⟨h1, doL_of h1⟩
  · by_cases h0 : er = 0
    · subst h0
      by_cases h1 : X < Na.top
      · exact absurd (doE_of h1) e
      · exact ⟨doE_no h1, fun h => h1 h.1⟩
    · rw [doE_on _ h0]
      exact h.no h0
theorem KO.c9 {L : Nat → Bool} {X Y : Nat} {er : Int} {l4 l9 : List Nat} (h : KO L X Y er l4 l9) : KO (dset L 9) X Y (doE er Y) l4 (doL er Y) := by
  refine ⟨fun e e2 => h.a (doE_zero e).1 e2, fun e _ => ?_, fun e => ?_⟩
  · obtain ⟨rfl, h1⟩ := doE_zero e
    exact ⟨h1, doL_of h1⟩
  · by_cases h0 : er = 0
    · subst h0
      by_cases h1 : Y < Na.top
      · exact absurd (doE_of h1) e
      · exact ⟨doE_no h1, fun h => h1 h.2⟩
    · rw [doE_on _ h0]
      exact h.no h0
structure CX (w0 : World) (g : Option Nat) (M : List (Nat × Value)) (s pa pb : Nat) (F : Four) (X Y : Nat) (Lh : List Ob) (O : List Rw) (L : Nat → Bool) (u0 u1 u2 u3 u4 u5 u6 u7 u8 u9 v1 v2 : Value) (ps : List (Nat × Value)) (Ls : List Ob) (er : Int) (l4 l9 : List Nat) (W : World) : Prop where
  ow : Ow w0 W g (M ++ (s, .int .i64 er) :: ps) (Lh ++ Ls) O
  h0 : L 0 = true → u0 = .pointer (some ⟨pa, 0, none⟩)
  h1 : L 1 = true → u1 = .agg #[.slice F.A F.n F.c]
  h2 : L 2 = true → u2 = .pointer (some ⟨pb, 1, none⟩)
  h3 : L 3 = true → u3 = .agg #[.slice F.A4 F.n4 F.c4]
  h5 : L 5 = true → u5 = .pointer (some ⟨pb, 0, none⟩)
  h6 : L 6 = true → u6 = .agg #[.slice F.A3 F.n3 F.c3]
  h7 : L 7 = true → u7 = .pointer (some ⟨pa, 1, none⟩)
  h8 : L 8 = true → u8 = .agg #[.slice F.A2 F.m F.c2]
  h4 : GY L 4 u4 l4 Ls
  h9 : GY L 9 u9 l9 Ls
  b1 : BX L 10 12 v1 u4 ps
  b2 : BX L 11 13 v2 u9 ps
  ne : L 10 = true → L 11 = true → v1 ≠ v2
  s1 : L 12 = true → L 4 = true ∧ L 10 = true
  s2 : L 13 = true → L 9 = true ∧ L 11 = true
  ko : KO L X Y er l4 l9
section
variable {w0 : World} {g : Option Nat} {M : List (Nat × Value)} {s pa pb : Nat} {F : Four} {X Y : Nat} {Lh : List Ob} {O : List Rw} {L : Nat → Bool} {u0 u1 u2 u3 u4 u5 u6 u7 u8 u9 v1 v2 : Value} {ps : List (Nat × Value)} {Ls : List Ob} {er : Int} {l4 l9 : List Nat} {W W' : World}
theorem CX.c4 (h : CX w0 g M s pa pb F X Y Lh O L u0 u1 u2 u3 u4 u5 u6 u7 u8 u9 v1 v2 ps Ls er l4 l9 W) (hf : L 4 = false) {B : Option Addr} {m d : Nat} (ho : Ow w0 W' g (M ++ (s, .int .i64 (doE er X)) :: ps) (Lh ++ Ls ++ [⟨B, m, d, nats (doL er X)⟩]) O) :
    CX w0 g M s pa pb F X Y Lh O (dset L 4) u0 u1 u2 u3 (.agg #[.slice B m d]) u5 u6 u7 u8 u9 v1 v2 ps (Ls ++ [⟨B, m, d, nats (doL er X)⟩]) (doE er X) (doL er X) l9 W' :=
  ⟨by rw [← List.append_assoc]; exact ho, h.h0, h.h1, h.h2, h.h3, h.h5, h.h6, h.h7, h.h8, fun _ => ⟨Ls.length, B, m, d, rfl, by rw [List.getElem?_append_right (Nat.le_refl _), Nat.sub_self]; rfl⟩, h.h9.more, fun e => by
    obtain ⟨t, b, x, k1, k2, k3, k4⟩ := h.b1 e
    exact ⟨t, b, x, k1, k2, k3, fun e2 => by have := (h.s1 e2).1; rw [hf] at this; cases this⟩, h.b2, h.ne, fun e => (by have := (h.s1 e).1; rw [hf] at this; cases this), h.s2, h.ko.c4⟩
theorem CX.c9 (h : CX w0 g M s pa pb F X Y Lh O L u0 u1 u2 u3 u4 u5 u6 u7 u8 u9 v1 v2 ps Ls er l4 l9 W) (hf : L 9 = false) {B : Option Addr} {m d : Nat} (ho : Ow w0 W' g (M ++ (s, .int .i64 (doE er Y)) :: ps) (Lh ++ Ls ++ [⟨B, m, d, nats (doL er Y)⟩]) O) :
    CX w0 g M s pa pb F X Y Lh O (dset L 9) u0 u1 u2 u3 u4 u5 u6 u7 u8 (.agg #[.slice B m d]) v1 v2 ps (Ls ++ [⟨B, m, d, nats (doL er Y)⟩]) (doE er Y) l4 (doL er Y) W' :=
  ⟨by rw [← List.append_assoc]; exact ho, h.h0, h.h1, h.h2, h.h3, h.h5, h.h6, h.h7, h.h8, h.h4.more, fun _ => ⟨Ls.length, B, m, d, rfl, by rw [List.getElem?_append_right (Nat.le_refl _), Nat.sub_self]; rfl⟩, h.b1, fun e => by
    obtain ⟨t, b, x, k1, k2, k3, k4⟩ := h.b2 e
    exact ⟨t, b, x, k1, k2, k3, fun e2 => by have := (h.s2 e2).1; rw [hf] at this; cases this⟩, h.ne, h.s1, fun e => (by have := (h.s2 e).1; rw [hf] at this; cases this), h.ko.c9⟩
theorem CX.a10 (h : CX w0 g M s pa pb F X Y Lh O L u0 u1 u2 u3 u4 u5 u6 u7 u8 u9 v1 v2 ps Ls er l4 l9 W) (hf : L 10 = false) (T : TypeId) :
    CX w0 g M s pa pb F X Y Lh O (dset L 10) u0 u1 u2 u3 u4 u5 u6 u7 u8 u9 (.pointer (some ⟨W.heap.size, 0, none⟩)) v2 (ps ++ [(W.heap.size, .slice none 0 0)]) Ls er l4 l9 (W.alloc (.cells #[.slice none 0 0] T)) :=
  ⟨h.ow.psb _ _, h.h0, h.h1, h.h2, h.h3, h.h5, h.h6, h.h7, h.h8, h.h4, h.h9, fun _ => ⟨ps.length, W.heap.size, _, rfl, by rw [List.getElem?_append_right (Nat.le_refl _), Nat.sub_self]; rfl, fun _ => rfl, fun e2 => by have := (h.s1 e2).2; rw [hf] at this; cases this⟩, h.b2.more, fun _ e2 e => by
    obtain ⟨t, b, x, k1, k2, _⟩ := h.b2 e2
    have := h.ow.psl k2
    rw [k1] at e
    injection e with e
    injection e with e
    injection e with e
    omega, fun e => ⟨(h.s1 e).1, rfl⟩, h.s2, ⟨h.ko.a, h.ko.b, h.ko.no⟩⟩
theorem CX.a11 (h : CX w0 g M s pa pb F X Y Lh O L u0 u1 u2 u3 u4 u5 u6 u7 u8 u9 v1 v2 ps Ls er l4 l9 W) (hf : L 11 = false) (T : TypeId) :
    CX w0 g M s pa pb F X Y Lh O (dset L 11) u0 u1 u2 u3 u4 u5 u6 u7 u8 u9 v1 (.pointer (some ⟨W.heap.size, 0, none⟩)) (ps ++ [(W.heap.size, .slice none 0 0)]) Ls er l4 l9 (W.alloc (.cells #[.slice none 0 0] T)) :=
  ⟨h.ow.psb _ _, h.h0, h.h1, h.h2, h.h3, h.h5, h.h6, h.h7, h.h8, h.h4, h.h9, h.b1.more, fun _ => ⟨ps.length, W.heap.size, _, rfl, by rw [List.getElem?_append_right (Nat.le_refl _), Nat.sub_self]; rfl, fun _ => rfl, fun e2 => by have := (h.s2 e2).2; rw [hf] at this; cases this⟩, fun e2 _ e => by
    obtain ⟨t, b, x, k1, k2, _⟩ := h.b1 e2
    have := h.ow.psl k2
    rw [k1] at e
    injection e with e
    injection e with e
    injection e with e
    omega, h.s1, fun e => ⟨(h.s2 e).1, rfl⟩, ⟨h.ko.a, h.ko.b, h.ko.no⟩⟩
theorem CX.t12 (h : CX w0 g M s pa pb F X Y Lh O L u0 u1 u2 u3 u4 u5 u6 u7 u8 u9 v1 v2 ps Ls er l4 l9 W) (hc : L 4 = true) (ha : L 10 = true) :
    ∃ b B m d x ps', v1 = .pointer (some ⟨b, 0, none⟩) ∧ u4 = .agg #[.slice B m d] ∧ W.cell? ⟨b, 0, none⟩ = some x ∧ W.frozen? ⟨b, 0, none⟩ = false ∧
      CX w0 g M s pa pb F X Y Lh O (dset L 12) u0 u1 u2 u3 u4 u5 u6 u7 u8 u9 v1 v2 ps' Ls er l4 l9 (W.setCell ⟨b, 0, none⟩ (.slice B m d)) := by
  obtain ⟨t, b, x, k1, k2, k3, k4⟩ := h.b1 ha
  obtain ⟨t2, B, m, d, q1, q2⟩ := h.h4 hc
  refine ⟨b, B, m, d, x, ps.set t (b, .slice B m d), k1, q1, (h.ow.psc k2).1, (h.ow.psc k2).2, h.ow.pss k2 _, h.h0, h.h1, h.h2, h.h3, h.h5, h.h6, h.h7, h.h8, h.h4, h.h9, fun _ => ⟨t, b, _, k1, by rw [List.getElem?_set_self (get_lt k2)], fun e => (by cases e), fun _ => q1⟩, h.b2.set k2 k1 (fun e e2 => h.ne ha e e2.symm), h.ne, fun _ => ⟨hc, ha⟩, h.s2, ⟨h.ko.a, h.ko.b, h.ko.no⟩⟩
theorem CX.t13 (h : CX w0 g M s pa pb F X Y Lh O L u0 u1 u2 u3 u4 u5 u6 u7 u8 u9 v1 v2 ps Ls er l4 l9 W) (hc : L 9 = true) (ha : L 11 = true) :
    ∃ b B m d x ps', v2 = .pointer (some ⟨b, 0, none⟩) ∧ u9 = .agg #[.slice B m d] ∧ W.cell? ⟨b, 0, none⟩ = some x ∧ W.frozen? ⟨b, 0, none⟩ = false ∧
      CX w0 g M s pa pb F X Y Lh O (dset L 13) u0 u1 u2 u3 u4 u5 u6 u7 u8 u9 v1 v2 ps' Ls er l4 l9 (W.setCell ⟨b, 0, none⟩ (.slice B m d)) := by
  obtain ⟨t, b, x, k1, k2, k3, k4⟩ := h.b2 ha
  obtain ⟨t2, B, m, d, q1, q2⟩ := h.h9 hc
  refine ⟨b, B, m, d, x, ps.set t (b, .slice B m d), k1, q1, (h.ow.psc k2).1, (h.ow.psc k2).2, h.ow.pss k2 _, h.h0, h.h1, h.h2, h.h3, h.h5, h.h6, h.h7, h.h8, h.h4, h.h9, h.b1.set k2 k1 (fun e => h.ne e ha), fun _ => ⟨t, b, _, k1, by rw [List.getElem?_set_self (get_lt k2)], fun e => (by cases e), fun _ => q1⟩, h.ne, h.s1, fun _ => ⟨hc, ha⟩, ⟨h.ko.a, h.ko.b, h.ko.no⟩⟩
end
def CmxI (w0 : World) (g : Option Nat) (M : List (Nat × Value)) (s pa pb : Nat) (F : Four) (X Y : Nat) (Lh : List Ob) (O : List Rw) (A0 : Act) (Ld : Nat → Bool) (a : Act) (W : World) : Prop :=
  ∃ (u0 u1 u2 u3 u4 u5 u6 u7 u8 u9 v1 v2 : Value) (ps : List (Nat × Value)) (Ls : List Ob) (er : Int) (l4 l9 : List Nat), a = ((((((((((((A0.put (some 17) u0).put (some 18) u1).put (some 19) u2).put (some 20) u3).put (some 21) u4).put (some 22) u5).put (some 23) u6).put (some 24) u7).put (some 25) u8).put (some 26) u9).put (some 9) v1).put (some 10) v2) ∧ CX w0 g M s pa pb F X Y Lh O Ld u0 u1 u2 u3 u4 u5 u6 u7 u8 u9 v1 v2 ps Ls er l4 l9 W
/-- what a last step makes of two numbers -/
structure Fst (N : Nat) (fE : Int → Nat → Nat → Int) (fL : Int → Nat → Nat → List Nat) (fV : Nat → Nat → Nat) : Prop where
  call : ∀ {w0 w : World} {g : Option Nat} {M M2 : List (Nat × Value)} {L : List Ob} {O : List Rw} {A A2 : Option Addr} {b n c m c2 x y : Nat} {e0 : Int} {l1 l2 : List Nat}, Ow w0 w g (M ++ (b, .int .i64 e0) :: M2) L O → ∀ (i j : Nat), L[i]? = some ⟨A, n, c, nats l1⟩ → L[j]? = some ⟨A2, m, c2, nats l2⟩ → (e0 = 0 → l1 = Na.dig x ∧ l2 = Na.dig y ∧ x < Na.top ∧ y < Na.top) →
    Calls Tryz.prog 51 #[.pointer (some ⟨b, 0, none⟩), .func (.func N) #[] #[], .agg #[.slice A n c], .agg #[.slice A2 m c2]] w (DoR w0 g M M2 b L O (fE e0 x y) (fL e0 x y))
  on : ∀ {e0 : Int} {x y : Nat}, fE e0 x y = 0 → e0 = 0
  zero : ∀ {e0 : Int} {x y : Nat}, x < Na.top → fE e0 x y = 0 → e0 = 0 ∧ fL e0 x y = Na.dig (fV x y) ∧ fV x y < Na.top
section
variable {w0 w w' : World} {g : Option Nat} {M M2 : List (Nat × Value)} {L : List Ob} {O : List Rw} {A A2 A3 A4 : Option Addr} {b n c m c2 n3 c3 n4 c4 x y : Nat} {p q r s : List Int}
set_option maxHeartbeats 16000000 in
theorem qcomb_ok {N : Nat} {fE : Int → Nat → Nat → Int} {fL : Int → Nat → Nat → List Nat} {fV : Nat → Nat → Nat} (HFn : Fst N fE fL fV) {x y u v : Nat} {t : Nat × Nat × Int} (h : Ow w0 w g M L O) (i j k l : Nat) (hi : L[i]? = some ⟨A, n, c, nats (Na.dig x)⟩) (hj : L[j]? = some ⟨A2, m, c2, nats (Na.dig y)⟩) (hk : L[k]? = some ⟨A3, n3, c3, nats (Na.dig u)⟩) (hl : L[l]? = some ⟨A4, n4, c4, nats (Na.dig v)⟩) (ht : Tab w0)
    (hx : x < Na.top) (hy : y < Na.top) (hu : u < Na.top) (hv : v < Na.top) (hb : (rv (Na.up (Na.dig x)) (Na.up (Na.dig y)) && rv (Na.up (Na.dig u)) (Na.up (Na.dig v))) = true) (hmk : ∀ er : Int, (er = 0 → x * v < Na.top ∧ u * y < Na.top) → (er ≠ 0 → er = 3 ∧ ¬(x * v < Na.top ∧ u * y < Na.top)) → mkF (fE (doE er (y * v)) (x * v) (u * y)) (fV (x * v) (u * y)) (y * v) = t) :
    Calls Tryz.prog 42 #[.agg #[.slice A n c, .slice A2 m c2], .agg #[.slice A3 n3 c3, .slice A4 n4 c4], .func (.func N) #[] #[]] w (GotF w0 g M L O t) := by
  have H0 := ((h.pair (.slice A n c) (.slice A2 m c2) 26).pair (.slice A3 n3 c3) (.slice A4 n4 c4) 26).pair (.slice none 0 0) (.slice none 0 0) 26
  simp only [World.size_alloc, List.append_assoc, List.cons_append, List.nil_append] at H0
  have a0 := H0.p0 (O.length + 0) (by rw [get_r]; rfl)
  have a1 := H0.p1 (O.length + 0) (by rw [get_r]; rfl)
  have b0 := H0.p0 (O.length + 1) (by rw [get_r]; rfl)
  have b1 := H0.p1 (O.length + 1) (by rw [get_r]; rfl)
  have HV := Lib.hid (qboth_ow (p := Na.up (Na.dig x)) (q := Na.up (Na.dig y)) (r := Na.up (Na.dig u)) (s := Na.up (Na.dig v)) H0 i j k l (by rw [nats_up]; exact hi) (by rw [nats_up]; exact hj) (by rw [nats_up]; exact hk) (by rw [nats_up]; exact hl) ht)
  rw [hb] at HV
  have HI := Lib.hid (And.intro hi (And.intro hj (And.intro hk (And.intro hl ht))))
  have HX := Lib.hid (And.intro hx (And.intro hy (And.intro hu hv)))
  have HMk := Lib.hid hmk
  have HFc := Lib.hid HFn
  clear h H0 hi hj hk hl ht hb hx hy hu hv hmk HFn
  go_enter Tryz.func42, Tryz.ntmps42
  go_wp2_with fail
  refine HV.out.mono ?_
  rintro e w1 ⟨rfl, H1⟩
  have HD := Lib.hid (H1.boxed (.int .i64 0) 60).drew
  clear HV H1 a0 a1 b0 b1
  go_upto_region 4 with (fail)
  refine reg_inv2 (CmxI w0 g M w1.heap.size w.heap.size (w.heap.size + 1) ⟨A, n, c, A2, m, c2, A3, n3, c3, A4, n4, c4⟩ (x * v) (u * y) L (O ++ [Rw.pair w.heap.size 26 (.slice A n c) (.slice A2 m c2), Rw.pair (w.heap.size + 1) 26 (.slice A3 n3 c3) (.slice A4 n4 c4), Rw.pair (w.heap.size + 1 + 1) 26 (.slice none 0 0) (.slice none 0 0)])) (by kernel_rfl) (by kernel_rfl) ?_ ?_ ?_
  · refine ⟨undef, undef, undef, undef, undef, undef, undef, undef, undef, undef, undef, undef, [], [], 0, [], [], ?_, ⟨by rw [List.append_nil]; exact HD.out, ?_, ?_, ?_, ?_, ?_, ?_, ?_, ?_, ?_, ?_, ?_, ?_, ?_, ?_, ?_, ⟨fun _ h => (by cases h), fun _ h => (by cases h), fun h => absurd rfl h⟩⟩⟩
    · simp only [Act.put, List.setIfInBounds_toArray, List.set_cons_zero, List.set_cons_succ]
    all_goals (intro h; cases h)
  · rintro jj Ld b W hj hf hd ⟨u0, u1, u2, u3, u4, u5, u6, u7, u8, u9, v1, v2, ps, Ls, er, l4, l9, rfl, hC⟩
    have hj' : jj < 14 := hj
    have hcase : jj = 0 ∨ jj = 1 ∨ jj = 2 ∨ jj = 3 ∨ jj = 4 ∨ jj = 5 ∨ jj = 6 ∨ jj = 7 ∨ jj = 8 ∨ jj = 9 ∨ jj = 10 ∨ jj = 11 ∨ jj = 12 ∨ jj = 13 := by omega
    have q0 := hC.ow.p0 (O.length + 0) (by rw [get_r]; rfl)
    have q1 := hC.ow.p1 (O.length + 0) (by rw [get_r]; rfl)
    have q2 := hC.ow.p0 (O.length + 1) (by rw [get_r]; rfl)
    have q3 := hC.ow.p1 (O.length + 1) (by rw [get_r]; rfl)
    clear hj hj' HD
    simp only [Act.put, List.setIfInBounds_toArray, List.set_cons_zero, List.set_cons_succ]
    rcases hcase with rfl | rfl | rfl | rfl | rfl | rfl | rfl | rfl | rfl | rfl | rfl | rfl | rfl | rfl
    · clear hd
      refine wpOp_step rfl (fun K hK => ?_)
      go_simp
      refine hK _ _ ⟨_, u1, u2, u3, u4, u5, u6, u7, u8, u9, v1, v2, ps, Ls, er, l4, l9, ?_, ⟨hC.ow, fun _ => rfl, hC.h1, hC.h2, hC.h3, hC.h5, hC.h6, hC.h7, hC.h8, hC.h4, hC.h9, hC.b1, hC.b2, hC.ne, hC.s1, hC.s2, ⟨hC.ko.a, hC.ko.b, hC.ko.no⟩⟩⟩
      simp only [Act.put, List.setIfInBounds_toArray, List.set_cons_zero, List.set_cons_succ]
    · obtain rfl := hC.h0 (hd 0 (by kernel_rfl))
      clear hd
      refine wpOp_step rfl (fun K hK => ?_)
      go_simp
      refine hK _ _ ⟨_, _, u2, u3, u4, u5, u6, u7, u8, u9, v1, v2, ps, Ls, er, l4, l9, ?_, ⟨hC.ow, hC.h0, fun _ => rfl, hC.h2, hC.h3, hC.h5, hC.h6, hC.h7, hC.h8, hC.h4, hC.h9, hC.b1, hC.b2, hC.ne, hC.s1, hC.s2, ⟨hC.ko.a, hC.ko.b, hC.ko.no⟩⟩⟩
      simp only [Act.put, List.setIfInBounds_toArray, List.set_cons_zero, List.set_cons_succ]
    · clear hd
      refine wpOp_step rfl (fun K hK => ?_)
      go_simp
      refine hK _ _ ⟨u0, u1, _, u3, u4, u5, u6, u7, u8, u9, v1, v2, ps, Ls, er, l4, l9, ?_, ⟨hC.ow, hC.h0, hC.h1, fun _ => rfl, hC.h3, hC.h5, hC.h6, hC.h7, hC.h8, hC.h4, hC.h9, hC.b1, hC.b2, hC.ne, hC.s1, hC.s2, ⟨hC.ko.a, hC.ko.b, hC.ko.no⟩⟩⟩
      simp only [Act.put, List.setIfInBounds_toArray, List.set_cons_zero, List.set_cons_succ]
    · obtain rfl := hC.h2 (hd 2 (by kernel_rfl))
      clear hd
      refine wpOp_step rfl (fun K hK => ?_)
      go_simp
      refine hK _ _ ⟨u0, u1, _, _, u4, u5, u6, u7, u8, u9, v1, v2, ps, Ls, er, l4, l9, ?_, ⟨hC.ow, hC.h0, hC.h1, hC.h2, fun _ => rfl, hC.h5, hC.h6, hC.h7, hC.h8, hC.h4, hC.h9, hC.b1, hC.b2, hC.ne, hC.s1, hC.s2, ⟨hC.ko.a, hC.ko.b, hC.ko.no⟩⟩⟩
      simp only [Act.put, List.setIfInBounds_toArray, List.set_cons_zero, List.set_cons_succ]
    · obtain rfl := hC.h1 (hd 1 (by kernel_rfl))
      obtain rfl := hC.h3 (hd 3 (by kernel_rfl))
      clear hd
      refine wpOp_step rfl (fun K hK => ?_)
      go_simp
      refine (do_mulx hC.ow i l ((get_l _ _ (get_lt HI.out.1)).trans HI.out.1) ((get_l _ _ (get_lt HI.out.2.2.2.1)).trans HI.out.2.2.2.1) (fun _ => ⟨rfl, rfl, HX.out.1, HX.out.2.2.2⟩)).mono ?_
      rintro e W' ⟨B, m1, d1, rfl, ho⟩
      refine hK _ _ ⟨u0, _, u2, _, _, u5, u6, u7, u8, u9, v1, v2, ps, _, _, _, l9, ?_, hC.c4 hf ho⟩
      simp only [Act.put, List.setIfInBounds_toArray, List.set_cons_zero, List.set_cons_succ]
    · clear hd
      refine wpOp_step rfl (fun K hK => ?_)
      go_simp
      refine hK _ _ ⟨u0, u1, u2, u3, u4, _, u6, u7, u8, u9, v1, v2, ps, Ls, er, l4, l9, ?_, ⟨hC.ow, hC.h0, hC.h1, hC.h2, hC.h3, fun _ => rfl, hC.h6, hC.h7, hC.h8, hC.h4, hC.h9, hC.b1, hC.b2, hC.ne, hC.s1, hC.s2, ⟨hC.ko.a, hC.ko.b, hC.ko.no⟩⟩⟩
      simp only [Act.put, List.setIfInBounds_toArray, List.set_cons_zero, List.set_cons_succ]
    · obtain rfl := hC.h5 (hd 5 (by kernel_rfl))
      clear hd
      refine wpOp_step rfl (fun K hK => ?_)
      go_simp
      refine hK _ _ ⟨u0, u1, u2, u3, u4, _, _, u7, u8, u9, v1, v2, ps, Ls, er, l4, l9, ?_, ⟨hC.ow, hC.h0, hC.h1, hC.h2, hC.h3, hC.h5, fun _ => rfl, hC.h7, hC.h8, hC.h4, hC.h9, hC.b1, hC.b2, hC.ne, hC.s1, hC.s2, ⟨hC.ko.a, hC.ko.b, hC.ko.no⟩⟩⟩
      simp only [Act.put, List.setIfInBounds_toArray, List.set_cons_zero, List.set_cons_succ]
    · clear hd
      refine wpOp_step rfl (fun K hK => ?_)
      go_simp
      refine hK _ _ ⟨u0, u1, u2, u3, u4, u5, u6, _, u8, u9, v1, v2, ps, Ls, er, l4, l9, ?_, ⟨hC.ow, hC.h0, hC.h1, hC.h2, hC.h3, hC.h5, hC.h6, fun _ => rfl, hC.h8, hC.h4, hC.h9, hC.b1, hC.b2, hC.ne, hC.s1, hC.s2, ⟨hC.ko.a, hC.ko.b, hC.ko.no⟩⟩⟩
      simp only [Act.put, List.setIfInBounds_toArray, List.set_cons_zero, List.set_cons_succ]
    · obtain rfl := hC.h7 (hd 7 (by kernel_rfl))
      clear hd
      refine wpOp_step rfl (fun K hK => ?_)
      go_simp
      refine hK _ _ ⟨u0, u1, u2, u3, u4, u5, u6, _, _, u9, v1, v2, ps, Ls, er, l4, l9, ?_, ⟨hC.ow, hC.h0, hC.h1, hC.h2, hC.h3, hC.h5, hC.h6, hC.h7, fun _ => rfl, hC.h4, hC.h9, hC.b1, hC.b2, hC.ne, hC.s1, hC.s2, ⟨hC.ko.a, hC.ko.b, hC.ko.no⟩⟩⟩
      simp only [Act.put, List.setIfInBounds_toArray, List.set_cons_zero, List.set_cons_succ]
    · obtain rfl := hC.h6 (hd 6 (by kernel_rfl))
      obtain rfl := hC.h8 (hd 8 (by kernel_rfl))
      clear hd
      refine wpOp_step rfl (fun K hK => ?_)
      go_simp
      refine (do_mulx hC.ow k j ((get_l _ _ (get_lt HI.out.2.2.1)).trans HI.out.2.2.1) ((get_l _ _ (get_lt HI.out.2.1)).trans HI.out.2.1) (fun _ => ⟨rfl, rfl, HX.out.2.2.1, HX.out.2.1⟩)).mono ?_
      rintro e W' ⟨B, m1, d1, rfl, ho⟩
      refine hK _ _ ⟨u0, u1, u2, u3, u4, u5, _, u7, _, _, v1, v2, ps, _, _, l4, _, ?_, hC.c9 hf ho⟩
      simp only [Act.put, List.setIfInBounds_toArray, List.set_cons_zero, List.set_cons_succ]
    · clear hd
      refine wpOp_step rfl (fun K hK => ?_)
      go_simp
      refine hK _ _ ⟨u0, u1, u2, u3, u4, u5, u6, u7, u8, u9, _, v2, _, Ls, er, l4, l9, ?_, hC.a10 hf _⟩
      simp only [Act.put, List.setIfInBounds_toArray, List.set_cons_zero, List.set_cons_succ]
    · clear hd
      refine wpOp_step rfl (fun K hK => ?_)
      go_simp
      refine hK _ _ ⟨u0, u1, u2, u3, u4, u5, u6, u7, u8, u9, v1, _, _, Ls, er, l4, l9, ?_, hC.a11 hf _⟩
      simp only [Act.put, List.setIfInBounds_toArray, List.set_cons_zero, List.set_cons_succ]
    · obtain ⟨b, B, m1, d1, x1, ps1, rfl, rfl, hx1, hz1, hC1⟩ := hC.t12 (hd 4 (by kernel_rfl)) (hd 10 (by kernel_rfl))
      clear hd
      refine wpOp_step rfl (fun K hK => ?_)
      go_simp
      refine hK _ _ ⟨u0, u1, u2, u3, _, u5, u6, u7, u8, u9, _, v2, ps1, Ls, er, l4, l9, ?_, hC1⟩
      simp only [Act.put, List.setIfInBounds_toArray, List.set_cons_zero, List.set_cons_succ]
    · obtain ⟨b, B, m1, d1, x1, ps1, rfl, rfl, hx1, hz1, hC1⟩ := hC.t13 (hd 9 (by kernel_rfl)) (hd 11 (by kernel_rfl))
      clear hd
      refine wpOp_step rfl (fun K hK => ?_)
      go_simp
      refine hK _ _ ⟨u0, u1, u2, u3, u4, u5, u6, u7, u8, _, v1, _, ps1, Ls, er, l4, l9, ?_, hC1⟩
      simp only [Act.put, List.setIfInBounds_toArray, List.set_cons_zero, List.set_cons_succ]
  · rintro Ld b W hL ⟨u0, u1, u2, u3, u4, u5, u6, u7, u8, u9, v1, v2, ps, Ls, er, l4, l9, rfl, hC⟩
    obtain ⟨t1, B1, m1, d1, rfl, r1⟩ := hC.h4 (hL 4 (by show 4 < 14; decide))
    obtain ⟨t2, B2, m2, d2, rfl, r2⟩ := hC.h9 (hL 9 (by show 9 < 14; decide))
    obtain ⟨z1, g1, e1, rfl, r3, -, r4⟩ := hC.b1 (hL 10 (by show 10 < 14; decide))
    obtain rfl := Value.slice_of (r4 (hL 12 (by show 12 < 14; decide)))
    obtain ⟨z2, g2, e2, rfl, r5, -, r6⟩ := hC.b2 (hL 11 (by show 11 < 14; decide))
    obtain rfl := Value.slice_of (r6 (hL 13 (by show 13 < 14; decide)))
    have q0 := hC.ow.p0 (O.length + 0) (by rw [get_r]; rfl)
    have q1 := hC.ow.p1 (O.length + 0) (by rw [get_r]; rfl)
    have q2 := hC.ow.p0 (O.length + 1) (by rw [get_r]; rfl)
    have q3 := hC.ow.p1 (O.length + 1) (by rw [get_r]; rfl)
    have hk4 : er = 0 → x * v < Na.top ∧ l4 = Na.dig (x * v) := fun h => hC.ko.a h (hL 4 (by show 4 < 14; decide))
    have hk9 : er = 0 → u * y < Na.top ∧ l9 = Na.dig (u * y) := fun h => hC.ko.b h (hL 9 (by show 9 < 14; decide))
    have hm1 := HMk.out er (fun h => ⟨(hk4 h).1, (hk9 h).1⟩) hC.ko.no
    have HE := Lib.hid (do_mulx hC.ow j l ((get_l _ _ (get_lt HI.out.2.1)).trans HI.out.2.1) ((get_l _ _ (get_lt HI.out.2.2.2.1)).trans HI.out.2.2.2.1) (fun _ => ⟨rfl, rfl, HX.out.2.1, HX.out.2.2.2⟩))
    have hz3 := @doE_zero er (y * v)
    have hd3 : doE er (y * v) = 0 → doL er (y * v) = Na.dig (y * v) := fun h => by obtain ⟨h1, h2⟩ := doE_zero h; rw [h1]; exact doL_of h2
    obtain ⟨e3, he3⟩ : ∃ z, doE er (y * v) = z := ⟨_, rfl⟩
    obtain ⟨l3, hl3⟩ : ∃ z, doL er (y * v) = z := ⟨_, rfl⟩
    rw [he3] at hm1 hz3 hd3
    rw [hl3] at hd3
    rw [he3, hl3] at HE
    have hz4 := @Fst.zero _ _ _ _ HFc.out e3 (x * v) (u * y)
    have hz0 := @Fst.on _ _ _ _ HFc.out e3 (x * v) (u * y)
    obtain ⟨e4, he4⟩ : ∃ z, fE e3 (x * v) (u * y) = z := ⟨_, rfl⟩
    obtain ⟨l5, hl5⟩ : ∃ z, fL e3 (x * v) (u * y) = z := ⟨_, rfl⟩
    rw [he4] at hm1 hz4 hz0
    rw [hl5] at hz4
    have HK := Lib.hid (And.intro hm1 (And.intro he4 hl5))
    have hq1 : e3 = 0 → l4 = Na.dig (x * v) ∧ l9 = Na.dig (u * y) ∧ x * v < Na.top ∧ u * y < Na.top := fun h => ⟨(hk4 (hz3 h).1).2, (hk9 (hz3 h).1).2, (hk4 (hz3 h).1).1, (hk9 (hz3 h).1).1⟩
    have hq2 : e4 = 0 → l5 = Na.dig (fV (x * v) (u * y)) ∧ l3 = Na.dig (y * v) ∧ fV (x * v) (u * y) < Na.top ∧ y * v < Na.top := fun h => by
      have h3 : e3 = 0 := hz0 h
      have h5 := hz4 (hk4 (hz3 h3).1).1 h
      exact ⟨h5.2.1, hd3 h3, h5.2.2, (hz3 h3).2⟩
    have HQ := Lib.hid (And.intro hq1 hq2)
    have HR := Lib.hid (And.intro r1 (And.intro r2 (And.intro r3 r5)))
    clear hL hC r1 r2 r3 r4 r5 r6 HD HMk hk4 hk9 hm1 hz3 hd3 hz4 hz0 he3 hl3 he4 hl5 hq1 hq2
    simp only [Act.put, List.setIfInBounds_toArray, List.set_cons_zero, List.set_cons_succ]
    go_wp2_with fail
    refine HE.out.mono ?_
    rintro e W2 ⟨B3, m3, d3, rfl, ho⟩
    have HD := Lib.hid (ho.psb (.slice B3 m3 d3) 24).drew
    have y1 := (HD.out.psc (t := z1) ((get_l _ _ (get_lt HR.out.2.2.1)).trans HR.out.2.2.1)).1
    have y2 := (HD.out.psc (t := z2) ((get_l _ _ (get_lt HR.out.2.2.2)).trans HR.out.2.2.2)).1
    have y3 := (HD.out.psc (t := ps.length + 0) (by rw [get_r]; rfl)).1
    have HA1 := Lib.hid (HFc.out.call HD.out (L.length + t1) (L.length + t2) ((get_l _ _ (by have := get_lt HR.out.1; rw [List.length_append]; omega)).trans ((get_r _ _ _).trans HR.out.1)) ((get_l _ _ (by have := get_lt HR.out.2.1; rw [List.length_append]; omega)).trans ((get_r _ _ _).trans HR.out.2.1)) HQ.out.1)
    rw [HK.out.2.1, HK.out.2.2] at HA1
    clear HE ho q0 q1 q2 q3
    go_upto_region 6 with (fail)
    go_region_held3 (fun W => W.cell? ⟨g1, 0, none⟩ = some (.slice B1 m1 d1) ∧ W.cell? ⟨g2, 0, none⟩ = some (.slice B2 m2 d2) ∧ W.cell? ⟨W2.heap.size, 0, none⟩ = some (.slice B3 m3 d3)) (first | exact ⟨y1, y2, y3⟩ | exact ⟨(how4.psc (t := z1) ((get_l _ _ (get_lt HR.out.2.2.1)).trans HR.out.2.2.1)).1, (how4.psc (t := z2) ((get_l _ _ (get_lt HR.out.2.2.2)).trans HR.out.2.2.2)).1, (how4.psc (t := ps.length + 0) (by rw [get_r]; rfl)).1⟩ | exact ⟨(how3.psc (t := z1) ((get_l _ _ (get_lt HR.out.2.2.1)).trans HR.out.2.2.1)).1, (how3.psc (t := z2) ((get_l _ _ (get_lt HR.out.2.2.2)).trans HR.out.2.2.2)).1, (how3.psc (t := ps.length + 0) (by rw [get_r]; rfl)).1⟩ | exact ⟨(how.psc (t := z1) ((get_l _ _ (get_lt HR.out.2.2.1)).trans HR.out.2.2.1)).1, (how.psc (t := z2) ((get_l _ _ (get_lt HR.out.2.2.2)).trans HR.out.2.2.2)).1, (how.psc (t := ps.length + 0) (by rw [get_r]; rfl)).1⟩) ((first | (go_at_call 51; (with_reducible refine HA1.out.mono ?_); rintro e v2 ⟨B4, m4, d4, rfl, how⟩; rw [List.append_assoc (L ++ Ls)] at how; have HA3 := Lib.hid (smake_x how ((L ++ Ls).length + 1) ((L ++ Ls).length + 0) (by rw [get_r]; rfl) (by rw [get_r]; rfl) HQ.out.2 HI.out.2.2.2.2); rw [HK.out.1] at HA3) | (go_at_call 50; (with_reducible refine HA3.out.mono ?_); rintro e v4 ⟨C1, k1, e1, C2, k2, e2, rfl, how3⟩; have x0 := how3.p0 (O.length + 2) (by rw [get_r]; rfl); have x1 := how3.p1 (O.length + 2) (by rw [get_r]; rfl); have f0 := how3.pf (O.length + 2) (by rw [get_r]; rfl) 0; have f1 := how3.pf (O.length + 2) (by rw [get_r]; rfl) 1; have how4' := how3.set0 (O.length + 2) (by rw [get_r]; rfl) (.slice C1 k1 e1); rw [set_r] at how4'; simp only [List.set_cons_succ, List.set_cons_zero] at how4'; have how4 := how4'.set1 (O.length + 2) (by rw [get_r]; rfl) (.slice C2 k2 e2); rw [set_r] at how4; simp only [List.set_cons_succ, List.set_cons_zero] at how4)))
    have s0 := how4.p0 (O.length + 2) (by rw [get_r]; rfl)
    have s1 := how4.p1 (O.length + 2) (by rw [get_r]; rfl)
    have HF := Lib.hid (how4.fewM.fewO.less (L' := L ++ [⟨C1, k1, e1, _⟩] ++ [⟨C2, k2, e2, _⟩]) (fun o ho => by rw [List.append_assoc L Ls]; exact mid_less L _ _ _ o ho))
    clear how how3 how4' how4 x0 x1 f0 f1 HA1 HA3 y1 y2 y3
    go_wp2_with fail
    refine bodyPost_ret (v := .tuple #[.agg #[.slice C1 k1 e1, .slice C2 k2 e2], .int .i64 t.2.2]) (by simp [results, Tryz.results42, go_sem, s0, s1]) rfl ?_
    exact ⟨C1, k1, e1, C2, k2, e2, rfl, HF.out⟩
set_option maxHeartbeats 8000000 in
theorem qcomb_bad {N : Nat} (h : Ow w0 w g M L O) (i j k l : Nat) (hi : L[i]? = some ⟨A, n, c, ints p⟩) (hj : L[j]? = some ⟨A2, m, c2, ints q⟩) (hk : L[k]? = some ⟨A3, n3, c3, ints r⟩) (hl : L[l]? = some ⟨A4, n4, c4, ints s⟩) (ht : Tab w0) (hb : (rv p q && rv r s) = false) :
    Calls Tryz.prog 42 #[.agg #[.slice A n c, .slice A2 m c2], .agg #[.slice A3 n3 c3, .slice A4 n4 c4], .func (.func N) #[] #[]] w (GotF w0 g M L O (frE 1)) := by
  have H0 := ((h.pair (.slice A n c) (.slice A2 m c2) 26).pair (.slice A3 n3 c3) (.slice A4 n4 c4) 26).pair (.slice none 0 0) (.slice none 0 0) 26
  simp only [World.size_alloc, List.append_assoc, List.cons_append, List.nil_append] at H0
  have a0 := H0.p0 (O.length + 0) (by rw [get_r]; rfl)
  have a1 := H0.p1 (O.length + 0) (by rw [get_r]; rfl)
  have b0 := H0.p0 (O.length + 1) (by rw [get_r]; rfl)
  have b1 := H0.p1 (O.length + 1) (by rw [get_r]; rfl)
  have HV := Lib.hid (qboth_ow H0 i j k l hi hj hk hl ht)
  rw [hb] at HV
  clear h H0 hi hj hk hl ht hb
  go_enter Tryz.func42, Tryz.ntmps42
  go_wp2_with fail
  refine HV.out.mono ?_
  rintro e w1 ⟨rfl, H1⟩
  clear HV a0 a1 b0 b1
  have k0 := H1.p0 (O.length + 2) (by rw [get_r]; rfl)
  have k1 := H1.p1 (O.length + 2) (by rw [get_r]; rfl)
  have f0 := H1.pf (O.length + 2) (by rw [get_r]; rfl) 0
  have f1 := H1.pf (O.length + 2) (by rw [get_r]; rfl) 1
  have H3 := H1.set0 (O.length + 2) (by rw [get_r]; rfl) (.slice none 0 0)
  rw [set_r] at H3
  simp only [List.set_cons_succ, List.set_cons_zero] at H3
  have H4 := H3.set1 (O.length + 2) (by rw [get_r]; rfl) (.slice none 0 0)
  rw [set_r] at H4
  simp only [List.set_cons_succ, List.set_cons_zero] at H4
  have s0 := H4.p0 (O.length + 2) (by rw [get_r]; rfl)
  have s1 := H4.p1 (O.length + 2) (by rw [get_r]; rfl)
  have HF := Lib.hid H4.fewO
  clear H1 H3 H4
  go_wp2_with fail
  refine bodyPost_ret (v := .tuple #[.agg #[.slice none 0 0, .slice none 0 0], .int .i64 1]) (by simp [results, Tryz.results42, go_sem, s0, s1]) rfl ?_
  exact gotF_nil HF.out 1
theorem fst_add : Fst 43 (fun e x y => doE e (x + y)) (fun e x y => doL e (x + y)) (fun x y => x + y) := by
  refine ⟨fun {w0 w g M M2 L O A A2 b n c m c2 x y e0 l1 l2} h i j hi hj he => ?_, fun h => (doE_zero h).1, fun hx h => ?_⟩
  · show Calls _ _ _ _ (DoR _ _ _ _ _ _ _ (doE e0 (x + y)) (doL e0 (x + y)))
    unfold doE doL
    by_cases h0 : e0 = 0
    · subst h0
      obtain ⟨rfl, rfl, hx, hy⟩ := he rfl
      rw [if_pos rfl, if_pos rfl]
      refine (qdo_add_go h (M.length + 0) b (by rw [get_r]; rfl) i j (p := Na.up (Na.dig x)) (q := Na.up (Na.dig y)) (by rw [nats_up]; exact hi) (by rw [nats_up]; exact hj)).mono fun e w' ⟨A', n', c', he, ho⟩ => ?_
      have e1 : addE (Na.up (Na.dig x)) (Na.up (Na.dig y)) = resE (x + y) := by unfold addE; rw [Na.vld_dig hx, Na.vld_dig hy, num_dig, num_dig]; rfl
      have e2 : addL (Na.up (Na.dig x)) (Na.up (Na.dig y)) = resL (x + y) := by unfold addL; rw [Na.vld_dig hx, Na.vld_dig hy, num_dig, num_dig]; rfl
      rw [set_r, List.set_cons_zero, e1, e2] at ho
      exact ⟨A', n', c', he, ho⟩
    · rw [if_neg h0, if_neg h0]
      exact do_no h (by simpa using h0) _
  · obtain ⟨rfl, h1⟩ := doE_zero h
    exact ⟨rfl, doL_of h1, h1⟩
theorem fst_sub : Fst 47 sbE sbL (fun x y => x - y) := by
  refine ⟨fun {w0 w g M M2 L O A A2 b n c m c2 x y e0 l1 l2} h i j hi hj he => ?_, fun {e0 x y} h => ?_, fun {e0 x y} hx h => ?_⟩
  · unfold sbE sbL
    by_cases h0 : e0 = 0
    · subst h0
      obtain ⟨rfl, rfl, hx, hy⟩ := he rfl
      rw [if_pos rfl, if_pos rfl]
      refine (qdo_sub_go h (M.length + 0) b (by rw [get_r]; rfl) i j (p := Na.up (Na.dig x)) (q := Na.up (Na.dig y)) (by rw [nats_up]; exact hi) (by rw [nats_up]; exact hj)).mono fun e w' ⟨A', n', c', he, ho⟩ => ?_
      have e1 : subE (Na.up (Na.dig x)) (Na.up (Na.dig y)) = if x < y then 5 else 0 := by unfold subE; rw [Na.vld_dig hx, Na.vld_dig hy, num_dig, num_dig, Bool.and_true, if_pos rfl]
      have e2 : subL (Na.up (Na.dig x)) (Na.up (Na.dig y)) = if x < y then [] else Na.dig (x - y) := by unfold subL; rw [Na.vld_dig hx, Na.vld_dig hy, num_dig, num_dig, Bool.and_true, if_pos rfl]
      rw [set_r, List.set_cons_zero, e1, e2] at ho
      exact ⟨A', n', c', he, ho⟩
    · rw [if_neg h0, if_neg h0]
      exact do_no h (by simpa using h0) _
  · unfold sbE at h
    split at h
    · assumption
    · exact absurd h (by assumption)
  · unfold sbE at h
    unfold sbL
    by_cases h0 : e0 = 0
    · rw [if_pos h0] at h
      by_cases h1 : x < y
      · rw [if_pos h1] at h; cases h
      · rw [if_pos h0, if_neg h1]
        exact ⟨h0, rfl, Nat.lt_of_le_of_lt (Nat.sub_le _ _) hx⟩
    · rw [if_neg h0] at h
      exact absurd h h0
theorem mkadd {X Y Z : Nat} {er : Int} (h0 : er = 0 → X < Na.top ∧ Y < Na.top) (h1 : er ≠ 0 → er = 3 ∧ ¬(X < Na.top ∧ Y < Na.top)) : mkF (doE (doE er Z) (X + Y)) (X + Y) Z = if X < Na.top ∧ Y < Na.top ∧ Z < Na.top ∧ X + Y < Na.top then frM (X + Y) Z else frE 3 := by
  by_cases he : er = 0
  · subst he
    obtain ⟨hx, hy⟩ := h0 rfl
    by_cases hz : Z < Na.top
    · rw [doE_of hz]
      by_cases hs : X + Y < Na.top
      · rw [doE_of hs, if_pos ⟨hx, hy, hz, hs⟩]; rfl
      · rw [doE_no hs, if_neg (fun h => hs h.2.2.2)]; rfl
    · rw [doE_no hz, doE_on _ (by decide), if_neg (fun h => hz h.2.2.1)]; rfl
  · obtain ⟨rfl, hn⟩ := h1 he
    rw [doE_on Z (show (3 : Int) ≠ 0 by decide), doE_on (X + Y) (show (3 : Int) ≠ 0 by decide), if_neg (fun h => hn ⟨h.1, h.2.1⟩)]; rfl
theorem mksub {X Y Z : Nat} {er : Int} (h0 : er = 0 → X < Na.top ∧ Y < Na.top) (h1 : er ≠ 0 → er = 3 ∧ ¬(X < Na.top ∧ Y < Na.top)) : mkF (sbE (doE er Z) X Y) (X - Y) Z = if X < Na.top ∧ Y < Na.top ∧ Z < Na.top then (if Y ≤ X then frM (X - Y) Z else frE 5) else frE 3 := by
  by_cases he : er = 0
  · subst he
    obtain ⟨hx, hy⟩ := h0 rfl
    by_cases hz : Z < Na.top
    · rw [doE_of hz, if_pos ⟨hx, hy, hz⟩]
      unfold sbE
      rw [if_pos rfl]
      by_cases hs : X < Y
      · rw [if_pos hs, if_neg (by omega)]; rfl
      · rw [if_neg hs, if_pos (by omega)]; rfl
    · rw [doE_no hz, if_neg (fun h => hz h.2.2)]; rfl
  · obtain ⟨rfl, hn⟩ := h1 he
    rw [doE_on _ (by decide), if_neg (fun h => hn ⟨h.1, h.2.1⟩)]; rfl
theorem qcomb_add (h : Ow w0 w g M L O) (i j k l : Nat) (hi : L[i]? = some ⟨A, n, c, ints p⟩) (hj : L[j]? = some ⟨A2, m, c2, ints q⟩) (hk : L[k]? = some ⟨A3, n3, c3, ints r⟩) (hl : L[l]? = some ⟨A4, n4, c4, ints s⟩) (ht : Tab w0) :
    Calls Tryz.prog 42 #[.agg #[.slice A n c, .slice A2 m c2], .agg #[.slice A3 n3 c3, .slice A4 n4 c4], .func (.func 43) #[] #[]] w (GotF w0 g M L O (addF p q r s)) := by
  unfold addF
  cases hb : rv p q && rv r s with
  | false => exact qcomb_bad h i j k l hi hj hk hl ht hb
  | true =>
    obtain ⟨h1, h2⟩ := Bool.and_eq_true_iff.1 hb
    obtain ⟨x, y, hx, hy, -, -, rfl, rfl⟩ := rv_ex h1
    obtain ⟨u, v, hu, hv, -, -, rfl, rfl⟩ := rv_ex h2
    rw [num_dig, num_dig, num_dig, num_dig, if_pos rfl]
    exact qcomb_ok fst_add h i j k l (nats_lay hi) (nats_lay hj) (nats_lay hk) (nats_lay hl) ht hx hy hu hv hb (fun er a1 a2 => mkadd a1 a2)
set_option maxHeartbeats 4000000 in
theorem qAdd_any (h : Ow w0 w g M L O) (i j k l : Nat) (hi : L[i]? = some ⟨A, n, c, ints p⟩) (hj : L[j]? = some ⟨A2, m, c2, ints q⟩) (hk : L[k]? = some ⟨A3, n3, c3, ints r⟩) (hl : L[l]? = some ⟨A4, n4, c4, ints s⟩) (ht : Tab w0) :
    Calls Tryz.prog 16 #[.agg #[.slice A n c, .slice A2 m c2], .agg #[.slice A3 n3 c3, .slice A4 n4 c4]] w (GotF w0 g M L O (addF p q r s)) := by
  have H0 := ((h.pair (.slice A n c) (.slice A2 m c2) 26).pair (.slice A3 n3 c3) (.slice A4 n4 c4) 26).pair (.slice none 0 0) (.slice none 0 0) 26
  simp only [World.size_alloc, List.append_assoc, List.cons_append, List.nil_append] at H0
  have a0 := H0.p0 (O.length + 0) (by rw [get_r]; rfl)
  have a1 := H0.p1 (O.length + 0) (by rw [get_r]; rfl)
  have b0 := H0.p0 (O.length + 1) (by rw [get_r]; rfl)
  have b1 := H0.p1 (O.length + 1) (by rw [get_r]; rfl)
  have HC := Lib.hid (qcomb_add H0 i j k l hi hj hk hl ht)
  obtain ⟨t, hmk⟩ : ∃ t, addF p q r s = t := ⟨_, rfl⟩
  rw [hmk] at HC ⊢
  clear h H0 hi hj hk hl ht hmk
  go_enter Tryz.func16, Tryz.ntmps16
  go_wp2_with fail
  refine HC.out.mono ?_
  rintro e v4 ⟨C1, k1, e1, C2, k2, e2, rfl, how3⟩
  clear HC a0 a1 b0 b1
  have z0 := how3.p0 (O.length + 2) (by rw [get_r]; rfl)
  have z1 := how3.p1 (O.length + 2) (by rw [get_r]; rfl)
  have f0 := how3.pf (O.length + 2) (by rw [get_r]; rfl) 0
  have f1 := how3.pf (O.length + 2) (by rw [get_r]; rfl) 1
  have how4' := how3.set0 (O.length + 2) (by rw [get_r]; rfl) (.slice C1 k1 e1)
  rw [set_r] at how4'
  simp only [List.set_cons_succ, List.set_cons_zero] at how4'
  have how4 := how4'.set1 (O.length + 2) (by rw [get_r]; rfl) (.slice C2 k2 e2)
  rw [set_r] at how4
  simp only [List.set_cons_succ, List.set_cons_zero] at how4
  have s0 := how4.p0 (O.length + 2) (by rw [get_r]; rfl)
  have s1 := how4.p1 (O.length + 2) (by rw [get_r]; rfl)
  have HF := Lib.hid how4.fewO
  clear how3 how4' how4
  go_wp2_with fail
  refine bodyPost_ret (v := .tuple #[.agg #[.slice C1 k1 e1, .slice C2 k2 e2], .int .i64 t.2.2]) (by simp [results, Tryz.results16, go_sem, s0, s1]) rfl ?_
  exact ⟨C1, k1, e1, C2, k2, e2, rfl, HF.out⟩
theorem qcomb_sub (h : Ow w0 w g M L O) (i j k l : Nat) (hi : L[i]? = some ⟨A, n, c, ints p⟩) (hj : L[j]? = some ⟨A2, m, c2, ints q⟩) (hk : L[k]? = some ⟨A3, n3, c3, ints r⟩) (hl : L[l]? = some ⟨A4, n4, c4, ints s⟩) (ht : Tab w0) :
    Calls Tryz.prog 42 #[.agg #[.slice A n c, .slice A2 m c2], .agg #[.slice A3 n3 c3, .slice A4 n4 c4], .func (.func 47) #[] #[]] w (GotF w0 g M L O (subF p q r s)) := by
  unfold subF
  cases hb : rv p q && rv r s with
  | false => exact qcomb_bad h i j k l hi hj hk hl ht hb
  | true =>
    obtain ⟨h1, h2⟩ := Bool.and_eq_true_iff.1 hb
    obtain ⟨x, y, hx, hy, -, -, rfl, rfl⟩ := rv_ex h1
    obtain ⟨u, v, hu, hv, -, -, rfl, rfl⟩ := rv_ex h2
    rw [num_dig, num_dig, num_dig, num_dig, if_pos rfl]
    exact qcomb_ok fst_sub h i j k l (nats_lay hi) (nats_lay hj) (nats_lay hk) (nats_lay hl) ht hx hy hu hv hb (fun er a1 a2 => mksub a1 a2)
set_option maxHeartbeats 4000000 in
theorem qSub_any (h : Ow w0 w g M L O) (i j k l : Nat) (hi : L[i]? = some ⟨A, n, c, ints p⟩) (hj : L[j]? = some ⟨A2, m, c2, ints q⟩) (hk : L[k]? = some ⟨A3, n3, c3, ints r⟩) (hl : L[l]? = some ⟨A4, n4, c4, ints s⟩) (ht : Tab w0) :
    Calls Tryz.prog 19 #[.agg #[.slice A n c, .slice A2 m c2], .agg #[.slice A3 n3 c3, .slice A4 n4 c4]] w (GotF w0 g M L O (subF p q r s)) := by
  have H0 := ((h.pair (.slice A n c) (.slice A2 m c2) 26).pair (.slice A3 n3 c3) (.slice A4 n4 c4) 26).pair (.slice none 0 0) (.slice none 0 0) 26
  simp only [World.size_alloc, List.append_assoc, List.cons_append, List.nil_append] at H0
  have a0 := H0.p0 (O.length + 0) (by rw [get_r]; rfl)
  have a1 := H0.p1 (O.length + 0) (by rw [get_r]; rfl)
  have b0 := H0.p0 (O.length + 1) (by rw [get_r]; rfl)
  have b1 := H0.p1 (O.length + 1) (by rw [get_r]; rfl)
  have HC := Lib.hid (qcomb_sub H0 i j k l hi hj hk hl ht)
  obtain ⟨t, hmk⟩ : ∃ t, subF p q r s = t := ⟨_, rfl⟩
  rw [hmk] at HC ⊢
  clear h H0 hi hj hk hl ht hmk
  go_enter Tryz.func19, Tryz.ntmps19
  go_wp2_with fail
  refine HC.out.mono ?_
  rintro e v4 ⟨C1, k1, e1, C2, k2, e2, rfl, how3⟩
  clear HC a0 a1 b0 b1
  have z0 := how3.p0 (O.length + 2) (by rw [get_r]; rfl)
  have z1 := how3.p1 (O.length + 2) (by rw [get_r]; rfl)
  have f0 := how3.pf (O.length + 2) (by rw [get_r]; rfl) 0
  have f1 := how3.pf (O.length + 2) (by rw [get_r]; rfl) 1
  have how4' := how3.set0 (O.length + 2) (by rw [get_r]; rfl) (.slice C1 k1 e1)
  rw [set_r] at how4'
  simp only [List.set_cons_succ, List.set_cons_zero] at how4'
  have how4 := how4'.set1 (O.length + 2) (by rw [get_r]; rfl) (.slice C2 k2 e2)
  rw [set_r] at how4
  simp only [List.set_cons_succ, List.set_cons_zero] at how4
  have s0 := how4.p0 (O.length + 2) (by rw [get_r]; rfl)
  have s1 := how4.p1 (O.length + 2) (by rw [get_r]; rfl)
  have HF := Lib.hid how4.fewO
  clear how3 how4' how4
  go_wp2_with fail
  refine bodyPost_ret (v := .tuple #[.agg #[.slice C1 k1 e1, .slice C2 k2 e2], .int .i64 t.2.2]) (by simp [results, Tryz.results19, go_sem, s0, s1]) rfl ?_
  exact ⟨C1, k1, e1, C2, k2, e2, rfl, HF.out⟩
end
end Go.Proofs.YtnfjnlnphdmdmaaGreatDoor

/- The whole part and the text of a fraction. -/
namespace Go.Proofs.YtnfjnlnphdmdmaaGreatDoor
open Go.RowKit Go.Sort
set_option linter.unusedVariables false
set_option maxRecDepth 100000
theorem top_ten {x k : Nat} (hk : k = 24 * 200) (h : x < Na.top) : x < 10 ^ k := by
  have h1 : Na.top ≤ (10 ^ 24) ^ 200 := Nat.pow_le_pow_left (by decide) 200
  rw [← Nat.pow_mul, ← hk] at h1
  exact Nat.lt_of_lt_of_le h h1
theorem text_size {x : Nat} (h : x < Na.top) : (str (De.text x)).size ≤ 4801 := by
  rw [str_size]
  unfold De.text
  split
  · decide
  · rw [List.length_reverse, List.length_map]
    obtain ⟨k, hk⟩ : ∃ k, k = 24 * 200 := ⟨_, rfl⟩
    exact Nat.le_trans ((De.dig_len_iff x k).2 (top_ten hk h)) (by omega)
theorem flr_less (L : List Ob) (x y : Ob) : ∀ o ∈ L ++ [x], o ∈ L ++ [x, y] := fun o ho => by
  simp only [List.mem_append, List.mem_cons, List.mem_nil_iff, or_false] at ho ⊢
  rcases ho with h | h
  · exact .inl h
  · exact .inr (.inl h)
section
variable {w0 w w' : World} {g : Option Nat} {M M2 : List (Nat × Value)} {L : List Ob} {O : List Rw} {A A2 : Option Addr} {b n c m c2 x y : Nat}
theorem divide_d (h : Ow w0 w g M L O) (i j : Nat) (hi : L[i]? = some ⟨A, n, c, nats (Na.dig x)⟩) (hj : L[j]? = some ⟨A2, m, c2, nats (Na.dig y)⟩) (hx : x < Na.top) (hy : y < Na.top) (h0 : 0 < y) :
    Calls Tryz.prog 37 #[.agg #[.slice A n c], .agg #[.slice A2 m c2]] w (GotO2 w0 g M L O (Na.dig (x / y)) (Na.dig (x % y)) 0) :=
  (nDivide_ok A A2 n c m c2 x y w (h.seenL i hi).1 (h.seenL j hj).1 (h.seenL i hi).2.2 (h.seenL j hj).2.2 hx hy h0).mono fun e w' hr => got_o2 h (dig_1000 (Nat.lt_of_le_of_lt (Nat.div_le_self _ _) hx)) (dig_1000 (Nat.lt_of_le_of_lt (Nat.mod_le _ _) hx)) hr
set_option maxHeartbeats 4000000 in
theorem qfloor_ok (h : Ow w0 w g M L O) (i j : Nat) (hi : L[i]? = some ⟨A, n, c, nats (Na.dig x)⟩) (hj : L[j]? = some ⟨A2, m, c2, nats (Na.dig y)⟩) (ht : Tab w0) (hx : x < Na.top) (hy : y < Na.top) (h0 : 0 < y) (h1 : rv (Na.up (Na.dig x)) (Na.up (Na.dig y)) = true) :
    Calls Tryz.prog 27 #[.agg #[.slice A n c, .slice A2 m c2]] w (GotO w0 g M L O (Na.dig (x / y)) 0) := by
  have H0 := (h.pair (.slice A n c) (.slice A2 m c2) 26).boxed (.slice none 0 0) 24
  simp only [World.size_alloc] at H0
  have a0 := H0.p0 (O.length + 0) (by rw [get_r]; rfl)
  have a1 := H0.p1 (O.length + 0) (by rw [get_r]; rfl)
  have HV := Lib.hid (qvalid_ow (p := Na.up (Na.dig x)) (q := Na.up (Na.dig y)) H0 i j (by rw [nats_up]; exact hi) (by rw [nats_up]; exact hj) ht)
  rw [h1] at HV
  have HI := Lib.hid (And.intro hi hj)
  have HX := Lib.hid (And.intro hx (And.intro hy h0))
  clear h H0 hi hj ht h1 hx hy h0
  go_enter Tryz.func27, Tryz.ntmps27
  go_wp2_with fail
  refine HV.out.mono ?_
  rintro e w1 ⟨rfl, H1⟩
  have a0 := H1.p0 (O.length + 0) (by rw [get_r]; rfl)
  have a1 := H1.p1 (O.length + 0) (by rw [get_r]; rfl)
  have HD := Lib.hid (divide_d H1 i j HI.out.1 HI.out.2 HX.out.1 HX.out.2.1 HX.out.2.2)
  clear HV H1
  go_wp2_with fail
  refine HD.out.mono ?_
  rintro e w2 ⟨B1, m1, d1, B2, m2, d2, rfl, H2⟩
  have H3 := (H2.boxed (.slice B1 m1 d1) 24).boxed (.slice B2 m2 d2) 24
  simp only [World.size_alloc, List.append_assoc, List.cons_append, List.nil_append] at H3
  have k1 := H3.cell (M.length + 1) (by rw [get_r]; rfl)
  have k0 := H3.cell (M.length + 0) (by rw [get_r]; rfl)
  have f0 := H3.free (M.length + 0) (by rw [get_r]; rfl)
  have H4 := H3.setv (M.length + 0) (by rw [get_r]; rfl) (.slice B1 m1 d1)
  rw [set_r] at H4
  simp only [List.set_cons_zero] at H4
  have s0 := H4.cell (M.length + 0) (by rw [get_r]; rfl)
  have HF := Lib.hid (H4.fewM.fewO.less (flr_less L _ _))
  clear HD H2 H3 H4 a0 a1
  go_wp2_with fail
  refine bodyPost_ret (v := .tuple #[.agg #[.slice B1 m1 d1], .int .i64 0]) (by simp [results, Tryz.results27, go_sem, s0]) rfl ?_
  exact ⟨B1, m1, d1, rfl, HF.out⟩
theorem prt_d (h : Ow w0 w g M L O) (i : Nat) (hi : L[i]? = some ⟨A, n, c, nats (Na.dig x)⟩) (hx : x < Na.top) :
    Calls Tryz.prog 44 #[.agg #[.slice A n c]] w fun e w' => e = .returned (.string (str (De.text x))) ∧ Below w.heap.size w w' := by
  have := ag_prt_b (zs := Na.up (Na.dig x)) h i (by rw [nats_up]; exact hi)
  unfold prtL at this
  rw [Na.vld_dig hx, num_dig] at this
  exact this
theorem prt_d_ow (h : Ow w0 w g M L O) (i : Nat) (hi : L[i]? = some ⟨A, n, c, nats (Na.dig x)⟩) (hx : x < Na.top) :
    Calls Tryz.prog 44 #[.agg #[.slice A n c]] w fun e w' => e = .returned (.string (str (De.text x))) ∧ Ow w0 w' g M L O :=
  (prt_d h i hi hx).mono fun e w' ⟨he, hb⟩ => ⟨he, h.go hb⟩
set_option maxHeartbeats 4000000 in
theorem qprint_ok (h : Ow w0 w g M L O) (i j : Nat) (hi : L[i]? = some ⟨A, n, c, nats (Na.dig x)⟩) (hj : L[j]? = some ⟨A2, m, c2, nats (Na.dig y)⟩) (ht : Tab w0) (hx : x < Na.top) (hy : y < Na.top) (h1 : rv (Na.up (Na.dig x)) (Na.up (Na.dig y)) = true) :
    Calls Tryz.prog 17 #[.agg #[.slice A n c, .slice A2 m c2]] w fun e w' => e = .returned (.string (str (De.text x ++ 47 :: De.text y))) ∧ Ow w0 w' g M L O := by
  have H0 := h.pair (.slice A n c) (.slice A2 m c2) 26
  have a0 := H0.p0 (O.length + 0) (by rw [get_r]; rfl)
  have a1 := H0.p1 (O.length + 0) (by rw [get_r]; rfl)
  have HV := Lib.hid (qvalid_ow (p := Na.up (Na.dig x)) (q := Na.up (Na.dig y)) H0 i j (by rw [nats_up]; exact hi) (by rw [nats_up]; exact hj) ht)
  rw [h1] at HV
  have HI := Lib.hid (And.intro hi hj)
  have HX := Lib.hid (And.intro hx hy)
  obtain ⟨sx, hsx⟩ : ∃ s, str (De.text x) = s := ⟨_, rfl⟩
  obtain ⟨sy, hsy⟩ : ∃ s, str (De.text y) = s := ⟨_, rfl⟩
  have hz1 : sx.size ≤ 4801 := by rw [← hsx]; exact text_size hx
  have hz2 : sy.size ≤ 4801 := by rw [← hsy]; exact text_size hy
  have hz3 : ¬ 9223372036854775807 < sx.size + 1 := by omega
  have hz4 : ¬ 9223372036854775807 < sx.size + 1 + sy.size := by omega
  clear hz1 hz2
  have HS : Hid (sx ++ ⟨#[47]⟩ ++ sy = str (De.text x ++ 47 :: De.text y)) := by
    unfold Hid
    rw [← hsx, ← hsy, show (⟨#[47]⟩ : ByteArray) = str [47] from rfl, str_append, str_append, List.append_assoc]; rfl
  have HSx := Lib.hid hsx
  have HSy := Lib.hid hsy
  clear h H0 hi hj h1 hx hy hsx hsy ht
  go_enter Tryz.func17, Tryz.ntmps17
  go_wp2_with fail
  refine HV.out.mono ?_
  rintro e w1 ⟨rfl, H1⟩
  have HF := Lib.hid H1
  have HD := Lib.hid H1.drew
  have a0 := HD.out.p0 (O.length + 0) (by rw [get_r]; rfl)
  have a1 := HD.out.p1 (O.length + 0) (by rw [get_r]; rfl)
  have cP1 := Lib.hid (prt_d_ow HD.out i HI.out.1 HX.out.1)
  rw [HSx.out] at cP1
  clear H1 HV HF
  go_upto_region 3 with (fail)
  go_region_held3 (fun W => W.cell? ⟨w.heap.size, 0, none⟩ = some (.slice A n c) ∧ W.cell? ⟨w.heap.size, 1, none⟩ = some (.slice A2 m c2)) (first | exact ⟨a0, a1⟩ | exact ⟨how.p0 (O.length + 0) (by rw [get_r]; rfl), how.p1 (O.length + 0) (by rw [get_r]; rfl)⟩ | exact ⟨how2.p0 (O.length + 0) (by rw [get_r]; rfl), how2.p1 (O.length + 0) (by rw [get_r]; rfl)⟩) ((first | (go_at_call 44; (with_reducible refine cP1.out.mono ?_); rintro e v2 ⟨rfl, how⟩; have cP2 := Lib.hid (prt_d_ow how j HI.out.2 HX.out.2); rw [HSy.out] at cP2) | (go_at_call 44; (with_reducible refine cP2.out.mono ?_); rintro e v3 ⟨rfl, how2⟩)))
  have HZ := Lib.hid how2.fewO
  clear a0 a1 cP1 cP2 how how2
  go_wp2_with fail
  go_ret
  rw [← HS.out]
  exact ⟨rfl, HZ.out⟩
theorem rprt_d (h : Ow w0 w g M L O) (i : Nat) (hi : L[i]? = some ⟨A, n, c, nats (Na.dig x)⟩) (hx : x < Na.top) :
    Calls Tryz.prog 58 #[.agg #[.slice A n c]] w fun e w' => e = .returned (.string (str (De.text x))) ∧ Below w.heap.size w w' := by
  have := ag_rprt_b (zs := Na.up (Na.dig x)) h i (by rw [nats_up]; exact hi)
  unfold prtL at this
  rw [Na.vld_dig hx, num_dig] at this
  exact this
theorem rprt_d_ow (h : Ow w0 w g M L O) (i : Nat) (hi : L[i]? = some ⟨A, n, c, nats (Na.dig x)⟩) (hx : x < Na.top) :
    Calls Tryz.prog 58 #[.agg #[.slice A n c]] w fun e w' => e = .returned (.string (str (De.text x))) ∧ Ow w0 w' g M L O :=
  (rprt_d h i hi hx).mono fun e w' ⟨he, hb⟩ => ⟨he, h.go hb⟩
set_option maxHeartbeats 4000000 in
theorem qrprint_ok (h : Ow w0 w g M L O) (i j : Nat) (hi : L[i]? = some ⟨A, n, c, nats (Na.dig x)⟩) (hj : L[j]? = some ⟨A2, m, c2, nats (Na.dig y)⟩) (hx : x < Na.top) (hy : y < Na.top) (h1 : rv (Na.up (Na.dig x)) (Na.up (Na.dig y)) = true) :
    Calls Tryz.prog 32 #[.agg #[.slice A n c, .slice A2 m c2]] w fun e w' => e = .returned (.string (str (De.text x ++ 47 :: De.text y))) ∧ Ow w0 w' g M L O := by
  have H0 := h.pair (.slice A n c) (.slice A2 m c2) 26
  have a0 := H0.p0 (O.length + 0) (by rw [get_r]; rfl)
  have a1 := H0.p1 (O.length + 0) (by rw [get_r]; rfl)
  have HV := Lib.hid (qrvalid_ow (p := Na.up (Na.dig x)) (q := Na.up (Na.dig y)) H0 i j (by rw [nats_up]; exact hi) (by rw [nats_up]; exact hj))
  rw [h1] at HV
  have HI := Lib.hid (And.intro hi hj)
  have HX := Lib.hid (And.intro hx hy)
  obtain ⟨sx, hsx⟩ : ∃ s, str (De.text x) = s := ⟨_, rfl⟩
  obtain ⟨sy, hsy⟩ : ∃ s, str (De.text y) = s := ⟨_, rfl⟩
  have hz1 : sx.size ≤ 4801 := by rw [← hsx]; exact text_size hx
  have hz2 : sy.size ≤ 4801 := by rw [← hsy]; exact text_size hy
  have hz3 : ¬ 9223372036854775807 < sx.size + 1 := by omega
  have hz4 : ¬ 9223372036854775807 < sx.size + 1 + sy.size := by omega
  clear hz1 hz2
  have HS : Hid (sx ++ ⟨#[47]⟩ ++ sy = str (De.text x ++ 47 :: De.text y)) := by
    unfold Hid
    rw [← hsx, ← hsy, show (⟨#[47]⟩ : ByteArray) = str [47] from rfl, str_append, str_append, List.append_assoc]; rfl
  have HSx := Lib.hid hsx
  have HSy := Lib.hid hsy
  clear h H0 hi hj h1 hx hy hsx hsy
  go_enter Tryz.func32, Tryz.ntmps32
  go_wp2_with fail
  refine HV.out.mono ?_
  rintro e w1 ⟨rfl, H1⟩
  have HF := Lib.hid H1
  have HD := Lib.hid H1.drew
  have a0 := HD.out.p0 (O.length + 0) (by rw [get_r]; rfl)
  have a1 := HD.out.p1 (O.length + 0) (by rw [get_r]; rfl)
  have cP1 := Lib.hid (rprt_d_ow HD.out i HI.out.1 HX.out.1)
  rw [HSx.out] at cP1
  clear H1 HV HF
  go_upto_region 3 with (fail)
  go_region_held3 (fun W => W.cell? ⟨w.heap.size, 0, none⟩ = some (.slice A n c) ∧ W.cell? ⟨w.heap.size, 1, none⟩ = some (.slice A2 m c2)) (first | exact ⟨a0, a1⟩ | exact ⟨how.p0 (O.length + 0) (by rw [get_r]; rfl), how.p1 (O.length + 0) (by rw [get_r]; rfl)⟩ | exact ⟨how2.p0 (O.length + 0) (by rw [get_r]; rfl), how2.p1 (O.length + 0) (by rw [get_r]; rfl)⟩) ((first | (go_at_call 58; (with_reducible refine cP1.out.mono ?_); rintro e v2 ⟨rfl, how⟩; have cP2 := Lib.hid (rprt_d_ow how j HI.out.2 HX.out.2); rw [HSy.out] at cP2) | (go_at_call 58; (with_reducible refine cP2.out.mono ?_); rintro e v3 ⟨rfl, how2⟩)))
  have HZ := Lib.hid how2.fewO
  clear a0 a1 cP1 cP2 how how2
  go_wp2_with fail
  go_ret
  rw [← HS.out]
  exact ⟨rfl, HZ.out⟩
end
end Go.Proofs.YtnfjnlnphdmdmaaGreatDoor

/- Comparison, whole part and text of any fractions. -/
namespace Go.Proofs.YtnfjnlnphdmdmaaGreatDoor
open Go.RowKit Go.Sort
set_option linter.unusedVariables false
set_option maxRecDepth 100000
def CmyI (w0 : World) (g : Option Nat) (M : List (Nat × Value)) (s pa pb : Nat) (F : Four) (X Y : Nat) (Lh : List Ob) (O : List Rw) (A0 : Act) (Ld : Nat → Bool) (a : Act) (W : World) : Prop :=
  ∃ (u0 u1 u2 u3 u4 u5 u6 u7 u8 u9 v1 v2 : Value) (ps : List (Nat × Value)) (Ls : List Ob) (er : Int) (l4 l9 : List Nat), a = ((((((((((((A0.put (some 13) u0).put (some 14) u1).put (some 15) u2).put (some 16) u3).put (some 17) u4).put (some 18) u5).put (some 19) u6).put (some 20) u7).put (some 21) u8).put (some 22) u9).put (some 7) v1).put (some 8) v2) ∧ CX w0 g M s pa pb F X Y Lh O Ld u0 u1 u2 u3 u4 u5 u6 u7 u8 u9 v1 v2 ps Ls er l4 l9 W
section
variable {w0 w w' : World} {g : Option Nat} {M M2 : List (Nat × Value)} {L : List Ob} {O : List Rw} {A A2 A3 A4 : Option Addr} {b n c m c2 n3 c3 n4 c4 x y : Nat} {p q r s : List Int}
set_option maxHeartbeats 16000000 in
theorem qcmp_any (h : Ow w0 w g M L O) (i j k l : Nat) (hi : L[i]? = some ⟨A, n, c, ints p⟩) (hj : L[j]? = some ⟨A2, m, c2, ints q⟩) (hk : L[k]? = some ⟨A3, n3, c3, ints r⟩) (hl : L[l]? = some ⟨A4, n4, c4, ints s⟩) (ht : Tab w0) :
    Calls Tryz.prog 25 #[.agg #[.slice A n c, .slice A2 m c2], .agg #[.slice A3 n3 c3, .slice A4 n4 c4]] w (fun e w' => e = .returned (.tuple #[.int .i64 (cmpV p q r s), .int .i64 (cmpE p q r s)]) ∧ Ow w0 w' g M L O) := by
  unfold cmpV cmpE
  have H0 := (h.pair (.slice A n c) (.slice A2 m c2) 26).pair (.slice A3 n3 c3) (.slice A4 n4 c4) 26
  simp only [World.size_alloc, List.append_assoc, List.cons_append, List.nil_append] at H0
  have a0 := H0.p0 (O.length + 0) (by rw [get_r]; rfl)
  have a1 := H0.p1 (O.length + 0) (by rw [get_r]; rfl)
  have b0 := H0.p0 (O.length + 1) (by rw [get_r]; rfl)
  have b1 := H0.p1 (O.length + 1) (by rw [get_r]; rfl)
  have HV := Lib.hid (qboth_ow H0 i j k l hi hj hk hl ht)
  cases hb : rv p q && rv r s with
  | false =>
  rw [hb] at HV
  clear h H0 hi hj hk hl ht hb
  go_enter Tryz.func25, Tryz.ntmps25
  go_wp2_with fail
  refine HV.out.mono ?_
  rintro e w1 ⟨rfl, H1⟩
  have HB := Lib.hid H1.fewO
  clear H1 HV a0 a1 b0 b1
  go_wp2_with fail
  go_ret2
  exact ⟨rfl, HB.out⟩
  | true =>
  rw [hb] at HV
  obtain ⟨h1, h2⟩ := Bool.and_eq_true_iff.1 hb
  obtain ⟨x, y, hx, hy, -, -, rfl, rfl⟩ := rv_ex h1
  obtain ⟨u, v, hu, hv, -, -, rfl, rfl⟩ := rv_ex h2
  rw [num_dig, num_dig, num_dig, num_dig, if_pos rfl, if_pos rfl]
  have HI := Lib.hid (And.intro (nats_lay hi) (And.intro (nats_lay hj) (And.intro (nats_lay hk) (And.intro (nats_lay hl) ht))))
  have HX := Lib.hid (And.intro hx (And.intro hy (And.intro hu hv)))
  obtain ⟨tv, hmk⟩ : ∃ t, (if x * v < Na.top ∧ u * y < Na.top then Na.sgn (x * v) (u * y) else 0) = t := ⟨_, rfl⟩
  obtain ⟨te, hme⟩ : ∃ t : Int, (if x * v < Na.top ∧ u * y < Na.top then 0 else 3) = t := ⟨_, rfl⟩
  have HMk := Lib.hid (And.intro hmk hme)
  rw [hmk, hme]
  clear h H0 hi hj hk hl ht hb h1 h2 hx hy hu hv hmk hme
  go_enter Tryz.func25, Tryz.ntmps25
  go_wp2_with fail
  refine HV.out.mono ?_
  rintro e w1 ⟨rfl, H1⟩
  have HD := Lib.hid (H1.boxed (.int .i64 0) 60).drew
  clear HV H1 a0 a1 b0 b1
  go_upto_region 4 with (fail)
  refine reg_inv2 (CmyI w0 g M w1.heap.size w.heap.size (w.heap.size + 1) ⟨A, n, c, A2, m, c2, A3, n3, c3, A4, n4, c4⟩ (x * v) (u * y) L (O ++ [Rw.pair w.heap.size 26 (.slice A n c) (.slice A2 m c2), Rw.pair (w.heap.size + 1) 26 (.slice A3 n3 c3) (.slice A4 n4 c4)])) (by kernel_rfl) (by kernel_rfl) ?_ ?_ ?_
  · refine ⟨undef, undef, undef, undef, undef, undef, undef, undef, undef, undef, undef, undef, [], [], 0, [], [], ?_, ⟨by rw [List.append_nil]; exact HD.out, ?_, ?_, ?_, ?_, ?_, ?_, ?_, ?_, ?_, ?_, ?_, ?_, ?_, ?_, ?_, ⟨fun _ h => (by cases h), fun _ h => (by cases h), fun h => absurd rfl h⟩⟩⟩
    · simp only [Act.put, List.setIfInBounds_toArray, List.set_cons_zero, List.set_cons_succ]
    all_goals (intro h; cases h)
  · rintro jj Ld b W hj hf hd ⟨u0, u1, u2, u3, u4, u5, u6, u7, u8, u9, v1, v2, ps, Ls, er, l4, l9, rfl, hC⟩
    have hj' : jj < 14 := hj
    have hcase : jj = 0 ∨ jj = 1 ∨ jj = 2 ∨ jj = 3 ∨ jj = 4 ∨ jj = 5 ∨ jj = 6 ∨ jj = 7 ∨ jj = 8 ∨ jj = 9 ∨ jj = 10 ∨ jj = 11 ∨ jj = 12 ∨ jj = 13 := by omega
    have q0 := hC.ow.p0 (O.length + 0) (by rw [get_r]; rfl)
    have q1 := hC.ow.p1 (O.length + 0) (by rw [get_r]; rfl)
    have q2 := hC.ow.p0 (O.length + 1) (by rw [get_r]; rfl)
    have q3 := hC.ow.p1 (O.length + 1) (by rw [get_r]; rfl)
    clear hj hj' HD
    simp only [Act.put, List.setIfInBounds_toArray, List.set_cons_zero, List.set_cons_succ]
    rcases hcase with rfl | rfl | rfl | rfl | rfl | rfl | rfl | rfl | rfl | rfl | rfl | rfl | rfl | rfl
    · clear hd
      refine wpOp_step rfl (fun K hK => ?_)
      go_simp
      refine hK _ _ ⟨_, u1, u2, u3, u4, u5, u6, u7, u8, u9, v1, v2, ps, Ls, er, l4, l9, ?_, ⟨hC.ow, fun _ => rfl, hC.h1, hC.h2, hC.h3, hC.h5, hC.h6, hC.h7, hC.h8, hC.h4, hC.h9, hC.b1, hC.b2, hC.ne, hC.s1, hC.s2, ⟨hC.ko.a, hC.ko.b, hC.ko.no⟩⟩⟩
      simp only [Act.put, List.setIfInBounds_toArray, List.set_cons_zero, List.set_cons_succ]
    · obtain rfl := hC.h0 (hd 0 (by kernel_rfl))
      clear hd
      refine wpOp_step rfl (fun K hK => ?_)
      go_simp
      refine hK _ _ ⟨_, _, u2, u3, u4, u5, u6, u7, u8, u9, v1, v2, ps, Ls, er, l4, l9, ?_, ⟨hC.ow, hC.h0, fun _ => rfl, hC.h2, hC.h3, hC.h5, hC.h6, hC.h7, hC.h8, hC.h4, hC.h9, hC.b1, hC.b2, hC.ne, hC.s1, hC.s2, ⟨hC.ko.a, hC.ko.b, hC.ko.no⟩⟩⟩
      simp only [Act.put, List.setIfInBounds_toArray, List.set_cons_zero, List.set_cons_succ]
    · clear hd
      refine wpOp_step rfl (fun K hK => ?_)
      go_simp
      refine hK _ _ ⟨u0, u1, _, u3, u4, u5, u6, u7, u8, u9, v1, v2, ps, Ls, er, l4, l9, ?_, ⟨hC.ow, hC.h0, hC.h1, fun _ => rfl, hC.h3, hC.h5, hC.h6, hC.h7, hC.h8, hC.h4, hC.h9, hC.b1, hC.b2, hC.ne, hC.s1, hC.s2, ⟨hC.ko.a, hC.ko.b, hC.ko.no⟩⟩⟩
      simp only [Act.put, List.setIfInBounds_toArray, List.set_cons_zero, List.set_cons_succ]
    · obtain rfl := hC.h2 (hd 2 (by kernel_rfl))
      clear hd
      refine wpOp_step rfl (fun K hK => ?_)
      go_simp
      refine hK _ _ ⟨u0, u1, _, _, u4, u5, u6, u7, u8, u9, v1, v2, ps, Ls, er, l4, l9, ?_, ⟨hC.ow, hC.h0, hC.h1, hC.h2, fun _ => rfl, hC.h5, hC.h6, hC.h7, hC.h8, hC.h4, hC.h9, hC.b1, hC.b2, hC.ne, hC.s1, hC.s2, ⟨hC.ko.a, hC.ko.b, hC.ko.no⟩⟩⟩
      simp only [Act.put, List.setIfInBounds_toArray, List.set_cons_zero, List.set_cons_succ]
    · obtain rfl := hC.h1 (hd 1 (by kernel_rfl))
      obtain rfl := hC.h3 (hd 3 (by kernel_rfl))
      clear hd
      refine wpOp_step rfl (fun K hK => ?_)
      go_simp
      refine (do_mulx hC.ow i l ((get_l _ _ (get_lt HI.out.1)).trans HI.out.1) ((get_l _ _ (get_lt HI.out.2.2.2.1)).trans HI.out.2.2.2.1) (fun _ => ⟨rfl, rfl, HX.out.1, HX.out.2.2.2⟩)).mono ?_
      rintro e W' ⟨B, m1, d1, rfl, ho⟩
      refine hK _ _ ⟨u0, _, u2, _, _, u5, u6, u7, u8, u9, v1, v2, ps, _, _, _, l9, ?_, hC.c4 hf ho⟩
      simp only [Act.put, List.setIfInBounds_toArray, List.set_cons_zero, List.set_cons_succ]
    · clear hd
      refine wpOp_step rfl (fun K hK => ?_)
      go_simp
      refine hK _ _ ⟨u0, u1, u2, u3, u4, _, u6, u7, u8, u9, v1, v2, ps, Ls, er, l4, l9, ?_, ⟨hC.ow, hC.h0, hC.h1, hC.h2, hC.h3, fun _ => rfl, hC.h6, hC.h7, hC.h8, hC.h4, hC.h9, hC.b1, hC.b2, hC.ne, hC.s1, hC.s2, ⟨hC.ko.a, hC.ko.b, hC.ko.no⟩⟩⟩
      simp only [Act.put, List.setIfInBounds_toArray, List.set_cons_zero, List.set_cons_succ]
    · obtain rfl := hC.h5 (hd 5 (by kernel_rfl))
      clear hd
      refine wpOp_step rfl (fun K hK => ?_)
      go_simp
      refine hK _ _ ⟨u0, u1, u2, u3, u4, _, _, u7, u8, u9, v1, v2, ps, Ls, er, l4, l9, ?_, ⟨hC.ow, hC.h0, hC.h1, hC.h2, hC.h3, hC.h5, fun _ => rfl, hC.h7, hC.h8, hC.h4, hC.h9, hC.b1, hC.b2, hC.ne, hC.s1, hC.s2, ⟨hC.ko.a, hC.ko.b, hC.ko.no⟩⟩⟩
      simp only [Act.put, List.setIfInBounds_toArray, List.set_cons_zero, List.set_cons_succ]
    · clear hd
      refine wpOp_step rfl (fun K hK => ?_)
      go_simp
      refine hK _ _ ⟨u0, u1, u2, u3, u4, u5, u6, _, u8, u9, v1, v2, ps, Ls, er, l4, l9, ?_, ⟨hC.ow, hC.h0, hC.h1, hC.h2, hC.h3, hC.h5, hC.h6, fun _ => rfl, hC.h8, hC.h4, hC.h9, hC.b1, hC.b2, hC.ne, hC.s1, hC.s2, ⟨hC.ko.a, hC.ko.b, hC.ko.no⟩⟩⟩
      simp only [Act.put, List.setIfInBounds_toArray, List.set_cons_zero, List.set_cons_succ]
    · obtain rfl := hC.h7 (hd 7 (by kernel_rfl))
      clear hd
      refine wpOp_step rfl (fun K hK => ?_)
      go_simp
      refine hK _ _ ⟨u0, u1, u2, u3, u4, u5, u6, _, _, u9, v1, v2, ps, Ls, er, l4, l9, ?_, ⟨hC.ow, hC.h0, hC.h1, hC.h2, hC.h3, hC.h5, hC.h6, hC.h7, fun _ => rfl, hC.h4, hC.h9, hC.b1, hC.b2, hC.ne, hC.s1, hC.s2, ⟨hC.ko.a, hC.ko.b, hC.ko.no⟩⟩⟩
      simp only [Act.put, List.setIfInBounds_toArray, List.set_cons_zero, List.set_cons_succ]
    · obtain rfl := hC.h6 (hd 6 (by kernel_rfl))
      obtain rfl := hC.h8 (hd 8 (by kernel_rfl))
      clear hd
      refine wpOp_step rfl (fun K hK => ?_)
      go_simp
      refine (do_mulx hC.ow k j ((get_l _ _ (get_lt HI.out.2.2.1)).trans HI.out.2.2.1) ((get_l _ _ (get_lt HI.out.2.1)).trans HI.out.2.1) (fun _ => ⟨rfl, rfl, HX.out.2.2.1, HX.out.2.1⟩)).mono ?_
      rintro e W' ⟨B, m1, d1, rfl, ho⟩
      refine hK _ _ ⟨u0, u1, u2, u3, u4, u5, _, u7, _, _, v1, v2, ps, _, _, l4, _, ?_, hC.c9 hf ho⟩
      simp only [Act.put, List.setIfInBounds_toArray, List.set_cons_zero, List.set_cons_succ]
    · clear hd
      refine wpOp_step rfl (fun K hK => ?_)
      go_simp
      refine hK _ _ ⟨u0, u1, u2, u3, u4, u5, u6, u7, u8, u9, _, v2, _, Ls, er, l4, l9, ?_, hC.a10 hf _⟩
      simp only [Act.put, List.setIfInBounds_toArray, List.set_cons_zero, List.set_cons_succ]
    · clear hd
      refine wpOp_step rfl (fun K hK => ?_)
      go_simp
      refine hK _ _ ⟨u0, u1, u2, u3, u4, u5, u6, u7, u8, u9, v1, _, _, Ls, er, l4, l9, ?_, hC.a11 hf _⟩
      simp only [Act.put, List.setIfInBounds_toArray, List.set_cons_zero, List.set_cons_succ]
    · obtain ⟨b, B, m1, d1, x1, ps1, rfl, rfl, hx1, hz1, hC1⟩ := hC.t12 (hd 4 (by kernel_rfl)) (hd 10 (by kernel_rfl))
      clear hd
      refine wpOp_step rfl (fun K hK => ?_)
      go_simp
      refine hK _ _ ⟨u0, u1, u2, u3, _, u5, u6, u7, u8, u9, _, v2, ps1, Ls, er, l4, l9, ?_, hC1⟩
      simp only [Act.put, List.setIfInBounds_toArray, List.set_cons_zero, List.set_cons_succ]
    · obtain ⟨b, B, m1, d1, x1, ps1, rfl, rfl, hx1, hz1, hC1⟩ := hC.t13 (hd 9 (by kernel_rfl)) (hd 11 (by kernel_rfl))
      clear hd
      refine wpOp_step rfl (fun K hK => ?_)
      go_simp
      refine hK _ _ ⟨u0, u1, u2, u3, u4, u5, u6, u7, u8, _, v1, _, ps1, Ls, er, l4, l9, ?_, hC1⟩
      simp only [Act.put, List.setIfInBounds_toArray, List.set_cons_zero, List.set_cons_succ]
  · rintro Ld b W hL ⟨u0, u1, u2, u3, u4, u5, u6, u7, u8, u9, v1, v2, ps, Ls, er, l4, l9, rfl, hC⟩
    obtain ⟨t1, B1, m1, d1, rfl, r1⟩ := hC.h4 (hL 4 (by show 4 < 14; decide))
    obtain ⟨t2, B2, m2, d2, rfl, r2⟩ := hC.h9 (hL 9 (by show 9 < 14; decide))
    obtain ⟨z1, g1, e1, rfl, r3, -, r4⟩ := hC.b1 (hL 10 (by show 10 < 14; decide))
    obtain rfl := Value.slice_of (r4 (hL 12 (by show 12 < 14; decide)))
    obtain ⟨z2, g2, e2, rfl, r5, -, r6⟩ := hC.b2 (hL 11 (by show 11 < 14; decide))
    obtain rfl := Value.slice_of (r6 (hL 13 (by show 13 < 14; decide)))
    have hs := hC.ow.cell (M.length + 0) (by rw [get_r]; rfl)
    have y1 := (hC.ow.psc r3).1
    have y2 := (hC.ow.psc r5).1
    by_cases h0 : er = 0
    · subst h0
      obtain ⟨hX, rfl⟩ := hC.ko.a rfl (hL 4 (by show 4 < 14; decide))
      obtain ⟨hY, rfl⟩ := hC.ko.b rfl (hL 9 (by show 9 < 14; decide))
      have HE := Lib.hid (cmp_ow hC.ow (L.length + t1) (L.length + t2) ((get_r _ _ _).trans r1) ((get_r _ _ _).trans r2))
      have e1 := HMk.out.1
      have e2 := HMk.out.2
      rw [if_pos ⟨hX, hY⟩] at e1 e2
      rw [e1] at HE
      subst e2
      clear hL hC r1 r2 r3 r4 r5 r6 HD HMk e1 hX hY
      simp only [Act.put, List.setIfInBounds_toArray, List.set_cons_zero, List.set_cons_succ]
      go_wp2_with fail
      refine HE.out.mono ?_
      rintro e W2 ⟨rfl, ho⟩
      have HF := Lib.hid (ho.fewM.fewO.less (L' := L) (fun o ho => List.mem_append_left _ ho))
      clear HE ho hs y1 y2
      go_wp2_with fail
      go_ret2
      exact ⟨rfl, HF.out⟩
    · obtain ⟨rfl, hn⟩ := hC.ko.no h0
      have e1 := HMk.out.1
      have e2 := HMk.out.2
      rw [if_neg hn] at e1 e2
      subst e1
      subst e2
      have HD2 := Lib.hid hC.ow.drew
      clear hL hC r1 r2 r3 r4 r5 r6 HD HMk h0 hn y1 y2
      simp only [Act.put, List.setIfInBounds_toArray, List.set_cons_zero, List.set_cons_succ]
      go_upto_region 6 with (fail)
      have kd := HD2.out.cell (M.length + 0) (by rw [get_r]; rfl)
      go_region
      have HF := Lib.hid (HD2.out.fewM.fewO.less (L' := L) (fun o ho => List.mem_append_left _ ho))
      clear HD2 kd hs
      go_wp2_with fail
      go_ret2
      exact ⟨rfl, HF.out⟩
set_option maxHeartbeats 4000000 in
theorem qfloor_any (h : Ow w0 w g M L O) (i j : Nat) (hi : L[i]? = some ⟨A, n, c, ints p⟩) (hj : L[j]? = some ⟨A2, m, c2, ints q⟩) (ht : Tab w0) :
    Calls Tryz.prog 27 #[.agg #[.slice A n c, .slice A2 m c2]] w (GotO w0 g M L O (flrL p q) (flrE p q)) := by
  unfold flrL flrE
  cases hb : rv p q with
  | true =>
    obtain ⟨x, y, hx, hy, hy0, -, rfl, rfl⟩ := rv_ex hb
    rw [num_dig, num_dig, if_pos rfl, if_pos rfl]
    exact qfloor_ok h i j (nats_lay hi) (nats_lay hj) ht hx hy hy0 hb
  | false =>
  show Calls _ _ _ _ (GotO w0 g M L O [] 1)
  have H0 := (h.pair (.slice A n c) (.slice A2 m c2) 26).boxed (.slice none 0 0) 24
  simp only [World.size_alloc] at H0
  have a0 := H0.p0 (O.length + 0) (by rw [get_r]; rfl)
  have a1 := H0.p1 (O.length + 0) (by rw [get_r]; rfl)
  have HV := Lib.hid (qvalid_ow H0 i j hi hj ht)
  rw [hb] at HV
  clear h H0 hi hj ht hb
  go_enter Tryz.func27, Tryz.ntmps27
  go_wp2_with fail
  refine HV.out.mono ?_
  rintro e w1 ⟨rfl, H1⟩
  have k0 := H1.cell (M.length + 0) (by rw [get_r]; rfl)
  have f0 := H1.free (M.length + 0) (by rw [get_r]; rfl)
  have H4 := H1.setv (M.length + 0) (by rw [get_r]; rfl) (.slice none 0 0)
  rw [set_r] at H4
  simp only [List.set_cons_zero] at H4
  have s0 := H4.cell (M.length + 0) (by rw [get_r]; rfl)
  have HF := Lib.hid H4.fewM.fewO
  clear HV H1 H4 a0 a1
  go_wp2_with fail
  refine bodyPost_ret (v := .tuple #[.agg #[.slice none 0 0], .int .i64 1]) (by simp [results, Tryz.results27, go_sem, s0]) rfl ?_
  exact ⟨none, 0, 0, rfl, HF.out.old (A := none) (n := 0) (c := 0) (vs := nats []) (Sl.nil _ _ _) rfl (Nat.le_refl _) (by decide)⟩
set_option maxHeartbeats 4000000 in
theorem qprint_any (h : Ow w0 w g M L O) (i j : Nat) (hi : L[i]? = some ⟨A, n, c, ints p⟩) (hj : L[j]? = some ⟨A2, m, c2, ints q⟩) (ht : Tab w0) :
    Calls Tryz.prog 17 #[.agg #[.slice A n c, .slice A2 m c2]] w fun e w' => e = .returned (.string (str (rprt p q))) ∧ Ow w0 w' g M L O := by
  unfold rprt
  cases hb : rv p q with
  | true =>
    obtain ⟨x, y, hx, hy, hy0, -, rfl, rfl⟩ := rv_ex hb
    rw [num_dig, num_dig, if_pos rfl]
    exact qprint_ok h i j (nats_lay hi) (nats_lay hj) ht hx hy hb
  | false =>
  have H0 := h.pair (.slice A n c) (.slice A2 m c2) 26
  have a0 := H0.p0 (O.length + 0) (by rw [get_r]; rfl)
  have a1 := H0.p1 (O.length + 0) (by rw [get_r]; rfl)
  have HV := Lib.hid (qvalid_ow H0 i j hi hj ht)
  rw [hb] at HV
  clear h H0 hi hj hb ht
  go_enter Tryz.func17, Tryz.ntmps17
  go_wp2_with fail
  refine HV.out.mono ?_
  rintro e w1 ⟨rfl, H1⟩
  have HF := Lib.hid H1.fewO
  clear HV H1 a0 a1
  go_wp2_with fail
  go_ret
  exact ⟨rfl, HF.out⟩
set_option maxHeartbeats 4000000 in
theorem qrprint_any (h : Ow w0 w g M L O) (i j : Nat) (hi : L[i]? = some ⟨A, n, c, ints p⟩) (hj : L[j]? = some ⟨A2, m, c2, ints q⟩) :
    Calls Tryz.prog 32 #[.agg #[.slice A n c, .slice A2 m c2]] w fun e w' => e = .returned (.string (str (rprt p q))) ∧ Ow w0 w' g M L O := by
  unfold rprt
  cases hb : rv p q with
  | true =>
    obtain ⟨x, y, hx, hy, hy0, -, rfl, rfl⟩ := rv_ex hb
    rw [num_dig, num_dig, if_pos rfl]
    exact qrprint_ok h i j (nats_lay hi) (nats_lay hj) hx hy hb
  | false =>
  have H0 := h.pair (.slice A n c) (.slice A2 m c2) 26
  have a0 := H0.p0 (O.length + 0) (by rw [get_r]; rfl)
  have a1 := H0.p1 (O.length + 0) (by rw [get_r]; rfl)
  have HV := Lib.hid (qrvalid_ow H0 i j hi hj)
  rw [hb] at HV
  clear h H0 hi hj hb
  go_enter Tryz.func32, Tryz.ntmps32
  go_wp2_with fail
  refine HV.out.mono ?_
  rintro e w1 ⟨rfl, H1⟩
  have HF := Lib.hid H1.fewO
  clear HV H1 a0 a1
  go_wp2_with fail
  go_ret
  exact ⟨rfl, HF.out⟩
end
end Go.Proofs.YtnfjnlnphdmdmaaGreatDoor

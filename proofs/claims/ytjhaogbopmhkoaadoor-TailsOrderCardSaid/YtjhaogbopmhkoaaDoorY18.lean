/- Qmc Qmd NatV NatQ NPasA NatR Odd -/
import Derived.Test.YtjhaogbopmhkoaaDoorY06
import Derived.Test.YtjhaogbopmhkoaaDoorY08
import Derived.Test.YtjhaogbopmhkoaaDoorY16
import Derived.Test.YtjhaogbopmhkoaaDoorY17
namespace Go.Proofs.YtjhaogbopmhkoaaDoor
open Go.RowKit Go.Sort
set_option linter.unusedVariables false
set_option maxRecDepth 100000
def BX (L : Nat → Bool) (a s : Nat) (v u : Value) (ps : List (Nat × Value)) : Prop :=
  L a = true → ∃ (t b : Nat) (x : Value), v = .pointer (some ⟨b, 0, none⟩) ∧ ps[t]? = some (b, x) ∧ (L s = false → x = .slice none 0 0) ∧ (L s = true → u = .agg #[x])
def GX (L : Nat → Bool) (k : Nat) (u : Value) (X : Nat) (Ls : List Ob) : Prop :=
  L k = true → ∃ (t : Nat) (B : Option Addr) (m d : Nat), u = .agg #[.slice B m d] ∧ Ls[t]? = some ⟨B, m, d, nats (Na.dig X)⟩
theorem GX.more {L : Nat → Bool} {k : Nat} {u : Value} {X : Nat} {Ls l : List Ob} (h : GX L k u X Ls) : GX L k u X (Ls ++ l) := fun e => by
  obtain ⟨t, B, m, d, h1, h2⟩ := h e
  exact ⟨t, B, m, d, h1, by rw [List.getElem?_append_left (get_lt h2)]; exact h2⟩
theorem BX.more {L : Nat → Bool} {a s : Nat} {v u : Value} {ps l : List (Nat × Value)} (h : BX L a s v u ps) : BX L a s v u (ps ++ l) := fun e => by
  obtain ⟨t, b, x, h1, h2, h3⟩ := h e
  exact ⟨t, b, x, h1, by rw [List.getElem?_append_left (get_lt h2)]; exact h2, h3⟩
theorem BX.set {L : Nat → Bool} {a s : Nat} {v v' u : Value} {ps : List (Nat × Value)} (h : BX L a s v u ps) {t b : Nat} {x y : Value} (ht : ps[t]? = some (b, x)) (e : v' = .pointer (some ⟨b, 0, none⟩)) (hne : L a = true → v ≠ v') : BX L a s v u (ps.set t (b, y)) := fun hl => by
  obtain ⟨t', b', x', h1, h2, h3⟩ := h hl
  refine ⟨t', b', x', h1, ?_, h3⟩
  rw [List.getElem?_set_ne]
  · exact h2
  · rintro rfl
    rw [ht] at h2
    obtain ⟨rfl, rfl⟩ := Prod.mk.inj (Option.some.inj h2)
    exact hne hl (by rw [h1, e])
section
variable {w0 W : World} {g : Option Nat} {M ps : List (Nat × Value)} {s : Nat × Value} {Ls : List Ob} {O : List Rw}
theorem Ow.psc (h : Ow w0 W g (M ++ s :: ps) Ls O) {t b : Nat} {x : Value} (ht : ps[t]? = some (b, x)) : W.cell? ⟨b, 0, none⟩ = some x ∧ W.frozen? ⟨b, 0, none⟩ = false := by
  have e : (M ++ s :: ps)[M.length + (t + 1)]? = some (b, x) := by rw [get_r]; exact ht
  exact ⟨h.cell _ e, h.free _ e⟩
theorem Ow.pss (h : Ow w0 W g (M ++ s :: ps) Ls O) {t b : Nat} {x : Value} (ht : ps[t]? = some (b, x)) (y : Value) : Ow w0 (W.setCell ⟨b, 0, none⟩ y) g (M ++ s :: ps.set t (b, y)) Ls O := by
  have e : (M ++ s :: ps)[M.length + (t + 1)]? = some (b, x) := by rw [get_r]; exact ht
  have := h.setv _ e y
  rwa [set_r, List.set_cons_succ] at this
end
structure Four where
  A : Option Addr
  n : Nat
  c : Nat
  A2 : Option Addr
  m : Nat
  c2 : Nat
  A3 : Option Addr
  n3 : Nat
  c3 : Nat
  A4 : Option Addr
  n4 : Nat
  c4 : Nat
end Go.Proofs.YtjhaogbopmhkoaaDoor

namespace Go.Proofs.YtjhaogbopmhkoaaDoor
open Go.RowKit Go.Sort
set_option linter.unusedVariables false
set_option maxRecDepth 100000
theorem nats_lay {L : List Ob} {i : Nat} {A : Option Addr} {n c : Nat} {l : List Nat} (h : L[i]? = some ⟨A, n, c, ints (Na.up l)⟩) : L[i]? = some ⟨A, n, c, nats l⟩ := by rw [nats_up] at h; exact h
def doE (e0 : Int) (v : Nat) : Int := if e0 = 0 then resE v else e0
def doL (e0 : Int) (v : Nat) : List Nat := if e0 = 0 then resL v else []
theorem resE_zero {v : Nat} (h : resE v = 0) : v < Na.top := by
  unfold resE at h
  split at h
  · assumption
  · cases h
theorem resE_nt {v : Nat} (h : ¬ v < Na.top) : resE v = 3 := if_neg h
theorem doE_zero {e : Int} {v : Nat} (h : doE e v = 0) : e = 0 ∧ v < Na.top := by
  unfold doE at h
  split at h
  · exact ⟨by assumption, resE_zero h⟩
  · exact absurd h (by assumption)
theorem doL_of {v : Nat} (h : v < Na.top) : doL 0 v = Na.dig v := by rw [doL, if_pos rfl, resL_ok h]
theorem doE_of {v : Nat} (h : v < Na.top) : doE 0 v = 0 := by rw [doE, if_pos rfl, resE_ok h]
theorem doE_no {v : Nat} (h : ¬ v < Na.top) : doE 0 v = 3 := by rw [doE, if_pos rfl, resE_nt h]
theorem doE_on {e : Int} (v : Nat) (h : e ≠ 0) : doE e v = e := if_neg h
section
variable {w0 w w' : World} {g : Option Nat} {M M2 : List (Nat × Value)} {L : List Ob} {O : List Rw} {A A2 A3 A4 : Option Addr} {b n c m c2 n3 c3 n4 c4 x y : Nat} {p q r s : List Int}
end
end Go.Proofs.YtjhaogbopmhkoaaDoor

namespace Go.Proofs.YtjhaogbopmhkoaaDoor
open Go.RowKit Go.Sort
set_option linter.unusedVariables false
set_option maxRecDepth 100000
def GY (L : Nat → Bool) (k : Nat) (u : Value) (l : List Nat) (Ls : List Ob) : Prop :=
  L k = true → ∃ (t : Nat) (B : Option Addr) (m d : Nat), u = .agg #[.slice B m d] ∧ Ls[t]? = some ⟨B, m, d, nats l⟩
theorem GY.more {L : Nat → Bool} {k : Nat} {u : Value} {l0 : List Nat} {Ls l : List Ob} (h : GY L k u l0 Ls) : GY L k u l0 (Ls ++ l) := fun e => by
  obtain ⟨t, B, m, d, h1, h2⟩ := h e
  exact ⟨t, B, m, d, h1, by rw [List.getElem?_append_left (get_lt h2)]; exact h2⟩
/-- the error variable, and what the products are as long as there is none -/
structure KO (L : Nat → Bool) (X Y : Nat) (er : Int) (l4 l9 : List Nat) : Prop where
  a : er = 0 → L 4 = true → X < Na.top ∧ l4 = Na.dig X
  b : er = 0 → L 9 = true → Y < Na.top ∧ l9 = Na.dig Y
  no : er ≠ 0 → er = 3 ∧ ¬(X < Na.top ∧ Y < Na.top)
theorem KO.c4 {L : Nat → Bool} {X Y : Nat} {er : Int} {l4 l9 : List Nat} (h : KO L X Y er l4 l9) : KO (dset L 4) X Y (doE er X) (doL er X) l9 := by
  refine ⟨fun e _ => ?_, fun e e2 => h.b (doE_zero e).1 e2, fun e => ?_⟩
  · obtain ⟨rfl, h1⟩ := doE_zero e
    exact ⟨h1, doL_of h1⟩
  · by_cases h0 : er = 0
    · subst h0
      by_cases h1 : X < Na.top
      · exact absurd (doE_of h1) e
      · exact ⟨doE_no h1, fun h => h1 h.1⟩
    · rw [doE_on _ h0]
      exact h.no h0
theorem KO.c9 {L : Nat → Bool} {X Y : Nat} {er : Int} {l4 l9 : List Nat} (h : KO L X Y er l4 l9) : KO (dset L 9) X Y (doE er Y) l4 (doL er Y) := by
  refine ⟨fun e e2 => h.a (doE_zero e).1 e2, fun e _ => ?_, fun e => ?_⟩
  · obtain ⟨rfl, h1⟩ := doE_zero e
    exact ⟨h1, doL_of h1⟩
  · by_cases h0 : er = 0
    · subst h0
      by_cases h1 : Y < Na.top
      · exact absurd (doE_of h1) e
      · exact ⟨doE_no h1, fun h => h1 h.2⟩
    · rw [doE_on _ h0]
      exact h.no h0
structure CX (w0 : World) (g : Option Nat) (M : List (Nat × Value)) (s pa pb : Nat) (F : Four) (X Y : Nat) (Lh : List Ob) (O : List Rw) (L : Nat → Bool) (u0 u1 u2 u3 u4 u5 u6 u7 u8 u9 v1 v2 : Value) (ps : List (Nat × Value)) (Ls : List Ob) (er : Int) (l4 l9 : List Nat) (W : World) : Prop where
  ow : Ow w0 W g (M ++ (s, .int .i64 er) :: ps) (Lh ++ Ls) O
  h0 : L 0 = true → u0 = .pointer (some ⟨pa, 0, none⟩)
  h1 : L 1 = true → u1 = .agg #[.slice F.A F.n F.c]
  h2 : L 2 = true → u2 = .pointer (some ⟨pb, 1, none⟩)
  h3 : L 3 = true → u3 = .agg #[.slice F.A4 F.n4 F.c4]
  h5 : L 5 = true → u5 = .pointer (some ⟨pb, 0, none⟩)
  h6 : L 6 = true → u6 = .agg #[.slice F.A3 F.n3 F.c3]
  h7 : L 7 = true → u7 = .pointer (some ⟨pa, 1, none⟩)
  h8 : L 8 = true → u8 = .agg #[.slice F.A2 F.m F.c2]
  h4 : GY L 4 u4 l4 Ls
  h9 : GY L 9 u9 l9 Ls
  b1 : BX L 10 12 v1 u4 ps
  b2 : BX L 11 13 v2 u9 ps
  ne : L 10 = true → L 11 = true → v1 ≠ v2
  s1 : L 12 = true → L 4 = true ∧ L 10 = true
  s2 : L 13 = true → L 9 = true ∧ L 11 = true
  ko : KO L X Y er l4 l9
section
variable {w0 : World} {g : Option Nat} {M : List (Nat × Value)} {s pa pb : Nat} {F : Four} {X Y : Nat} {Lh : List Ob} {O : List Rw} {L : Nat → Bool} {u0 u1 u2 u3 u4 u5 u6 u7 u8 u9 v1 v2 : Value} {ps : List (Nat × Value)} {Ls : List Ob} {er : Int} {l4 l9 : List Nat} {W W' : World}
theorem CX.c4 (h : CX w0 g M s pa pb F X Y Lh O L u0 u1 u2 u3 u4 u5 u6 u7 u8 u9 v1 v2 ps Ls er l4 l9 W) (hf : L 4 = false) {B : Option Addr} {m d : Nat} (ho : Ow w0 W' g (M ++ (s, .int .i64 (doE er X)) :: ps) (Lh ++ Ls ++ [⟨B, m, d, nats (doL er X)⟩]) O) :
    CX w0 g M s pa pb F X Y Lh O (dset L 4) u0 u1 u2 u3 (.agg #[.slice B m d]) u5 u6 u7 u8 u9 v1 v2 ps (Ls ++ [⟨B, m, d, nats (doL er X)⟩]) (doE er X) (doL er X) l9 W' :=
  ⟨by rw [← List.append_assoc]; exact ho, h.h0, h.h1, h.h2, h.h3, h.h5, h.h6, h.h7, h.h8, fun _ => ⟨Ls.length, B, m, d, rfl, by rw [List.getElem?_append_right (Nat.le_refl _), Nat.sub_self]; rfl⟩, h.h9.more, fun e => by
    obtain ⟨t, b, x, k1, k2, k3, k4⟩ := h.b1 e
    exact ⟨t, b, x, k1, k2, k3, fun e2 => by have := (h.s1 e2).1; rw [hf] at this; cases this⟩, h.b2, h.ne, fun e => (by have := (h.s1 e).1; rw [hf] at this; cases this), h.s2, h.ko.c4⟩
theorem CX.c9 (h : CX w0 g M s pa pb F X Y Lh O L u0 u1 u2 u3 u4 u5 u6 u7 u8 u9 v1 v2 ps Ls er l4 l9 W) (hf : L 9 = false) {B : Option Addr} {m d : Nat} (ho : Ow w0 W' g (M ++ (s, .int .i64 (doE er Y)) :: ps) (Lh ++ Ls ++ [⟨B, m, d, nats (doL er Y)⟩]) O) :
    CX w0 g M s pa pb F X Y Lh O (dset L 9) u0 u1 u2 u3 u4 u5 u6 u7 u8 (.agg #[.slice B m d]) v1 v2 ps (Ls ++ [⟨B, m, d, nats (doL er Y)⟩]) (doE er Y) l4 (doL er Y) W' :=
  ⟨by rw [← List.append_assoc]; exact ho, h.h0, h.h1, h.h2, h.h3, h.h5, h.h6, h.h7, h.h8, h.h4.more, fun _ => ⟨Ls.length, B, m, d, rfl, by rw [List.getElem?_append_right (Nat.le_refl _), Nat.sub_self]; rfl⟩, h.b1, fun e => by
    obtain ⟨t, b, x, k1, k2, k3, k4⟩ := h.b2 e
    exact ⟨t, b, x, k1, k2, k3, fun e2 => by have := (h.s2 e2).1; rw [hf] at this; cases this⟩, h.ne, h.s1, fun e => (by have := (h.s2 e).1; rw [hf] at this; cases this), h.ko.c9⟩
theorem CX.t12 (h : CX w0 g M s pa pb F X Y Lh O L u0 u1 u2 u3 u4 u5 u6 u7 u8 u9 v1 v2 ps Ls er l4 l9 W) (hc : L 4 = true) (ha : L 10 = true) :
    ∃ b B m d x ps', v1 = .pointer (some ⟨b, 0, none⟩) ∧ u4 = .agg #[.slice B m d] ∧ W.cell? ⟨b, 0, none⟩ = some x ∧ W.frozen? ⟨b, 0, none⟩ = false ∧
      CX w0 g M s pa pb F X Y Lh O (dset L 12) u0 u1 u2 u3 u4 u5 u6 u7 u8 u9 v1 v2 ps' Ls er l4 l9 (W.setCell ⟨b, 0, none⟩ (.slice B m d)) := by
  obtain ⟨t, b, x, k1, k2, k3, k4⟩ := h.b1 ha
  obtain ⟨t2, B, m, d, q1, q2⟩ := h.h4 hc
  refine ⟨b, B, m, d, x, ps.set t (b, .slice B m d), k1, q1, (h.ow.psc k2).1, (h.ow.psc k2).2, h.ow.pss k2 _, h.h0, h.h1, h.h2, h.h3, h.h5, h.h6, h.h7, h.h8, h.h4, h.h9, fun _ => ⟨t, b, _, k1, by rw [List.getElem?_set_self (get_lt k2)], fun e => (by cases e), fun _ => q1⟩, h.b2.set k2 k1 (fun e e2 => h.ne ha e e2.symm), h.ne, fun _ => ⟨hc, ha⟩, h.s2, ⟨h.ko.a, h.ko.b, h.ko.no⟩⟩
theorem CX.t13 (h : CX w0 g M s pa pb F X Y Lh O L u0 u1 u2 u3 u4 u5 u6 u7 u8 u9 v1 v2 ps Ls er l4 l9 W) (hc : L 9 = true) (ha : L 11 = true) :
    ∃ b B m d x ps', v2 = .pointer (some ⟨b, 0, none⟩) ∧ u9 = .agg #[.slice B m d] ∧ W.cell? ⟨b, 0, none⟩ = some x ∧ W.frozen? ⟨b, 0, none⟩ = false ∧
      CX w0 g M s pa pb F X Y Lh O (dset L 13) u0 u1 u2 u3 u4 u5 u6 u7 u8 u9 v1 v2 ps' Ls er l4 l9 (W.setCell ⟨b, 0, none⟩ (.slice B m d)) := by
  obtain ⟨t, b, x, k1, k2, k3, k4⟩ := h.b2 ha
  obtain ⟨t2, B, m, d, q1, q2⟩ := h.h9 hc
  refine ⟨b, B, m, d, x, ps.set t (b, .slice B m d), k1, q1, (h.ow.psc k2).1, (h.ow.psc k2).2, h.ow.pss k2 _, h.h0, h.h1, h.h2, h.h3, h.h5, h.h6, h.h7, h.h8, h.h4, h.h9, h.b1.set k2 k1 (fun e => h.ne e ha), fun _ => ⟨t, b, _, k1, by rw [List.getElem?_set_self (get_lt k2)], fun e => (by cases e), fun _ => q1⟩, h.ne, h.s1, fun _ => ⟨hc, ha⟩, ⟨h.ko.a, h.ko.b, h.ko.no⟩⟩
end
section
variable {w0 w w' : World} {g : Option Nat} {M M2 : List (Nat × Value)} {L : List Ob} {O : List Rw} {A A2 A3 A4 : Option Addr} {b n c m c2 n3 c3 n4 c4 x y : Nat} {p q r s : List Int}
end
end Go.Proofs.YtjhaogbopmhkoaaDoor

namespace Go.Proofs.YtjhaogbopmhkoaaDoor
open Go.RowKit Go.Sort
set_option linter.unusedVariables false
set_option maxRecDepth 100000
theorem top_ten {x k : Nat} (hk : k = 24 * 200) (h : x < Na.top) : x < 10 ^ k := by
  have h1 : Na.top ≤ (10 ^ 24) ^ 200 := Nat.pow_le_pow_left (by decide) 200
  rw [← Nat.pow_mul, ← hk] at h1
  exact Nat.lt_of_lt_of_le h h1
theorem text_size {x : Nat} (h : x < Na.top) : (str (De.text x)).size ≤ 4801 := by
  rw [str_size]
  unfold De.text
  split
  · decide
  · rw [List.length_reverse, List.length_map]
    obtain ⟨k, hk⟩ : ∃ k, k = 24 * 200 := ⟨_, rfl⟩
    exact Nat.le_trans ((De.dig_len_iff x k).2 (top_ten hk h)) (by omega)
section
variable {w0 w w' : World} {g : Option Nat} {M M2 : List (Nat × Value)} {L : List Ob} {O : List Rw} {A A2 : Option Addr} {b n c m c2 x y : Nat}
theorem rprt_d (h : Ow w0 w g M L O) (i : Nat) (hi : L[i]? = some ⟨A, n, c, nats (Na.dig x)⟩) (hx : x < Na.top) :
    Calls Tryd.prog 25 #[.agg #[.slice A n c]] w fun e w' => e = .returned (.string (str (De.text x))) ∧ Below w.heap.size w w' := by
  have := ag_rprt_b (zs := Na.up (Na.dig x)) h i (by rw [nats_up]; exact hi)
  unfold prtL at this
  rw [Na.vld_dig hx, num_dig] at this
  exact this
theorem rprt_d_ow (h : Ow w0 w g M L O) (i : Nat) (hi : L[i]? = some ⟨A, n, c, nats (Na.dig x)⟩) (hx : x < Na.top) :
    Calls Tryd.prog 25 #[.agg #[.slice A n c]] w fun e w' => e = .returned (.string (str (De.text x))) ∧ Ow w0 w' g M L O :=
  (rprt_d h i hi hx).mono fun e w' ⟨he, hb⟩ => ⟨he, h.go hb⟩
set_option maxHeartbeats 4000000 in
theorem qrprint_ok (h : Ow w0 w g M L O) (i j : Nat) (hi : L[i]? = some ⟨A, n, c, nats (Na.dig x)⟩) (hj : L[j]? = some ⟨A2, m, c2, nats (Na.dig y)⟩) (hx : x < Na.top) (hy : y < Na.top) (h1 : rv (Na.up (Na.dig x)) (Na.up (Na.dig y)) = true) :
    Calls Tryd.prog 23 #[.agg #[.slice A n c, .slice A2 m c2]] w fun e w' => e = .returned (.string (str (De.text x ++ 47 :: De.text y))) ∧ Ow w0 w' g M L O := by
  have H0 := h.pair (.slice A n c) (.slice A2 m c2) 26
  have a0 := H0.p0 (O.length + 0) (by rw [get_r]; rfl)
  have a1 := H0.p1 (O.length + 0) (by rw [get_r]; rfl)
  have HV := Lib.hid (qrvalid_ow (p := Na.up (Na.dig x)) (q := Na.up (Na.dig y)) H0 i j (by rw [nats_up]; exact hi) (by rw [nats_up]; exact hj))
  rw [h1] at HV
  have HI := Lib.hid (And.intro hi hj)
  have HX := Lib.hid (And.intro hx hy)
  obtain ⟨sx, hsx⟩ : ∃ s, str (De.text x) = s := ⟨_, rfl⟩
  obtain ⟨sy, hsy⟩ : ∃ s, str (De.text y) = s := ⟨_, rfl⟩
  have hz1 : sx.size ≤ 4801 := by rw [← hsx]; exact text_size hx
  have hz2 : sy.size ≤ 4801 := by rw [← hsy]; exact text_size hy
  have hz3 : ¬ 9223372036854775807 < sx.size + 1 := by omega
  have hz4 : ¬ 9223372036854775807 < sx.size + 1 + sy.size := by omega
  clear hz1 hz2
  have HS : Hid (sx ++ ⟨#[47]⟩ ++ sy = str (De.text x ++ 47 :: De.text y)) := by
    unfold Hid
    rw [← hsx, ← hsy, show (⟨#[47]⟩ : ByteArray) = str [47] from rfl, str_append, str_append, List.append_assoc]; rfl
  have HSx := Lib.hid hsx
  have HSy := Lib.hid hsy
  clear h H0 hi hj h1 hx hy hsx hsy
  go_enter Tryd.func23, Tryd.ntmps23
  go_wp2_with fail
  refine HV.out.mono ?_
  rintro e w1 ⟨rfl, H1⟩
  have HF := Lib.hid H1
  have HD := Lib.hid H1.drew
  have a0 := HD.out.p0 (O.length + 0) (by rw [get_r]; rfl)
  have a1 := HD.out.p1 (O.length + 0) (by rw [get_r]; rfl)
  have cP1 := Lib.hid (rprt_d_ow HD.out i HI.out.1 HX.out.1)
  rw [HSx.out] at cP1
  clear H1 HV HF
  go_upto_region 3 with (fail)
  go_region_held3 (fun W => W.cell? ⟨w.heap.size, 0, none⟩ = some (.slice A n c) ∧ W.cell? ⟨w.heap.size, 1, none⟩ = some (.slice A2 m c2)) (first | exact ⟨a0, a1⟩ | exact ⟨how.p0 (O.length + 0) (by rw [get_r]; rfl), how.p1 (O.length + 0) (by rw [get_r]; rfl)⟩ | exact ⟨how2.p0 (O.length + 0) (by rw [get_r]; rfl), how2.p1 (O.length + 0) (by rw [get_r]; rfl)⟩) ((first | (go_at_call 25; (with_reducible refine cP1.out.mono ?_); rintro e v2 ⟨rfl, how⟩; have cP2 := Lib.hid (rprt_d_ow how j HI.out.2 HX.out.2); rw [HSy.out] at cP2) | (go_at_call 25; (with_reducible refine cP2.out.mono ?_); rintro e v3 ⟨rfl, how2⟩)))
  have HZ := Lib.hid how2.fewO
  clear a0 a1 cP1 cP2 how how2
  go_wp2_with fail
  go_ret
  rw [← HS.out]
  exact ⟨rfl, HZ.out⟩
end
end Go.Proofs.YtjhaogbopmhkoaaDoor

namespace Go.Proofs.YtjhaogbopmhkoaaDoor
open Go.RowKit Go.Sort
set_option linter.unusedVariables false
set_option maxRecDepth 100000
section
variable {w0 w w' : World} {g : Option Nat} {M M2 : List (Nat × Value)} {L : List Ob} {O : List Rw} {A A2 A3 A4 : Option Addr} {b n c m c2 n3 c3 n4 c4 x y : Nat} {p q r s : List Int}
set_option maxHeartbeats 4000000 in
theorem qrprint_any (h : Ow w0 w g M L O) (i j : Nat) (hi : L[i]? = some ⟨A, n, c, ints p⟩) (hj : L[j]? = some ⟨A2, m, c2, ints q⟩) :
    Calls Tryd.prog 23 #[.agg #[.slice A n c, .slice A2 m c2]] w fun e w' => e = .returned (.string (str (rprt p q))) ∧ Ow w0 w' g M L O := by
  unfold rprt
  cases hb : rv p q with
  | true =>
    obtain ⟨x, y, hx, hy, hy0, -, rfl, rfl⟩ := rv_ex hb
    rw [num_dig, num_dig, if_pos rfl]
    exact qrprint_ok h i j (nats_lay hi) (nats_lay hj) hx hy hb
  | false =>
  have H0 := h.pair (.slice A n c) (.slice A2 m c2) 26
  have a0 := H0.p0 (O.length + 0) (by rw [get_r]; rfl)
  have a1 := H0.p1 (O.length + 0) (by rw [get_r]; rfl)
  have HV := Lib.hid (qrvalid_ow H0 i j hi hj)
  rw [hb] at HV
  clear h H0 hi hj hb
  go_enter Tryd.func23, Tryd.ntmps23
  go_wp2_with fail
  refine HV.out.mono ?_
  rintro e w1 ⟨rfl, H1⟩
  have HF := Lib.hid H1.fewO
  clear HV H1 a0 a1
  go_wp2_with fail
  go_ret
  exact ⟨rfl, HF.out⟩
end
end Go.Proofs.YtjhaogbopmhkoaaDoor

namespace Go.Proofs.YtjhaogbopmhkoaaDoor
open Go.RowKit Go.Sort
set_option linter.unusedVariables false
set_option maxRecDepth 100000
theorem of_less (L l : List Ob) (x y : Ob) : ∀ o ∈ L ++ [x] ++ [y], o ∈ L ++ l ++ [x] ++ [y] := fun o ho => by
  simp only [List.mem_append] at ho ⊢
  rcases ho with (h | h) | h
  · exact .inl (.inl (.inl h))
  · exact .inl (.inr h)
  · exact .inr h
def ofF (a b : Int) : Nat × Nat × Int := if a < 0 ∨ b < 0 then frE 2 else frM a.toNat b.toNat
theorem int_top {a : Int} (h : a ≤ 9223372036854775807) : a.toNat < Na.top := by
  have h1 : (9223372036854775807 : Nat) < Na.top := by decide +kernel
  omega
theorem ofL_pos {a : Int} (h : 0 ≤ a) : ofL a = Na.dig a.toNat ∧ ofE a = 0 := ⟨if_neg (by omega), if_neg (by omega)⟩
theorem ofL_neg {a : Int} (h : a < 0) : ofL a = [] ∧ ofE a = 2 := ⟨if_pos h, if_pos h⟩
section
variable {w0 w w' : World} {g : Option Nat} {M : List (Nat × Value)} {L : List Ob} {O : List Rw}
theorem qof_n (h : Ow w0 w g M L O) (a : Int) (ha : a ≤ 9223372036854775807) : Calls Tryd.prog 81 #[.int .i64 a] w (GotO w0 g M L O (ofL a) (ofE a)) :=
  (nof_any a w ha).mono fun e w' hr => got_o h (by
    rcases Int.lt_or_le a 0 with h0 | h0
    · rw [(ofL_neg h0).1]; decide
    · rw [(ofL_pos h0).1]; exact dig_1000 (int_top ha)) hr
set_option maxHeartbeats 4000000 in
theorem qof_ow (h : Ow w0 w g M L O) (a b : Int) (ha : a ≤ 9223372036854775807) (hb : b ≤ 9223372036854775807) (ht : Tab w0) :
    Calls Tryd.prog 40 #[.int .i64 a, .int .i64 b] w (GotF w0 g M L O (ofF a b)) := by
  have H0 := h.pair (.slice none 0 0) (.slice none 0 0) 26
  have HC := Lib.hid (qof_n H0 a ha)
  have HB := Lib.hid hb
  have HA := Lib.hid ha
  have HT := Lib.hid ht
  obtain ⟨l1, h1⟩ : ∃ l, ofL a = l := ⟨_, rfl⟩
  obtain ⟨e1, he1⟩ : ∃ l, ofE a = l := ⟨_, rfl⟩
  obtain ⟨l2, h2⟩ : ∃ l, ofL b = l := ⟨_, rfl⟩
  obtain ⟨e2, he2⟩ : ∃ l, ofE b = l := ⟨_, rfl⟩
  rw [h1, he1] at HC
  have HL := Lib.hid (And.intro h1 (And.intro h2 he2))
  have key : ((e1 != 0) = true ∧ ofF a b = frE 2) ∨ ((e1 != 0) = false ∧ (e2 != 0) = true ∧ ofF a b = frE 2) ∨ ((e1 != 0) = false ∧ (e2 != 0) = false ∧ 0 ≤ a ∧ 0 ≤ b ∧ ofF a b = frM a.toNat b.toNat) := by
    unfold ofF
    rcases Int.lt_or_le a 0 with h0 | h0
    · exact .inl ⟨by rw [← he1, (ofL_neg h0).2]; rfl, if_pos (.inl h0)⟩
    · rcases Int.lt_or_le b 0 with h3 | h3
      · exact .inr (.inl ⟨by rw [← he1, (ofL_pos h0).2]; rfl, by rw [← he2, (ofL_neg h3).2]; rfl, if_pos (.inr h3)⟩)
      · exact .inr (.inr ⟨by rw [← he1, (ofL_pos h0).2]; rfl, by rw [← he2, (ofL_pos h3).2]; rfl, h0, h3, if_neg (by omega)⟩)
  clear h H0 ha hb h1 he1 h2 he2 ht
  go_enter Tryd.func40, Tryd.ntmps40
  go_wp2_with fail
  refine HC.out.mono ?_
  rintro e w1 ⟨B1, m1, d1, rfl, H1⟩
  have H2 := H1.boxed (.slice B1 m1 d1) 24
  have HD := Lib.hid (qof_n H2 b HB.out)
  rw [HL.out.2.1, HL.out.2.2] at HD
  clear HC H1 H2
  rcases key with ⟨k1, k2⟩ | ⟨k1, k2, k3⟩ | ⟨k1, k2, ka, kb, k3⟩
  · have HK := Lib.hid k2
    clear k2
    go_wp2_with fail
    refine HD.out.mono ?_
    rintro e w2 ⟨B2, m2, d2, rfl, H3⟩
    have H4 := H3.boxed (.slice B2 m2 d2) 24
    simp only [List.append_assoc, List.cons_append, List.nil_append] at H4
    have x0 := H4.p0 (O.length + 0) (by rw [get_r]; rfl)
    have x1 := H4.p1 (O.length + 0) (by rw [get_r]; rfl)
    have f0 := H4.pf (O.length + 0) (by rw [get_r]; rfl) 0
    have f1 := H4.pf (O.length + 0) (by rw [get_r]; rfl) 1
    have H5 := H4.set0 (O.length + 0) (by rw [get_r]; rfl) (.slice none 0 0)
    rw [set_r, List.set_cons_zero] at H5
    have H6 := H5.set1 (O.length + 0) (by rw [get_r]; rfl) (.slice none 0 0)
    rw [set_r, List.set_cons_zero] at H6
    have s0 := H6.p0 (O.length + 0) (by rw [get_r]; rfl)
    have s1 := H6.p1 (O.length + 0) (by rw [get_r]; rfl)
    have HF := Lib.hid (H6.fewM.fewO.less (L' := L) (fun o ho => List.mem_append_left _ ho))
    clear HD H3 H4 H5 H6
    go_wp2_with fail
    refine bodyPost_ret (v := .tuple #[.agg #[.slice none 0 0, .slice none 0 0], .int .i64 2]) (by simp [results, Tryd.results40, go_sem, s0, s1]) rfl ?_
    rw [HK.out]
    exact gotF_nil HF.out 2
  · have HK := Lib.hid k3
    clear k3
    go_wp2_with fail
    refine HD.out.mono ?_
    rintro e w2 ⟨B2, m2, d2, rfl, H3⟩
    have H4 := H3.boxed (.slice B2 m2 d2) 24
    simp only [List.append_assoc, List.cons_append, List.nil_append] at H4
    have x0 := H4.p0 (O.length + 0) (by rw [get_r]; rfl)
    have x1 := H4.p1 (O.length + 0) (by rw [get_r]; rfl)
    have f0 := H4.pf (O.length + 0) (by rw [get_r]; rfl) 0
    have f1 := H4.pf (O.length + 0) (by rw [get_r]; rfl) 1
    have H5 := H4.set0 (O.length + 0) (by rw [get_r]; rfl) (.slice none 0 0)
    rw [set_r, List.set_cons_zero] at H5
    have H6 := H5.set1 (O.length + 0) (by rw [get_r]; rfl) (.slice none 0 0)
    rw [set_r, List.set_cons_zero] at H6
    have s0 := H6.p0 (O.length + 0) (by rw [get_r]; rfl)
    have s1 := H6.p1 (O.length + 0) (by rw [get_r]; rfl)
    have HF := Lib.hid (H6.fewM.fewO.less (L' := L) (fun o ho => List.mem_append_left _ ho))
    clear HD H3 H4 H5 H6
    go_wp2_with fail
    refine bodyPost_ret (v := .tuple #[.agg #[.slice none 0 0, .slice none 0 0], .int .i64 2]) (by simp [results, Tryd.results40, go_sem, s0, s1]) rfl ?_
    rw [HK.out]
    exact gotF_nil HF.out 2
  · have HK := Lib.hid k3
    have HX := Lib.hid (And.intro ka kb)
    obtain ⟨t, hmk⟩ : ∃ t, frM a.toNat b.toNat = t := ⟨_, rfl⟩
    have HMk := Lib.hid hmk
    clear k3 ka kb hmk
    go_wp2_with fail
    refine HD.out.mono ?_
    rintro e w2 ⟨B2, m2, d2, rfl, H3⟩
    have H4 := H3.boxed (.slice B2 m2 d2) 24
    simp only [List.append_assoc, List.cons_append, List.nil_append] at H4
    rw [← HL.out.1, ← HL.out.2.1, (ofL_pos HX.out.1).1, (ofL_pos HX.out.2).1] at H4
    have y0 := H4.cell (M.length + 0) (by rw [get_r]; rfl)
    have y1 := H4.cell (M.length + 1) (by rw [get_r]; rfl)
    have HE := Lib.hid (qmake_d H4 (L.length + 0) (L.length + 1) (by rw [get_r]; rfl) (by rw [get_r]; rfl) (int_top HA.out) (int_top HB.out) HT.out)
    rw [HMk.out] at HE
    have HG := Lib.hid H4
    clear HD H3 H4
    go_wp2_with fail
    refine HE.out.mono ?_
    intro e w3 hr
    have ht1 : t.1 < Na.top ∧ t.2.1 < Na.top := by rw [← HMk.out]; exact frM_top (int_top HA.out) (int_top HB.out)
    obtain ⟨C1, p1, q1, C2, p2, q2, rfl, how3⟩ := got_f HG.out ht1.1 ht1.2 hr
    have x0 := how3.p0 (O.length + 0) (by rw [get_r]; rfl)
    have x1 := how3.p1 (O.length + 0) (by rw [get_r]; rfl)
    have f0 := how3.pf (O.length + 0) (by rw [get_r]; rfl) 0
    have f1 := how3.pf (O.length + 0) (by rw [get_r]; rfl) 1
    have H5 := how3.set0 (O.length + 0) (by rw [get_r]; rfl) (.slice C1 p1 q1)
    rw [set_r, List.set_cons_zero] at H5
    have H6 := H5.set1 (O.length + 0) (by rw [get_r]; rfl) (.slice C2 p2 q2)
    rw [set_r, List.set_cons_zero] at H6
    have s0 := H6.p0 (O.length + 0) (by rw [get_r]; rfl)
    have s1 := H6.p1 (O.length + 0) (by rw [get_r]; rfl)
    have HF := Lib.hid (H6.fewM.fewO.less (L' := L ++ [⟨C1, p1, q1, _⟩] ++ [⟨C2, p2, q2, _⟩]) (of_less L _ _ _))
    clear HE HG hr how3 H5 H6 y0 y1 ht1
    go_wp2_with fail
    refine bodyPost_ret (v := .tuple #[.agg #[.slice C1 p1 q1, .slice C2 p2 q2], .int .i64 t.2.2]) (by simp [results, Tryd.results40, go_sem, s0, s1]) rfl ?_
    rw [HK.out, HMk.out]
    exact ⟨C1, p1, q1, C2, p2, q2, rfl, HF.out⟩
theorem qrof_n (h : Ow w0 w g M L O) (a : Int) (ha : a ≤ 9223372036854775807) : Calls Tryd.prog 53 #[.int .i64 a] w (GotO w0 g M L O (ofL a) (ofE a)) :=
  (nrof_any a w ha).mono fun e w' hr => got_o h (by
    rcases Int.lt_or_le a 0 with h0 | h0
    · rw [(ofL_neg h0).1]; decide
    · rw [(ofL_pos h0).1]; exact dig_1000 (int_top ha)) hr
set_option maxHeartbeats 4000000 in
theorem qrof_ow (h : Ow w0 w g M L O) (a b : Int) (ha : a ≤ 9223372036854775807) (hb : b ≤ 9223372036854775807) :
    Calls Tryd.prog 16 #[.int .i64 a, .int .i64 b] w (GotF w0 g M L O (ofF a b)) := by
  have H0 := h.pair (.slice none 0 0) (.slice none 0 0) 26
  have HC := Lib.hid (qrof_n H0 a ha)
  have HB := Lib.hid hb
  have HA := Lib.hid ha
  obtain ⟨l1, h1⟩ : ∃ l, ofL a = l := ⟨_, rfl⟩
  obtain ⟨e1, he1⟩ : ∃ l, ofE a = l := ⟨_, rfl⟩
  obtain ⟨l2, h2⟩ : ∃ l, ofL b = l := ⟨_, rfl⟩
  obtain ⟨e2, he2⟩ : ∃ l, ofE b = l := ⟨_, rfl⟩
  rw [h1, he1] at HC
  have HL := Lib.hid (And.intro h1 (And.intro h2 he2))
  have key : ((e1 != 0) = true ∧ ofF a b = frE 2) ∨ ((e1 != 0) = false ∧ (e2 != 0) = true ∧ ofF a b = frE 2) ∨ ((e1 != 0) = false ∧ (e2 != 0) = false ∧ 0 ≤ a ∧ 0 ≤ b ∧ ofF a b = frM a.toNat b.toNat) := by
    unfold ofF
    rcases Int.lt_or_le a 0 with h0 | h0
    · exact .inl ⟨by rw [← he1, (ofL_neg h0).2]; rfl, if_pos (.inl h0)⟩
    · rcases Int.lt_or_le b 0 with h3 | h3
      · exact .inr (.inl ⟨by rw [← he1, (ofL_pos h0).2]; rfl, by rw [← he2, (ofL_neg h3).2]; rfl, if_pos (.inr h3)⟩)
      · exact .inr (.inr ⟨by rw [← he1, (ofL_pos h0).2]; rfl, by rw [← he2, (ofL_pos h3).2]; rfl, h0, h3, if_neg (by omega)⟩)
  clear h H0 ha hb h1 he1 h2 he2
  go_enter Tryd.func16, Tryd.ntmps16
  go_wp2_with fail
  refine HC.out.mono ?_
  rintro e w1 ⟨B1, m1, d1, rfl, H1⟩
  have H2 := H1.boxed (.slice B1 m1 d1) 24
  have HD := Lib.hid (qrof_n H2 b HB.out)
  rw [HL.out.2.1, HL.out.2.2] at HD
  clear HC H1 H2
  rcases key with ⟨k1, k2⟩ | ⟨k1, k2, k3⟩ | ⟨k1, k2, ka, kb, k3⟩
  · have HK := Lib.hid k2
    clear k2
    go_wp2_with fail
    refine HD.out.mono ?_
    rintro e w2 ⟨B2, m2, d2, rfl, H3⟩
    have H4 := H3.boxed (.slice B2 m2 d2) 24
    simp only [List.append_assoc, List.cons_append, List.nil_append] at H4
    have x0 := H4.p0 (O.length + 0) (by rw [get_r]; rfl)
    have x1 := H4.p1 (O.length + 0) (by rw [get_r]; rfl)
    have f0 := H4.pf (O.length + 0) (by rw [get_r]; rfl) 0
    have f1 := H4.pf (O.length + 0) (by rw [get_r]; rfl) 1
    have H5 := H4.set0 (O.length + 0) (by rw [get_r]; rfl) (.slice none 0 0)
    rw [set_r, List.set_cons_zero] at H5
    have H6 := H5.set1 (O.length + 0) (by rw [get_r]; rfl) (.slice none 0 0)
    rw [set_r, List.set_cons_zero] at H6
    have s0 := H6.p0 (O.length + 0) (by rw [get_r]; rfl)
    have s1 := H6.p1 (O.length + 0) (by rw [get_r]; rfl)
    have HF := Lib.hid (H6.fewM.fewO.less (L' := L) (fun o ho => List.mem_append_left _ ho))
    clear HD H3 H4 H5 H6
    go_wp2_with fail
    refine bodyPost_ret (v := .tuple #[.agg #[.slice none 0 0, .slice none 0 0], .int .i64 2]) (by simp [results, Tryd.results16, go_sem, s0, s1]) rfl ?_
    rw [HK.out]
    exact gotF_nil HF.out 2
  · have HK := Lib.hid k3
    clear k3
    go_wp2_with fail
    refine HD.out.mono ?_
    rintro e w2 ⟨B2, m2, d2, rfl, H3⟩
    have H4 := H3.boxed (.slice B2 m2 d2) 24
    simp only [List.append_assoc, List.cons_append, List.nil_append] at H4
    have x0 := H4.p0 (O.length + 0) (by rw [get_r]; rfl)
    have x1 := H4.p1 (O.length + 0) (by rw [get_r]; rfl)
    have f0 := H4.pf (O.length + 0) (by rw [get_r]; rfl) 0
    have f1 := H4.pf (O.length + 0) (by rw [get_r]; rfl) 1
    have H5 := H4.set0 (O.length + 0) (by rw [get_r]; rfl) (.slice none 0 0)
    rw [set_r, List.set_cons_zero] at H5
    have H6 := H5.set1 (O.length + 0) (by rw [get_r]; rfl) (.slice none 0 0)
    rw [set_r, List.set_cons_zero] at H6
    have s0 := H6.p0 (O.length + 0) (by rw [get_r]; rfl)
    have s1 := H6.p1 (O.length + 0) (by rw [get_r]; rfl)
    have HF := Lib.hid (H6.fewM.fewO.less (L' := L) (fun o ho => List.mem_append_left _ ho))
    clear HD H3 H4 H5 H6
    go_wp2_with fail
    refine bodyPost_ret (v := .tuple #[.agg #[.slice none 0 0, .slice none 0 0], .int .i64 2]) (by simp [results, Tryd.results16, go_sem, s0, s1]) rfl ?_
    rw [HK.out]
    exact gotF_nil HF.out 2
  · have HK := Lib.hid k3
    have HX := Lib.hid (And.intro ka kb)
    obtain ⟨t, hmk⟩ : ∃ t, frM a.toNat b.toNat = t := ⟨_, rfl⟩
    have HMk := Lib.hid hmk
    clear k3 ka kb hmk
    go_wp2_with fail
    refine HD.out.mono ?_
    rintro e w2 ⟨B2, m2, d2, rfl, H3⟩
    have H4 := H3.boxed (.slice B2 m2 d2) 24
    simp only [List.append_assoc, List.cons_append, List.nil_append] at H4
    rw [← HL.out.1, ← HL.out.2.1, (ofL_pos HX.out.1).1, (ofL_pos HX.out.2).1] at H4
    have y0 := H4.cell (M.length + 0) (by rw [get_r]; rfl)
    have y1 := H4.cell (M.length + 1) (by rw [get_r]; rfl)
    have HE := Lib.hid (qrmake_d H4 (L.length + 0) (L.length + 1) (by rw [get_r]; rfl) (by rw [get_r]; rfl) (int_top HA.out) (int_top HB.out))
    rw [HMk.out] at HE
    have HG := Lib.hid H4
    clear HD H3 H4
    go_wp2_with fail
    refine HE.out.mono ?_
    intro e w3 hr
    have ht1 : t.1 < Na.top ∧ t.2.1 < Na.top := by rw [← HMk.out]; exact frM_top (int_top HA.out) (int_top HB.out)
    obtain ⟨C1, p1, q1, C2, p2, q2, rfl, how3⟩ := got_f HG.out ht1.1 ht1.2 hr
    have x0 := how3.p0 (O.length + 0) (by rw [get_r]; rfl)
    have x1 := how3.p1 (O.length + 0) (by rw [get_r]; rfl)
    have f0 := how3.pf (O.length + 0) (by rw [get_r]; rfl) 0
    have f1 := how3.pf (O.length + 0) (by rw [get_r]; rfl) 1
    have H5 := how3.set0 (O.length + 0) (by rw [get_r]; rfl) (.slice C1 p1 q1)
    rw [set_r, List.set_cons_zero] at H5
    have H6 := H5.set1 (O.length + 0) (by rw [get_r]; rfl) (.slice C2 p2 q2)
    rw [set_r, List.set_cons_zero] at H6
    have s0 := H6.p0 (O.length + 0) (by rw [get_r]; rfl)
    have s1 := H6.p1 (O.length + 0) (by rw [get_r]; rfl)
    have HF := Lib.hid (H6.fewM.fewO.less (L' := L ++ [⟨C1, p1, q1, _⟩] ++ [⟨C2, p2, q2, _⟩]) (of_less L _ _ _))
    clear HE HG hr how3 H5 H6 y0 y1 ht1
    go_wp2_with fail
    refine bodyPost_ret (v := .tuple #[.agg #[.slice C1 p1 q1, .slice C2 p2 q2], .int .i64 t.2.2]) (by simp [results, Tryd.results16, go_sem, s0, s1]) rfl ?_
    rw [HK.out, HMk.out]
    exact ⟨C1, p1, q1, C2, p2, q2, rfl, HF.out⟩
end
end Go.Proofs.YtjhaogbopmhkoaaDoor

namespace Go.Proofs.YtjhaogbopmhkoaaDoor
open Go.RowKit Go.Sort
set_option linter.unusedVariables false
set_option maxRecDepth 100000
theorem tiny_top {x : Nat} (h : x ≤ 9223372036854775807) : x < Na.top := Nat.lt_of_le_of_lt h (by decide +kernel)
end Go.Proofs.YtjhaogbopmhkoaaDoor

namespace Go.Proofs.YtjhaogbopmhkoaaDoor
open Go.RowKit
set_option linter.unusedVariables false
set_option maxRecDepth 100000
theorem cell_lt {W : World} {a : Addr} {v : Value} (h : W.cell? a = some v) : a.block < W.heap.size := by
  rcases Nat.lt_or_ge a.block W.heap.size with h1 | h1
  · exact h1
  · have h2 : W.heap[a.block]? = none := Array.getElem?_eq_none h1
    simp [World.cell?, h2] at h
section
variable {w0 w w' : World} {g : Nat} {M : List (Nat × Value)} {L : List Ob}
/-- a list that dice have made -/
theorem St.made (h : St w0 w (some g) M L) {A : Option Addr} {n c : Nat} {vs : List Value} {e : TypeId} (ho : w'.ownsRow w.heap.size e 1 (.slice A n c) n vs) (hg : w.grownBy w' (some g)) (hl : n ≤ 1000) : St w0 w' (some g) M (L ++ [⟨A, n, c, vs⟩]) := by
  refine (h.roll hg).add (Sl.of_own ho) (Nat.le_refl _) (own_len ho) (own_cap ho).1 hl fun ad e h0 => ?_
  obtain ⟨g', hg', h1, _⟩ := own_form ho h0
  rw [e] at hg'
  obtain rfl := Option.some.inj hg'
  exact ⟨fun e2 => by have := (h.lt _ rfl).1; have e3 := Option.some.inj e2; simp only at e3; omega, fun i b v hi e2 => by have := (h.box i b v hi).1; simp only at e2; omega⟩
end
theorem St.drew {w0 w : World} {g : Option Nat} {M : List (Nat × Value)} {L : List Ob} (h : St w0 w g M L) : St w0 w.drew g M L := h.go (Below.refl _ _).drew

/-- where the calls, the new variables and the stores stand among a region's operations -/
structure Lay (k : Nat) (c a s : Nat → Nat) : Prop where
  cc : ∀ i j, i < k → j < k → c i = c j → i = j
  aa : ∀ i j, i < k → j < k → a i = a j → i = j
  ss : ∀ i j, i < k → j < k → s i = s j → i = j
  ca : ∀ i j, i < k → j < k → c i ≠ a j
  cs : ∀ i j, i < k → j < k → c i ≠ s j
  sa : ∀ i j, i < k → j < k → a i ≠ s j
def GotV (P : Nat → Nat → Prop) (i : Nat) (r : Value) (Ls : List Ob) : Prop := ∃ (A : Option Addr) (n c x : Nat), r = .agg #[.slice A n c] ∧ (⟨A, n, c, nats (Na.dig x)⟩ : Ob) ∈ Ls ∧ P i x
theorem dset_same {L : Nat → Bool} {j : Nat} : dset L j j = true := if_pos rfl
theorem dset_ne {L : Nat → Bool} {i j : Nat} (h : i ≠ j) : dset L j i = L i := if_neg h
structure VInv (w0 : World) (g B k : Nat) (c a s : Nat → Nat) (P : Nat → Nat → Prop) (L : Nat → Bool) (res ptr : List Value) (W : World) (M : List (Nat × Value)) (Ls : List Ob) : Prop where
  st : St w0 W (some g) M Ls
  dice : Dice W g B
  low : B ≤ w0.heap.size
  rk : res.length = k
  pk : ptr.length = k
  got : ∀ i r, res[i]? = some r → L (c i) = true → GotV P i r Ls
  var : ∀ i p r, ptr[i]? = some p → res[i]? = some r → L (a i) = true → ∃ b v, p = .pointer (some ⟨b, 0, none⟩) ∧ (b, v) ∈ M ∧ (L (s i) = false → v = .slice none 0 0) ∧ (L (s i) = true → r = .agg #[v])
  ne : ∀ i j p, i ≠ j → ptr[i]? = some p → ptr[j]? = some p → L (a i) = true → L (a j) = true → False
  ord : ∀ i, i < k → L (s i) = true → L (c i) = true ∧ L (a i) = true
section
variable {w0 W W' : World} {g B k : Nat} {c a s : Nat → Nat} {P : Nat → Nat → Prop} {L : Nat → Bool} {res ptr : List Value} {M : List (Nat × Value)} {Ls : List Ob}
/-- an operation that is no call, no variable and no store -/
theorem VInv.other (h : VInv w0 g B k c a s P L res ptr W M Ls) (j : Nat) (hc : ∀ i, i < k → c i ≠ j) (ha : ∀ i, i < k → a i ≠ j) (hs : ∀ i, i < k → s i ≠ j) : VInv w0 g B k c a s P (dset L j) res ptr W M Ls := by
  have l1 : ∀ i r, res[i]? = some r → i < k := fun i r hr => by have := get_lt hr; rw [h.rk] at this; exact this
  have l2 : ∀ i r, ptr[i]? = some r → i < k := fun i r hr => by have := get_lt hr; rw [h.pk] at this; exact this
  refine ⟨h.st, h.dice, h.low, h.rk, h.pk, fun i r hr hl => ?_, fun i p r hp hr hl => ?_, fun i i' p hne hp hp' hl hl' => ?_, fun i hi hl => ?_⟩
  · rw [dset_ne (hc i (l1 i r hr))] at hl; exact h.got i r hr hl
  · rw [dset_ne (ha i (l1 i r hr))] at hl
    rw [dset_ne (hs i (l1 i r hr))]
    exact h.var i p r hp hr hl
  · rw [dset_ne (ha i (l2 i p hp))] at hl
    rw [dset_ne (ha i' (l2 i' p hp'))] at hl'
    exact h.ne i i' p hne hp hp' hl hl'
  · rw [dset_ne (hs i hi)] at hl
    rw [dset_ne (hc i hi), dset_ne (ha i hi)]
    exact h.ord i hi hl
/-- a call that gives a number of the dice's own -/
theorem VInv.call (h : VInv w0 g B k c a s P L res ptr W M Ls) (hl : Lay k c a s) (i : Nat) (hi : i < k) (hf : L (c i) = false) {A : Option Addr} {n cc x : Nat} (hn : (Na.dig x).length = n) (hx : P i x) (h1 : n ≤ 1000)
    (ho : W'.ownsRow W.heap.size 3 1 (.slice A n cc) n (nats (Na.dig x))) (hd : Dice W' g B) (hg : W.grownBy W' (some g)) :
    VInv w0 g B k c a s P (dset L (c i)) (res.set i (.agg #[.slice A n cc])) ptr W' M (Ls ++ [⟨A, n, cc, nats (Na.dig x)⟩]) := by
  have l1 : ∀ i r, res[i]? = some r → i < k := fun i r hr => by have := get_lt hr; rw [h.rk] at this; exact this
  have l2 : ∀ i r, ptr[i]? = some r → i < k := fun i r hr => by have := get_lt hr; rw [h.pk] at this; exact this
  refine ⟨h.st.made ho hg h1, hd, h.low, by rw [List.length_set]; exact h.rk, h.pk, fun j r hr hl' => ?_, fun j p r hp hr hl' => ?_, fun j j' p hne hp hp' hl1 hl2 => ?_, fun j hj hl' => ?_⟩
  · by_cases e : j = i
    · subst e
      rw [List.getElem?_set_self (by rw [h.rk]; exact hi)] at hr
      obtain rfl := Option.some.inj hr
      exact ⟨A, n, cc, x, rfl, List.mem_append_right _ List.mem_cons_self, hx⟩
    · rw [List.getElem?_set_ne (fun e' => e e'.symm)] at hr
      rw [dset_ne (fun e' => e (hl.cc _ _ (l1 _ _ hr) hi e'))] at hl'
      obtain ⟨A', n', c', x', k1, k2, k3⟩ := h.got j r hr hl'
      exact ⟨A', n', c', x', k1, List.mem_append_left _ k2, k3⟩
  · have hjk := l2 j p hp
    rw [dset_ne (fun e' => hl.ca _ _ hi hjk e'.symm)] at hl'
    rw [dset_ne (fun e' => hl.cs _ _ hi hjk e'.symm)]
    by_cases e : j = i
    · subst e
      have hres : j < res.length := by rw [h.rk]; exact hi
      obtain ⟨b, v, k1, k2, k3, k4⟩ := h.var j p res[j] hp (List.getElem?_eq_getElem hres) hl'
      refine ⟨b, v, k1, k2, k3, fun e2 => ?_⟩
      have := (h.ord j hi e2).1
      rw [hf] at this
      cases this
    · rw [List.getElem?_set_ne (fun e' => e e'.symm)] at hr
      exact h.var j p r hp hr hl'
  · rw [dset_ne (fun e' => hl.ca _ _ hi (l2 _ _ hp) e'.symm)] at hl1
    rw [dset_ne (fun e' => hl.ca _ _ hi (l2 _ _ hp') e'.symm)] at hl2
    exact h.ne j j' p hne hp hp' hl1 hl2
  · rw [dset_ne (fun e' => hl.cs _ _ hi hj e'.symm)] at hl'
    rw [dset_ne (i := a j) (fun e' => hl.ca _ _ hi hj e'.symm)]
    by_cases e : j = i
    · subst e; exact ⟨dset_same, (h.ord j hj hl').2⟩
    · rw [dset_ne (fun e' => e (hl.cc _ _ hj hi e'))]; exact h.ord j hj hl'
/-- a new variable -/
theorem VInv.alloc (h : VInv w0 g B k c a s P L res ptr W M Ls) (hl : Lay k c a s) (i : Nat) (hi : i < k) (hf : L (a i) = false) (hs0 : L (s i) = false) (t : TypeId) :
    VInv w0 g B k c a s P (dset L (a i)) res (ptr.set i (.pointer (some ⟨W.heap.size, 0, none⟩))) (W.alloc (.cells #[.slice none 0 0] t)) (M ++ [(W.heap.size, .slice none 0 0)]) Ls := by
  have l1 : ∀ i r, res[i]? = some r → i < k := fun i r hr => by have := get_lt hr; rw [h.rk] at this; exact this
  have l2 : ∀ i r, ptr[i]? = some r → i < k := fun i r hr => by have := get_lt hr; rw [h.pk] at this; exact this
  refine ⟨h.st.boxed _ _, h.dice.grown (row := none) (World.grownBy_alloc W _ none) (fun _ e => by cases e), h.low, h.rk, by rw [List.length_set]; exact h.pk, fun j r hr hl' => ?_, fun j p r hp hr hl' => ?_, fun j j' p hne hp hp' hl1 hl2 => ?_, fun j hj hl' => ?_⟩
  · rw [dset_ne (hl.ca _ _ (l1 _ _ hr) hi)] at hl'
    exact h.got j r hr hl'
  · have hjk := l1 j r hr
    rw [dset_ne (fun e' => hl.sa _ _ hi hjk e'.symm)]
    by_cases e : j = i
    · subst e
      rw [List.getElem?_set_self (by rw [h.pk]; exact hi)] at hp
      obtain rfl := Option.some.inj hp
      exact ⟨_, _, rfl, List.mem_append_right _ List.mem_cons_self, fun _ => rfl, fun e2 => by rw [hs0] at e2; cases e2⟩
    · rw [List.getElem?_set_ne (fun e' => e e'.symm)] at hp
      rw [dset_ne (fun e' => e (hl.aa _ _ hjk hi e'))] at hl'
      obtain ⟨b, v, k1, k2, k3, k4⟩ := h.var j p r hp hr hl'
      exact ⟨b, v, k1, List.mem_append_left _ k2, k3, k4⟩
  · have key : ∀ (j : Nat) (p : Value), ptr[j]? = some p → L (a j) = true → p ≠ .pointer (some ⟨W.heap.size, 0, none⟩) := fun j p hp hlj e => by
      have hres : j < res.length := by rw [h.rk]; exact l2 j p hp
      obtain ⟨b, v, k1, k2, _⟩ := h.var j p res[j] hp (List.getElem?_eq_getElem hres) hlj
      have := (h.st.var k2).2.1
      rw [k1] at e
      injection e with e
      injection e with e
      injection e with e
      omega
    by_cases e : j = i <;> by_cases e' : j' = i
    · omega
    · subst e
      rw [List.getElem?_set_self (by rw [h.pk]; exact hi)] at hp
      obtain rfl := Option.some.inj hp
      rw [List.getElem?_set_ne (fun e2 => e' e2.symm)] at hp'
      rw [dset_ne (fun e2 => e' (hl.aa _ _ (l2 _ _ hp') hi e2))] at hl2
      exact key j' _ hp' hl2 rfl
    · subst e'
      rw [List.getElem?_set_self (by rw [h.pk]; exact hi)] at hp'
      obtain rfl := Option.some.inj hp'
      rw [List.getElem?_set_ne (fun e2 => e e2.symm)] at hp
      rw [dset_ne (fun e2 => e (hl.aa _ _ (l2 _ _ hp) hi e2))] at hl1
      exact key j _ hp hl1 rfl
    · rw [List.getElem?_set_ne (fun e2 => e e2.symm)] at hp
      rw [List.getElem?_set_ne (fun e2 => e' e2.symm)] at hp'
      rw [dset_ne (fun e2 => e (hl.aa _ _ (l2 _ _ hp) hi e2))] at hl1
      rw [dset_ne (fun e2 => e' (hl.aa _ _ (l2 _ _ hp') hi e2))] at hl2
      exact h.ne j j' p hne hp hp' hl1 hl2
  · rw [dset_ne (fun e' => hl.sa _ _ hi hj e'.symm)] at hl'
    rw [dset_ne (hl.ca _ _ hj hi)]
    by_cases e : j = i
    · subst e; exact ⟨(h.ord j hj hl').1, dset_same⟩
    · rw [dset_ne (fun e' => e (hl.aa _ _ hj hi e'))]; exact h.ord j hj hl'
/-- a store into its variable -/
theorem VInv.store (h : VInv w0 g B k c a s P L res ptr W M Ls) (hl : Lay k c a s) (i : Nat) (hi : i < k) (hf : L (s i) = false) (hc : L (c i) = true) (ha : L (a i) = true) {r p : Value} (hr : res[i]? = some r) (hp : ptr[i]? = some p) :
    ∃ b A n cc x, p = .pointer (some ⟨b, 0, none⟩) ∧ r = .agg #[.slice A n cc] ∧ P i x ∧ W.cell? ⟨b, 0, none⟩ = some (.slice none 0 0) ∧ W.frozen? ⟨b, 0, none⟩ = false ∧
      VInv w0 g B k c a s P (dset L (s i)) res ptr (W.setCell ⟨b, 0, none⟩ (.slice A n cc)) (putV M b (.slice A n cc)) Ls := by
  have l1 : ∀ i r, res[i]? = some r → i < k := fun i r hr => by have := get_lt hr; rw [h.rk] at this; exact this
  have l2 : ∀ i r, ptr[i]? = some r → i < k := fun i r hr => by have := get_lt hr; rw [h.pk] at this; exact this
  obtain ⟨b, v, rfl, hm, hv, _⟩ := h.var i p r hp hr ha
  obtain rfl := hv hf
  obtain ⟨A, n, cc, x, rfl, hob, hx⟩ := h.got i r hr hc
  obtain ⟨v1, v2, v3, v4, v5⟩ := h.st.var hm
  have hgb : g ≠ b := fun e => v5 (by rw [e])
  refine ⟨b, A, n, cc, x, rfl, rfl, hx, v3, v4, h.st.putM hm _, ?_, h.low, h.rk, h.pk, fun j r hr' hl' => ?_, fun j p' r' hp' hr' hl' => ?_, fun j j' p hne hp hp' hl1 hl2 => ?_, fun j hj hl' => ?_⟩
  · obtain ⟨A', n', c', at_, ts, hh, q1, q2, q3, q4, q5⟩ := h.dice
    have hlow := h.low
    exact ⟨A', n', c', at_, ts, (Below.heap_setCell _ _ _ _ (fun e => hgb e)).trans hh, q1, q2, q3, q4.keep (fun p hp => World.cell?_of_block (Below.heap_setCell _ _ _ _ (fun e => by simp only at e; omega))), q5⟩
  · rw [dset_ne (hl.cs _ _ (l1 _ _ hr') hi)] at hl'
    exact h.got j r hr' hl'
  · have hjk := l1 j r' hr'
    rw [dset_ne (hl.sa _ _ hjk hi)] at hl'
    by_cases e : j = i
    · subst e
      rw [hp] at hp'
      rw [hr] at hr'
      obtain rfl := Option.some.inj hp'
      obtain rfl := Option.some.inj hr'
      refine ⟨b, .slice A n cc, rfl, mem_putV_same hm, fun e2 => ?_, fun _ => rfl⟩
      rw [dset_same] at e2
      cases e2
    · obtain ⟨b', v', rfl, k2, k3, k4⟩ := h.var j p' r' hp' hr' hl'
      rw [dset_ne (fun e' => e (hl.ss _ _ hjk hi e'))]
      refine ⟨b', v', rfl, mem_putV_other k2 (fun e2 => ?_), k3, k4⟩
      subst e2
      exact h.ne j i _ e hp' hp hl' ha
  · rw [dset_ne (hl.sa _ _ (l2 _ _ hp) hi)] at hl1
    rw [dset_ne (hl.sa _ _ (l2 _ _ hp') hi)] at hl2
    exact h.ne j j' p hne hp hp' hl1 hl2
  · by_cases e : j = i
    · subst e
      rw [dset_ne (hl.cs _ _ hj hi), dset_ne (hl.sa _ _ hj hi)]
      exact ⟨hc, ha⟩
    · rw [dset_ne (fun e' => e (hl.ss _ _ hj hi e'))] at hl'
      rw [dset_ne (hl.cs _ _ hj hi), dset_ne (hl.sa _ _ hj hi)]
      exact h.ord j hj hl'
theorem VInv.start (hs : St w0 W (some g) [] []) (hd : Dice W g B) (hB : B ≤ w0.heap.size) (hr : res.length = k) (hp : ptr.length = k) : VInv w0 g B k c a s P (fun _ => false) res ptr W [] [] :=
  ⟨hs, hd, hB, hr, hp, fun _ _ _ h => (by cases h), fun _ _ _ _ _ h => (by cases h), fun _ _ _ _ _ _ h => (by cases h), fun _ _ h => (by cases h)⟩
end
end Go.Proofs.YtjhaogbopmhkoaaDoor

namespace Go.Proofs.YtjhaogbopmhkoaaDoor
open Go.RowKit
set_option linter.unusedVariables false
set_option maxRecDepth 100000
theorem keepLc {W W' : World} {b o g : Nat} {u : Value} (h0 : W.cell? ⟨b, o, none⟩ = some u) (hne : b ≠ g) (hg : W.grownBy W' (some g)) : W'.cell? ⟨b, o, none⟩ = some u := by
  have h2 := hg.block b (cell_lt h0) (fun e => hne (Option.some.inj e))
  exact (World.cell?_of_block (a := ⟨b, o, none⟩) h2).trans h0
structure NK (w : World) (g B rb vb base : Nat) (v : Value) (W : World) : Prop where
  dice : Dice W g B
  cr : W.cell? ⟨rb, 0, none⟩ = some (.slice none 0 0)
  fr : W.frozen? ⟨rb, 0, none⟩ = false
  cv : W.cell? ⟨vb, 0, none⟩ = some v
  fv : W.frozen? ⟨vb, 0, none⟩ = false
  gr : w.grownBy W (some g)
  sz : base ≤ W.heap.size
  gw : g < w.heap.size
  hr : rb = w.heap.size
  hv : vb = w.heap.size + 1
  hb : base = w.heap.size + 2
def OwnV (W : World) (base : Nat) (v : Value) (o : List Nat) : Prop := ∃ (A : Option Addr) (c : Nat), v = .slice A o.length c ∧ W.ownsRow base 3 1 (.slice A o.length c) o.length (nats o)
def Cel (W : World) (g b k x : Nat) : Prop := b ≠ g ∧ W.cell? ⟨b, k, none⟩ = some (.int .i64 (x : Int)) ∧ x < 16777216
section
variable {w W W' : World} {g B rb vb base : Nat} {v : Value} {o : List Nat}
theorem Cel.grown {b k x : Nat} (h : Cel W g b k x) (hg : W.grownBy W' (some g)) : Cel W' g b k x := ⟨h.1, keepLc h.2.1 h.1 hg, h.2.2⟩
theorem Cel.alloc {b k x : Nat} (h : Cel W g b k x) (ob : Obj) : Cel (W.alloc ob) g b k x := h.grown (World.grownBy_alloc W ob _)
theorem NK.call (h : NK w g B rb vb base v W) (hd : Dice W' g B) (hg : W.grownBy W' (some g)) : NK w g B rb vb base v W' := by
  have h1 := h.sz; have h2 := h.gw; have h3 := h.hr; have h4 := h.hv; have h5 := h.hb
  have k1 := hg.block rb (by omega) (fun e => by cases e; omega)
  have k2 := hg.block vb (by omega) (fun e => by cases e; omega)
  exact ⟨hd, (World.cell?_of_block (a := ⟨rb, 0, none⟩) k1).trans h.cr, (World.frozen?_of_block (a := ⟨rb, 0, none⟩) k1).trans h.fr, (World.cell?_of_block (a := ⟨vb, 0, none⟩) k2).trans h.cv, (World.frozen?_of_block (a := ⟨vb, 0, none⟩) k2).trans h.fv, grown_trans h.gr hg, Nat.le_trans h1 hg.size, h2, h3, h4, h5⟩
theorem NK.high (h : NK w g B rb vb base v W) {row : Option Nat} (hg : W.grownBy W' row) (hrow : ∀ r, row = some r → base ≤ r) : NK w g B rb vb base v W' := by
  have h1 := h.sz; have h2 := h.gw; have h3 := h.hr; have h4 := h.hv; have h5 := h.hb
  have k1 := hg.block rb (by omega) (fun e => by have := hrow _ e.symm; omega)
  have k2 := hg.block vb (by omega) (fun e => by have := hrow _ e.symm; omega)
  exact ⟨h.dice.grown hg (fun r e => by have := hrow r e; omega), (World.cell?_of_block (a := ⟨rb, 0, none⟩) k1).trans h.cr, (World.frozen?_of_block (a := ⟨rb, 0, none⟩) k1).trans h.fr, (World.cell?_of_block (a := ⟨vb, 0, none⟩) k2).trans h.cv, (World.frozen?_of_block (a := ⟨vb, 0, none⟩) k2).trans h.fv, grown_far h.gr hg (fun r e => by have := hrow r e; omega), Nat.le_trans h1 hg.size, h2, h3, h4, h5⟩
theorem NK.alloc (h : NK w g B rb vb base v W) (ob : Obj) : NK w g B rb vb base v (W.alloc ob) := h.high (row := none) (World.grownBy_alloc W ob none) (fun _ e => by cases e)
theorem NK.drew (h : NK w g B rb vb base v W) : NK w g B rb vb base v W.drew := ⟨h.dice, h.cr, h.fr, h.cv, h.fv, grown_drew h.gr, h.sz, h.gw, h.hr, h.hv, h.hb⟩
theorem NK.put (h : NK w g B rb vb base v W) (u : Value) : NK w g B rb vb base u (W.setCell ⟨vb, 0, none⟩ u) := by
  have h1 := h.sz; have h2 := h.gw; have h3 := h.hr; have h4 := h.hv; have h5 := h.hb
  have hg := grown_set W ⟨vb, 0, none⟩ u
  have k1 := hg.block rb (by omega) (fun e => by have := Option.some.inj e; simp only at this; omega)
  exact ⟨h.dice.grown hg (fun r e => by cases e; simp only; omega), (World.cell?_of_block (a := ⟨rb, 0, none⟩) k1).trans h.cr, (World.frozen?_of_block (a := ⟨rb, 0, none⟩) k1).trans h.fr, cell_of_set _ h.cv, by rw [World.frozen?_setCell]; exact h.fv, grown_far h.gr hg (fun r e => by cases e; simp only; omega), Nat.le_trans h1 hg.size, h2, h3, h4, h5⟩
theorem OwnV.call (h : OwnV W base v o) (hg : W.grownBy W' (some g)) (hb : g < base) : OwnV W' base v o := by
  obtain ⟨A, c, rfl, ho⟩ := h
  exact ⟨A, c, rfl, own_grown ho hg hb⟩
theorem OwnV.alloc (h : OwnV W base v o) (ob : Obj) : OwnV (W.alloc ob) base v o := by
  obtain ⟨A, c, rfl, ho⟩ := h
  exact ⟨A, c, rfl, own_alloc ho ob⟩
theorem OwnV.drew (h : OwnV W base v o) : OwnV W.drew base v o := h
theorem OwnV.put (h : OwnV W base v o) (a : Addr) (u : Value) (ha : a.block < base) : OwnV (W.setCell a u) base v o := by
  obtain ⟨A, c, rfl, ho⟩ := h
  exact ⟨A, c, rfl, own_setLow ho a u ha⟩
end
end Go.Proofs.YtjhaogbopmhkoaaDoor

namespace Go.Proofs.YtjhaogbopmhkoaaDoor
open Go.RowKit
set_option linter.unusedVariables false
set_option maxRecDepth 100000
namespace Na
def cv (m i : Int) : Nat := if i < 0 ∨ m < i then 0 else bin m.toNat i.toNat
theorem two_top (m : Nat) (h : m ≤ 40) : 2 ^ m < top := by
  refine small_top (m := 2) ?_ (by omega)
  have : (2 : Nat) ^ m ≤ 2 ^ 40 := Nat.pow_le_pow_right (by omega) h
  omega
end Na
section
variable {w0 w : World} {g : Option Nat} {M : List (Nat × Value)} {L : List Ob} {A : Option Addr} {n c x m : Nat}
theorem St.zero (h : St w0 w g M L) : St w0 w g M (L ++ [⟨none, 0, 0, nats (Na.dig 0)⟩]) :=
  h.add (B := 0) (by rw [Na.dig_zero]; exact Sl.nil _ _ _) (Nat.zero_le _) (by rw [Na.dig_zero]; rfl) (Nat.le_refl _) (by omega) (fun ad e => by cases e)
end
end Go.Proofs.YtjhaogbopmhkoaaDoor

namespace Go.Proofs.YtjhaogbopmhkoaaDoor
open Go.RowKit
set_option linter.unusedVariables false
set_option maxRecDepth 100000
namespace Na
theorem pow_top {x : Nat} (hx : x < 16777216 ^ 2) (j : Nat) (h : j ≤ 90) : x ^ j < top := by
  have e1 : x ^ j ≤ (16777216 ^ 2) ^ j := Nat.pow_le_pow_left (Nat.le_of_lt hx) j
  rw [← Nat.pow_mul] at e1
  have e2 : 16777216 ^ (2 * j) < top := by unfold top; exact Nat.pow_lt_pow_right (by omega) (by omega)
  omega
end Na
end Go.Proofs.YtjhaogbopmhkoaaDoor

namespace Go.Proofs.YtjhaogbopmhkoaaDoor
open Go.RowKit Go.Sort
set_option linter.unusedVariables false
set_option maxRecDepth 100000
section
variable {w0 w w' : World} {g B : Nat} {M : List (Nat × Value)} {L : List Ob} {O : List Rw} {A : Option Addr} {n c : Nat}
theorem Ow.roll (h : Ow w0 w (some g) M L O) (hg : w.grownBy w' (some g)) : Ow w0 w' (some g) M L O := by
  refine ⟨h.st.roll hg, fun i r hi => own_keep (h.own i r hi) hg ?_, h.ap, h.two⟩
  by_cases e : (Value.slice r.A r.n r.c).ownBlock = none
  · exact .inl e
  · exact .inr fun e2 => (h.ap i r hi g e2).1 rfl
theorem Dice.turned (hd : Dice w g B) (hB : B ≤ w0.heap.size) (h : Ow w0 w (some g) M L O) {i : Nat} {r : Rw} (hi : O[i]? = some r) (hg : w.grownBy w' r.blk) : Dice w' g B := by
  have hlt := hd.lt
  obtain ⟨A, n, c, at_, ts, hh, h1, h2, h3, hs, hBg⟩ := hd
  refine ⟨A, n, c, at_, ts, (hg.block g hlt (fun e => (h.ap i r hi g e.symm).1 rfl)).trans hh, h1, h2, h3, hs.keep fun p hp => World.cell?_of_block (hg.block p.block (by omega) (fun e => ?_)), hBg⟩
  have := (h.lt hi e.symm).2
  omega
theorem Dice.set (hd : Dice w g B) (hB : B ≤ w0.heap.size) (h : Ow w0 w (some g) M L O) {i b : Nat} {v : Value} (hi : M[i]? = some (b, v)) (u : Value) : Dice (w.setCell ⟨b, 0, none⟩ u) g B := by
  have hlt := hd.lt
  have hg := grown_set w ⟨b, 0, none⟩ u
  obtain ⟨h1, h2, h3, h4, h5⟩ := h.st.box i b v hi
  obtain ⟨A, n, c, at_, ts, hh, k1, k2, k3, hs, hBg⟩ := hd
  exact ⟨A, n, c, at_, ts, (hg.block g hlt (fun e => h5 e)).trans hh, k1, k2, k3, hs.keep fun p hp => World.cell?_of_block (hg.block p.block (by omega) (fun e => by have := Option.some.inj e; simp only at this; omega)), hBg⟩
end
end Go.Proofs.YtjhaogbopmhkoaaDoor

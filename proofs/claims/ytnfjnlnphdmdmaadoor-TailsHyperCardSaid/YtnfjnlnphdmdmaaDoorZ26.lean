/- Tn TailsHyperW OpenStr TailTab -/
import Derived.Test.YtnfjnlnphdmdmaaDoorZ01
import Derived.Test.YtnfjnlnphdmdmaaDoorZ13
import Derived.Test.YtnfjnlnphdmdmaaDoorZ18
import Derived.Test.YtnfjnlnphdmdmaaDoorZ24
import Derived.Test.YtnfjnlnphdmdmaaDoorZ25
import Derived.WalkKit
import Derived.ProofKit
import Derived.OpenShut
import Derived.Test.YtnfjnlnphdmdmaaDoorRows
import Derived.LaidMore
import Derived.Lay
import Derived.SevenTiedAt
import Derived.Stop.Joined
import Derived.Lib.SmallJoins
namespace Go.Proofs.YtnfjnlnphdmdmaaDoor
open Go.RowKit Go.Sort
set_option linter.unusedVariables false
set_option maxRecDepth 100000
theorem Ow.self {w0 w : World} {g : Option Nat} {M : List (Nat × Value)} {L : List Ob} {O : List Rw} (h : Ow w0 w g M L O) : Ow w w none [] L [] :=
  Ow.of ⟨Below.refl _ _, fun x e => (by cases e), fun i b v h => (by simp at h), fun i j b u v h => (by simp at h), fun o ho => by
    obtain ⟨h1, h2, h3, B, hB, hs, -⟩ := h.st.held o ho
    exact ⟨h1, h2, h3, B, hB, hs, fun ad _ _ => ⟨(by simp), fun i b v h => (by simp at h)⟩⟩⟩
/-- the chance of so many marked ones, or the error -/
def hypF (a b d e : Int) : Nat × Nat × Int := if a < 0 ∨ 4096 < a ∨ b < 0 ∨ a < b ∨ d < 0 ∨ a < d ∨ 40 < d then frE 2 else frM (sumH a.toNat b.toNat d.toNat e.toNat (d.toNat + 1 - e.toNat)) (Na.bin a.toNat d.toNat)
section
variable {w0 w w' : World} {g : Option Nat} {M M2 : List (Nat × Value)} {L : List Ob} {O : List Rw} {A A2 A3 A4 : Option Addr} {b n c m c2 n3 c3 n4 c4 x y : Nat} {p q r s : List Int}
theorem t_hyper_any (h : Ow w0 w g M L O) (a b d e : Int) (ht : Tab w0) (he : e ≤ 9223372036854775807) : Calls Tryd.prog 38 #[.int .i64 a, .int .i64 b, .int .i64 d, .int .i64 e] w (GotF w0 g M L O (hypF a b d e)) := by
  unfold hypF
  by_cases hn : a < 0 ∨ 4096 < a ∨ b < 0 ∨ a < b ∨ d < 0 ∨ a < d ∨ 40 < d
  · rw [if_pos hn]; exact t_hyper_range h a b d e hn
  · rw [if_neg hn]
    obtain ⟨x, rfl⟩ := Int.eq_ofNat_of_zero_le (a := a) (by omega)
    obtain ⟨y, rfl⟩ := Int.eq_ofNat_of_zero_le (a := b) (by omega)
    obtain ⟨z, rfl⟩ := Int.eq_ofNat_of_zero_le (a := d) (by omega)
    exact t_hyper_sum h x y z e ht (by omega) (by omega) (by omega) (by omega) he
theorem r_hyper_any (h : Ow w0 w g M L O) (a b d e : Int) (he : e ≤ 9223372036854775807) : Calls Tryd.prog 39 #[.int .i64 a, .int .i64 b, .int .i64 d, .int .i64 e] w (GotF w0 g M L O (hypF a b d e)) := by
  unfold hypF
  by_cases hn : a < 0 ∨ 4096 < a ∨ b < 0 ∨ a < b ∨ d < 0 ∨ a < d ∨ 40 < d
  · rw [if_pos hn]; exact r_hyper_range h a b d e hn
  · rw [if_neg hn]
    obtain ⟨x, rfl⟩ := Int.eq_ofNat_of_zero_le (a := a) (by omega)
    obtain ⟨y, rfl⟩ := Int.eq_ofNat_of_zero_le (a := b) (by omega)
    obtain ⟨z, rfl⟩ := Int.eq_ofNat_of_zero_le (a := d) (by omega)
    exact r_hyper_sum h x y z e (by omega) (by omega) (by omega) (by omega) he
set_option maxHeartbeats 8000000 in
theorem same23 (h : Ow w0 w g M L O) (i j k l : Nat) (hi : L[i]? = some ⟨A, n, c, ints p⟩) (hj : L[j]? = some ⟨A2, m, c2, ints q⟩) (hk : L[k]? = some ⟨A3, n3, c3, ints p⟩) (hl : L[l]? = some ⟨A4, n4, c4, ints q⟩) (e : Int) :
    Calls Tryd.prog 37 #[.agg #[.slice A n c, .slice A2 m c2], .agg #[.slice A3 n3 c3, .slice A4 n4 c4], .int .i64 e, .int .i64 e] w fun en w' => en = .returned (.bool true) ∧ Ow w0 w' g M L O := by
  have H1 := (h.pair (.slice A n c) (.slice A2 m c2) 28).pair (.slice A3 n3 c3) (.slice A4 n4 c4) 28
  simp only [World.size_alloc, List.append_assoc, List.cons_append, List.nil_append] at H1
  have HF := Lib.hid H1
  have x0 := cell_regrown (H1.p0 (O.length + 0) (by rw [get_r]; rfl))
  have x1 := cell_regrown (H1.p1 (O.length + 0) (by rw [get_r]; rfl))
  have y0 := cell_regrown (H1.p0 (O.length + 1) (by rw [get_r]; rfl))
  have y1 := cell_regrown (H1.p1 (O.length + 1) (by rw [get_r]; rfl))
  obtain ⟨sP, hsP⟩ : ∃ z, str (rprt p q) = z := ⟨_, rfl⟩
  have cP1 := regrown_call (P := Tryd.prog) (w := (w.alloc (.cells #[.slice A n c, .slice A2 m c2] 28)).alloc (.cells #[.slice A3 n3 c3, .slice A4 n4 c4] 28)) (f := 46) (args := #[.agg #[.slice A n c, .slice A2 m c2]]) (v := .string sP) (fun W hW => by rw [← hsP]; exact (qrprint_any (HF.out.go hW).self i j hi hj).mono fun e w h => ⟨h.1, h.2.below⟩)
  have cP2 := regrown_call (P := Tryd.prog) (w := (w.alloc (.cells #[.slice A n c, .slice A2 m c2] 28)).alloc (.cells #[.slice A3 n3 c3, .slice A4 n4 c4] 28)) (f := 46) (args := #[.agg #[.slice A3 n3 c3, .slice A4 n4 c4]]) (v := .string sP) (fun W hW => by rw [← hsP]; exact (qrprint_any (HF.out.go hW).self k l hk hl).mono fun e w h => ⟨h.1, h.2.below⟩)
  have hd : (e == e) = true := beq_self_eq_true e
  clear h H1 hi hj hk hl hsP
  go_enter Tryd.func37, Tryd.ntmps37
  go_upto_region 1 with (fail)
  refine wp_region_quiet_below (by kernel_rfl) (by kernel_rfl) ?_
  repeat (go_big_quiet_step ((first | with_reducible exact cP1 _ _ | with_reducible exact cP2 _ _)))
  refine wpQuiet_nil ?_
  intro W hW
  have HZ := Lib.hid (HF.out.go (regrown_below hW)).fewO
  clear hW x0 x1 y0 y1 cP1 cP2
  go_wp2_with fail
  go_ret
  exact ⟨rfl, HZ.out⟩
end
theorem one_pwc : ∀ c : Nat, pwc (oneC 2) c 0 = 1 ∧ pwc (oneC 2) c 1 = c ∧ pwc (oneC 2) c 2 + c = c * c
  | 0 => ⟨rfl, rfl, rfl⟩
  | c + 1 => by
    obtain ⟨h0, h1, h2⟩ := one_pwc c
    have e0 : pwc (oneC 2) (c + 1) 0 = pwc (oneC 2) c 0 := by
      show cvS (pwc (oneC 2) c) (oneC 2) 0 1 = _
      simp [cvS, oneC, Na.bin]
    have e1 : pwc (oneC 2) (c + 1) 1 = pwc (oneC 2) c 0 + pwc (oneC 2) c 1 := by
      show cvS (pwc (oneC 2) c) (oneC 2) 1 2 = _
      simp [cvS, oneC, Na.bin]
    have e2 : pwc (oneC 2) (c + 1) 2 = 2 * pwc (oneC 2) c 1 + pwc (oneC 2) c 2 := by
      show cvS (pwc (oneC 2) c) (oneC 2) 2 3 = _
      simp [cvS, oneC, Na.bin]
    refine ⟨by rw [e0, h0], by rw [e1, h0, h1]; omega, ?_⟩
    rw [e2, h1, show (c + 1) * (c + 1) = c * c + 2 * c + 1 by rw [Nat.succ_mul, Nat.mul_succ]; omega]
    omega
theorem frM_12 : ofF 1 2 = (1, 2, 0) := by decide +kernel
theorem frM_34 : frM (sumB 2 1 1 1 2) (2 ^ 2) = (3, 4, 0) := by decide +kernel
theorem hyp_16 : hypF 4 2 2 2 = (1, 6, 0) := by decide +kernel
theorem frM_4096 : frM (4096 ^ 2 - pwc (oneC 2) 4096 2) (4096 ^ 2) = (1, 4096, 0) := by
  have h := (one_pwc 4096).2.2
  rw [show pwc (oneC 2) 4096 2 = 16773120 by omega]
  decide +kernel
theorem text_34 : str (De.text 3 ++ 47 :: De.text 4) = ⟨#[51, 47, 52]⟩ := by decide +kernel
theorem text_16 : str (De.text 1 ++ 47 :: De.text 6) = ⟨#[49, 47, 54]⟩ := by decide +kernel
theorem text_4096 : str (De.text 1 ++ 47 :: De.text 4096) = ⟨#[49, 47, 52, 48, 57, 54]⟩ := by decide +kernel
theorem half_frK : FrK 1 2 := ⟨tiny_top (by omega), tiny_top (by omega), by omega, by decide⟩
set_option maxHeartbeats 8000000 in
theorem awake23 (w : World) (ht : Tab w) : Calls Tryd.prog 32 #[] w fun e w' => e = .returned (.bool true) ∧ Below w.heap.size w w' := by
  have HT := Lib.hid ht
  have H0 := Ow.of (St.refl w)
  have HC := Lib.hid (qrof_ow H0 1 2 (by omega) (by omega))
  rw [frM_12] at HC
  clear H0 ht
  go_enter Tryd.func32, Tryd.ntmps32
  go_wp2_with fail
  refine HC.out.mono ?_
  rintro e w1 ⟨A1, n1, c1, A2, n2, c2, rfl, H1⟩
  have H2 := H1.pair (.slice A1 n1 c1) (.slice A2 n2 c2) 28
  simp only [List.nil_append, List.cons_append] at H2
  have a0 := H2.p0 0 rfl
  have a1 := H2.p1 0 rfl
  have hn2 : n2 ≤ 2 := by
    have := (H2.seenL 1 (l := Na.dig 2) rfl).1
    rw [← this]
    exact (Na.dig_len_iff 2 2).2 (by decide)
  have HD := Lib.hid (t_binom_sum H2 0 1 2 1 rfl rfl HT.out (by omega) half_frK (by omega) hn2 (by omega))
  rw [show ((2 : Int).toNat) = 2 from rfl, show ((1 : Int).toNat) = 1 from rfl, show (2 + 1 - 1 : Nat) = 2 from rfl, show (2 - 1 : Nat) = 1 from rfl, frM_34] at HD
  clear HC H1 H2 hn2
  go_wp2_with fail
  refine HD.out.mono ?_
  rintro e w2 ⟨A3, n3, c3, A4, n4, c4, rfl, H3⟩
  have H4 := H3.pair (.slice A3 n3 c3) (.slice A4 n4 c4) 28
  simp only [List.nil_append, List.cons_append] at H4
  have HE := Lib.hid (t_hyper_any H4 4 2 2 2 HT.out (by omega))
  rw [hyp_16] at HE
  clear HD H3 H4 a0 a1
  go_wp2_with fail
  refine HE.out.mono ?_
  rintro e w3 ⟨A5, n5, c5, A6, n6, c6, rfl, H5⟩
  have H6 := H5.pair (.slice A5 n5 c5) (.slice A6 n6 c6) 28
  simp only [List.nil_append, List.cons_append] at H6
  have HD := Lib.hid (t_cells_sum H6 2 4096 2 HT.out (by omega) (by omega) (by omega))
  rw [frM_4096, show ((2 : Nat) : Int) = 2 from rfl, show ((4096 : Nat) : Int) = 4096 from rfl] at HD
  clear HE H5 H6
  go_wp2_with fail
  refine HD.out.mono ?_
  rintro e w4 ⟨A7, n7, c7, A8, n8, c8, rfl, H7⟩
  have H8 := H7.pair (.slice A7 n7 c7) (.slice A8 n8 c8) 28
  simp only [List.nil_append, List.cons_append] at H8
  have a0 := H8.p0 1 rfl
  have a1 := H8.p1 1 rfl
  have HE := Lib.hid (qrprint_ok (x := 3) (y := 4) H8 2 3 rfl rfl (tiny_top (by omega)) (tiny_top (by omega)) (rv_low (tiny_top (by omega)) (tiny_top (by omega)) (by omega) (by decide)))
  rw [text_34] at HE
  clear HD H7 H8
  go_wp2_with fail
  refine HE.out.mono ?_
  rintro e w5 ⟨rfl, H9⟩
  clear a0 a1 HE
  have a0 := H9.p0 2 rfl
  have a1 := H9.p1 2 rfl
  have HE := Lib.hid (qrprint_ok (x := 1) (y := 6) H9 4 5 rfl rfl (tiny_top (by omega)) (tiny_top (by omega)) (rv_low (tiny_top (by omega)) (tiny_top (by omega)) (by omega) (by decide)))
  rw [text_16] at HE
  clear H9
  go_wp2_with fail
  refine HE.out.mono ?_
  rintro e w6 ⟨rfl, H10⟩
  clear a0 a1 HE
  have a0 := H10.p0 3 rfl
  have a1 := H10.p1 3 rfl
  have HE := Lib.hid (qrprint_ok (x := 1) (y := 4096) H10 6 7 rfl rfl (tiny_top (by omega)) (tiny_top (by omega)) (rv_low (tiny_top (by omega)) (tiny_top (by omega)) (by omega) (by decide)))
  rw [text_4096] at HE
  clear H10
  go_wp2_with fail
  refine HE.out.mono ?_
  rintro e w7 ⟨rfl, H11⟩
  have HB := Lib.hid H11.below
  clear HE H11 a0 a1
  go_wp2_with fail
  go_ret
  exact ⟨rfl, HB.out⟩
end Go.Proofs.YtnfjnlnphdmdmaaDoor

namespace Go.Proofs.YtnfjnlnphdmdmaaDoor
open Go.RowKit Go.Sort
set_option linter.unusedVariables false
set_option maxRecDepth 100000
theorem awake23_ow {w0 w : World} {g : Option Nat} {M : List (Nat × Value)} {L : List Ob} {O : List Rw} (h : Ow w0 w g M L O) (ht : Tab w0) : Calls Tryd.prog 32 #[] w fun e w' => e = .returned (.bool true) ∧ Ow w0 w' g M L O :=
  (awake23 w (ht.below h.below)).mono fun e w' hr => ⟨hr.1, h.go hr.2⟩
set_option maxHeartbeats 16000000 in
theorem tailsHyper_any (a b d e : Int) (w : World) (he : e ≤ 9223372036854775807) (ht : Tab w) : Calls Tryd.prog 8 #[.int .i64 a, .int .i64 b, .int .i64 d, .int .i64 e] w fun e w' => e = .returned (.bool true) ∧ Below w.heap.size w w' := by
  have HT := Lib.hid ht
  have H0 := Ow.of (St.refl w)
  obtain ⟨t, htm⟩ : ∃ z, a % 60 = z := ⟨_, rfl⟩
  have ht1 : 0 ≤ t := by omega
  have ht2 : t < 60 := by omega
  obtain ⟨mn, hmn, hmn2⟩ : ∃ z : Int, z = (if t ≤ 40 then t else 40) ∧ 0 ≤ z ∧ z ≤ 40 := ⟨_, rfl, by split <;> omega⟩
  obtain ⟨m, hm⟩ : ∃ z, b % (t + 2) = z := ⟨_, rfl⟩
  obtain ⟨k, hk⟩ : ∃ z, d % (mn + 2) = z := ⟨_, rfl⟩
  obtain ⟨hh, hhh⟩ : ∃ z, e % 45 = z := ⟨_, rfl⟩
  obtain ⟨zz, hzz⟩ : ∃ z, a % 2 = z := ⟨_, rfl⟩
  obtain ⟨mb, hmb⟩ : ∃ z, b % (4096 + zz) = z := ⟨_, rfl⟩
  obtain ⟨kb, hkb⟩ : ∃ z, d % 8 = z := ⟨_, rfl⟩
  have hh1 : 0 ≤ hh ∧ hh < 45 := by omega
  have hz1 : 0 ≤ zz ∧ zz < 2 := by omega
  have hw1 : IntKind.i64.wrap (t + 2) = t + 2 := IntWalk.i64_in _ (by omega)
  have hw2 : IntKind.i64.wrap (mn + 2) = mn + 2 := IntWalk.i64_in _ (by omega)
  have hw3 : IntKind.i64.wrap (hh - 2) = hh - 2 := IntWalk.i64_in _ (by omega)
  have hw4 : IntKind.i64.wrap (4096 + zz) = 4096 + zz := IntWalk.i64_in _ (by omega)
  have hM1 : Hid (∀ w : World, Calls Tryd.prog 33 #[.int .i64 a, .int .i64 60] w fun e w' => e = .returned (.int .i64 t) ∧ w = w') := fun w => by rw [← htm]; exact mod_any a 60 w (by omega) (by omega)
  have hM2 : Hid (∀ w : World, Calls Tryd.prog 33 #[.int .i64 b, .int .i64 (t + 2)] w fun e w' => e = .returned (.int .i64 m) ∧ w = w') := fun w => by rw [← hm]; exact mod_any b (t + 2) w (by omega) (by omega)
  have hM3 : Hid (∀ w : World, Calls Tryd.prog 33 #[.int .i64 d, .int .i64 (mn + 2)] w fun e w' => e = .returned (.int .i64 k) ∧ w = w') := fun w => by rw [← hk]; exact mod_any d (mn + 2) w (by omega) (by omega)
  have hM4 : Hid (∀ w : World, Calls Tryd.prog 33 #[.int .i64 e, .int .i64 45] w fun e w' => e = .returned (.int .i64 hh) ∧ w = w') := fun w => by rw [← hhh]; exact mod_any e 45 w (by omega) (by omega)
  have hM5 : Hid (∀ w : World, Calls Tryd.prog 33 #[.int .i64 a, .int .i64 2] w fun e w' => e = .returned (.int .i64 zz) ∧ w = w') := fun w => by rw [← hzz]; exact mod_any a 2 w (by omega) (by omega)
  have hM6 : Hid (∀ w : World, Calls Tryd.prog 33 #[.int .i64 b, .int .i64 (4096 + zz)] w fun e w' => e = .returned (.int .i64 mb) ∧ w = w') := fun w => by rw [← hmb]; exact mod_any b (4096 + zz) w (by omega) (by omega)
  have hM7 : Hid (∀ w : World, Calls Tryd.prog 33 #[.int .i64 d, .int .i64 8] w fun e w' => e = .returned (.int .i64 kb) ∧ w = w') := fun w => by rw [← hkb]; exact mod_any d 8 w (by omega) (by omega)
  obtain ⟨t1, e1⟩ : ∃ z, hypF a b d e = z := ⟨_, rfl⟩
  obtain ⟨t2, e2⟩ : ∃ z, hypF t m k (hh - 2) = z := ⟨_, rfl⟩
  obtain ⟨t3, e3⟩ : ∃ z, hypF (4096 + zz) mb kb 1 = z := ⟨_, rfl⟩
  have HE : Hid (hypF a b d e = t1 ∧ hypF t m k (hh - 2) = t2 ∧ hypF (4096 + zz) mb kb 1 = t3 ∧ e ≤ 9223372036854775807 ∧ hh - 2 ≤ 9223372036854775807) := ⟨e1, e2, e3, he, by omega⟩
  clear ht e1 e2 e3 htm hm hk hhh hzz hmb hkb ht1 ht2 hh1 hz1 hmn2 he
  go_enter Tryd.func8, Tryd.ntmps8
  rcases Int.lt_or_le 40 t with h40 | h40
  · have hmn3 : mn = 40 := by rw [hmn, if_neg (by omega)]
    subst hmn3
    clear hmn
    have hM3 : Hid (∀ w : World, Calls Tryd.prog 33 #[.int .i64 d, .int .i64 42] w fun e w' => e = .returned (.int .i64 k) ∧ w = w') := hM3.out
    have hd40 : decide ((40 : Int) < t) = true := decide_eq_true h40
    have HC := Lib.hid (t_hyper_any H0 a b d e HT.out HE.out.2.2.2.1)
    rw [HE.out.1] at HC
    clear H0
    go_wp2_with (go_at_call 33; ((first | (with_reducible refine (hM1.out _).mono ?_) | (with_reducible refine (hM2.out _).mono ?_) | (with_reducible refine (hM3.out _).mono ?_) | (with_reducible refine (hM4.out _).mono ?_) | (with_reducible refine (hM5.out _).mono ?_) | (with_reducible refine (hM6.out _).mono ?_) | (with_reducible refine (hM7.out _).mono ?_)); rintro e w' ⟨rfl, rfl⟩))
    refine HC.out.mono ?_
    rintro e w3 ⟨A1, n1, c1, A2, n2, c2, rfl, G⟩
    clear HC
    have H3 := G.pair (.slice A1 n1 c1) (.slice A2 n2 c2) 28
    simp only [List.nil_append, List.cons_append] at H3
    clear G
    have HC := Lib.hid (r_hyper_any H3 a b d e HE.out.2.2.2.1)
    rw [HE.out.1] at HC
    clear H3
    go_wp2_with (go_at_call 33; ((first | (with_reducible refine (hM1.out _).mono ?_) | (with_reducible refine (hM2.out _).mono ?_) | (with_reducible refine (hM3.out _).mono ?_) | (with_reducible refine (hM4.out _).mono ?_) | (with_reducible refine (hM5.out _).mono ?_) | (with_reducible refine (hM6.out _).mono ?_) | (with_reducible refine (hM7.out _).mono ?_)); rintro e w' ⟨rfl, rfl⟩))
    refine HC.out.mono ?_
    rintro e w4 ⟨A3, n3, c3, A4, n4, c4, rfl, G⟩
    clear HC
    have H4 := G.pair (.slice A3 n3 c3) (.slice A4 n4 c4) 28
    simp only [List.nil_append, List.cons_append] at H4
    clear G
    have HC := Lib.hid (t_hyper_any H4 t m k (hh - 2) HT.out HE.out.2.2.2.2)
    rw [HE.out.2.1] at HC
    clear H4
    go_wp2_with (go_at_call 33; ((first | (with_reducible refine (hM1.out _).mono ?_) | (with_reducible refine (hM2.out _).mono ?_) | (with_reducible refine (hM3.out _).mono ?_) | (with_reducible refine (hM4.out _).mono ?_) | (with_reducible refine (hM5.out _).mono ?_) | (with_reducible refine (hM6.out _).mono ?_) | (with_reducible refine (hM7.out _).mono ?_)); rintro e w' ⟨rfl, rfl⟩))
    refine HC.out.mono ?_
    rintro e w5 ⟨A5, n5, c5, A6, n6, c6, rfl, G⟩
    clear HC
    have H5 := G.pair (.slice A5 n5 c5) (.slice A6 n6 c6) 28
    simp only [List.nil_append, List.cons_append] at H5
    clear G
    have HC := Lib.hid (r_hyper_any H5 t m k (hh - 2) HE.out.2.2.2.2)
    rw [HE.out.2.1] at HC
    clear H5
    go_wp2_with (go_at_call 33; ((first | (with_reducible refine (hM1.out _).mono ?_) | (with_reducible refine (hM2.out _).mono ?_) | (with_reducible refine (hM3.out _).mono ?_) | (with_reducible refine (hM4.out _).mono ?_) | (with_reducible refine (hM5.out _).mono ?_) | (with_reducible refine (hM6.out _).mono ?_) | (with_reducible refine (hM7.out _).mono ?_)); rintro e w' ⟨rfl, rfl⟩))
    refine HC.out.mono ?_
    rintro e w6 ⟨A7, n7, c7, A8, n8, c8, rfl, G⟩
    clear HC
    have H6 := G.pair (.slice A7 n7 c7) (.slice A8 n8 c8) 28
    simp only [List.nil_append, List.cons_append] at H6
    clear G
    have HC := Lib.hid (t_hyper_any H6 (4096 + zz) mb kb 1 HT.out (by omega))
    rw [HE.out.2.2.1] at HC
    clear H6
    go_wp2_with (go_at_call 33; ((first | (with_reducible refine (hM1.out _).mono ?_) | (with_reducible refine (hM2.out _).mono ?_) | (with_reducible refine (hM3.out _).mono ?_) | (with_reducible refine (hM4.out _).mono ?_) | (with_reducible refine (hM5.out _).mono ?_) | (with_reducible refine (hM6.out _).mono ?_) | (with_reducible refine (hM7.out _).mono ?_)); rintro e w' ⟨rfl, rfl⟩))
    refine HC.out.mono ?_
    rintro e w7 ⟨A9, n9, c9, A10, n10, c10, rfl, G⟩
    clear HC
    have H7 := G.pair (.slice A9 n9 c9) (.slice A10 n10 c10) 28
    simp only [List.nil_append, List.cons_append] at H7
    clear G
    have HC := Lib.hid (r_hyper_any H7 (4096 + zz) mb kb 1 (by omega))
    rw [HE.out.2.2.1] at HC
    clear H7
    go_wp2_with (go_at_call 33; ((first | (with_reducible refine (hM1.out _).mono ?_) | (with_reducible refine (hM2.out _).mono ?_) | (with_reducible refine (hM3.out _).mono ?_) | (with_reducible refine (hM4.out _).mono ?_) | (with_reducible refine (hM5.out _).mono ?_) | (with_reducible refine (hM6.out _).mono ?_) | (with_reducible refine (hM7.out _).mono ?_)); rintro e w' ⟨rfl, rfl⟩))
    refine HC.out.mono ?_
    rintro e w8 ⟨A11, n11, c11, A12, n12, c12, rfl, G⟩
    clear HC
    have H8 := G.pair (.slice A11 n11 c11) (.slice A12 n12 c12) 28
    simp only [List.nil_append, List.cons_append] at H8
    clear G
    have a0 := H8.p0 0 rfl
    have a1 := H8.p1 0 rfl
    have b0 := H8.p0 1 rfl
    have b1 := H8.p1 1 rfl
    have HC := Lib.hid (same23 (p := Na.up (Na.dig t1.1)) (q := Na.up (Na.dig t1.2.1)) H8 0 1 2 3 (by rw [nats_up]; rfl) (by rw [nats_up]; rfl) (by rw [nats_up]; rfl) (by rw [nats_up]; rfl) t1.2.2)
    clear H8
    go_wp2_with (go_at_call 33; ((first | (with_reducible refine (hM1.out _).mono ?_) | (with_reducible refine (hM2.out _).mono ?_) | (with_reducible refine (hM3.out _).mono ?_) | (with_reducible refine (hM4.out _).mono ?_) | (with_reducible refine (hM5.out _).mono ?_) | (with_reducible refine (hM6.out _).mono ?_) | (with_reducible refine (hM7.out _).mono ?_)); rintro e w' ⟨rfl, rfl⟩))
    refine HC.out.mono ?_
    rintro e w9 ⟨rfl, G⟩
    clear a0 a1 b0 b1 HC
    have H9 := G
    clear G
    have a0 := H9.p0 2 rfl
    have a1 := H9.p1 2 rfl
    have b0 := H9.p0 3 rfl
    have b1 := H9.p1 3 rfl
    have HC := Lib.hid (same23 (p := Na.up (Na.dig t2.1)) (q := Na.up (Na.dig t2.2.1)) H9 4 5 6 7 (by rw [nats_up]; rfl) (by rw [nats_up]; rfl) (by rw [nats_up]; rfl) (by rw [nats_up]; rfl) t2.2.2)
    clear H9
    go_wp2_with (go_at_call 33; ((first | (with_reducible refine (hM1.out _).mono ?_) | (with_reducible refine (hM2.out _).mono ?_) | (with_reducible refine (hM3.out _).mono ?_) | (with_reducible refine (hM4.out _).mono ?_) | (with_reducible refine (hM5.out _).mono ?_) | (with_reducible refine (hM6.out _).mono ?_) | (with_reducible refine (hM7.out _).mono ?_)); rintro e w' ⟨rfl, rfl⟩))
    refine HC.out.mono ?_
    rintro e w10 ⟨rfl, G⟩
    clear a0 a1 b0 b1 HC
    have H10 := G
    clear G
    have a0 := H10.p0 4 rfl
    have a1 := H10.p1 4 rfl
    have b0 := H10.p0 5 rfl
    have b1 := H10.p1 5 rfl
    have HC := Lib.hid (same23 (p := Na.up (Na.dig t3.1)) (q := Na.up (Na.dig t3.2.1)) H10 8 9 10 11 (by rw [nats_up]; rfl) (by rw [nats_up]; rfl) (by rw [nats_up]; rfl) (by rw [nats_up]; rfl) t3.2.2)
    clear H10
    go_wp2_with (go_at_call 33; ((first | (with_reducible refine (hM1.out _).mono ?_) | (with_reducible refine (hM2.out _).mono ?_) | (with_reducible refine (hM3.out _).mono ?_) | (with_reducible refine (hM4.out _).mono ?_) | (with_reducible refine (hM5.out _).mono ?_) | (with_reducible refine (hM6.out _).mono ?_) | (with_reducible refine (hM7.out _).mono ?_)); rintro e w' ⟨rfl, rfl⟩))
    refine HC.out.mono ?_
    rintro e w11 ⟨rfl, G⟩
    clear a0 a1 b0 b1 HC
    have H11 := G
    clear G
    have HC := Lib.hid (awake23_ow H11 HT.out)
    clear H11
    go_wp2_with (go_at_call 33; ((first | (with_reducible refine (hM1.out _).mono ?_) | (with_reducible refine (hM2.out _).mono ?_) | (with_reducible refine (hM3.out _).mono ?_) | (with_reducible refine (hM4.out _).mono ?_) | (with_reducible refine (hM5.out _).mono ?_) | (with_reducible refine (hM6.out _).mono ?_) | (with_reducible refine (hM7.out _).mono ?_)); rintro e w' ⟨rfl, rfl⟩))
    refine HC.out.mono ?_
    rintro e w12 ⟨rfl, G⟩
    clear HC
    have H12 := G
    clear G
    have HB := Lib.hid H12.below
    clear H12
    go_wp2_with fail
    go_ret
    exact ⟨rfl, HB.out⟩
  · have hmn3 : t = mn := by rw [hmn, if_pos (by omega)]
    subst hmn3
    clear hmn
    have hn40 : ¬ (40 : Int) < t := by omega
    have hd40 : decide ((40 : Int) < t) = false := decide_eq_false hn40
    have HC := Lib.hid (t_hyper_any H0 a b d e HT.out HE.out.2.2.2.1)
    rw [HE.out.1] at HC
    clear H0
    go_wp2_with (go_at_call 33; ((first | (with_reducible refine (hM1.out _).mono ?_) | (with_reducible refine (hM2.out _).mono ?_) | (with_reducible refine (hM3.out _).mono ?_) | (with_reducible refine (hM4.out _).mono ?_) | (with_reducible refine (hM5.out _).mono ?_) | (with_reducible refine (hM6.out _).mono ?_) | (with_reducible refine (hM7.out _).mono ?_)); rintro e w' ⟨rfl, rfl⟩))
    refine HC.out.mono ?_
    rintro e w3 ⟨A1, n1, c1, A2, n2, c2, rfl, G⟩
    clear HC
    have H3 := G.pair (.slice A1 n1 c1) (.slice A2 n2 c2) 28
    simp only [List.nil_append, List.cons_append] at H3
    clear G
    have HC := Lib.hid (r_hyper_any H3 a b d e HE.out.2.2.2.1)
    rw [HE.out.1] at HC
    clear H3
    go_wp2_with (go_at_call 33; ((first | (with_reducible refine (hM1.out _).mono ?_) | (with_reducible refine (hM2.out _).mono ?_) | (with_reducible refine (hM3.out _).mono ?_) | (with_reducible refine (hM4.out _).mono ?_) | (with_reducible refine (hM5.out _).mono ?_) | (with_reducible refine (hM6.out _).mono ?_) | (with_reducible refine (hM7.out _).mono ?_)); rintro e w' ⟨rfl, rfl⟩))
    refine HC.out.mono ?_
    rintro e w4 ⟨A3, n3, c3, A4, n4, c4, rfl, G⟩
    clear HC
    have H4 := G.pair (.slice A3 n3 c3) (.slice A4 n4 c4) 28
    simp only [List.nil_append, List.cons_append] at H4
    clear G
    have HC := Lib.hid (t_hyper_any H4 t m k (hh - 2) HT.out HE.out.2.2.2.2)
    rw [HE.out.2.1] at HC
    clear H4
    go_wp2_with (go_at_call 33; ((first | (with_reducible refine (hM1.out _).mono ?_) | (with_reducible refine (hM2.out _).mono ?_) | (with_reducible refine (hM3.out _).mono ?_) | (with_reducible refine (hM4.out _).mono ?_) | (with_reducible refine (hM5.out _).mono ?_) | (with_reducible refine (hM6.out _).mono ?_) | (with_reducible refine (hM7.out _).mono ?_)); rintro e w' ⟨rfl, rfl⟩))
    refine HC.out.mono ?_
    rintro e w5 ⟨A5, n5, c5, A6, n6, c6, rfl, G⟩
    clear HC
    have H5 := G.pair (.slice A5 n5 c5) (.slice A6 n6 c6) 28
    simp only [List.nil_append, List.cons_append] at H5
    clear G
    have HC := Lib.hid (r_hyper_any H5 t m k (hh - 2) HE.out.2.2.2.2)
    rw [HE.out.2.1] at HC
    clear H5
    go_wp2_with (go_at_call 33; ((first | (with_reducible refine (hM1.out _).mono ?_) | (with_reducible refine (hM2.out _).mono ?_) | (with_reducible refine (hM3.out _).mono ?_) | (with_reducible refine (hM4.out _).mono ?_) | (with_reducible refine (hM5.out _).mono ?_) | (with_reducible refine (hM6.out _).mono ?_) | (with_reducible refine (hM7.out _).mono ?_)); rintro e w' ⟨rfl, rfl⟩))
    refine HC.out.mono ?_
    rintro e w6 ⟨A7, n7, c7, A8, n8, c8, rfl, G⟩
    clear HC
    have H6 := G.pair (.slice A7 n7 c7) (.slice A8 n8 c8) 28
    simp only [List.nil_append, List.cons_append] at H6
    clear G
    have HC := Lib.hid (t_hyper_any H6 (4096 + zz) mb kb 1 HT.out (by omega))
    rw [HE.out.2.2.1] at HC
    clear H6
    go_wp2_with (go_at_call 33; ((first | (with_reducible refine (hM1.out _).mono ?_) | (with_reducible refine (hM2.out _).mono ?_) | (with_reducible refine (hM3.out _).mono ?_) | (with_reducible refine (hM4.out _).mono ?_) | (with_reducible refine (hM5.out _).mono ?_) | (with_reducible refine (hM6.out _).mono ?_) | (with_reducible refine (hM7.out _).mono ?_)); rintro e w' ⟨rfl, rfl⟩))
    refine HC.out.mono ?_
    rintro e w7 ⟨A9, n9, c9, A10, n10, c10, rfl, G⟩
    clear HC
    have H7 := G.pair (.slice A9 n9 c9) (.slice A10 n10 c10) 28
    simp only [List.nil_append, List.cons_append] at H7
    clear G
    have HC := Lib.hid (r_hyper_any H7 (4096 + zz) mb kb 1 (by omega))
    rw [HE.out.2.2.1] at HC
    clear H7
    go_wp2_with (go_at_call 33; ((first | (with_reducible refine (hM1.out _).mono ?_) | (with_reducible refine (hM2.out _).mono ?_) | (with_reducible refine (hM3.out _).mono ?_) | (with_reducible refine (hM4.out _).mono ?_) | (with_reducible refine (hM5.out _).mono ?_) | (with_reducible refine (hM6.out _).mono ?_) | (with_reducible refine (hM7.out _).mono ?_)); rintro e w' ⟨rfl, rfl⟩))
    refine HC.out.mono ?_
    rintro e w8 ⟨A11, n11, c11, A12, n12, c12, rfl, G⟩
    clear HC
    have H8 := G.pair (.slice A11 n11 c11) (.slice A12 n12 c12) 28
    simp only [List.nil_append, List.cons_append] at H8
    clear G
    have a0 := H8.p0 0 rfl
    have a1 := H8.p1 0 rfl
    have b0 := H8.p0 1 rfl
    have b1 := H8.p1 1 rfl
    have HC := Lib.hid (same23 (p := Na.up (Na.dig t1.1)) (q := Na.up (Na.dig t1.2.1)) H8 0 1 2 3 (by rw [nats_up]; rfl) (by rw [nats_up]; rfl) (by rw [nats_up]; rfl) (by rw [nats_up]; rfl) t1.2.2)
    clear H8
    go_wp2_with (go_at_call 33; ((first | (with_reducible refine (hM1.out _).mono ?_) | (with_reducible refine (hM2.out _).mono ?_) | (with_reducible refine (hM3.out _).mono ?_) | (with_reducible refine (hM4.out _).mono ?_) | (with_reducible refine (hM5.out _).mono ?_) | (with_reducible refine (hM6.out _).mono ?_) | (with_reducible refine (hM7.out _).mono ?_)); rintro e w' ⟨rfl, rfl⟩))
    refine HC.out.mono ?_
    rintro e w9 ⟨rfl, G⟩
    clear a0 a1 b0 b1 HC
    have H9 := G
    clear G
    have a0 := H9.p0 2 rfl
    have a1 := H9.p1 2 rfl
    have b0 := H9.p0 3 rfl
    have b1 := H9.p1 3 rfl
    have HC := Lib.hid (same23 (p := Na.up (Na.dig t2.1)) (q := Na.up (Na.dig t2.2.1)) H9 4 5 6 7 (by rw [nats_up]; rfl) (by rw [nats_up]; rfl) (by rw [nats_up]; rfl) (by rw [nats_up]; rfl) t2.2.2)
    clear H9
    go_wp2_with (go_at_call 33; ((first | (with_reducible refine (hM1.out _).mono ?_) | (with_reducible refine (hM2.out _).mono ?_) | (with_reducible refine (hM3.out _).mono ?_) | (with_reducible refine (hM4.out _).mono ?_) | (with_reducible refine (hM5.out _).mono ?_) | (with_reducible refine (hM6.out _).mono ?_) | (with_reducible refine (hM7.out _).mono ?_)); rintro e w' ⟨rfl, rfl⟩))
    refine HC.out.mono ?_
    rintro e w10 ⟨rfl, G⟩
    clear a0 a1 b0 b1 HC
    have H10 := G
    clear G
    have a0 := H10.p0 4 rfl
    have a1 := H10.p1 4 rfl
    have b0 := H10.p0 5 rfl
    have b1 := H10.p1 5 rfl
    have HC := Lib.hid (same23 (p := Na.up (Na.dig t3.1)) (q := Na.up (Na.dig t3.2.1)) H10 8 9 10 11 (by rw [nats_up]; rfl) (by rw [nats_up]; rfl) (by rw [nats_up]; rfl) (by rw [nats_up]; rfl) t3.2.2)
    clear H10
    go_wp2_with (go_at_call 33; ((first | (with_reducible refine (hM1.out _).mono ?_) | (with_reducible refine (hM2.out _).mono ?_) | (with_reducible refine (hM3.out _).mono ?_) | (with_reducible refine (hM4.out _).mono ?_) | (with_reducible refine (hM5.out _).mono ?_) | (with_reducible refine (hM6.out _).mono ?_) | (with_reducible refine (hM7.out _).mono ?_)); rintro e w' ⟨rfl, rfl⟩))
    refine HC.out.mono ?_
    rintro e w11 ⟨rfl, G⟩
    clear a0 a1 b0 b1 HC
    have H11 := G
    clear G
    have HC := Lib.hid (awake23_ow H11 HT.out)
    clear H11
    go_wp2_with (go_at_call 33; ((first | (with_reducible refine (hM1.out _).mono ?_) | (with_reducible refine (hM2.out _).mono ?_) | (with_reducible refine (hM3.out _).mono ?_) | (with_reducible refine (hM4.out _).mono ?_) | (with_reducible refine (hM5.out _).mono ?_) | (with_reducible refine (hM6.out _).mono ?_) | (with_reducible refine (hM7.out _).mono ?_)); rintro e w' ⟨rfl, rfl⟩))
    refine HC.out.mono ?_
    rintro e w12 ⟨rfl, G⟩
    clear HC
    have H12 := G
    clear G
    have HB := Lib.hid H12.below
    clear H12
    go_wp2_with fail
    go_ret
    exact ⟨rfl, HB.out⟩
end Go.Proofs.YtnfjnlnphdmdmaaDoor

namespace Go.Proofs.YtnfjnlnphdmdmaaDoor
open Go.ChangeShapes Go.WideShapes Go.ChangeAt Go.RowKit
theorem i64_le {n : Int} (h : (Lit.int .i64 n).wf = true) : n ≤ 9223372036854775807 := by
  simp [Lit.wf, IntKind.min, IntKind.max, IntKind.bits, IntKind.signed] at h
  omega
end Go.Proofs.YtnfjnlnphdmdmaaDoor

namespace Go.Proofs.YtnfjnlnphdmdmaaDoor
open Go.ChangeShapes Go.WideShapes Go.ChangeAt Go.RowKit
set_option linter.unusedVariables false
set_option maxRecDepth 100000
theorem tab_of {W : World} (h : laidMetH Tryd.prog Rows.tailsHyperRow.laid W) : Tab W := by
  rw [MakeChecks.laidMetH_plain _ _ _ (by kernel_rfl)] at h
  obtain ⟨ps, ⟨g, t, cs, fuel, p, q, hg, ht, hv, hd, _, _⟩, _⟩ := h
  obtain rfl := Option.some.inj ((show Tryd.prog.globalNamed "math/bits.deBruijn64tab" = some 0 by kernel_rfl).symm.trans hg)
  obtain rfl := Option.some.inj ((show (Tryd.prog.globals[0]?).map (·.type) = some 142 by kernel_rfl).symm.trans ht)
  obtain ⟨xs, m, _, ex, _, hl, hel⟩ := DataW.trod_array Tryd.underlying142 hd
  have c5 : Tryd.prog.cellsOf 5 = 1 := by kernel_rfl
  have hlen : Lib.deBruijn64tab.length = 64 := by kernel_rfl
  have e3 : (xs.map (·.1)) = Lib.deBruijn64tab.map fun n : Nat => .lit (.int .u8 (n : Int)) := (DataW.agg.inj (Prod.mk.inj ex).1).symm
  have hcell : ∀ k v : Nat, Lib.deBruijn64tab[k]? = some v → W.cell? ⟨0, k, none⟩ = some (.int .u8 (v : Int)) := by
    intro r v hr
    have hr64 : r < 64 := by
      rcases Nat.lt_or_ge r 64 with h | h
      · exact h
      · rw [List.getElem?_eq_none (by omega)] at hr; cases hr
    have hE := hel r hr64
    rw [c5, Nat.mul_one, List.getElem?_eq_getElem (by omega)] at hE
    obtain ⟨z, e1, e2, _⟩ := DataW.trod_int Tryd.underlying5 hE
    have e4 : (xs.map (·.1))[r]? = (Lib.deBruijn64tab.map fun n : Nat => (DataW.lit (.int .u8 (n : Int)) : DataW Unit))[r]? := by rw [e3]
    rw [List.getElem?_map, List.getElem?_map, List.getElem?_eq_getElem (by omega : r < xs.length), hr, e2] at e4
    have hz : z = (v : Int) := by
      simp only [Option.map_some, Option.some.injEq, DataW.lit.injEq, Lit.int.injEq, true_and] at e4
      exact e4
    rw [World.var?_cell hg hv r, ← hz]
    have : cs.toList[r]? = some (.int .u8 z) := by
      have h0 : ((cs.toList.drop r).take 1)[0]? = some (.int .u8 z) := by rw [e1]; rfl
      simpa using h0
    simpa using this
  refine ⟨?_, hcell⟩
  have h0 := hcell 0 0 (by kernel_rfl)
  rcases Nat.eq_zero_or_pos W.heap.size with h | h
  · exfalso
    unfold World.cell? at h0
    rw [Array.getElem?_eq_none (by simp only; omega)] at h0
    cases h0
  · exact h
end Go.Proofs.YtnfjnlnphdmdmaaDoor

/- To TailsHyperW TailsBinomialW LawKit OpenSl OpenStr OpenRat TailTab -/
import Derived.Test.YtnfjnlnphdmdmaaDoorY01
import Derived.Test.YtnfjnlnphdmdmaaDoorY13
import Derived.Test.YtnfjnlnphdmdmaaDoorY24
import Derived.Test.YtnfjnlnphdmdmaaDoorY25
import Derived.WalkKit
import Derived.ProofKit
import Derived.OpenShut
import Derived.Below
import Derived.Carry
import Derived.Test.YtnfjnlnphdmdmaaDoorRows
import Derived.LaidMore
import Derived.Lay
import Derived.SevenTiedAt
import Derived.Stop.Joined
import Derived.Lib.SmallJoins
namespace Go.Proofs.YtnfjnlnphdmdmaaDoor
open Go.RowKit Go.Sort
set_option linter.unusedVariables false
set_option maxRecDepth 100000
/-- the chance of so many hits, or the error -/
def binF (nn hits : Int) (p q : List Int) : Nat × Nat × Int := if nn < 0 ∨ 40 < nn then frE 2 else if rv p q = false then frE 1 else if num q < num p then frE 1 else if 2 < q.length then frE 3 else frM (sumB nn.toNat (num p) (num q - num p) hits.toNat (nn.toNat + 1 - hits.toNat)) (num q ^ nn.toNat)
section
variable {w0 w w' : World} {g : Option Nat} {M M2 : List (Nat × Value)} {L : List Ob} {O : List Rw} {A A2 A3 A4 : Option Addr} {b n c m c2 n3 c3 n4 c4 x y : Nat} {p q r s : List Int}
theorem ints_len (h : Ow w0 w g M L O) (j : Nat) (hj : L[j]? = some ⟨A2, m, c2, ints q⟩) : q.length = m := by
  have := (h.sl hj).1
  simpa [ints] using this
theorem t_binom_any (h : Ow w0 w g M L O) (i j : Nat) (nn hits : Int) (hi : L[i]? = some ⟨A, n, c, ints p⟩) (hj : L[j]? = some ⟨A2, m, c2, ints q⟩) (ht : Tab w0) (hh : hits ≤ 9223372036854775807) : Calls Tryd.prog 35 #[.int .i64 nn, .int .i64 hits, .agg #[.slice A n c, .slice A2 m c2]] w (GotF w0 g M L O (binF nn hits p q)) := by
  have hlen := ints_len h j hj
  unfold binF
  by_cases h1 : nn < 0 ∨ 40 < nn
  · rw [if_pos h1]; exact t_binom_range h i j nn hits hi hj ht h1
  · rw [if_neg h1]
    have h1' : 0 ≤ nn ∧ nn ≤ 40 := by omega
    cases hb : rv p q with
    | false => rw [if_pos rfl]; exact t_binom_bad h i j nn hits hi hj ht h1' hb
    | true =>
      rw [if_neg (by decide)]
      obtain ⟨x, y, hx, hy, h0, hg, rfl, rfl⟩ := rv_ex hb
      have F : FrK x y := ⟨hx, hy, h0, hg⟩
      rw [num_dig, num_dig]
      by_cases h2 : y < x
      · rw [if_pos h2]; exact t_binom_big h i j nn hits (nats_lay hi) (nats_lay hj) ht h1' F h2
      · rw [if_neg h2]
        by_cases h3 : 2 < (Na.up (Na.dig y)).length
        · rw [if_pos h3]; exact t_binom_long h i j nn hits (nats_lay hi) (nats_lay hj) ht h1' F (by omega) (by omega)
        · rw [if_neg h3]; exact t_binom_sum h i j nn hits (nats_lay hi) (nats_lay hj) ht h1' F (by omega) (by omega) hh
theorem r_binom_any (h : Ow w0 w g M L O) (i j : Nat) (nn hits : Int) (hi : L[i]? = some ⟨A, n, c, ints p⟩) (hj : L[j]? = some ⟨A2, m, c2, ints q⟩) (hh : hits ≤ 9223372036854775807) : Calls Tryd.prog 36 #[.int .i64 nn, .int .i64 hits, .agg #[.slice A n c, .slice A2 m c2]] w (GotF w0 g M L O (binF nn hits p q)) := by
  have hlen := ints_len h j hj
  unfold binF
  by_cases h1 : nn < 0 ∨ 40 < nn
  · rw [if_pos h1]; exact r_binom_range h i j nn hits hi hj h1
  · rw [if_neg h1]
    have h1' : 0 ≤ nn ∧ nn ≤ 40 := by omega
    cases hb : rv p q with
    | false => rw [if_pos rfl]; exact r_binom_bad h i j nn hits hi hj h1' hb
    | true =>
      rw [if_neg (by decide)]
      obtain ⟨x, y, hx, hy, h0, hg, rfl, rfl⟩ := rv_ex hb
      have F : FrK x y := ⟨hx, hy, h0, hg⟩
      rw [num_dig, num_dig]
      by_cases h2 : y < x
      · rw [if_pos h2]; exact r_binom_big h i j nn hits (nats_lay hi) (nats_lay hj) h1' F h2
      · rw [if_neg h2]
        by_cases h3 : 2 < (Na.up (Na.dig y)).length
        · rw [if_pos h3]; exact r_binom_long h i j nn hits (nats_lay hi) (nats_lay hj) h1' F (by omega) (by omega)
        · rw [if_neg h3]; exact r_binom_sum h i j nn hits (nats_lay hi) (nats_lay hj) h1' F (by omega) (by omega) hh
theorem fraction_ex (a b : Int) : ∃ x y, ofF (a % 4096) (1 + b % 4096) = (x, y, 0) ∧ FrK x y ∧ x ≤ 4095 ∧ y ≤ 4096 := by
  obtain ⟨n, d, h1, h2, h3, h4, h5⟩ := FrK.of (x := (a % 4096).toNat) (y := (1 + b % 4096).toNat) (tiny_top (by omega)) (tiny_top (by omega)) (by omega)
  refine ⟨n, d, ?_, h2, by omega, by omega⟩
  unfold ofF
  rw [if_neg (by omega)]
  exact h1
set_option maxHeartbeats 4000000 in
theorem fraction23 (h : Ow w0 w g M L O) (a b : Int) : Calls Tryd.prog 34 #[.int .i64 a, .int .i64 b] w fun e w' => ∃ (C1 : Option Addr) (k1 e1 : Nat) (C2 : Option Addr) (k2 e2 x y : Nat), e = .returned (.agg #[.slice C1 k1 e1, .slice C2 k2 e2]) ∧ FrK x y ∧ x ≤ 4095 ∧ y ≤ 4096 ∧ Ow w0 w' g M (L ++ [⟨C1, k1, e1, nats (Na.dig x)⟩] ++ [⟨C2, k2, e2, nats (Na.dig y)⟩]) O := by
  obtain ⟨x, y, h1, h2, h3, h4⟩ := fraction_ex a b
  obtain ⟨i, hi⟩ : ∃ z, a % 4096 = z := ⟨_, rfl⟩
  obtain ⟨k, hk⟩ : ∃ z, b % 4096 = z := ⟨_, rfl⟩
  have hk1 : 0 ≤ k ∧ k < 4096 := by omega
  have hi1 : 0 ≤ i ∧ i < 4096 := by omega
  have hM1 : Hid (∀ w : World, Calls Tryd.prog 33 #[.int .i64 a, .int .i64 4096] w fun e w' => e = .returned (.int .i64 i) ∧ w = w') := fun w => by rw [← hi]; exact mod_any a 4096 w (by omega) (by omega)
  have hM2 : Hid (∀ w : World, Calls Tryd.prog 33 #[.int .i64 b, .int .i64 4096] w fun e w' => e = .returned (.int .i64 k) ∧ w = w') := fun w => by rw [← hk]; exact mod_any b 4096 w (by omega) (by omega)
  rw [hi, hk] at h1
  have hw : IntKind.i64.wrap (1 + k) = 1 + k := IntWalk.i64_in _ (by omega)
  have H := h.pair (.slice none 0 0) (.slice none 0 0) 28
  have HC := Lib.hid (qrof_ow H i (1 + k) (by omega) (by omega))
  rw [h1] at HC
  have HX : Hid (FrK x y ∧ x ≤ 4095 ∧ y ≤ 4096) := ⟨h2, h3, h4⟩
  clear h H h1 h2 h3 h4 hi hk hk1 hi1
  go_enter Tryd.func34, Tryd.ntmps34
  go_wp2_with (go_at_call 33; ((first | (with_reducible refine (hM1.out _).mono ?_) | (with_reducible refine (hM2.out _).mono ?_)); rintro e w' ⟨rfl, rfl⟩))
  refine HC.out.mono ?_
  rintro e w1 ⟨C1, k1, e1, C2, k2, e2, rfl, G⟩
  have H1 := G.pair (.slice C1 k1 e1) (.slice C2 k2 e2) 28
  simp only [List.append_assoc O, List.nil_append, List.cons_append] at H1
  clear HC G
  have x0 := H1.p0 (O.length + 1) (by rw [get_r]; rfl)
  have x1 := H1.p1 (O.length + 1) (by rw [get_r]; rfl)
  have z0 := H1.p0 (O.length + 0) (by rw [get_r]; rfl)
  have z1 := H1.p1 (O.length + 0) (by rw [get_r]; rfl)
  have f0 := H1.pf (O.length + 0) (by rw [get_r]; rfl) 0
  have f1 := H1.pf (O.length + 0) (by rw [get_r]; rfl) 1
  have Z3 := H1.set0 (O.length + 0) (by rw [get_r]; rfl) (.slice C1 k1 e1)
  rw [set_r] at Z3
  simp only [List.set_cons_zero] at Z3
  have Z4 := Z3.set1 (O.length + 0) (by rw [get_r]; rfl) (.slice C2 k2 e2)
  rw [set_r] at Z4
  simp only [List.set_cons_zero] at Z4
  have r0 := Z4.p0 (O.length + 0) (by rw [get_r]; rfl)
  have r1 := Z4.p1 (O.length + 0) (by rw [get_r]; rfl)
  have HF := Lib.hid Z4.fewO
  clear H1 Z3 Z4
  go_wp2_with fail
  refine bodyPost_ret (v := .agg #[.slice C1 k1 e1, .slice C2 k2 e2]) (by simp [results, Tryd.results34, go_sem, r0, r1]) rfl ?_
  exact ⟨C1, k1, e1, C2, k2, e2, x, y, rfl, HX.out.1, HX.out.2.1, HX.out.2.2, HF.out⟩
end
end Go.Proofs.YtnfjnlnphdmdmaaDoor

namespace Go.Proofs.YtnfjnlnphdmdmaaDoor
open Go.RowKit Go.Sort
set_option linter.unusedVariables false
set_option maxRecDepth 100000
theorem awake23_ow {w0 w : World} {g : Option Nat} {M : List (Nat × Value)} {L : List Ob} {O : List Rw} (h : Ow w0 w g M L O) (ht : Tab w0) : Calls Tryd.prog 32 #[] w fun e w' => e = .returned (.bool true) ∧ Ow w0 w' g M L O :=
  (awake23 w (ht.below h.below)).mono fun e w' hr => ⟨hr.1, h.go hr.2⟩
end Go.Proofs.YtnfjnlnphdmdmaaDoor

namespace Go.Proofs.YtnfjnlnphdmdmaaDoor
open Go.RowKit Go.Sort
set_option linter.unusedVariables false
set_option maxRecDepth 100000
structure TbK (w0 : World) (rb : Nat) (A : Option Addr) (n c : Nat) (p : List Int) (A2 : Option Addr) (m c2 : Nat) (q : List Int) (a b : Int) (Ld : Nat → Bool) (u0 u1 u2 u3 u4 u5 u6 : Value) (C1 : Option Addr) (k1 e1 : Nat) (C2 : Option Addr) (k2 e2 x y : Nat) (Ls : List Ob) (os : List Rw) (W : World) : Prop where
  ow : Ow w0 W none [] ([(⟨A, n, c, ints p⟩ : Ob), (⟨A2, m, c2, ints q⟩ : Ob)] ++ Ls) ([Rw.pair rb 28 (.slice A n c) (.slice A2 m c2)] ++ os)
  h0 : Ld 0 = true → u0 = .int .i64 a
  h1 : Ld 1 = true → u1 = .int .i64 b
  h2 : Ld 2 = true → u2 = .agg #[.slice C1 k1 e1, .slice C2 k2 e2] ∧ FrK x y ∧ Ls = [(⟨C1, k1, e1, nats (Na.dig x)⟩ : Ob), (⟨C2, k2, e2, nats (Na.dig y)⟩ : Ob)]
  h2n : Ld 2 = false → Ls = []
  h3 : Ld 3 = true → u3 = .agg #[.slice A n c, .slice A2 m c2]
  h4 : Ld 4 = true → ∃ ab, u4 = .slice (some ⟨ab, 0, none⟩) 2 2 ∧ os = [(⟨some ⟨ab, 0, none⟩, 4, 4, 28, [.slice C1 k1 e1, .slice C2 k2 e2, .slice A n c, .slice A2 m c2]⟩ : Rw)]
  h4n : Ld 4 = false → os = []
  h5 : Ld 5 = true → u5 = .int .i64 2
  h6 : Ld 6 = true → u6 = .int .i64 0
def TbI (w0 : World) (rb : Nat) (A : Option Addr) (n c : Nat) (p : List Int) (A2 : Option Addr) (m c2 : Nat) (q : List Int) (a b : Int) (A0 : Act) (Ld : Nat → Bool) (ac : Act) (W : World) : Prop :=
  ∃ (u0 u1 u2 u3 u4 u5 u6 : Value) (C1 : Option Addr) (k1 e1 : Nat) (C2 : Option Addr) (k2 e2 x y : Nat) (Ls : List Ob) (os : List Rw), ac = (((((((A0.put (some 42) u0).put (some 43) u1).put (some 44) u2).put (some 45) u3).put (some 46) u4).put (some 47) u5).put (some 48) u6) ∧ TbK w0 rb A n c p A2 m c2 q a b Ld u0 u1 u2 u3 u4 u5 u6 C1 k1 e1 C2 k2 e2 x y Ls os W
def RTb (w0 : World) (rb ab : Nat) (A : Option Addr) (n c : Nat) (p : List Int) (A2 : Option Addr) (m c2 : Nat) (q : List Int) (C1 : Option Addr) (k1 e1 : Nat) (C2 : Option Addr) (k2 e2 x y : Nat) (v : Value) (wr : World) : Prop :=
  ∃ i : Nat, i ≤ 2 ∧ v = .int .i64 (i : Int) ∧ Hid (Ow w0 wr none [] ([(⟨A, n, c, ints p⟩ : Ob), (⟨A2, m, c2, ints q⟩ : Ob)] ++ [(⟨C1, k1, e1, nats (Na.dig x)⟩ : Ob), (⟨C2, k2, e2, nats (Na.dig y)⟩ : Ob)]) ([Rw.pair rb 28 (.slice A n c) (.slice A2 m c2)] ++ [(⟨some ⟨ab, 0, none⟩, 4, 4, 28, [.slice C1 k1 e1, .slice C2 k2 e2, .slice A n c, .slice A2 m c2]⟩ : Rw)]))
set_option maxHeartbeats 16000000 in
theorem tailsBinomial_any (nn hits a b : Int) (A : Option Addr) (n c : Nat) (p : List Int) (A2 : Option Addr) (m c2 : Nat) (q : List Int) (w : World) (hn : p.length = n) (hnc : n ≤ c) (hln : n ≤ 281474976710656) (hs : Sl w w.heap.size A (ints p)) (hm : q.length = m) (hmc : m ≤ c2) (hlm : m ≤ 281474976710656) (hs2 : Sl w w.heap.size A2 (ints q)) (hb : hits ≤ 9223372036854775807) (ht : Tab w) :
    Calls Tryd.prog 7 #[.int .i64 nn, .int .i64 hits, .int .i64 a, .int .i64 b, .agg #[.slice A n c, .slice A2 m c2]] w fun e w' => e = .returned (.bool true) ∧ Below w.heap.size w w' := by
  have HT := Lib.hid ht
  rcases Nat.lt_or_ge 100 n with h1 | h1
  · have H0 := (Ow.of (St.refl w)).pair (.slice A n c) (.slice A2 m c2) 28
    simp only [List.nil_append] at H0
    have a0 := H0.p0 0 rfl
    have a1 := H0.p1 0 rfl
    have d1 : decide ((100 : Int) < (n : Int)) = true := decide_eq_true (by omega)
    have d3 : decide (100 < n) = true := decide_eq_true (by omega)
    have HA := Lib.hid (awake23_ow H0 ht)
    clear H0 hs hs2 hn hm ht
    go_enter Tryd.func7, Tryd.ntmps7
    go_wp2_with fail
    refine HA.out.mono ?_
    rintro e w1 ⟨rfl, H1⟩
    have HB := Lib.hid H1.below
    clear HA H1
    go_wp2_with fail
    go_ret
    exact ⟨rfl, HB.out⟩
  · rcases Nat.lt_or_ge 100 m with h2 | h2
    · have H0 := (Ow.of (St.refl w)).pair (.slice A n c) (.slice A2 m c2) 28
      simp only [List.nil_append] at H0
      have a0 := H0.p0 0 rfl
      have a1 := H0.p1 0 rfl
      have d1 : decide ((100 : Int) < (n : Int)) = false := decide_eq_false (by omega)
      have d3 : decide (100 < n) = false := decide_eq_false (by omega)
      have d2 : decide ((100 : Int) < (m : Int)) = true := decide_eq_true (by omega)
      have d4 : decide (100 < m) = true := decide_eq_true (by omega)
      have HA := Lib.hid (awake23_ow H0 ht)
      clear H0 hs hs2 hn hm ht
      go_enter Tryd.func7, Tryd.ntmps7
      go_wp2_with fail
      refine HA.out.mono ?_
      rintro e w1 ⟨rfl, H1⟩
      have HB := Lib.hid H1.below
      clear HA H1
      go_wp2_with fail
      go_ret
      exact ⟨rfl, HB.out⟩
    · have H0 := (((Ow.of (St.refl w)).old hs (by rw [ints_length]; exact hn) hnc (by omega)).old hs2 (by rw [ints_length]; exact hm) hmc (by omega)).pair (.slice A n c) (.slice A2 m c2) 28
      simp only [List.nil_append, List.cons_append] at H0
      have a0 := H0.p0 0 rfl
      have a1 := H0.p1 0 rfl
      have d1 : decide ((100 : Int) < (n : Int)) = false := decide_eq_false (by omega)
      have d2 : decide ((100 : Int) < (m : Int)) = false := decide_eq_false (by omega)
      have d3 : decide (100 < n) = false := decide_eq_false (by omega)
      have d4 : decide (100 < m) = false := decide_eq_false (by omega)
      have HW : Hid (Ow w (w.alloc (.cells #[.slice A n c, .slice A2 m c2] 28)) none [] ([(⟨A, n, c, ints p⟩ : Ob), (⟨A2, m, c2, ints q⟩ : Ob)] ++ []) ([Rw.pair w.heap.size 28 (.slice A n c) (.slice A2 m c2)] ++ [])) := H0
      obtain ⟨kk, hkk⟩ : ∃ z, nn % 43 = z := ⟨_, rfl⟩
      obtain ⟨hh, hhh⟩ : ∃ z, hits % 44 = z := ⟨_, rfl⟩
      have hk1 : 0 ≤ kk ∧ kk < 43 := by omega
      have hh1 : 0 ≤ hh ∧ hh < 44 := by omega
      have hw1 : IntKind.i64.wrap (kk - 1) = kk - 1 := IntWalk.i64_in _ (by omega)
      have hw2 : IntKind.i64.wrap (hh - 2) = hh - 2 := IntWalk.i64_in _ (by omega)
      have hM1 : Hid (∀ w : World, Calls Tryd.prog 33 #[.int .i64 nn, .int .i64 43] w fun e w' => e = .returned (.int .i64 kk) ∧ w = w') := fun w => by rw [← hkk]; exact mod_any nn 43 w (by omega) (by omega)
      have hM2 : Hid (∀ w : World, Calls Tryd.prog 33 #[.int .i64 hits, .int .i64 44] w fun e w' => e = .returned (.int .i64 hh) ∧ w = w') := fun w => by rw [← hhh]; exact mod_any hits 44 w (by omega) (by omega)
      have HX : Hid (hh - 2 ≤ 9223372036854775807 ∧ hits ≤ 9223372036854775807) := ⟨by omega, hb⟩
      clear H0 hs hs2 hn hm ht hkk hhh hk1 hh1 hb
      go_enter Tryd.func7, Tryd.ntmps7
      go_upto_region 5 with (go_at_call 33; ((first | (with_reducible refine (hM1.out _).mono ?_) | (with_reducible refine (hM2.out _).mono ?_)); rintro e w' ⟨rfl, rfl⟩))
      clear a0 a1
      refine reg_inv34 (TbI w w.heap.size A n c p A2 m c2 q a b) (by kernel_rfl) (by kernel_rfl) ?_ ?_ ?_
      · refine ⟨undef, undef, undef, undef, undef, undef, undef, none, 0, 0, none, 0, 0, 0, 0, [], [], ?_, ⟨HW.out.drew, ?_, ?_, ?_, fun _ => rfl, ?_, ?_, fun _ => rfl, ?_, ?_⟩⟩
        · simp only [Act.put, List.setIfInBounds_toArray, List.set_cons_zero, List.set_cons_succ]
        all_goals (intro h; cases h)
      · rintro jj Ld bb W hj hf hcl hd ⟨u0, u1, u2, u3, u4, u5, u6, C1, k1, e1, C2, k2, e2, x, y, Ls, os, rfl, hC⟩
        have hj' : jj < 7 := hj
        have hcase : jj = 0 ∨ jj = 1 ∨ jj = 2 ∨ jj = 3 ∨ jj = 4 ∨ jj = 5 ∨ jj = 6 := by omega
        have q0 := hC.ow.p0 0 rfl
        have q1 := hC.ow.p1 0 rfl
        clear hj hj' HW
        simp only [Act.put, List.setIfInBounds_toArray, List.set_cons_zero, List.set_cons_succ]
        rcases hcase with rfl | rfl | rfl | rfl | rfl | rfl | rfl
        · clear hd hcl
          refine wpOp_step rfl (fun K hK => ?_)
          go_simp
          refine hK _ _ ⟨_, u1, u2, u3, u4, u5, u6, C1, k1, e1, C2, k2, e2, x, y, Ls, os, ?_, ⟨hC.ow, fun _ => rfl, hC.h1, hC.h2, hC.h2n, hC.h3, hC.h4, hC.h4n, hC.h5, hC.h6⟩⟩
          simp only [Act.put, List.setIfInBounds_toArray, List.set_cons_zero, List.set_cons_succ]
        · clear hd hcl
          refine wpOp_step rfl (fun K hK => ?_)
          go_simp
          refine hK _ _ ⟨u0, _, u2, u3, u4, u5, u6, C1, k1, e1, C2, k2, e2, x, y, Ls, os, ?_, ⟨hC.ow, hC.h0, fun _ => rfl, hC.h2, hC.h2n, hC.h3, hC.h4, hC.h4n, hC.h5, hC.h6⟩⟩
          simp only [Act.put, List.setIfInBounds_toArray, List.set_cons_zero, List.set_cons_succ]
        · obtain rfl := hC.h0 (hd 0 (by kernel_rfl))
          obtain rfl := hC.h1 (hd 1 (by kernel_rfl))
          have f4 : Ld 4 = false := by cases e : Ld 4 with | false => rfl | true => (rw [hcl 4 2 e (by kernel_rfl)] at hf; cases hf)
          obtain rfl := hC.h2n hf
          clear hd hcl
          refine wpOp_step rfl (fun K hK => ?_)
          go_simp
          refine (fraction23 hC.ow _ _).mono ?_
          rintro e W' ⟨D1, i1, j1, D2, i2, j2, x', y', rfl, hF, -, -, ho⟩
          rw [List.append_nil, List.append_assoc] at ho
          refine hK _ _ ⟨_, _, _, u3, u4, u5, u6, _, _, _, _, _, _, _, _, _, os, ?_, ⟨ho, hC.h0, hC.h1, fun _ => ⟨rfl, hF, rfl⟩, fun e => absurd (show true = false from e) (by decide), hC.h3, fun e => absurd ((show Ld 4 = true from e).symm.trans f4) (by decide), hC.h4n, hC.h5, hC.h6⟩⟩
          simp only [Act.put, List.setIfInBounds_toArray, List.set_cons_zero, List.set_cons_succ]
        · clear hd hcl
          refine wpOp_step rfl (fun K hK => ?_)
          go_simp
          refine hK _ _ ⟨u0, u1, u2, _, u4, u5, u6, C1, k1, e1, C2, k2, e2, x, y, Ls, os, ?_, ⟨hC.ow, hC.h0, hC.h1, hC.h2, hC.h2n, fun _ => rfl, hC.h4, hC.h4n, hC.h5, hC.h6⟩⟩
          simp only [Act.put, List.setIfInBounds_toArray, List.set_cons_zero, List.set_cons_succ]
        · obtain ⟨rfl, hF, rfl⟩ := hC.h2 (hd 2 (by kernel_rfl))
          obtain rfl := hC.h3 (hd 3 (by kernel_rfl))
          obtain rfl := hC.h4n hf
          clear hd hcl
          refine wpOp_step rfl (fun K hK => ?_)
          go_simp
          have ho := hC.ow.arr #[.slice C1 k1 e1, .slice C2 k2 e2, .slice A n c, .slice A2 m c2] 4 rfl (by omega) 28
          rw [List.append_nil] at ho
          refine hK _ _ ⟨u0, u1, _, _, _, u5, u6, C1, k1, e1, C2, k2, e2, x, y, _, _, ?_, ⟨ho, hC.h0, hC.h1, hC.h2, hC.h2n, hC.h3, fun _ => ⟨_, rfl, rfl⟩, fun e => absurd (show true = false from e) (by decide), hC.h5, hC.h6⟩⟩
          simp only [Act.put, List.setIfInBounds_toArray, List.set_cons_zero, List.set_cons_succ]
        · obtain ⟨ab, rfl, rfl⟩ := hC.h4 (hd 4 (by kernel_rfl))
          clear hd hcl
          refine wpOp_step rfl (fun K hK => ?_)
          go_simp
          refine hK _ _ ⟨u0, u1, u2, u3, _, _, u6, C1, k1, e1, C2, k2, e2, x, y, _, _, ?_, ⟨hC.ow, hC.h0, hC.h1, hC.h2, hC.h2n, hC.h3, hC.h4, hC.h4n, fun _ => rfl, hC.h6⟩⟩
          simp only [Act.put, List.setIfInBounds_toArray, List.set_cons_zero, List.set_cons_succ]
        · clear hd hcl
          refine wpOp_step rfl (fun K hK => ?_)
          go_simp
          refine hK _ _ ⟨u0, u1, u2, u3, u4, u5, _, C1, k1, e1, C2, k2, e2, x, y, Ls, os, ?_, ⟨hC.ow, hC.h0, hC.h1, hC.h2, hC.h2n, hC.h3, hC.h4, hC.h4n, hC.h5, fun _ => rfl⟩⟩
          simp only [Act.put, List.setIfInBounds_toArray, List.set_cons_zero, List.set_cons_succ]
      · rintro Ld bb W hL ⟨u0, u1, u2, u3, u4, u5, u6, C1, k1, e1, C2, k2, e2, x, y, Ls, os, rfl, hC⟩
        obtain ⟨-, hF, rfl⟩ := hC.h2 (hL 2 (by show 2 < 7; decide))
        obtain ⟨ab, rfl, rfl⟩ := hC.h4 (hL 4 (by show 4 < 7; decide))
        obtain rfl := hC.h5 (hL 5 (by show 5 < 7; decide))
        obtain rfl := hC.h6 (hL 6 (by show 6 < 7; decide))
        have HO := Lib.hid hC.ow
        clear hC hL HW
        go_wp2_with fail
        simp only [Act.put, List.setIfInBounds_toArray, List.set_cons_zero, List.set_cons_succ]
        go_loopw [48] (fun v wr => RTb w w.heap.size ab A n c p A2 m c2 q C1 k1 e1 C2 k2 e2 x y v wr) (fun v _ => 2 - (intOf v).toNat)
        case atStart => exact ⟨0, by omega, rfl, HO⟩
        case round =>
          clear HO
          obtain ⟨i, hi, rfl, HO⟩ := hrel
          rcases (show i = 2 ∨ i = 0 ∨ i = 1 by omega) with rfl | rfl | rfl
          · have HC := Lib.hid (awake23_ow HO.out HT.out)
            clear HO
            go_wp2_with fail
            refine HC.out.mono ?_
            rintro e w2 ⟨rfl, G⟩
            have HB := Lib.hid G.below
            clear G HC
            go_wp2_with fail
            go_ret
            exact ⟨rfl, HB.out⟩
          · have ca := cell_row HO.out (i := 1) rfl (k := 0) (v := .slice C1 k1 e1) rfl (by omega)
            have cb := cell_row HO.out (i := 1) rfl (k := 1) (v := .slice C2 k2 e2) rfl (by omega)
            obtain ⟨t1, g1⟩ : ∃ z, binF (kk - 1) (hh - 2) (Na.up (Na.dig x)) (Na.up (Na.dig y)) = z := ⟨_, rfl⟩
            obtain ⟨t2, g2⟩ : ∃ z, binF nn hits (Na.up (Na.dig x)) (Na.up (Na.dig y)) = z := ⟨_, rfl⟩
            have G1 := Lib.hid g1
            have G2 := Lib.hid g2
            clear g1 g2
            have H := HO.out.pair (.slice C1 k1 e1) (.slice C2 k2 e2) 28
            clear HO
            simp only [List.nil_append, List.cons_append] at H
            have a0 := H.p0 2 rfl
            have a1 := H.p1 2 rfl
            have HC := Lib.hid (t_binom_any (p := Na.up (Na.dig x)) (q := Na.up (Na.dig y)) H 2 3 (kk - 1) (hh - 2) (by rw [nats_up]; rfl) (by rw [nats_up]; rfl) HT.out HX.out.1)
            rw [G1.out] at HC
            clear H
            go_wp2_with fail
            refine HC.out.mono ?_
            rintro e v0 ⟨B0, m0, d0, D0, l0, f0, rfl, G⟩
            clear HC a0 a1 ca cb
            have H := G.pair (.slice B0 m0 d0) (.slice D0 l0 f0) 28
            clear G
            simp only [List.nil_append, List.cons_append] at H
            have a0 := H.p0 2 rfl
            have a1 := H.p1 2 rfl
            have HC := Lib.hid (r_binom_any (p := Na.up (Na.dig x)) (q := Na.up (Na.dig y)) H 2 3 (kk - 1) (hh - 2) (by rw [nats_up]; rfl) (by rw [nats_up]; rfl) HX.out.1)
            rw [G1.out] at HC
            clear H
            go_wp2_with fail
            refine HC.out.mono ?_
            rintro e v1 ⟨B1, m1, d1, D1, l1, f1, rfl, G⟩
            clear HC a0 a1
            have H := G.pair (.slice B1 m1 d1) (.slice D1 l1 f1) 28
            clear G
            simp only [List.nil_append, List.cons_append] at H
            have a0 := H.p0 2 rfl
            have a1 := H.p1 2 rfl
            have HC := Lib.hid (t_binom_any (p := Na.up (Na.dig x)) (q := Na.up (Na.dig y)) H 2 3 nn hits (by rw [nats_up]; rfl) (by rw [nats_up]; rfl) HT.out HX.out.2)
            rw [G2.out] at HC
            clear H
            go_wp2_with fail
            refine HC.out.mono ?_
            rintro e v2 ⟨B2, m2, d2, D2, l2, f2, rfl, G⟩
            clear HC a0 a1
            have H := G.pair (.slice B2 m2 d2) (.slice D2 l2 f2) 28
            clear G
            simp only [List.nil_append, List.cons_append] at H
            have a0 := H.p0 2 rfl
            have a1 := H.p1 2 rfl
            have HC := Lib.hid (r_binom_any (p := Na.up (Na.dig x)) (q := Na.up (Na.dig y)) H 2 3 nn hits (by rw [nats_up]; rfl) (by rw [nats_up]; rfl) HX.out.2)
            rw [G2.out] at HC
            clear H
            go_wp2_with fail
            refine HC.out.mono ?_
            rintro e v3 ⟨B3, m3, d3, D3, l3, f3, rfl, G⟩
            clear HC a0 a1
            have H := G.pair (.slice B3 m3 d3) (.slice D3 l3 f3) 28
            clear G
            simp only [List.nil_append, List.cons_append] at H
            have a0 := H.p0 3 rfl
            have a1 := H.p1 3 rfl
            have b0 := H.p0 4 rfl
            have b1 := H.p1 4 rfl
            have HC := Lib.hid (same23 (p := Na.up (Na.dig t1.1)) (q := Na.up (Na.dig t1.2.1)) H 4 5 6 7 (by rw [nats_up]; rfl) (by rw [nats_up]; rfl) (by rw [nats_up]; rfl) (by rw [nats_up]; rfl) t1.2.2)
            clear H
            go_wp2_with fail
            refine HC.out.mono ?_
            rintro e v4 ⟨rfl, H⟩
            clear HC a0 a1 b0 b1
            have a0 := H.p0 5 rfl
            have a1 := H.p1 5 rfl
            have b0 := H.p0 6 rfl
            have b1 := H.p1 6 rfl
            have HC := Lib.hid (same23 (p := Na.up (Na.dig t2.1)) (q := Na.up (Na.dig t2.2.1)) H 8 9 10 11 (by rw [nats_up]; rfl) (by rw [nats_up]; rfl) (by rw [nats_up]; rfl) (by rw [nats_up]; rfl) t2.2.2)
            clear H
            go_wp2_with fail
            refine HC.out.mono ?_
            rintro e v5 ⟨rfl, H⟩
            clear HC a0 a1 b0 b1
            have HN := Lib.hid ((Ow.fewO (O := [Rw.pair w.heap.size 28 (.slice A n c) (.slice A2 m c2)] ++ [(⟨some ⟨ab, 0, none⟩, 4, 4, 28, [.slice C1 k1 e1, .slice C2 k2 e2, .slice A n c, .slice A2 m c2]⟩ : Rw)]) H).less (L' := [(⟨A, n, c, ints p⟩ : Ob), (⟨A2, m, c2, ints q⟩ : Ob)] ++ [(⟨C1, k1, e1, nats (Na.dig x)⟩ : Ob), (⟨C2, k2, e2, nats (Na.dig y)⟩ : Ob)]) (fun o ho => List.mem_append_left _ ho))
            clear H
            go_wp2_with fail
            go_roundw
            case rel => exact ⟨1, by omega, int_eqv (by omega), HN⟩
            case measure => simp [intOf]
          · have ca := cell_row HO.out (i := 1) rfl (k := 2) (v := .slice A n c) rfl (by omega)
            have cb := cell_row HO.out (i := 1) rfl (k := 3) (v := .slice A2 m c2) rfl (by omega)
            obtain ⟨t1, g1⟩ : ∃ z, binF (kk - 1) (hh - 2) (p) (q) = z := ⟨_, rfl⟩
            obtain ⟨t2, g2⟩ : ∃ z, binF nn hits (p) (q) = z := ⟨_, rfl⟩
            have G1 := Lib.hid g1
            have G2 := Lib.hid g2
            clear g1 g2
            have H := HO.out.pair (.slice A n c) (.slice A2 m c2) 28
            clear HO
            simp only [List.nil_append, List.cons_append] at H
            have a0 := H.p0 2 rfl
            have a1 := H.p1 2 rfl
            have HC := Lib.hid (t_binom_any (p := p) (q := q) H 0 1 (kk - 1) (hh - 2) rfl rfl HT.out HX.out.1)
            rw [G1.out] at HC
            clear H
            go_wp2_with fail
            refine HC.out.mono ?_
            rintro e v0 ⟨B0, m0, d0, D0, l0, f0, rfl, G⟩
            clear HC a0 a1 ca cb
            have H := G.pair (.slice B0 m0 d0) (.slice D0 l0 f0) 28
            clear G
            simp only [List.nil_append, List.cons_append] at H
            have a0 := H.p0 2 rfl
            have a1 := H.p1 2 rfl
            have HC := Lib.hid (r_binom_any (p := p) (q := q) H 0 1 (kk - 1) (hh - 2) rfl rfl HX.out.1)
            rw [G1.out] at HC
            clear H
            go_wp2_with fail
            refine HC.out.mono ?_
            rintro e v1 ⟨B1, m1, d1, D1, l1, f1, rfl, G⟩
            clear HC a0 a1
            have H := G.pair (.slice B1 m1 d1) (.slice D1 l1 f1) 28
            clear G
            simp only [List.nil_append, List.cons_append] at H
            have a0 := H.p0 2 rfl
            have a1 := H.p1 2 rfl
            have HC := Lib.hid (t_binom_any (p := p) (q := q) H 0 1 nn hits rfl rfl HT.out HX.out.2)
            rw [G2.out] at HC
            clear H
            go_wp2_with fail
            refine HC.out.mono ?_
            rintro e v2 ⟨B2, m2, d2, D2, l2, f2, rfl, G⟩
            clear HC a0 a1
            have H := G.pair (.slice B2 m2 d2) (.slice D2 l2 f2) 28
            clear G
            simp only [List.nil_append, List.cons_append] at H
            have a0 := H.p0 2 rfl
            have a1 := H.p1 2 rfl
            have HC := Lib.hid (r_binom_any (p := p) (q := q) H 0 1 nn hits rfl rfl HX.out.2)
            rw [G2.out] at HC
            clear H
            go_wp2_with fail
            refine HC.out.mono ?_
            rintro e v3 ⟨B3, m3, d3, D3, l3, f3, rfl, G⟩
            clear HC a0 a1
            have H := G.pair (.slice B3 m3 d3) (.slice D3 l3 f3) 28
            clear G
            simp only [List.nil_append, List.cons_append] at H
            have a0 := H.p0 3 rfl
            have a1 := H.p1 3 rfl
            have b0 := H.p0 4 rfl
            have b1 := H.p1 4 rfl
            have HC := Lib.hid (same23 (p := Na.up (Na.dig t1.1)) (q := Na.up (Na.dig t1.2.1)) H 4 5 6 7 (by rw [nats_up]; rfl) (by rw [nats_up]; rfl) (by rw [nats_up]; rfl) (by rw [nats_up]; rfl) t1.2.2)
            clear H
            go_wp2_with fail
            refine HC.out.mono ?_
            rintro e v4 ⟨rfl, H⟩
            clear HC a0 a1 b0 b1
            have a0 := H.p0 5 rfl
            have a1 := H.p1 5 rfl
            have b0 := H.p0 6 rfl
            have b1 := H.p1 6 rfl
            have HC := Lib.hid (same23 (p := Na.up (Na.dig t2.1)) (q := Na.up (Na.dig t2.2.1)) H 8 9 10 11 (by rw [nats_up]; rfl) (by rw [nats_up]; rfl) (by rw [nats_up]; rfl) (by rw [nats_up]; rfl) t2.2.2)
            clear H
            go_wp2_with fail
            refine HC.out.mono ?_
            rintro e v5 ⟨rfl, H⟩
            clear HC a0 a1 b0 b1
            have HN := Lib.hid ((Ow.fewO (O := [Rw.pair w.heap.size 28 (.slice A n c) (.slice A2 m c2)] ++ [(⟨some ⟨ab, 0, none⟩, 4, 4, 28, [.slice C1 k1 e1, .slice C2 k2 e2, .slice A n c, .slice A2 m c2]⟩ : Rw)]) H).less (L' := [(⟨A, n, c, ints p⟩ : Ob), (⟨A2, m, c2, ints q⟩ : Ob)] ++ [(⟨C1, k1, e1, nats (Na.dig x)⟩ : Ob), (⟨C2, k2, e2, nats (Na.dig y)⟩ : Ob)]) (fun o ho => List.mem_append_left _ ho))
            clear H
            go_wp2_with fail
            go_roundw
            case rel => exact ⟨2, by omega, int_eqv (by omega), HN⟩
            case measure => simp [intOf]
end Go.Proofs.YtnfjnlnphdmdmaaDoor

namespace Go.Proofs.YtnfjnlnphdmdmaaDoor
open Go.ChangeShapes Go.WideShapes Go.ChangeAt Go.RowKit

section
variable {H : Type} {enc : TypeId × Value → H} {P : Program}
/-- arguments read behind the call as before it, if nothing below the old heap's size has turned -/
theorem args_stay (hl : laidOutB P = true) {W W' : World} (hb : Below W.heap.size W W') {sp : Nat → Bool} : ∀ {ts : List TypeId} {vs : List Value} {ds : List (DataW H)} {ps : List MemPlace},
    (∀ t ∈ ts, P.readableRec t = true ∧ t < P.types.size) → DataW.TrodAll enc P W 0 (fun _ => true) true ts vs ds ps → (∀ x ∈ ps, x.block < W.heap.size) → (∀ p ∈ ps, sp p.block = true) →
    DataW.TrodAll enc P W' 0 sp true ts vs ds ps := by
  intro ts
  induction ts with
  | nil =>
    intro vs ds ps _ h _ _
    cases vs <;> cases ds <;> simp [DataW.TrodAll] at h ⊢
    exact h
  | cons t ts ih =>
    intro vs ds ps ht h hlt hs
    obtain ⟨v, vs', d, ds', p, q, rfl, rfl, rfl, h0, h1⟩ := trodAll_cons h
    refine ⟨p, q, ?_, ?_, rfl⟩
    · exact WideElems.Trod_stays hl (ht t (by simp)).1 (ht t (by simp)).2 h0 (fun x hx => hb.same (hlt x (by simp [hx]))) (fun x hx => hs x (by simp [hx]))
    · exact ih (fun u hu => ht u (by simp [hu])) h1 (fun x hx => hlt x (by simp [hx])) (fun x hx => hs x (by simp [hx]))

theorem post_law (hl : laidOutB P = true) {f : Func} {s : ChangeSpec} {W W' : World} {args : Array Value} {ds gs : List (DataW H)} {before : List MemPlace} {tb : TypeId} (hb : Below W.heap.size W W')
    (hvars : s.vars = []) (hW : DataW.Whole enc P f.params.toList s.vars false W args.toList ds gs before)
    (hfn : s.fn H (ds ++ gs) = { results := [.lit (.bool true)], args := ds, vars := [] }) (hres : f.resultTypes = #[tb]) (htb : P.underlying tb = some .bool)
    (hts : ∀ t ∈ f.params.toList, P.readableRec t = true ∧ t < P.types.size) :
    s.post enc P f false true false false W args (.bool true) W' := by
  have hlt : ∀ p ∈ before, p.block < W.heap.size := fun p hp => hW.lt p hp
  have hW' := hW
  obtain ⟨p, q, hA, hV, rfl, hz, hn⟩ := hW
  rw [hvars] at hV
  have hq : q = [] := by
    cases gs with
    | nil => exact hV
    | cons g r => exact absurd hV (by intro h; cases h)
  subst hq
  refine ⟨ds, gs, _, [], p, [], hW', ?_, ?_, ?_, hb.frame _, fun h => by cases h⟩
  · rw [hfn, hres]
    exact trodAll_mk1 (shut_bool htb true)
  · rw [hfn]
    exact args_stay hl hb hts hA (fun x hx => hlt x (by simp [hx])) (fun x hx => by simpa using hlt x (by simp [hx]))
  · rw [hfn, hvars]
    rfl
end
end Go.Proofs.YtnfjnlnphdmdmaaDoor

namespace Go.Proofs.YtnfjnlnphdmdmaaDoor
open Go.ChangeShapes Go.WideShapes Go.ChangeAt Go.RowKit
set_option linter.unusedVariables false

theorem block_lt {W : World} {a : Addr} {v : Value} (h : W.cell? a = some v) : a.block < W.heap.size := by
  rcases Nat.lt_or_ge a.block W.heap.size with h1 | h1
  · exact h1
  · have h2 : W.heap[a.block]? = none := Array.getElem?_eq_none h1
    simp [World.cell?, h2] at h
section
variable {H : Type} {enc : TypeId × Value → H} {P : Program} {W : World}
end
end Go.Proofs.YtnfjnlnphdmdmaaDoor

namespace Go.Proofs.YtnfjnlnphdmdmaaDoor
open Go.ChangeShapes Go.WideShapes Go.ChangeAt Go.RowKit
theorem i64_le {n : Int} (h : (Lit.int .i64 n).wf = true) : n ≤ 9223372036854775807 := by
  simp [Lit.wf, IntKind.min, IntKind.max, IntKind.bits, IntKind.signed] at h
  omega
end Go.Proofs.YtnfjnlnphdmdmaaDoor

namespace Go.Proofs.YtnfjnlnphdmdmaaDoor
open Go.ChangeShapes Go.WideShapes Go.ChangeAt Go.RowKit
set_option linter.unusedVariables false
section
variable {H : Type} {enc : TypeId × Value → H} {P : Program} {W : World}
theorem open_num {t ts e : TypeId} {f0 : Field} {k : IntKind} (ht : P.underlying t = some (.struct #[f0])) (hts : f0.type = ts) (hoff : f0.offset = 0) (hcs1 : P.cellsOf ts = 1) (hs : P.underlying ts = some (.slice e)) (he : P.underlying e = some (.int k)) (hc : P.cellsOf e = 1)
    {fuel : Nat} {u : Value} {y : DataW H × List MemPlace} (hf : DataW.trod enc P W 0 (fun _ => true) true fuel t [u] = some y) :
    ∃ (A : Option Addr) (n c : Nat) (zs : List Int), u = .slice A n c ∧ zs.length = n ∧ n ≤ c ∧ c ≤ maxLen ∧ Sl W W.heap.size A (zs.map (Value.int k)) ∧ ∀ b, (∀ x ∈ y.1.weights P t, x ≤ b) → n * P.bytesOf e ≤ b := by
  obtain ⟨y0, m, rfl, hl, hy⟩ := trod_struct1 ht hf
  rw [hoff, hts, hcs1, List.drop_zero] at hy
  have hy' : DataW.trod enc P W 0 (fun _ => true) true m ts [u] = some y0 := hy
  rcases Go.ChangeShapes.open_ints hs he hc hy' with ⟨hcs, _⟩ | ⟨a, len, cap, zs, hcs, _, hle, hmx, hall, rfl, hcell, hwf⟩
  · obtain rfl : u = .slice none 0 0 := (List.cons.inj hcs).1
    exact ⟨none, 0, 0, [], rfl, rfl, Nat.le_refl _, Nat.zero_le _, Sl.nil _ _ _, fun b _ => by rw [Nat.zero_mul]; exact Nat.zero_le _⟩
  · obtain rfl : u = .slice (some a) len cap := (List.cons.inj hcs).1
    have hz : zs.length = cap := by simpa using hall
    refine ⟨some a, len, cap, zs.take len, rfl, by rw [List.length_take]; omega, hle, hmx, fun hn => ?_, fun b hb => ?_⟩
    rotate_left
    · refine Nat.le_trans (Nat.mul_le_mul_right _ (show len ≤ (lits (H := H) k (zs.take len)).length + (lits (H := H) k (zs.drop len)).length by simp [lits]; omega)) (hb _ ?_)
      simp [DataW.weights, DataW.weightsEach, ht, hts, hs]
    rw [List.length_map, List.length_take] at hn
    refine ⟨a, rfl, ?_, fun j u hu => ?_⟩
    · have h0 := hcell 0 (by omega)
      have := block_lt h0
      rwa [add_block] at this
    · rw [List.getElem?_map, List.getElem?_take] at hu
      by_cases hj : j < len
      · rw [if_pos hj, List.getElem?_eq_getElem (by omega)] at hu
        rw [hcell j (by omega), List.getD_eq_getElem?_getD, List.getElem?_eq_getElem (by omega)]
        exact hu
      · rw [if_neg hj] at hu
        cases hu
theorem open_ratio {tr t ts e : TypeId} {g0 g1 f0 : Field} {k : IntKind} (hr : P.underlying tr = some (.struct #[g0, g1])) (hg0 : g0.type = t) (hg1 : g1.type = t) (ho0 : g0.offset = 0) (ho1 : g1.offset = 1) (hctr : P.cellsOf tr = 2) (hct : P.cellsOf t = 1)
    (ht : P.underlying t = some (.struct #[f0])) (hts : f0.type = ts) (hoff : f0.offset = 0) (hcs1 : P.cellsOf ts = 1) (hs : P.underlying ts = some (.slice e)) (he : P.underlying e = some (.int k)) (hc : P.cellsOf e = 1) {r : Reach} {b0 : Nat} {v : Value} {d : DataW H} {ps : List MemPlace}
    (hval : Value.okWide P W r b0 tr v) (h : DataW.Trod enc P W 0 (fun _ => true) true tr v d ps) :
    ∃ (A : Option Addr) (n c : Nat) (zs : List Int) (A2 : Option Addr) (m c2 : Nat) (ys : List Int), v = .agg #[.slice A n c, .slice A2 m c2] ∧ zs.length = n ∧ n ≤ c ∧ c ≤ maxLen ∧ Sl W W.heap.size A (zs.map (Value.int k)) ∧ ys.length = m ∧ m ≤ c2 ∧ c2 ≤ maxLen ∧ Sl W W.heap.size A2 (ys.map (Value.int k)) ∧ ∀ b, (∀ x ∈ d.weights P tr, x ≤ b) → n * P.bytesOf e ≤ b ∧ m * P.bytesOf e ≤ b := by
  obtain ⟨cs, rfl, hsz⟩ := okWide_struct hr hval
  rw [hctr] at hsz
  obtain ⟨fuel, hf⟩ := h
  obtain ⟨y0, y1, m, hyy, hl, hy0, hy1⟩ := trod_struct2 hr hf
  obtain rfl : d = .agg [y0.1, y1.1] := congrArg Prod.fst hyy
  rw [ho0, hg0, hct, List.drop_zero] at hy0
  rw [ho1, hg1, hct] at hy1
  obtain ⟨u, x, rfl⟩ : ∃ u x, cs = #[u, x] := by
    obtain ⟨l⟩ := cs
    match l, hsz with
    | [u, x], _ => exact ⟨u, x, rfl⟩
  obtain ⟨A, n, c, zs, rfl, a1, a2, a3, a4, a5⟩ := open_num ht hts hoff hcs1 hs he hc (show DataW.trod enc P W 0 (fun _ => true) true m t [u] = some y0 from hy0)
  obtain ⟨A2, n2, c2, ys, rfl, b1, b2, b3, b4, b5⟩ := open_num ht hts hoff hcs1 hs he hc (show DataW.trod enc P W 0 (fun _ => true) true m t [x] = some y1 from hy1)
  exact ⟨A, n, c, zs, A2, n2, c2, ys, rfl, a1, a2, a3, a4, b1, b2, b3, b4, fun b hb => ⟨a5 b fun x hx => hb x (by simp [DataW.weights, DataW.weightsEach, hr, hg0, hg1, hx]), b5 b fun x hx => hb x (by simp [DataW.weights, DataW.weightsEach, hr, hg0, hg1, hx])⟩⟩
end
end Go.Proofs.YtnfjnlnphdmdmaaDoor

namespace Go.Proofs.YtnfjnlnphdmdmaaDoor
open Go.ChangeShapes Go.WideShapes Go.ChangeAt Go.RowKit
set_option linter.unusedVariables false
set_option maxRecDepth 100000
theorem tab_of {W : World} (h : laidMetH Tryd.prog Rows.tailsHyperRow.laid W) : Tab W := by
  rw [MakeChecks.laidMetH_plain _ _ _ (by kernel_rfl)] at h
  obtain ⟨ps, ⟨g, t, cs, fuel, p, q, hg, ht, hv, hd, _, _⟩, _⟩ := h
  obtain rfl := Option.some.inj ((show Tryd.prog.globalNamed "math/bits.deBruijn64tab" = some 0 by kernel_rfl).symm.trans hg)
  obtain rfl := Option.some.inj ((show (Tryd.prog.globals[0]?).map (·.type) = some 142 by kernel_rfl).symm.trans ht)
  obtain ⟨xs, m, _, ex, _, hl, hel⟩ := DataW.trod_array Tryd.underlying142 hd
  have c5 : Tryd.prog.cellsOf 5 = 1 := by kernel_rfl
  have hlen : Lib.deBruijn64tab.length = 64 := by kernel_rfl
  have e3 : (xs.map (·.1)) = Lib.deBruijn64tab.map fun n : Nat => .lit (.int .u8 (n : Int)) := (DataW.agg.inj (Prod.mk.inj ex).1).symm
  have hcell : ∀ k v : Nat, Lib.deBruijn64tab[k]? = some v → W.cell? ⟨0, k, none⟩ = some (.int .u8 (v : Int)) := by
    intro r v hr
    have hr64 : r < 64 := by
      rcases Nat.lt_or_ge r 64 with h | h
      · exact h
      · rw [List.getElem?_eq_none (by omega)] at hr; cases hr
    have hE := hel r hr64
    rw [c5, Nat.mul_one, List.getElem?_eq_getElem (by omega)] at hE
    obtain ⟨z, e1, e2, _⟩ := DataW.trod_int Tryd.underlying5 hE
    have e4 : (xs.map (·.1))[r]? = (Lib.deBruijn64tab.map fun n : Nat => (DataW.lit (.int .u8 (n : Int)) : DataW Unit))[r]? := by rw [e3]
    rw [List.getElem?_map, List.getElem?_map, List.getElem?_eq_getElem (by omega : r < xs.length), hr, e2] at e4
    have hz : z = (v : Int) := by
      simp only [Option.map_some, Option.some.injEq, DataW.lit.injEq, Lit.int.injEq, true_and] at e4
      exact e4
    rw [World.var?_cell hg hv r, ← hz]
    have : cs.toList[r]? = some (.int .u8 z) := by
      have h0 : ((cs.toList.drop r).take 1)[0]? = some (.int .u8 z) := by rw [e1]; rfl
      simpa using h0
    simpa using this
  refine ⟨?_, hcell⟩
  have h0 := hcell 0 0 (by kernel_rfl)
  rcases Nat.eq_zero_or_pos W.heap.size with h | h
  · exfalso
    unfold World.cell? at h0
    rw [Array.getElem?_eq_none (by simp only; omega)] at h0
    cases h0
  · exact h
end Go.Proofs.YtnfjnlnphdmdmaaDoor

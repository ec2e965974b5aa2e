/- what more is needed -/
import Derived.Test.YtnfjnlnphdmdmaaDoorY26
import Derived.WalkKit
import Derived.WalkLawsBesides
import Derived.WalkSpells
import Derived.Lib.Hide
import Derived.Laws.BitsAllLaws
import Derived.Deep.QuietTactic
import Derived.BigQuiet
import Derived.Below
import Derived.OwnWalk
import Derived.Laws.OwnMore
import Derived.Laws.Rows
import Derived.Deep.AppendLies
import Derived.Maps.AppendAt
import Derived.RangeFuncNested
import Derived.RangeFuncBound
import Derived.RangeFuncCalls
import Derived.RangeFuncLeaves
import Derived.RangeFuncBox
import Derived.RangeFuncWrites
import Derived.Shelf.Abstract
import Derived.Shelf.RegionOpen
import Derived.OwnWalkIn
import Derived.TacticsInMore
import Derived.LoopNIn
import Derived.LoopIn
import Derived.Test.YtnfjnlnphdmdmaaDoorChecked
import Derived.StillTailTactics
import Derived.Outline
import Derived.Deep.Cut
import Derived.RegionIn
import Derived.Lib.IndexBytes
import Derived.Lib.BufferRead
import Derived.RegionTactic
import Derived.ChangeAlike
import Derived.Deep.RegionWith
import Derived.StillTail
import Derived.Lib.QuietBelow
import Derived.Deep.RegionHeld3
import Derived.Lib.BitFns
import Derived.Deep.CutBlock
import Derived.Deep.LoopGhost
import Derived.Lib.TrailingZeros
import Derived.BigRegion
import Derived.Shelf.Spec.BitsCarry
import Derived.Laws.Tables
import Derived.ProofKit
import Derived.OpenShut
import Derived.Carry
import Derived.Test.YtnfjnlnphdmdmaaDoorRows
import Derived.LaidMore
import Derived.Lay
import Derived.SevenTiedAt
import Derived.Stop.Joined
import Derived.Lib.SmallJoins
namespace Go.Proofs.YtnfjnlnphdmdmaaDoor
open Go.RowKit
set_option linter.unusedVariables false
section
variable {w0 w w' : World} {g : Option Nat} {M : List (Nat × Value)} {L : List Ob} {O : List Rw}
end
def mulF (p q r s : List Int) : Nat × Nat × Int := if rv p q && rv r s then (if num p * num r < Na.top ∧ num q * num s < Na.top then frM (num p * num r) (num q * num s) else frE 3) else frE 1
def addF (p q r s : List Int) : Nat × Nat × Int := if rv p q && rv r s then (if num p * num s < Na.top ∧ num r * num q < Na.top ∧ num q * num s < Na.top ∧ num p * num s + num r * num q < Na.top then frM (num p * num s + num r * num q) (num q * num s) else frE 3) else frE 1
section
variable {w0 w w' : World} {g : Option Nat} {M : List (Nat × Value)} {L : List Ob} {O : List Rw} {A A2 : Option Addr} {n c m c2 x y : Nat}
end
end Go.Proofs.YtnfjnlnphdmdmaaDoor

namespace Go.Proofs.YtnfjnlnphdmdmaaDoor
open Go.RowKit
set_option linter.unusedVariables false
theorem addF_low {a b c d : Nat} (ha : a < Na.top) (hb : b < Na.top) (hc : c < Na.top) (hd : d < Na.top) (hb0 : 0 < b) (hd0 : 0 < d) (g1 : Nat.gcd a b = 1) (g2 : Nat.gcd c d = 1) (h1 : a * d + c * b < Na.top) (h3 : b * d < Na.top) : addF (Na.up (Na.dig a)) (Na.up (Na.dig b)) (Na.up (Na.dig c)) (Na.up (Na.dig d)) = frM (a * d + c * b) (b * d) := by
  unfold addF
  rw [rv_low ha hb hb0 g1, rv_low hc hd hd0 g2, num_dig, num_dig, num_dig, num_dig, if_pos (by rfl), if_pos ⟨by omega, by omega, h3, h1⟩]
theorem mulF_low {a b c d : Nat} (ha : a < Na.top) (hb : b < Na.top) (hc : c < Na.top) (hd : d < Na.top) (hb0 : 0 < b) (hd0 : 0 < d) (g1 : Nat.gcd a b = 1) (g2 : Nat.gcd c d = 1) (h1 : a * c < Na.top) (h3 : b * d < Na.top) : mulF (Na.up (Na.dig a)) (Na.up (Na.dig b)) (Na.up (Na.dig c)) (Na.up (Na.dig d)) = frM (a * c) (b * d) := by
  unfold mulF
  rw [rv_low ha hb hb0 g1, rv_low hc hd hd0 g2, num_dig, num_dig, num_dig, num_dig, if_pos (by rfl), if_pos ⟨h1, h3⟩]
end Go.Proofs.YtnfjnlnphdmdmaaDoor

namespace Go.Proofs.YtnfjnlnphdmdmaaDoor
open Go.RowKit Go.Sort
set_option linter.unusedVariables false
set_option maxRecDepth 100000
section
variable {w0 w w' : World} {g : Option Nat} {M : List (Nat × Value)} {L : List Ob} {O : List Rw} {A A2 : Option Addr} {n c m c2 x y : Nat}
end
end Go.Proofs.YtnfjnlnphdmdmaaDoor

namespace Go.Proofs.YtnfjnlnphdmdmaaDoor
open Go.RowKit Go.Sort
set_option linter.unusedVariables false
set_option maxRecDepth 100000
end Go.Proofs.YtnfjnlnphdmdmaaDoor

namespace Go.Proofs.YtnfjnlnphdmdmaaDoor
open Go.RowKit Go.Sort
set_option linter.unusedVariables false
set_option maxRecDepth 100000
end Go.Proofs.YtnfjnlnphdmdmaaDoor

namespace Go.Proofs.YtnfjnlnphdmdmaaDoor
open Go.RowKit Go.Sort
set_option linter.unusedVariables false
set_option maxRecDepth 100000
section
variable {w0 w w' : World} {g : Option Nat} {M : List (Nat × Value)} {L : List Ob} {O : List Rw} {A A2 : Option Addr} {n c m c2 x y : Nat} {p q : List Int}
theorem qmake_d (h : Ow w0 w g M L O) (i j : Nat) (hi : L[i]? = some ⟨A, n, c, nats (Na.dig x)⟩) (hj : L[j]? = some ⟨A2, m, c2, nats (Na.dig y)⟩) (hx : x < Na.top) (hy : y < Na.top) (ht : Tab w0) :
    Calls Tryd.prog 16 #[.agg #[.slice A n c], .agg #[.slice A2 m c2]] w (ResF w (frM x y)) := by
  have := qmake_r (p := Na.up (Na.dig x)) (q := Na.up (Na.dig y)) h i j (by rw [nats_up]; exact hi) (by rw [nats_up]; exact hj) ht
  unfold makeF at this
  rw [Na.vld_dig hx, Na.vld_dig hy, num_dig, num_dig] at this
  exact this
end
section
variable {w0 w w' : World} {g : Option Nat} {M : List (Nat × Value)} {L : List Ob} {O : List Rw} {A A2 A3 A4 : Option Addr} {n c m c2 n3 c3 n4 c4 : Nat}
end
end Go.Proofs.YtnfjnlnphdmdmaaDoor

namespace Go.Proofs.YtnfjnlnphdmdmaaDoor
open Go.RowKit Go.Sort
set_option linter.unusedVariables false
set_option maxRecDepth 100000
section
variable {w0 w w' : World} {g : Option Nat} {M : List (Nat × Value)} {L : List Ob} {O : List Rw}
theorem qof_n (h : Ow w0 w g M L O) (a : Int) (ha : a ≤ 9223372036854775807) : Calls Tryd.prog 50 #[.int .i64 a] w (GotO w0 g M L O (ofL a) (ofE a)) :=
  (nof_any a w ha).mono fun e w' hr => got_o h (by
    rcases Int.lt_or_le a 0 with h0 | h0
    · rw [(ofL_neg h0).1]; decide
    · rw [(ofL_pos h0).1]; exact dig_1000 (int_top ha)) hr
set_option maxHeartbeats 4000000 in
theorem qof_ow (h : Ow w0 w g M L O) (a b : Int) (ha : a ≤ 9223372036854775807) (hb : b ≤ 9223372036854775807) (ht : Tab w0) :
    Calls Tryd.prog 14 #[.int .i64 a, .int .i64 b] w (GotF w0 g M L O (ofF a b)) := by
  have H0 := h.pair (.slice none 0 0) (.slice none 0 0) 28
  have HC := Lib.hid (qof_n H0 a ha)
  have HB := Lib.hid hb
  have HA := Lib.hid ha
  have HT := Lib.hid ht
  obtain ⟨l1, h1⟩ : ∃ l, ofL a = l := ⟨_, rfl⟩
  obtain ⟨e1, he1⟩ : ∃ l, ofE a = l := ⟨_, rfl⟩
  obtain ⟨l2, h2⟩ : ∃ l, ofL b = l := ⟨_, rfl⟩
  obtain ⟨e2, he2⟩ : ∃ l, ofE b = l := ⟨_, rfl⟩
  rw [h1, he1] at HC
  have HL := Lib.hid (And.intro h1 (And.intro h2 he2))
  have key : ((e1 != 0) = true ∧ ofF a b = frE 2) ∨ ((e1 != 0) = false ∧ (e2 != 0) = true ∧ ofF a b = frE 2) ∨ ((e1 != 0) = false ∧ (e2 != 0) = false ∧ 0 ≤ a ∧ 0 ≤ b ∧ ofF a b = frM a.toNat b.toNat) := by
    unfold ofF
    rcases Int.lt_or_le a 0 with h0 | h0
    · exact .inl ⟨by rw [← he1, (ofL_neg h0).2]; rfl, if_pos (.inl h0)⟩
    · rcases Int.lt_or_le b 0 with h3 | h3
      · exact .inr (.inl ⟨by rw [← he1, (ofL_pos h0).2]; rfl, by rw [← he2, (ofL_neg h3).2]; rfl, if_pos (.inr h3)⟩)
      · exact .inr (.inr ⟨by rw [← he1, (ofL_pos h0).2]; rfl, by rw [← he2, (ofL_pos h3).2]; rfl, h0, h3, if_neg (by omega)⟩)
  clear h H0 ha hb h1 he1 h2 he2 ht
  go_enter Tryd.func14, Tryd.ntmps14
  go_wp2_with fail
  refine HC.out.mono ?_
  rintro e w1 ⟨B1, m1, d1, rfl, H1⟩
  have H2 := H1.boxed (.slice B1 m1 d1) 25
  have HD := Lib.hid (qof_n H2 b HB.out)
  rw [HL.out.2.1, HL.out.2.2] at HD
  clear HC H1 H2
  rcases key with ⟨k1, k2⟩ | ⟨k1, k2, k3⟩ | ⟨k1, k2, ka, kb, k3⟩
  · have HK := Lib.hid k2
    clear k2
    go_wp2_with fail
    refine HD.out.mono ?_
    rintro e w2 ⟨B2, m2, d2, rfl, H3⟩
    have H4 := H3.boxed (.slice B2 m2 d2) 25
    simp only [List.append_assoc, List.cons_append, List.nil_append] at H4
    have x0 := H4.p0 (O.length + 0) (by rw [get_r]; rfl)
    have x1 := H4.p1 (O.length + 0) (by rw [get_r]; rfl)
    have f0 := H4.pf (O.length + 0) (by rw [get_r]; rfl) 0
    have f1 := H4.pf (O.length + 0) (by rw [get_r]; rfl) 1
    have H5 := H4.set0 (O.length + 0) (by rw [get_r]; rfl) (.slice none 0 0)
    rw [set_r, List.set_cons_zero] at H5
    have H6 := H5.set1 (O.length + 0) (by rw [get_r]; rfl) (.slice none 0 0)
    rw [set_r, List.set_cons_zero] at H6
    have s0 := H6.p0 (O.length + 0) (by rw [get_r]; rfl)
    have s1 := H6.p1 (O.length + 0) (by rw [get_r]; rfl)
    have HF := Lib.hid (H6.fewM.fewO.less (L' := L) (fun o ho => List.mem_append_left _ ho))
    clear HD H3 H4 H5 H6
    go_wp2_with fail
    refine bodyPost_ret (v := .tuple #[.agg #[.slice none 0 0, .slice none 0 0], .int .i64 2]) (by simp [results, Tryd.results14, go_sem, s0, s1]) rfl ?_
    rw [HK.out]
    exact gotF_nil HF.out 2
  · have HK := Lib.hid k3
    clear k3
    go_wp2_with fail
    refine HD.out.mono ?_
    rintro e w2 ⟨B2, m2, d2, rfl, H3⟩
    have H4 := H3.boxed (.slice B2 m2 d2) 25
    simp only [List.append_assoc, List.cons_append, List.nil_append] at H4
    have x0 := H4.p0 (O.length + 0) (by rw [get_r]; rfl)
    have x1 := H4.p1 (O.length + 0) (by rw [get_r]; rfl)
    have f0 := H4.pf (O.length + 0) (by rw [get_r]; rfl) 0
    have f1 := H4.pf (O.length + 0) (by rw [get_r]; rfl) 1
    have H5 := H4.set0 (O.length + 0) (by rw [get_r]; rfl) (.slice none 0 0)
    rw [set_r, List.set_cons_zero] at H5
    have H6 := H5.set1 (O.length + 0) (by rw [get_r]; rfl) (.slice none 0 0)
    rw [set_r, List.set_cons_zero] at H6
    have s0 := H6.p0 (O.length + 0) (by rw [get_r]; rfl)
    have s1 := H6.p1 (O.length + 0) (by rw [get_r]; rfl)
    have HF := Lib.hid (H6.fewM.fewO.less (L' := L) (fun o ho => List.mem_append_left _ ho))
    clear HD H3 H4 H5 H6
    go_wp2_with fail
    refine bodyPost_ret (v := .tuple #[.agg #[.slice none 0 0, .slice none 0 0], .int .i64 2]) (by simp [results, Tryd.results14, go_sem, s0, s1]) rfl ?_
    rw [HK.out]
    exact gotF_nil HF.out 2
  · have HK := Lib.hid k3
    have HX := Lib.hid (And.intro ka kb)
    obtain ⟨t, hmk⟩ : ∃ t, frM a.toNat b.toNat = t := ⟨_, rfl⟩
    have HMk := Lib.hid hmk
    clear k3 ka kb hmk
    go_wp2_with fail
    refine HD.out.mono ?_
    rintro e w2 ⟨B2, m2, d2, rfl, H3⟩
    have H4 := H3.boxed (.slice B2 m2 d2) 25
    simp only [List.append_assoc, List.cons_append, List.nil_append] at H4
    rw [← HL.out.1, ← HL.out.2.1, (ofL_pos HX.out.1).1, (ofL_pos HX.out.2).1] at H4
    have y0 := H4.cell (M.length + 0) (by rw [get_r]; rfl)
    have y1 := H4.cell (M.length + 1) (by rw [get_r]; rfl)
    have HE := Lib.hid (qmake_d H4 (L.length + 0) (L.length + 1) (by rw [get_r]; rfl) (by rw [get_r]; rfl) (int_top HA.out) (int_top HB.out) HT.out)
    rw [HMk.out] at HE
    have HG := Lib.hid H4
    clear HD H3 H4
    go_wp2_with fail
    refine HE.out.mono ?_
    intro e w3 hr
    have ht1 : t.1 < Na.top ∧ t.2.1 < Na.top := by rw [← HMk.out]; exact frM_top (int_top HA.out) (int_top HB.out)
    obtain ⟨C1, p1, q1, C2, p2, q2, rfl, how3⟩ := got_f HG.out ht1.1 ht1.2 hr
    have x0 := how3.p0 (O.length + 0) (by rw [get_r]; rfl)
    have x1 := how3.p1 (O.length + 0) (by rw [get_r]; rfl)
    have f0 := how3.pf (O.length + 0) (by rw [get_r]; rfl) 0
    have f1 := how3.pf (O.length + 0) (by rw [get_r]; rfl) 1
    have H5 := how3.set0 (O.length + 0) (by rw [get_r]; rfl) (.slice C1 p1 q1)
    rw [set_r, List.set_cons_zero] at H5
    have H6 := H5.set1 (O.length + 0) (by rw [get_r]; rfl) (.slice C2 p2 q2)
    rw [set_r, List.set_cons_zero] at H6
    have s0 := H6.p0 (O.length + 0) (by rw [get_r]; rfl)
    have s1 := H6.p1 (O.length + 0) (by rw [get_r]; rfl)
    have HF := Lib.hid (H6.fewM.fewO.less (L' := L ++ [⟨C1, p1, q1, _⟩] ++ [⟨C2, p2, q2, _⟩]) (of_less L _ _ _))
    clear HE HG hr how3 H5 H6 y0 y1 ht1
    go_wp2_with fail
    refine bodyPost_ret (v := .tuple #[.agg #[.slice C1 p1 q1, .slice C2 p2 q2], .int .i64 t.2.2]) (by simp [results, Tryd.results14, go_sem, s0, s1]) rfl ?_
    rw [HK.out, HMk.out]
    exact ⟨C1, p1, q1, C2, p2, q2, rfl, HF.out⟩
end
end Go.Proofs.YtnfjnlnphdmdmaaDoor

namespace Go.Proofs.YtnfjnlnphdmdmaaDoor
open Go.RowKit Go.Sort
set_option linter.unusedVariables false
set_option maxRecDepth 100000
end Go.Proofs.YtnfjnlnphdmdmaaDoor

namespace Go.Proofs.YtnfjnlnphdmdmaaDoor
open Go.RowKit Go.Sort
set_option linter.unusedVariables false
set_option maxRecDepth 100000
section
variable {w0 w w' : World} {g : Option Nat} {M M2 : List (Nat × Value)} {L : List Ob} {O : List Rw} {A A2 A3 A4 : Option Addr} {b n c m c2 n3 c3 n4 c4 x y : Nat} {p q r s : List Int}
set_option maxHeartbeats 8000000 in
theorem qrmul_any (h : Ow w0 w g M L O) (i j k l : Nat) (hi : L[i]? = some ⟨A, n, c, ints p⟩) (hj : L[j]? = some ⟨A2, m, c2, ints q⟩) (hk : L[k]? = some ⟨A3, n3, c3, ints r⟩) (hl : L[l]? = some ⟨A4, n4, c4, ints s⟩)  :
    Calls Tryd.prog 48 #[.agg #[.slice A n c, .slice A2 m c2], .agg #[.slice A3 n3 c3, .slice A4 n4 c4]] w (GotF w0 g M L O (mulF p q r s)) := by
  have H0 := ((h.pair (.slice A n c) (.slice A2 m c2) 28).pair (.slice A3 n3 c3) (.slice A4 n4 c4) 28).pair (.slice none 0 0) (.slice none 0 0) 28
  simp only [World.size_alloc, List.append_assoc, List.cons_append, List.nil_append] at H0
  have a0 := H0.p0 (O.length + 0) (by rw [get_r]; rfl)
  have a1 := H0.p1 (O.length + 0) (by rw [get_r]; rfl)
  have HV := Lib.hid (qrvalid_ow H0 i j hi hj)
  cases h1 : rv p q with
  | false =>
  rw [h1] at HV
  rw [show mulF p q r s = frE 1 by unfold mulF; rw [h1]; rfl]
  clear h H0 hi hj hk hl h1
  go_enter Tryd.func48, Tryd.ntmps48
  go_wp2_with fail
  refine HV.out.mono ?_
  rintro e w1 ⟨rfl, H⟩
  clear HV a0 a1
  have k0 := H.p0 (O.length + 2) (by rw [get_r]; rfl)
  have k1 := H.p1 (O.length + 2) (by rw [get_r]; rfl)
  have f0 := H.pf (O.length + 2) (by rw [get_r]; rfl) 0
  have f1 := H.pf (O.length + 2) (by rw [get_r]; rfl) 1
  have Z3 := H.set0 (O.length + 2) (by rw [get_r]; rfl) (.slice none 0 0)
  rw [set_r] at Z3
  simp only [List.set_cons_succ, List.set_cons_zero] at Z3
  have Z4 := Z3.set1 (O.length + 2) (by rw [get_r]; rfl) (.slice none 0 0)
  rw [set_r] at Z4
  simp only [List.set_cons_succ, List.set_cons_zero] at Z4
  have s0 := Z4.p0 (O.length + 2) (by rw [get_r]; rfl)
  have s1 := Z4.p1 (O.length + 2) (by rw [get_r]; rfl)
  have HF := Lib.hid (Z4.fewO)
  clear H Z3 Z4
  go_wp2_with fail
  refine bodyPost_ret (v := .tuple #[.agg #[.slice none 0 0, .slice none 0 0], .int .i64 1]) (by simp [results, Tryd.results48, go_sem, s0, s1]) rfl ?_
  exact gotF_nil HF.out 1
  | true =>
  rw [h1] at HV
  cases h2 : rv r s with
  | false =>
  rw [show mulF p q r s = frE 1 by unfold mulF; rw [h1, h2]; rfl]
  have HR := Lib.hid (And.intro hk (And.intro hl h2))
  clear h H0 hi hj hk hl h1 h2
  go_enter Tryd.func48, Tryd.ntmps48
  go_wp2_with fail
  refine HV.out.mono ?_
  rintro e w1 ⟨rfl, H⟩
  have b0 := H.p0 (O.length + 1) (by rw [get_r]; rfl)
  have b1 := H.p1 (O.length + 1) (by rw [get_r]; rfl)
  have HW := Lib.hid (qrvalid_ow H k l HR.out.1 HR.out.2.1)
  rw [HR.out.2.2] at HW
  clear HV H a0 a1
  go_wp2_with fail
  refine HW.out.mono ?_
  rintro e w2 ⟨rfl, H⟩
  clear HW b0 b1
  have k0 := H.p0 (O.length + 2) (by rw [get_r]; rfl)
  have k1 := H.p1 (O.length + 2) (by rw [get_r]; rfl)
  have f0 := H.pf (O.length + 2) (by rw [get_r]; rfl) 0
  have f1 := H.pf (O.length + 2) (by rw [get_r]; rfl) 1
  have Z3 := H.set0 (O.length + 2) (by rw [get_r]; rfl) (.slice none 0 0)
  rw [set_r] at Z3
  simp only [List.set_cons_succ, List.set_cons_zero] at Z3
  have Z4 := Z3.set1 (O.length + 2) (by rw [get_r]; rfl) (.slice none 0 0)
  rw [set_r] at Z4
  simp only [List.set_cons_succ, List.set_cons_zero] at Z4
  have s0 := Z4.p0 (O.length + 2) (by rw [get_r]; rfl)
  have s1 := Z4.p1 (O.length + 2) (by rw [get_r]; rfl)
  have HF := Lib.hid (Z4.fewO)
  clear H Z3 Z4
  go_wp2_with fail
  refine bodyPost_ret (v := .tuple #[.agg #[.slice none 0 0, .slice none 0 0], .int .i64 1]) (by simp [results, Tryd.results48, go_sem, s0, s1]) rfl ?_
  exact gotF_nil HF.out 1
  | true =>
  have HR := Lib.hid (And.intro hk (And.intro hl h2))
  have e1 : mulF p q r s = if num p * num r < Na.top ∧ num q * num s < Na.top then frM (num p * num r) (num q * num s) else frE 3 := by unfold mulF; rw [h1, h2]; rfl
  rw [e1]
  clear e1
  obtain ⟨x, y, hx, hy, -, -, rfl, rfl⟩ := rv_ex h1
  obtain ⟨u, v, hu, hv, -, -, rfl, rfl⟩ := rv_ex h2
  rw [num_dig, num_dig, num_dig, num_dig]
  have HI := Lib.hid (And.intro (nats_lay hi) (And.intro (nats_lay hj) (And.intro (nats_lay hk) (nats_lay hl))))
  have HX := Lib.hid (And.intro hx (And.intro hy (And.intro hu hv)))
  clear h H0 hi hj hk hl h1 h2 hx hy hu hv
  by_cases hX : x * u < Na.top
  · by_cases hZ : y * v < Na.top
    · rw [if_pos ⟨hX, hZ⟩]
      obtain ⟨t, hmk⟩ : ∃ t, frM (x * u) (y * v) = t := ⟨_, rfl⟩
      rw [hmk]
      have HE := Lib.hid (And.intro hX (And.intro hZ hmk))
      clear hX hZ hmk
      go_enter Tryd.func48, Tryd.ntmps48
      go_wp2_with fail
      refine HV.out.mono ?_
      rintro e w1 ⟨rfl, H⟩
      have b0 := H.p0 (O.length + 1) (by rw [get_r]; rfl)
      have b1 := H.p1 (O.length + 1) (by rw [get_r]; rfl)
      have HW := Lib.hid (qrvalid_ow H k l HR.out.1 HR.out.2.1)
      rw [HR.out.2.2] at HW
      clear HV H a0 a1
      go_wp2_with fail
      refine HW.out.mono ?_
      rintro e w2 ⟨rfl, H⟩
      clear HW b0 b1
      have a0 := H.p0 (O.length + 0) (by rw [get_r]; rfl)
      have b0 := H.p0 (O.length + 1) (by rw [get_r]; rfl)
      have HC := Lib.hid (nrmul_fr H i k HI.out.1 HI.out.2.2.1 HX.out.1 HX.out.2.2.1)
      rw [resL_ok HE.out.1, resE_ok HE.out.1] at HC
      clear H
      go_wp2_with fail
      refine HC.out.mono ?_
      rintro e w3 ⟨B3, m3, d3, rfl, G⟩
      have H := G.boxed (.slice B3 m3 d3) 25
      try simp only [List.append_assoc, List.cons_append, List.nil_append] at H
      clear HC G a0 b0
      have a1 := H.p1 (O.length + 0) (by rw [get_r]; rfl)
      have b1 := H.p1 (O.length + 1) (by rw [get_r]; rfl)
      have HC := Lib.hid (nrmul_fr H j l ((get_l _ _ (get_lt HI.out.2.1)).trans HI.out.2.1) ((get_l _ _ (get_lt HI.out.2.2.2)).trans HI.out.2.2.2) HX.out.2.1 HX.out.2.2.2)
      rw [resL_ok HE.out.2.1, resE_ok HE.out.2.1] at HC
      clear H
      go_wp2_with fail
      refine HC.out.mono ?_
      rintro e w4 ⟨B4, m4, d4, rfl, G⟩
      have H := G.boxed (.slice B4 m4 d4) 25
      try simp only [List.append_assoc, List.cons_append, List.nil_append] at H
      clear HC G a1 b1
      have k0 := H.cell (M.length + 0) (by rw [get_r]; rfl)
      have k1 := H.cell (M.length + 1) (by rw [get_r]; rfl)
      have HC := Lib.hid (qrmake_fr H (L.length + 0) (L.length + 1) (by rw [get_r]; rfl) (by rw [get_r]; rfl) HE.out.1 HE.out.2.1 HE.out.2.2)
      clear H
      go_wp2_with fail
      refine HC.out.mono ?_
      rintro e w9 ⟨C1, i1, e1, C2, k2, e2, rfl, G⟩
      clear HC k0 k1
      rw [show L ++ [(⟨B3, m3, d3, nats (Na.dig (x * u))⟩ : Ob), ⟨B4, m4, d4, nats (Na.dig (y * v))⟩] = L ++ ([⟨B3, m3, d3, nats (Na.dig (x * u))⟩] ++ [⟨B4, m4, d4, nats (Na.dig (y * v))⟩]) from rfl] at G
      have z0 := G.p0 (O.length + 2) (by rw [get_r]; rfl)
      have z1 := G.p1 (O.length + 2) (by rw [get_r]; rfl)
      have f0 := G.pf (O.length + 2) (by rw [get_r]; rfl) 0
      have f1 := G.pf (O.length + 2) (by rw [get_r]; rfl) 1
      have Z3 := G.set0 (O.length + 2) (by rw [get_r]; rfl) (.slice C1 i1 e1)
      rw [set_r] at Z3
      simp only [List.set_cons_succ, List.set_cons_zero] at Z3
      have Z4 := Z3.set1 (O.length + 2) (by rw [get_r]; rfl) (.slice C2 k2 e2)
      rw [set_r] at Z4
      simp only [List.set_cons_succ, List.set_cons_zero] at Z4
      have s0 := Z4.p0 (O.length + 2) (by rw [get_r]; rfl)
      have s1 := Z4.p1 (O.length + 2) (by rw [get_r]; rfl)
      have HF := Lib.hid (Z4.fewM.fewO.less (mid_less L _ _ _))
      clear G Z3 Z4
      go_wp2_with fail
      refine bodyPost_ret (v := .tuple #[.agg #[.slice C1 i1 e1, .slice C2 k2 e2], .int .i64 t.2.2]) (by simp [results, Tryd.results48, go_sem, s0, s1]) rfl ?_
      exact ⟨C1, i1, e1, C2, k2, e2, rfl, HF.out⟩
    · rw [if_neg (fun h => hZ h.2)]
      have HE := Lib.hid (And.intro hX hZ)
      clear hX hZ
      go_enter Tryd.func48, Tryd.ntmps48
      go_wp2_with fail
      refine HV.out.mono ?_
      rintro e w1 ⟨rfl, H⟩
      have b0 := H.p0 (O.length + 1) (by rw [get_r]; rfl)
      have b1 := H.p1 (O.length + 1) (by rw [get_r]; rfl)
      have HW := Lib.hid (qrvalid_ow H k l HR.out.1 HR.out.2.1)
      rw [HR.out.2.2] at HW
      clear HV H a0 a1
      go_wp2_with fail
      refine HW.out.mono ?_
      rintro e w2 ⟨rfl, H⟩
      clear HW b0 b1
      have a0 := H.p0 (O.length + 0) (by rw [get_r]; rfl)
      have b0 := H.p0 (O.length + 1) (by rw [get_r]; rfl)
      have HC := Lib.hid (nrmul_fr H i k HI.out.1 HI.out.2.2.1 HX.out.1 HX.out.2.2.1)
      rw [resL_ok HE.out.1, resE_ok HE.out.1] at HC
      clear H
      go_wp2_with fail
      refine HC.out.mono ?_
      rintro e w3 ⟨B3, m3, d3, rfl, G⟩
      have H := G.boxed (.slice B3 m3 d3) 25
      try simp only [List.append_assoc, List.cons_append, List.nil_append] at H
      clear HC G a0 b0
      have a1 := H.p1 (O.length + 0) (by rw [get_r]; rfl)
      have b1 := H.p1 (O.length + 1) (by rw [get_r]; rfl)
      have HC := Lib.hid (nrmul_fr H j l ((get_l _ _ (get_lt HI.out.2.1)).trans HI.out.2.1) ((get_l _ _ (get_lt HI.out.2.2.2)).trans HI.out.2.2.2) HX.out.2.1 HX.out.2.2.2)
      rw [resE_nt HE.out.2] at HC
      clear H
      go_wp2_with fail
      refine HC.out.mono ?_
      rintro e w4 ⟨B4, m4, d4, rfl, G⟩
      have H := G.boxed (.slice B4 m4 d4) 25
      try simp only [List.append_assoc, List.cons_append, List.nil_append] at H
      clear HC G a1 b1
      have k0 := H.p0 (O.length + 2) (by rw [get_r]; rfl)
      have k1 := H.p1 (O.length + 2) (by rw [get_r]; rfl)
      have f0 := H.pf (O.length + 2) (by rw [get_r]; rfl) 0
      have f1 := H.pf (O.length + 2) (by rw [get_r]; rfl) 1
      have Z3 := H.set0 (O.length + 2) (by rw [get_r]; rfl) (.slice none 0 0)
      rw [set_r] at Z3
      simp only [List.set_cons_succ, List.set_cons_zero] at Z3
      have Z4 := Z3.set1 (O.length + 2) (by rw [get_r]; rfl) (.slice none 0 0)
      rw [set_r] at Z4
      simp only [List.set_cons_succ, List.set_cons_zero] at Z4
      have s0 := Z4.p0 (O.length + 2) (by rw [get_r]; rfl)
      have s1 := Z4.p1 (O.length + 2) (by rw [get_r]; rfl)
      have HF := Lib.hid (Z4.fewM.fewO.less (L' := L) (fun o ho => by simp [ho]))
      clear H Z3 Z4
      go_wp2_with fail
      refine bodyPost_ret (v := .tuple #[.agg #[.slice none 0 0, .slice none 0 0], .int .i64 3]) (by simp [results, Tryd.results48, go_sem, s0, s1]) rfl ?_
      exact gotF_nil HF.out 3
  · rw [if_neg (fun h => hX h.1)]
    have HE := Lib.hid hX
    clear hX
    go_enter Tryd.func48, Tryd.ntmps48
    go_wp2_with fail
    refine HV.out.mono ?_
    rintro e w1 ⟨rfl, H⟩
    have b0 := H.p0 (O.length + 1) (by rw [get_r]; rfl)
    have b1 := H.p1 (O.length + 1) (by rw [get_r]; rfl)
    have HW := Lib.hid (qrvalid_ow H k l HR.out.1 HR.out.2.1)
    rw [HR.out.2.2] at HW
    clear HV H a0 a1
    go_wp2_with fail
    refine HW.out.mono ?_
    rintro e w2 ⟨rfl, H⟩
    clear HW b0 b1
    have a0 := H.p0 (O.length + 0) (by rw [get_r]; rfl)
    have b0 := H.p0 (O.length + 1) (by rw [get_r]; rfl)
    have HC := Lib.hid (nrmul_fr H i k HI.out.1 HI.out.2.2.1 HX.out.1 HX.out.2.2.1)
    rw [resE_nt HE.out] at HC
    clear H
    go_wp2_with fail
    refine HC.out.mono ?_
    rintro e w3 ⟨B3, m3, d3, rfl, G⟩
    have H := G.boxed (.slice B3 m3 d3) 25
    try simp only [List.append_assoc, List.cons_append, List.nil_append] at H
    clear HC G a0 b0
    have a1 := H.p1 (O.length + 0) (by rw [get_r]; rfl)
    have b1 := H.p1 (O.length + 1) (by rw [get_r]; rfl)
    have HC := Lib.hid (nrmul_fr H j l ((get_l _ _ (get_lt HI.out.2.1)).trans HI.out.2.1) ((get_l _ _ (get_lt HI.out.2.2.2)).trans HI.out.2.2.2) HX.out.2.1 HX.out.2.2.2)
    clear H
    go_wp2_with fail
    refine HC.out.mono ?_
    rintro e w4 ⟨B4, m4, d4, rfl, G⟩
    have H := G.boxed (.slice B4 m4 d4) 25
    try simp only [List.append_assoc, List.cons_append, List.nil_append] at H
    clear HC G a1 b1
    have k0 := H.p0 (O.length + 2) (by rw [get_r]; rfl)
    have k1 := H.p1 (O.length + 2) (by rw [get_r]; rfl)
    have f0 := H.pf (O.length + 2) (by rw [get_r]; rfl) 0
    have f1 := H.pf (O.length + 2) (by rw [get_r]; rfl) 1
    have Z3 := H.set0 (O.length + 2) (by rw [get_r]; rfl) (.slice none 0 0)
    rw [set_r] at Z3
    simp only [List.set_cons_succ, List.set_cons_zero] at Z3
    have Z4 := Z3.set1 (O.length + 2) (by rw [get_r]; rfl) (.slice none 0 0)
    rw [set_r] at Z4
    simp only [List.set_cons_succ, List.set_cons_zero] at Z4
    have s0 := Z4.p0 (O.length + 2) (by rw [get_r]; rfl)
    have s1 := Z4.p1 (O.length + 2) (by rw [get_r]; rfl)
    have HF := Lib.hid (Z4.fewM.fewO.less (L' := L) (fun o ho => by simp [ho]))
    clear H Z3 Z4
    go_wp2_with fail
    refine bodyPost_ret (v := .tuple #[.agg #[.slice none 0 0, .slice none 0 0], .int .i64 3]) (by simp [results, Tryd.results48, go_sem, s0, s1]) rfl ?_
    exact gotF_nil HF.out 3
def GotX (w0 : World) (g : Option Nat) (M : List (Nat × Value)) (L : List Ob) (O : List Rw) (l1 l2 l3 : List Nat) (e0 : Int) (en : Ending) (w' : World) : Prop :=
  ∃ (A1 : Option Addr) (n1 c1 : Nat) (A2 : Option Addr) (n2 c2 : Nat) (A3 : Option Addr) (n3 c3 : Nat), en = .returned (.tuple #[.agg #[.slice A1 n1 c1], .agg #[.slice A2 n2 c2], .agg #[.slice A3 n3 c3], .int .i64 e0]) ∧ Ow w0 w' g M (L ++ [⟨A1, n1, c1, nats l1⟩, ⟨A2, n2, c2, nats l2⟩, ⟨A3, n3, c3, nats l3⟩]) O
theorem gotX_nil (h : Ow w0 w g M L O) (e0 : Int) : GotX w0 g M L O [] [] [] e0 (.returned (.tuple #[.agg #[.slice none 0 0], .agg #[.slice none 0 0], .agg #[.slice none 0 0], .int .i64 e0])) w := by
  refine ⟨none, 0, 0, none, 0, 0, none, 0, 0, rfl, ?_⟩
  have := ((h.old (A := none) (n := 0) (c := 0) (vs := nats []) (Sl.nil _ _ _) rfl (Nat.le_refl _) (by decide)).old (A := none) (n := 0) (c := 0) (vs := nats []) (Sl.nil _ _ _) rfl (Nat.le_refl _) (by decide)).old (A := none) (n := 0) (c := 0) (vs := nats []) (Sl.nil _ _ _) rfl (Nat.le_refl _) (by decide)
  rwa [List.append_assoc, List.append_assoc] at this
set_option maxHeartbeats 8000000 in
theorem qcross_ok {x y u v : Nat} (h : Ow w0 w g M L O) (i j k l : Nat) (hi : L[i]? = some ⟨A, n, c, nats (Na.dig x)⟩) (hj : L[j]? = some ⟨A2, m, c2, nats (Na.dig y)⟩) (hk : L[k]? = some ⟨A3, n3, c3, nats (Na.dig u)⟩) (hl : L[l]? = some ⟨A4, n4, c4, nats (Na.dig v)⟩) (hx : x < Na.top) (hy : y < Na.top) (hu : u < Na.top) (hv : v < Na.top) (hX : x * v < Na.top) (hY : u * y < Na.top) (hZ : y * v < Na.top) :
    Calls Tryd.prog 89 #[.agg #[.slice A n c, .slice A2 m c2], .agg #[.slice A3 n3 c3, .slice A4 n4 c4]] w (GotX w0 g M L O (Na.dig (x * v)) (Na.dig (u * y)) (Na.dig (y * v)) 0) := by
  have H0 := ((((h.pair (.slice A n c) (.slice A2 m c2) 28).pair (.slice A3 n3 c3) (.slice A4 n4 c4) 28).boxed (.slice none 0 0) 25).boxed (.slice none 0 0) 25).boxed (.slice none 0 0) 25
  simp only [World.size_alloc, List.append_assoc, List.cons_append, List.nil_append] at H0
  have H := H0
  have HI := Lib.hid (And.intro hi (And.intro hj (And.intro hk hl)))
  have HX := Lib.hid (And.intro hx (And.intro hy (And.intro hu hv)))
  have HE := Lib.hid (And.intro hX (And.intro hY hZ))
  have q1 := H.p0 (O.length + 0) (by rw [get_r]; rfl)
  have q2 := H.p1 (O.length + 1) (by rw [get_r]; rfl)
  have HC := Lib.hid (nrmul_fr H i l HI.out.1 HI.out.2.2.2 HX.out.1 HX.out.2.2.2)
  rw [resL_ok HE.out.1, resE_ok HE.out.1] at HC
  clear h H0 H hi hj hk hl hx hy hu hv hX hY hZ
  go_enter Tryd.func89, Tryd.ntmps89
  go_wp2_with fail
  refine HC.out.mono ?_
  rintro e w3 ⟨B3, m3, d3, rfl, G⟩
  have H := G.boxed (.slice B3 m3 d3) 25
  simp only [List.append_assoc, List.cons_append, List.nil_append] at H
  clear HC G q1 q2
  have b0 := H.p0 (O.length + 1) (by rw [get_r]; rfl)
  have a1 := H.p1 (O.length + 0) (by rw [get_r]; rfl)
  have HC := Lib.hid (nrmul_fr H k j ((get_l _ _ (get_lt HI.out.2.2.1)).trans HI.out.2.2.1) ((get_l _ _ (get_lt HI.out.2.1)).trans HI.out.2.1) HX.out.2.2.1 HX.out.2.1)
  rw [resL_ok HE.out.2.1, resE_ok HE.out.2.1] at HC
  clear H
  go_wp2_with fail
  refine HC.out.mono ?_
  rintro e w4 ⟨B4, m4, d4, rfl, G⟩
  have H := G.boxed (.slice B4 m4 d4) 25
  try simp only [List.append_assoc, List.cons_append, List.nil_append] at H
  clear HC G b0 a1
  have a1 := H.p1 (O.length + 0) (by rw [get_r]; rfl)
  have b1 := H.p1 (O.length + 1) (by rw [get_r]; rfl)
  have HC := Lib.hid (nrmul_fr H j l ((get_l _ _ (get_lt HI.out.2.1)).trans HI.out.2.1) ((get_l _ _ (get_lt HI.out.2.2.2)).trans HI.out.2.2.2) HX.out.2.1 HX.out.2.2.2)
  rw [resL_ok HE.out.2.2, resE_ok HE.out.2.2] at HC
  clear H
  go_wp2_with fail
  refine HC.out.mono ?_
  rintro e w5 ⟨B5, m5, d5, rfl, G⟩
  have H := G.boxed (.slice B5 m5 d5) 25
  try simp only [List.append_assoc, List.cons_append, List.nil_append] at H
  clear HC G a1 b1
  have HD := Lib.hid H.drew
  have HN := Lib.hid H
  have k0 := H.cell (M.length + 0) (by rw [get_r]; rfl)
  have k1 := H.cell (M.length + 1) (by rw [get_r]; rfl)
  have k2 := H.cell (M.length + 2) (by rw [get_r]; rfl)
  have k3 := H.cell (M.length + 3) (by rw [get_r]; rfl)
  have k4 := H.cell (M.length + 4) (by rw [get_r]; rfl)
  have k5 := H.cell (M.length + 5) (by rw [get_r]; rfl)
  have f0 := H.free (M.length + 0) (by rw [get_r]; rfl)
  have f1 := H.free (M.length + 1) (by rw [get_r]; rfl)
  have f2 := H.free (M.length + 2) (by rw [get_r]; rfl)
  have n03 := H.apart (M.length + 3) (M.length + 0) (by rw [get_r]; rfl) (by rw [get_r]; rfl) (by omega)
  have n04 := H.apart (M.length + 4) (M.length + 0) (by rw [get_r]; rfl) (by rw [get_r]; rfl) (by omega)
  have n05 := H.apart (M.length + 5) (M.length + 0) (by rw [get_r]; rfl) (by rw [get_r]; rfl) (by omega)
  have n13 := H.apart (M.length + 3) (M.length + 1) (by rw [get_r]; rfl) (by rw [get_r]; rfl) (by omega)
  have n14 := H.apart (M.length + 4) (M.length + 1) (by rw [get_r]; rfl) (by rw [get_r]; rfl) (by omega)
  have n15 := H.apart (M.length + 5) (M.length + 1) (by rw [get_r]; rfl) (by rw [get_r]; rfl) (by omega)
  have n23 := H.apart (M.length + 3) (M.length + 2) (by rw [get_r]; rfl) (by rw [get_r]; rfl) (by omega)
  have n24 := H.apart (M.length + 4) (M.length + 2) (by rw [get_r]; rfl) (by rw [get_r]; rfl) (by omega)
  have n25 := H.apart (M.length + 5) (M.length + 2) (by rw [get_r]; rfl) (by rw [get_r]; rfl) (by omega)
  clear H
  go_upto_region 6 with (fail)
  have x0 := HD.out.cell (M.length + 0) (by rw [get_r]; rfl)
  have x1 := HD.out.cell (M.length + 1) (by rw [get_r]; rfl)
  have x2 := HD.out.cell (M.length + 2) (by rw [get_r]; rfl)
  have x3 := HD.out.cell (M.length + 3) (by rw [get_r]; rfl)
  have x4 := HD.out.cell (M.length + 4) (by rw [get_r]; rfl)
  have x5 := HD.out.cell (M.length + 5) (by rw [get_r]; rfl)
  have y0 := HD.out.free (M.length + 0) (by rw [get_r]; rfl)
  have y1 := HD.out.free (M.length + 1) (by rw [get_r]; rfl)
  have y2 := HD.out.free (M.length + 2) (by rw [get_r]; rfl)
  go_region
  have Z1 := HN.out.setv (M.length + 0) (by rw [get_r]; rfl) (.slice B3 m3 d3)
  rw [set_r] at Z1
  simp only [List.set_cons_zero] at Z1
  have Z2 := Z1.setv (M.length + 1) (by rw [get_r]; rfl) (.slice B4 m4 d4)
  rw [set_r] at Z2
  simp only [List.set_cons_succ, List.set_cons_zero] at Z2
  have Z3 := Z2.setv (M.length + 2) (by rw [get_r]; rfl) (.slice B5 m5 d5)
  rw [set_r] at Z3
  simp only [List.set_cons_succ, List.set_cons_zero] at Z3
  have s0 := Z3.cell (M.length + 0) (by rw [get_r]; rfl)
  have s1 := Z3.cell (M.length + 1) (by rw [get_r]; rfl)
  have s2 := Z3.cell (M.length + 2) (by rw [get_r]; rfl)
  have HF := Lib.hid Z3.drew.fewM.fewO
  clear HD HN Z1 Z2 Z3 k0 k1 k2 k3 k4 k5 f0 f1 f2 x0 x1 x2 x3 x4 x5 y0 y1 y2 n03 n04 n05 n13 n14 n15 n23 n24 n25
  go_wp2_with fail
  refine bodyPost_ret (v := .tuple #[.agg #[.slice B3 m3 d3], .agg #[.slice B4 m4 d4], .agg #[.slice B5 m5 d5], .int .i64 0]) (by simp [results, Tryd.results89, go_sem, s0, s1, s2]) rfl ?_
  exact ⟨B3, m3, d3, B4, m4, d4, B5, m5, d5, rfl, HF.out⟩
set_option maxHeartbeats 8000000 in
theorem qcross_x {x y u v : Nat} (h : Ow w0 w g M L O) (i j k l : Nat) (hi : L[i]? = some ⟨A, n, c, nats (Na.dig x)⟩) (hj : L[j]? = some ⟨A2, m, c2, nats (Na.dig y)⟩) (hk : L[k]? = some ⟨A3, n3, c3, nats (Na.dig u)⟩) (hl : L[l]? = some ⟨A4, n4, c4, nats (Na.dig v)⟩) (hx : x < Na.top) (hy : y < Na.top) (hu : u < Na.top) (hv : v < Na.top) (hX : ¬ x * v < Na.top) :
    Calls Tryd.prog 89 #[.agg #[.slice A n c, .slice A2 m c2], .agg #[.slice A3 n3 c3, .slice A4 n4 c4]] w (GotX w0 g M L O [] [] [] 3) := by
  have H0 := ((((h.pair (.slice A n c) (.slice A2 m c2) 28).pair (.slice A3 n3 c3) (.slice A4 n4 c4) 28).boxed (.slice none 0 0) 25).boxed (.slice none 0 0) 25).boxed (.slice none 0 0) 25
  simp only [World.size_alloc, List.append_assoc, List.cons_append, List.nil_append] at H0
  have H := H0
  have HI := Lib.hid (And.intro hi (And.intro hj (And.intro hk hl)))
  have HX := Lib.hid (And.intro hx (And.intro hy (And.intro hu hv)))
  have HE := Lib.hid hX
  have q1 := H.p0 (O.length + 0) (by rw [get_r]; rfl)
  have q2 := H.p1 (O.length + 1) (by rw [get_r]; rfl)
  have HC := Lib.hid (nrmul_fr H i l HI.out.1 HI.out.2.2.2 HX.out.1 HX.out.2.2.2)
  rw [resE_nt HE.out] at HC
  clear h H0 H hi hj hk hl hx hy hu hv hX
  go_enter Tryd.func89, Tryd.ntmps89
  go_wp2_with fail
  refine HC.out.mono ?_
  rintro e w3 ⟨B3, m3, d3, rfl, G⟩
  have H := G.boxed (.slice B3 m3 d3) 25
  simp only [List.append_assoc, List.cons_append, List.nil_append] at H
  clear HC G q1 q2
  have b0 := H.p0 (O.length + 1) (by rw [get_r]; rfl)
  have a1 := H.p1 (O.length + 0) (by rw [get_r]; rfl)
  have HC := Lib.hid (nrmul_fr H k j ((get_l _ _ (get_lt HI.out.2.2.1)).trans HI.out.2.2.1) ((get_l _ _ (get_lt HI.out.2.1)).trans HI.out.2.1) HX.out.2.2.1 HX.out.2.1)
  clear H
  go_wp2_with fail
  refine HC.out.mono ?_
  rintro e w4 ⟨B4, m4, d4, rfl, G⟩
  have H := G.boxed (.slice B4 m4 d4) 25
  try simp only [List.append_assoc, List.cons_append, List.nil_append] at H
  clear HC G b0 a1
  have a1 := H.p1 (O.length + 0) (by rw [get_r]; rfl)
  have b1 := H.p1 (O.length + 1) (by rw [get_r]; rfl)
  have HC := Lib.hid (nrmul_fr H j l ((get_l _ _ (get_lt HI.out.2.1)).trans HI.out.2.1) ((get_l _ _ (get_lt HI.out.2.2.2)).trans HI.out.2.2.2) HX.out.2.1 HX.out.2.2.2)
  clear H
  go_wp2_with fail
  refine HC.out.mono ?_
  rintro e w5 ⟨B5, m5, d5, rfl, G⟩
  have H := G.boxed (.slice B5 m5 d5) 25
  try simp only [List.append_assoc, List.cons_append, List.nil_append] at H
  clear HC G a1 b1
  have k0 := H.cell (M.length + 0) (by rw [get_r]; rfl)
  have k1 := H.cell (M.length + 1) (by rw [get_r]; rfl)
  have k2 := H.cell (M.length + 2) (by rw [get_r]; rfl)
  have f0 := H.free (M.length + 0) (by rw [get_r]; rfl)
  have f1 := H.free (M.length + 1) (by rw [get_r]; rfl)
  have f2 := H.free (M.length + 2) (by rw [get_r]; rfl)
  have Z1 := H.setv (M.length + 0) (by rw [get_r]; rfl) (.slice none 0 0)
  rw [set_r] at Z1
  simp only [List.set_cons_zero] at Z1
  have Z2 := Z1.setv (M.length + 1) (by rw [get_r]; rfl) (.slice none 0 0)
  rw [set_r] at Z2
  simp only [List.set_cons_succ, List.set_cons_zero] at Z2
  have Z3 := Z2.setv (M.length + 2) (by rw [get_r]; rfl) (.slice none 0 0)
  rw [set_r] at Z3
  simp only [List.set_cons_succ, List.set_cons_zero] at Z3
  have s0 := Z3.cell (M.length + 0) (by rw [get_r]; rfl)
  have s1 := Z3.cell (M.length + 1) (by rw [get_r]; rfl)
  have s2 := Z3.cell (M.length + 2) (by rw [get_r]; rfl)
  have HF := Lib.hid (Z3.fewM.fewO.less (L' := L) (fun o ho => by simp [ho]))
  clear H Z1 Z2 Z3
  go_wp2_with fail
  refine bodyPost_ret (v := .tuple #[.agg #[.slice none 0 0], .agg #[.slice none 0 0], .agg #[.slice none 0 0], .int .i64 3]) (by simp [results, Tryd.results89, go_sem, s0, s1, s2]) rfl ?_
  exact gotX_nil HF.out 3
set_option maxHeartbeats 8000000 in
theorem qcross_y {x y u v : Nat} (h : Ow w0 w g M L O) (i j k l : Nat) (hi : L[i]? = some ⟨A, n, c, nats (Na.dig x)⟩) (hj : L[j]? = some ⟨A2, m, c2, nats (Na.dig y)⟩) (hk : L[k]? = some ⟨A3, n3, c3, nats (Na.dig u)⟩) (hl : L[l]? = some ⟨A4, n4, c4, nats (Na.dig v)⟩) (hx : x < Na.top) (hy : y < Na.top) (hu : u < Na.top) (hv : v < Na.top) (hX : x * v < Na.top) (hY : ¬ u * y < Na.top) :
    Calls Tryd.prog 89 #[.agg #[.slice A n c, .slice A2 m c2], .agg #[.slice A3 n3 c3, .slice A4 n4 c4]] w (GotX w0 g M L O [] [] [] 3) := by
  have H0 := ((((h.pair (.slice A n c) (.slice A2 m c2) 28).pair (.slice A3 n3 c3) (.slice A4 n4 c4) 28).boxed (.slice none 0 0) 25).boxed (.slice none 0 0) 25).boxed (.slice none 0 0) 25
  simp only [World.size_alloc, List.append_assoc, List.cons_append, List.nil_append] at H0
  have H := H0
  have HI := Lib.hid (And.intro hi (And.intro hj (And.intro hk hl)))
  have HX := Lib.hid (And.intro hx (And.intro hy (And.intro hu hv)))
  have HE := Lib.hid (And.intro hX hY)
  have q1 := H.p0 (O.length + 0) (by rw [get_r]; rfl)
  have q2 := H.p1 (O.length + 1) (by rw [get_r]; rfl)
  have HC := Lib.hid (nrmul_fr H i l HI.out.1 HI.out.2.2.2 HX.out.1 HX.out.2.2.2)
  rw [resL_ok HE.out.1, resE_ok HE.out.1] at HC
  clear h H0 H hi hj hk hl hx hy hu hv hX hY
  go_enter Tryd.func89, Tryd.ntmps89
  go_wp2_with fail
  refine HC.out.mono ?_
  rintro e w3 ⟨B3, m3, d3, rfl, G⟩
  have H := G.boxed (.slice B3 m3 d3) 25
  simp only [List.append_assoc, List.cons_append, List.nil_append] at H
  clear HC G q1 q2
  have b0 := H.p0 (O.length + 1) (by rw [get_r]; rfl)
  have a1 := H.p1 (O.length + 0) (by rw [get_r]; rfl)
  have HC := Lib.hid (nrmul_fr H k j ((get_l _ _ (get_lt HI.out.2.2.1)).trans HI.out.2.2.1) ((get_l _ _ (get_lt HI.out.2.1)).trans HI.out.2.1) HX.out.2.2.1 HX.out.2.1)
  rw [resE_nt HE.out.2] at HC
  clear H
  go_wp2_with fail
  refine HC.out.mono ?_
  rintro e w4 ⟨B4, m4, d4, rfl, G⟩
  have H := G.boxed (.slice B4 m4 d4) 25
  try simp only [List.append_assoc, List.cons_append, List.nil_append] at H
  clear HC G b0 a1
  have a1 := H.p1 (O.length + 0) (by rw [get_r]; rfl)
  have b1 := H.p1 (O.length + 1) (by rw [get_r]; rfl)
  have HC := Lib.hid (nrmul_fr H j l ((get_l _ _ (get_lt HI.out.2.1)).trans HI.out.2.1) ((get_l _ _ (get_lt HI.out.2.2.2)).trans HI.out.2.2.2) HX.out.2.1 HX.out.2.2.2)
  clear H
  go_wp2_with fail
  refine HC.out.mono ?_
  rintro e w5 ⟨B5, m5, d5, rfl, G⟩
  have H := G.boxed (.slice B5 m5 d5) 25
  try simp only [List.append_assoc, List.cons_append, List.nil_append] at H
  clear HC G a1 b1
  have k0 := H.cell (M.length + 0) (by rw [get_r]; rfl)
  have k1 := H.cell (M.length + 1) (by rw [get_r]; rfl)
  have k2 := H.cell (M.length + 2) (by rw [get_r]; rfl)
  have f0 := H.free (M.length + 0) (by rw [get_r]; rfl)
  have f1 := H.free (M.length + 1) (by rw [get_r]; rfl)
  have f2 := H.free (M.length + 2) (by rw [get_r]; rfl)
  have Z1 := H.setv (M.length + 0) (by rw [get_r]; rfl) (.slice none 0 0)
  rw [set_r] at Z1
  simp only [List.set_cons_zero] at Z1
  have Z2 := Z1.setv (M.length + 1) (by rw [get_r]; rfl) (.slice none 0 0)
  rw [set_r] at Z2
  simp only [List.set_cons_succ, List.set_cons_zero] at Z2
  have Z3 := Z2.setv (M.length + 2) (by rw [get_r]; rfl) (.slice none 0 0)
  rw [set_r] at Z3
  simp only [List.set_cons_succ, List.set_cons_zero] at Z3
  have s0 := Z3.cell (M.length + 0) (by rw [get_r]; rfl)
  have s1 := Z3.cell (M.length + 1) (by rw [get_r]; rfl)
  have s2 := Z3.cell (M.length + 2) (by rw [get_r]; rfl)
  have HF := Lib.hid (Z3.fewM.fewO.less (L' := L) (fun o ho => by simp [ho]))
  clear H Z1 Z2 Z3
  go_wp2_with fail
  refine bodyPost_ret (v := .tuple #[.agg #[.slice none 0 0], .agg #[.slice none 0 0], .agg #[.slice none 0 0], .int .i64 3]) (by simp [results, Tryd.results89, go_sem, s0, s1, s2]) rfl ?_
  exact gotX_nil HF.out 3
set_option maxHeartbeats 8000000 in
theorem qcross_z {x y u v : Nat} (h : Ow w0 w g M L O) (i j k l : Nat) (hi : L[i]? = some ⟨A, n, c, nats (Na.dig x)⟩) (hj : L[j]? = some ⟨A2, m, c2, nats (Na.dig y)⟩) (hk : L[k]? = some ⟨A3, n3, c3, nats (Na.dig u)⟩) (hl : L[l]? = some ⟨A4, n4, c4, nats (Na.dig v)⟩) (hx : x < Na.top) (hy : y < Na.top) (hu : u < Na.top) (hv : v < Na.top) (hX : x * v < Na.top) (hY : u * y < Na.top) (hZ : ¬ y * v < Na.top) :
    Calls Tryd.prog 89 #[.agg #[.slice A n c, .slice A2 m c2], .agg #[.slice A3 n3 c3, .slice A4 n4 c4]] w (GotX w0 g M L O [] [] [] 3) := by
  have H0 := ((((h.pair (.slice A n c) (.slice A2 m c2) 28).pair (.slice A3 n3 c3) (.slice A4 n4 c4) 28).boxed (.slice none 0 0) 25).boxed (.slice none 0 0) 25).boxed (.slice none 0 0) 25
  simp only [World.size_alloc, List.append_assoc, List.cons_append, List.nil_append] at H0
  have H := H0
  have HI := Lib.hid (And.intro hi (And.intro hj (And.intro hk hl)))
  have HX := Lib.hid (And.intro hx (And.intro hy (And.intro hu hv)))
  have HE := Lib.hid (And.intro hX (And.intro hY hZ))
  have q1 := H.p0 (O.length + 0) (by rw [get_r]; rfl)
  have q2 := H.p1 (O.length + 1) (by rw [get_r]; rfl)
  have HC := Lib.hid (nrmul_fr H i l HI.out.1 HI.out.2.2.2 HX.out.1 HX.out.2.2.2)
  rw [resL_ok HE.out.1, resE_ok HE.out.1] at HC
  clear h H0 H hi hj hk hl hx hy hu hv hX hY hZ
  go_enter Tryd.func89, Tryd.ntmps89
  go_wp2_with fail
  refine HC.out.mono ?_
  rintro e w3 ⟨B3, m3, d3, rfl, G⟩
  have H := G.boxed (.slice B3 m3 d3) 25
  simp only [List.append_assoc, List.cons_append, List.nil_append] at H
  clear HC G q1 q2
  have b0 := H.p0 (O.length + 1) (by rw [get_r]; rfl)
  have a1 := H.p1 (O.length + 0) (by rw [get_r]; rfl)
  have HC := Lib.hid (nrmul_fr H k j ((get_l _ _ (get_lt HI.out.2.2.1)).trans HI.out.2.2.1) ((get_l _ _ (get_lt HI.out.2.1)).trans HI.out.2.1) HX.out.2.2.1 HX.out.2.1)
  rw [resL_ok HE.out.2.1, resE_ok HE.out.2.1] at HC
  clear H
  go_wp2_with fail
  refine HC.out.mono ?_
  rintro e w4 ⟨B4, m4, d4, rfl, G⟩
  have H := G.boxed (.slice B4 m4 d4) 25
  try simp only [List.append_assoc, List.cons_append, List.nil_append] at H
  clear HC G b0 a1
  have a1 := H.p1 (O.length + 0) (by rw [get_r]; rfl)
  have b1 := H.p1 (O.length + 1) (by rw [get_r]; rfl)
  have HC := Lib.hid (nrmul_fr H j l ((get_l _ _ (get_lt HI.out.2.1)).trans HI.out.2.1) ((get_l _ _ (get_lt HI.out.2.2.2)).trans HI.out.2.2.2) HX.out.2.1 HX.out.2.2.2)
  rw [resE_nt HE.out.2.2] at HC
  clear H
  go_wp2_with fail
  refine HC.out.mono ?_
  rintro e w5 ⟨B5, m5, d5, rfl, G⟩
  have H := G.boxed (.slice B5 m5 d5) 25
  try simp only [List.append_assoc, List.cons_append, List.nil_append] at H
  clear HC G a1 b1
  have k0 := H.cell (M.length + 0) (by rw [get_r]; rfl)
  have k1 := H.cell (M.length + 1) (by rw [get_r]; rfl)
  have k2 := H.cell (M.length + 2) (by rw [get_r]; rfl)
  have f0 := H.free (M.length + 0) (by rw [get_r]; rfl)
  have f1 := H.free (M.length + 1) (by rw [get_r]; rfl)
  have f2 := H.free (M.length + 2) (by rw [get_r]; rfl)
  have Z1 := H.setv (M.length + 0) (by rw [get_r]; rfl) (.slice none 0 0)
  rw [set_r] at Z1
  simp only [List.set_cons_zero] at Z1
  have Z2 := Z1.setv (M.length + 1) (by rw [get_r]; rfl) (.slice none 0 0)
  rw [set_r] at Z2
  simp only [List.set_cons_succ, List.set_cons_zero] at Z2
  have Z3 := Z2.setv (M.length + 2) (by rw [get_r]; rfl) (.slice none 0 0)
  rw [set_r] at Z3
  simp only [List.set_cons_succ, List.set_cons_zero] at Z3
  have s0 := Z3.cell (M.length + 0) (by rw [get_r]; rfl)
  have s1 := Z3.cell (M.length + 1) (by rw [get_r]; rfl)
  have s2 := Z3.cell (M.length + 2) (by rw [get_r]; rfl)
  have HF := Lib.hid (Z3.fewM.fewO.less (L' := L) (fun o ho => by simp [ho]))
  clear H Z1 Z2 Z3
  go_wp2_with fail
  refine bodyPost_ret (v := .tuple #[.agg #[.slice none 0 0], .agg #[.slice none 0 0], .agg #[.slice none 0 0], .int .i64 3]) (by simp [results, Tryd.results89, go_sem, s0, s1, s2]) rfl ?_
  exact gotX_nil HF.out 3
theorem qcross_no {x y u v : Nat} (h : Ow w0 w g M L O) (i j k l : Nat) (hi : L[i]? = some ⟨A, n, c, nats (Na.dig x)⟩) (hj : L[j]? = some ⟨A2, m, c2, nats (Na.dig y)⟩) (hk : L[k]? = some ⟨A3, n3, c3, nats (Na.dig u)⟩) (hl : L[l]? = some ⟨A4, n4, c4, nats (Na.dig v)⟩) (hx : x < Na.top) (hy : y < Na.top) (hu : u < Na.top) (hv : v < Na.top) (hn : ¬(x * v < Na.top ∧ u * y < Na.top ∧ y * v < Na.top)) :
    Calls Tryd.prog 89 #[.agg #[.slice A n c, .slice A2 m c2], .agg #[.slice A3 n3 c3, .slice A4 n4 c4]] w (GotX w0 g M L O [] [] [] 3) := by
  by_cases hX : x * v < Na.top
  · by_cases hY : u * y < Na.top
    · exact qcross_z h i j k l hi hj hk hl hx hy hu hv hX hY (fun h => hn ⟨hX, hY, h⟩)
    · exact qcross_y h i j k l hi hj hk hl hx hy hu hv hX hY
  · exact qcross_x h i j k l hi hj hk hl hx hy hu hv hX
set_option maxHeartbeats 8000000 in
theorem qrAdd_any (h : Ow w0 w g M L O) (i j k l : Nat) (hi : L[i]? = some ⟨A, n, c, ints p⟩) (hj : L[j]? = some ⟨A2, m, c2, ints q⟩) (hk : L[k]? = some ⟨A3, n3, c3, ints r⟩) (hl : L[l]? = some ⟨A4, n4, c4, ints s⟩)  :
    Calls Tryd.prog 45 #[.agg #[.slice A n c, .slice A2 m c2], .agg #[.slice A3 n3 c3, .slice A4 n4 c4]] w (GotF w0 g M L O (addF p q r s)) := by
  have H0 := ((h.pair (.slice A n c) (.slice A2 m c2) 28).pair (.slice A3 n3 c3) (.slice A4 n4 c4) 28).pair (.slice none 0 0) (.slice none 0 0) 28
  simp only [World.size_alloc, List.append_assoc, List.cons_append, List.nil_append] at H0
  have a0 := H0.p0 (O.length + 0) (by rw [get_r]; rfl)
  have a1 := H0.p1 (O.length + 0) (by rw [get_r]; rfl)
  have HV := Lib.hid (qrvalid_ow H0 i j hi hj)
  cases h1 : rv p q with
  | false =>
  rw [h1] at HV
  rw [show addF p q r s = frE 1 by unfold addF; rw [h1]; rfl]
  clear h H0 hi hj hk hl h1
  go_enter Tryd.func45, Tryd.ntmps45
  go_wp2_with fail
  refine HV.out.mono ?_
  rintro e w1 ⟨rfl, H⟩
  clear HV a0 a1
  have k0 := H.p0 (O.length + 2) (by rw [get_r]; rfl)
  have k1 := H.p1 (O.length + 2) (by rw [get_r]; rfl)
  have f0 := H.pf (O.length + 2) (by rw [get_r]; rfl) 0
  have f1 := H.pf (O.length + 2) (by rw [get_r]; rfl) 1
  have Z3 := H.set0 (O.length + 2) (by rw [get_r]; rfl) (.slice none 0 0)
  rw [set_r] at Z3
  simp only [List.set_cons_succ, List.set_cons_zero] at Z3
  have Z4 := Z3.set1 (O.length + 2) (by rw [get_r]; rfl) (.slice none 0 0)
  rw [set_r] at Z4
  simp only [List.set_cons_succ, List.set_cons_zero] at Z4
  have s0 := Z4.p0 (O.length + 2) (by rw [get_r]; rfl)
  have s1 := Z4.p1 (O.length + 2) (by rw [get_r]; rfl)
  have HF := Lib.hid (Z4.fewO)
  clear H Z3 Z4
  go_wp2_with fail
  refine bodyPost_ret (v := .tuple #[.agg #[.slice none 0 0, .slice none 0 0], .int .i64 1]) (by simp [results, Tryd.results45, go_sem, s0, s1]) rfl ?_
  exact gotF_nil HF.out 1
  | true =>
  rw [h1] at HV
  cases h2 : rv r s with
  | false =>
  rw [show addF p q r s = frE 1 by unfold addF; rw [h1, h2]; rfl]
  have HR := Lib.hid (And.intro hk (And.intro hl h2))
  clear h H0 hi hj hk hl h1 h2
  go_enter Tryd.func45, Tryd.ntmps45
  go_wp2_with fail
  refine HV.out.mono ?_
  rintro e w1 ⟨rfl, H⟩
  have b0 := H.p0 (O.length + 1) (by rw [get_r]; rfl)
  have b1 := H.p1 (O.length + 1) (by rw [get_r]; rfl)
  have HW := Lib.hid (qrvalid_ow H k l HR.out.1 HR.out.2.1)
  rw [HR.out.2.2] at HW
  clear HV H a0 a1
  go_wp2_with fail
  refine HW.out.mono ?_
  rintro e w2 ⟨rfl, H⟩
  clear HW b0 b1
  have k0 := H.p0 (O.length + 2) (by rw [get_r]; rfl)
  have k1 := H.p1 (O.length + 2) (by rw [get_r]; rfl)
  have f0 := H.pf (O.length + 2) (by rw [get_r]; rfl) 0
  have f1 := H.pf (O.length + 2) (by rw [get_r]; rfl) 1
  have Z3 := H.set0 (O.length + 2) (by rw [get_r]; rfl) (.slice none 0 0)
  rw [set_r] at Z3
  simp only [List.set_cons_succ, List.set_cons_zero] at Z3
  have Z4 := Z3.set1 (O.length + 2) (by rw [get_r]; rfl) (.slice none 0 0)
  rw [set_r] at Z4
  simp only [List.set_cons_succ, List.set_cons_zero] at Z4
  have s0 := Z4.p0 (O.length + 2) (by rw [get_r]; rfl)
  have s1 := Z4.p1 (O.length + 2) (by rw [get_r]; rfl)
  have HF := Lib.hid (Z4.fewO)
  clear H Z3 Z4
  go_wp2_with fail
  refine bodyPost_ret (v := .tuple #[.agg #[.slice none 0 0, .slice none 0 0], .int .i64 1]) (by simp [results, Tryd.results45, go_sem, s0, s1]) rfl ?_
  exact gotF_nil HF.out 1
  | true =>
  have HR := Lib.hid (And.intro hk (And.intro hl h2))
  have e1 : addF p q r s = if num p * num s < Na.top ∧ num r * num q < Na.top ∧ num q * num s < Na.top ∧ num p * num s + num r * num q < Na.top then frM (num p * num s + num r * num q) (num q * num s) else frE 3 := by unfold addF; rw [h1, h2]; rfl
  rw [e1]
  clear e1
  obtain ⟨x, y, hx, hy, -, -, rfl, rfl⟩ := rv_ex h1
  obtain ⟨u, v, hu, hv, -, -, rfl, rfl⟩ := rv_ex h2
  rw [num_dig, num_dig, num_dig, num_dig]
  have HI := Lib.hid (And.intro (nats_lay hi) (And.intro (nats_lay hj) (And.intro (nats_lay hk) (nats_lay hl))))
  have HX := Lib.hid (And.intro hx (And.intro hy (And.intro hu hv)))
  clear h H0 hi hj hk hl h1 h2 hx hy hu hv
  by_cases hn : x * v < Na.top ∧ u * y < Na.top ∧ y * v < Na.top
  · obtain ⟨hX, hY, hZ⟩ := hn
    by_cases hs : x * v + u * y < Na.top
    · rw [if_pos ⟨hX, hY, hZ, hs⟩]
      obtain ⟨t, hmk⟩ : ∃ t, frM (x * v + (u * y)) (y * v) = t := ⟨_, rfl⟩
      rw [hmk]
      have HE := Lib.hid (And.intro hX (And.intro hY (And.intro hZ (And.intro hs hmk))))
      clear hX hY hZ hs hmk
      go_enter Tryd.func45, Tryd.ntmps45
      go_wp2_with fail
      refine HV.out.mono ?_
      rintro e w1 ⟨rfl, H⟩
      have b0 := H.p0 (O.length + 1) (by rw [get_r]; rfl)
      have b1 := H.p1 (O.length + 1) (by rw [get_r]; rfl)
      have HW := Lib.hid (qrvalid_ow H k l HR.out.1 HR.out.2.1)
      rw [HR.out.2.2] at HW
      clear HV H a0 a1
      go_wp2_with fail
      refine HW.out.mono ?_
      rintro e w2 ⟨rfl, H⟩
      clear HW b0 b1
      have a0 := H.p0 (O.length + 0) (by rw [get_r]; rfl)
      have a1 := H.p1 (O.length + 0) (by rw [get_r]; rfl)
      have b0 := H.p0 (O.length + 1) (by rw [get_r]; rfl)
      have b1 := H.p1 (O.length + 1) (by rw [get_r]; rfl)
      have HC := Lib.hid (qcross_ok H i j k l HI.out.1 HI.out.2.1 HI.out.2.2.1 HI.out.2.2.2 HX.out.1 HX.out.2.1 HX.out.2.2.1 HX.out.2.2.2 HE.out.1 HE.out.2.1 HE.out.2.2.1)
      clear H
      go_wp2_with fail
      refine HC.out.mono ?_
      rintro e w3 ⟨B3, m3, d3, B4, m4, d4, B5, m5, d5, rfl, G⟩
      have H := ((G.boxed (.slice B3 m3 d3) 25).boxed (.slice B4 m4 d4) 25).boxed (.slice B5 m5 d5) 25
      simp only [World.size_alloc, List.append_assoc, List.cons_append, List.nil_append] at H
      clear HC G a0 a1 b0 b1
      have k0 := H.cell (M.length + 0) (by rw [get_r]; rfl)
      have k1 := H.cell (M.length + 1) (by rw [get_r]; rfl)
      have HC := Lib.hid (nradd_fr H (L.length + 0) (L.length + 1) (by rw [get_r]; rfl) (by rw [get_r]; rfl) HE.out.1 HE.out.2.1)
      rw [resL_ok HE.out.2.2.2.1, resE_ok HE.out.2.2.2.1] at HC
      clear H
      go_wp2_with fail
      refine HC.out.mono ?_
      rintro e w4 ⟨B6, m6, d6, rfl, G⟩
      have H := G.boxed (.slice B6 m6 d6) 25
      simp only [List.append_assoc, List.cons_append, List.nil_append] at H
      clear HC G k0 k1
      have k0 := H.cell (M.length + 3) (by rw [get_r]; rfl)
      have k1 := H.cell (M.length + 2) (by rw [get_r]; rfl)
      have HC := Lib.hid (qrmake_fr H (L.length + 3) (L.length + 2) (by rw [get_r]; rfl) (by rw [get_r]; rfl) HE.out.2.2.2.1 HE.out.2.2.1 HE.out.2.2.2.2)
      clear H
      go_wp2_with fail
      refine HC.out.mono ?_
      rintro e w9 ⟨C1, i1, e1, C2, k2, e2, rfl, G⟩
      clear HC k0 k1
      have z0 := G.p0 (O.length + 2) (by rw [get_r]; rfl)
      have z1 := G.p1 (O.length + 2) (by rw [get_r]; rfl)
      have f0 := G.pf (O.length + 2) (by rw [get_r]; rfl) 0
      have f1 := G.pf (O.length + 2) (by rw [get_r]; rfl) 1
      have Z3 := G.set0 (O.length + 2) (by rw [get_r]; rfl) (.slice C1 i1 e1)
      rw [set_r] at Z3
      simp only [List.set_cons_succ, List.set_cons_zero] at Z3
      have Z4 := Z3.set1 (O.length + 2) (by rw [get_r]; rfl) (.slice C2 k2 e2)
      rw [set_r] at Z4
      simp only [List.set_cons_succ, List.set_cons_zero] at Z4
      have s0 := Z4.p0 (O.length + 2) (by rw [get_r]; rfl)
      have s1 := Z4.p1 (O.length + 2) (by rw [get_r]; rfl)
      have HF := Lib.hid (Z4.fewM.fewO.less (L' := L ++ [⟨C1, i1, e1, _⟩] ++ [⟨C2, k2, e2, _⟩]) (fun o ho => by
        simp only [List.mem_append, List.mem_singleton] at ho ⊢
        rcases ho with (h | h) | h
        · exact .inl (.inl (.inl h))
        · exact .inl (.inr h)
        · exact .inr h))
      clear G Z3 Z4
      go_wp2_with fail
      refine bodyPost_ret (v := .tuple #[.agg #[.slice C1 i1 e1, .slice C2 k2 e2], .int .i64 t.2.2]) (by simp [results, Tryd.results45, go_sem, s0, s1]) rfl ?_
      exact ⟨C1, i1, e1, C2, k2, e2, rfl, HF.out⟩
    · rw [if_neg (fun h => hs h.2.2.2)]
      have HE := Lib.hid (And.intro hX (And.intro hY (And.intro hZ hs)))
      clear hX hY hZ hs
      go_enter Tryd.func45, Tryd.ntmps45
      go_wp2_with fail
      refine HV.out.mono ?_
      rintro e w1 ⟨rfl, H⟩
      have b0 := H.p0 (O.length + 1) (by rw [get_r]; rfl)
      have b1 := H.p1 (O.length + 1) (by rw [get_r]; rfl)
      have HW := Lib.hid (qrvalid_ow H k l HR.out.1 HR.out.2.1)
      rw [HR.out.2.2] at HW
      clear HV H a0 a1
      go_wp2_with fail
      refine HW.out.mono ?_
      rintro e w2 ⟨rfl, H⟩
      clear HW b0 b1
      have a0 := H.p0 (O.length + 0) (by rw [get_r]; rfl)
      have a1 := H.p1 (O.length + 0) (by rw [get_r]; rfl)
      have b0 := H.p0 (O.length + 1) (by rw [get_r]; rfl)
      have b1 := H.p1 (O.length + 1) (by rw [get_r]; rfl)
      have HC := Lib.hid (qcross_ok H i j k l HI.out.1 HI.out.2.1 HI.out.2.2.1 HI.out.2.2.2 HX.out.1 HX.out.2.1 HX.out.2.2.1 HX.out.2.2.2 HE.out.1 HE.out.2.1 HE.out.2.2.1)
      clear H
      go_wp2_with fail
      refine HC.out.mono ?_
      rintro e w3 ⟨B3, m3, d3, B4, m4, d4, B5, m5, d5, rfl, G⟩
      have H := ((G.boxed (.slice B3 m3 d3) 25).boxed (.slice B4 m4 d4) 25).boxed (.slice B5 m5 d5) 25
      simp only [World.size_alloc, List.append_assoc, List.cons_append, List.nil_append] at H
      clear HC G a0 a1 b0 b1
      have k0 := H.cell (M.length + 0) (by rw [get_r]; rfl)
      have k1 := H.cell (M.length + 1) (by rw [get_r]; rfl)
      have HC := Lib.hid (nradd_fr H (L.length + 0) (L.length + 1) (by rw [get_r]; rfl) (by rw [get_r]; rfl) HE.out.1 HE.out.2.1)
      rw [resE_nt HE.out.2.2.2] at HC
      clear H
      go_wp2_with fail
      refine HC.out.mono ?_
      rintro e w4 ⟨B6, m6, d6, rfl, G⟩
      have H := G.boxed (.slice B6 m6 d6) 25
      simp only [List.append_assoc, List.cons_append, List.nil_append] at H
      clear HC G k0 k1
      have k0 := H.p0 (O.length + 2) (by rw [get_r]; rfl)
      have k1 := H.p1 (O.length + 2) (by rw [get_r]; rfl)
      have f0 := H.pf (O.length + 2) (by rw [get_r]; rfl) 0
      have f1 := H.pf (O.length + 2) (by rw [get_r]; rfl) 1
      have Z3 := H.set0 (O.length + 2) (by rw [get_r]; rfl) (.slice none 0 0)
      rw [set_r] at Z3
      simp only [List.set_cons_succ, List.set_cons_zero] at Z3
      have Z4 := Z3.set1 (O.length + 2) (by rw [get_r]; rfl) (.slice none 0 0)
      rw [set_r] at Z4
      simp only [List.set_cons_succ, List.set_cons_zero] at Z4
      have s0 := Z4.p0 (O.length + 2) (by rw [get_r]; rfl)
      have s1 := Z4.p1 (O.length + 2) (by rw [get_r]; rfl)
      have HF := Lib.hid (Z4.fewM.fewO.less (L' := L) (fun o ho => by simp [ho]))
      clear H Z3 Z4
      go_wp2_with fail
      refine bodyPost_ret (v := .tuple #[.agg #[.slice none 0 0, .slice none 0 0], .int .i64 3]) (by simp [results, Tryd.results45, go_sem, s0, s1]) rfl ?_
      exact gotF_nil HF.out 3
  · rw [if_neg (fun h => hn ⟨h.1, h.2.1, h.2.2.1⟩)]
    have HE := Lib.hid hn
    clear hn
    go_enter Tryd.func45, Tryd.ntmps45
    go_wp2_with fail
    refine HV.out.mono ?_
    rintro e w1 ⟨rfl, H⟩
    have b0 := H.p0 (O.length + 1) (by rw [get_r]; rfl)
    have b1 := H.p1 (O.length + 1) (by rw [get_r]; rfl)
    have HW := Lib.hid (qrvalid_ow H k l HR.out.1 HR.out.2.1)
    rw [HR.out.2.2] at HW
    clear HV H a0 a1
    go_wp2_with fail
    refine HW.out.mono ?_
    rintro e w2 ⟨rfl, H⟩
    clear HW b0 b1
    have a0 := H.p0 (O.length + 0) (by rw [get_r]; rfl)
    have a1 := H.p1 (O.length + 0) (by rw [get_r]; rfl)
    have b0 := H.p0 (O.length + 1) (by rw [get_r]; rfl)
    have b1 := H.p1 (O.length + 1) (by rw [get_r]; rfl)
    have HC := Lib.hid (qcross_no H i j k l HI.out.1 HI.out.2.1 HI.out.2.2.1 HI.out.2.2.2 HX.out.1 HX.out.2.1 HX.out.2.2.1 HX.out.2.2.2 HE.out)
    clear H
    go_wp2_with fail
    refine HC.out.mono ?_
    rintro e w3 ⟨B3, m3, d3, B4, m4, d4, B5, m5, d5, rfl, G⟩
    have H := ((G.boxed (.slice B3 m3 d3) 25).boxed (.slice B4 m4 d4) 25).boxed (.slice B5 m5 d5) 25
    simp only [World.size_alloc, List.append_assoc, List.cons_append, List.nil_append] at H
    clear HC G a0 a1 b0 b1
    have k0 := H.p0 (O.length + 2) (by rw [get_r]; rfl)
    have k1 := H.p1 (O.length + 2) (by rw [get_r]; rfl)
    have f0 := H.pf (O.length + 2) (by rw [get_r]; rfl) 0
    have f1 := H.pf (O.length + 2) (by rw [get_r]; rfl) 1
    have Z3 := H.set0 (O.length + 2) (by rw [get_r]; rfl) (.slice none 0 0)
    rw [set_r] at Z3
    simp only [List.set_cons_succ, List.set_cons_zero] at Z3
    have Z4 := Z3.set1 (O.length + 2) (by rw [get_r]; rfl) (.slice none 0 0)
    rw [set_r] at Z4
    simp only [List.set_cons_succ, List.set_cons_zero] at Z4
    have s0 := Z4.p0 (O.length + 2) (by rw [get_r]; rfl)
    have s1 := Z4.p1 (O.length + 2) (by rw [get_r]; rfl)
    have HF := Lib.hid (Z4.fewM.fewO.less (L' := L) (fun o ho => by simp [ho]))
    clear H Z3 Z4
    go_wp2_with fail
    refine bodyPost_ret (v := .tuple #[.agg #[.slice none 0 0, .slice none 0 0], .int .i64 3]) (by simp [results, Tryd.results45, go_sem, s0, s1]) rfl ?_
    exact gotF_nil HF.out 3
end
end Go.Proofs.YtnfjnlnphdmdmaaDoor

namespace Go.Proofs.YtnfjnlnphdmdmaaDoor
open Go.RowKit Go.Sort
set_option linter.unusedVariables false
set_option maxRecDepth 100000
section
variable {w0 w w' : World} {g : Option Nat} {M M2 : List (Nat × Value)} {L : List Ob} {O : List Rw} {A A2 A3 A4 : Option Addr} {b n c m c2 n3 c3 n4 c4 x y : Nat} {p q r s : List Int}
set_option maxHeartbeats 8000000 in
theorem t_cells_range (h : Ow w0 w g M L O) (a b k : Int) (hn : a < 0 ∨ 40 < a ∨ b < 1 ∨ 4096 < b) : Calls Tryd.prog 40 #[.int .i64 a, .int .i64 b, .int .i64 k] w (GotF w0 g M L O (frE 2)) := by
  have H := h.pair (.slice none 0 0) (.slice none 0 0) 28
  clear h
  rcases Int.lt_or_le (a) (0) with h0 | h1
  · have t : decide (a < 0) = true := decide_eq_true (by omega)
    clear hn
    go_enter Tryd.func40, Tryd.ntmps40
    have HF := Lib.hid H.fewO
    clear H
    go_wp2_with fail
    refine bodyPost_ret (v := .tuple #[.agg #[.slice none 0 0, .slice none 0 0], .int .i64 2]) (by simp [results, Tryd.results40, go_sem]) rfl ?_
    exact gotF_nil HF.out 2
  rcases Int.lt_or_le (40) (a) with h0 | h2
  · have t : decide (40 < a) = true := decide_eq_true (by omega)
    have t0 : decide (a < 0) = false := decide_eq_false (by omega)
    clear hn
    go_enter Tryd.func40, Tryd.ntmps40
    have HF := Lib.hid H.fewO
    clear H
    go_wp2_with fail
    refine bodyPost_ret (v := .tuple #[.agg #[.slice none 0 0, .slice none 0 0], .int .i64 2]) (by simp [results, Tryd.results40, go_sem]) rfl ?_
    exact gotF_nil HF.out 2
  rcases Int.lt_or_le (b) (1) with h0 | h3
  · have t : decide (b < 1) = true := decide_eq_true (by omega)
    have t0 : decide (a < 0) = false := decide_eq_false (by omega)
    have t1 : decide (40 < a) = false := decide_eq_false (by omega)
    clear hn
    go_enter Tryd.func40, Tryd.ntmps40
    have HF := Lib.hid H.fewO
    clear H
    go_wp2_with fail
    refine bodyPost_ret (v := .tuple #[.agg #[.slice none 0 0, .slice none 0 0], .int .i64 2]) (by simp [results, Tryd.results40, go_sem]) rfl ?_
    exact gotF_nil HF.out 2
  have t : decide (4096 < b) = true := decide_eq_true (by omega)
  have t0 : decide (a < 0) = false := decide_eq_false (by omega)
  have t1 : decide (40 < a) = false := decide_eq_false (by omega)
  have t2 : decide (b < 1) = false := decide_eq_false (by omega)
  clear hn
  go_enter Tryd.func40, Tryd.ntmps40
  have HF := Lib.hid H.fewO
  clear H
  go_wp2_with fail
  refine bodyPost_ret (v := .tuple #[.agg #[.slice none 0 0, .slice none 0 0], .int .i64 2]) (by simp [results, Tryd.results40, go_sem]) rfl ?_
  exact gotF_nil HF.out 2
theorem ofF_all : ofF 1 1 = (1, 1, 0) := by decide +kernel
set_option maxHeartbeats 8000000 in
theorem t_cells_all (h : Ow w0 w g M L O) (a b k : Int) (ht : Tab w0) (ha : 0 ≤ a ∧ a ≤ 40) (hb : 1 ≤ b ∧ b ≤ 4096) (hk : k ≤ 0) : Calls Tryd.prog 40 #[.int .i64 a, .int .i64 b, .int .i64 k] w (GotF w0 g M L O (1, 1, 0)) := by
  have H := h.pair (.slice none 0 0) (.slice none 0 0) 28
  have t0 : decide (a < 0) = false := decide_eq_false (by omega)
  have t1 : decide (40 < a) = false := decide_eq_false (by omega)
  have t2 : decide (b < 1) = false := decide_eq_false (by omega)
  have t3 : decide (4096 < b) = false := decide_eq_false (by omega)
  have t4 : decide (k ≤ 0) = true := decide_eq_true (by omega)
  have HC := Lib.hid (qof_ow H 1 1 (by omega) (by omega) ht)
  rw [ofF_all] at HC
  clear h H ha hb hk ht
  go_enter Tryd.func40, Tryd.ntmps40
  go_wp2_with fail
  refine HC.out.mono ?_
  rintro e w9 ⟨C1, k1, e1, C2, k2, e2, rfl, G⟩
  clear HC
  have z0 := G.p0 (O.length + 0) (by rw [get_r]; rfl)
  have z1 := G.p1 (O.length + 0) (by rw [get_r]; rfl)
  have f0 := G.pf (O.length + 0) (by rw [get_r]; rfl) 0
  have f1 := G.pf (O.length + 0) (by rw [get_r]; rfl) 1
  have Z3 := G.set0 (O.length + 0) (by rw [get_r]; rfl) (.slice C1 k1 e1)
  rw [set_r] at Z3
  simp only [List.set_cons_zero] at Z3
  have Z4 := Z3.set1 (O.length + 0) (by rw [get_r]; rfl) (.slice C2 k2 e2)
  rw [set_r] at Z4
  simp only [List.set_cons_zero] at Z4
  have r0 := Z4.p0 (O.length + 0) (by rw [get_r]; rfl)
  have r1 := Z4.p1 (O.length + 0) (by rw [get_r]; rfl)
  have HF := Lib.hid Z4.fewO
  clear G Z3 Z4
  go_wp2_with fail
  refine bodyPost_ret (v := .tuple #[.agg #[.slice C1 k1 e1, .slice C2 k2 e2], .int .i64 0]) (by simp [results, Tryd.results40, go_sem, r0, r1]) rfl ?_
  exact ⟨C1, k1, e1, C2, k2, e2, rfl, HF.out⟩
theorem ofF_none : ofF 0 1 = (0, 1, 0) := by decide +kernel
set_option maxHeartbeats 8000000 in
theorem t_cells_none (h : Ow w0 w g M L O) (a b k : Int) (ht : Tab w0) (ha : 0 ≤ a ∧ a ≤ 40) (hb : 1 ≤ b ∧ b ≤ 4096) (hk : 0 < k ∧ a < k) : Calls Tryd.prog 40 #[.int .i64 a, .int .i64 b, .int .i64 k] w (GotF w0 g M L O (0, 1, 0)) := by
  have H := h.pair (.slice none 0 0) (.slice none 0 0) 28
  have t0 : decide (a < 0) = false := decide_eq_false (by omega)
  have t1 : decide (40 < a) = false := decide_eq_false (by omega)
  have t2 : decide (b < 1) = false := decide_eq_false (by omega)
  have t3 : decide (4096 < b) = false := decide_eq_false (by omega)
  have t4 : decide (k ≤ 0) = false := decide_eq_false (by omega)
  have t5 : decide (a < k) = true := decide_eq_true (by omega)
  have HC := Lib.hid (qof_ow H 0 1 (by omega) (by omega) ht)
  rw [ofF_none] at HC
  clear h H ha hb hk ht
  go_enter Tryd.func40, Tryd.ntmps40
  go_wp2_with fail
  refine HC.out.mono ?_
  rintro e w9 ⟨C1, k1, e1, C2, k2, e2, rfl, G⟩
  clear HC
  have z0 := G.p0 (O.length + 0) (by rw [get_r]; rfl)
  have z1 := G.p1 (O.length + 0) (by rw [get_r]; rfl)
  have f0 := G.pf (O.length + 0) (by rw [get_r]; rfl) 0
  have f1 := G.pf (O.length + 0) (by rw [get_r]; rfl) 1
  have Z3 := G.set0 (O.length + 0) (by rw [get_r]; rfl) (.slice C1 k1 e1)
  rw [set_r] at Z3
  simp only [List.set_cons_zero] at Z3
  have Z4 := Z3.set1 (O.length + 0) (by rw [get_r]; rfl) (.slice C2 k2 e2)
  rw [set_r] at Z4
  simp only [List.set_cons_zero] at Z4
  have r0 := Z4.p0 (O.length + 0) (by rw [get_r]; rfl)
  have r1 := Z4.p1 (O.length + 0) (by rw [get_r]; rfl)
  have HF := Lib.hid Z4.fewO
  clear G Z3 Z4
  go_wp2_with fail
  refine bodyPost_ret (v := .tuple #[.agg #[.slice C1 k1 e1, .slice C2 k2 e2], .int .i64 0]) (by simp [results, Tryd.results40, go_sem, r0, r1]) rfl ?_
  exact ⟨C1, k1, e1, C2, k2, e2, rfl, HF.out⟩
section
variable {w0 W W' : World} {g : Option Nat} {M : List (Nat × Value)} {L : List Ob} {O : List Rw} {nb tb : Nat} {AT : Option Addr} {nT cT : Nat} {AB : Option Addr} {nB cB m a b : Nat} {Ld : Nat → Bool} {u0 u1 u2 u3 u4 u5 u6 u7 u8 u10 : Value} {A : Option Addr} {n c : Nat} {ms : List (Nat × Value)} {Ls : List Ob}
end
end
end Go.Proofs.YtnfjnlnphdmdmaaDoor

namespace Go.Proofs.YtnfjnlnphdmdmaaDoor
open Go.RowKit Go.Sort
set_option linter.unusedVariables false
set_option maxRecDepth 100000
/-- the chance that some cell gets so many, or the error -/
def cellF (a b k : Int) : Nat × Nat × Int := if a < 0 ∨ 40 < a ∨ b < 1 ∨ 4096 < b then frE 2 else if k ≤ 0 then (1, 1, 0) else if a < k then (0, 1, 0) else frM (b.toNat ^ a.toNat - pwc (oneC k.toNat) b.toNat a.toNat) (b.toNat ^ a.toNat)
section
variable {w0 w w' : World} {g : Option Nat} {M M2 : List (Nat × Value)} {L : List Ob} {O : List Rw}
theorem t_cells_any (h : Ow w0 w g M L O) (a b k : Int) (ht : Tab w0) : Calls Tryd.prog 40 #[.int .i64 a, .int .i64 b, .int .i64 k] w (GotF w0 g M L O (cellF a b k)) := by
  unfold cellF
  by_cases h1 : a < 0 ∨ 40 < a ∨ b < 1 ∨ 4096 < b
  · rw [if_pos h1]; exact t_cells_range h a b k h1
  · rw [if_neg h1]
    by_cases h2 : k ≤ 0
    · rw [if_pos h2]; exact t_cells_all h a b k ht (by omega) (by omega) h2
    · rw [if_neg h2]
      by_cases h3 : a < k
      · rw [if_pos h3]; exact t_cells_none h a b k ht (by omega) (by omega) (by omega)
      · rw [if_neg h3]
        obtain ⟨x, rfl⟩ := Int.eq_ofNat_of_zero_le (a := a) (by omega)
        obtain ⟨y, rfl⟩ := Int.eq_ofNat_of_zero_le (a := b) (by omega)
        obtain ⟨z, rfl⟩ := Int.eq_ofNat_of_zero_le (a := k) (by omega)
        exact t_cells_sum h x y z ht (by omega) (by omega) (by omega)
end
/-- the number of ways to lay i things into c cells, each into a cell of its own -/
def fall (c : Nat) : Nat → Nat
  | 0 => 1
  | i + 1 => fall c i * (c - i)
theorem fall_succ (c : Nat) : ∀ i, fall (c + 1) (i + 1) = fall c (i + 1) + (i + 1) * fall c i
  | 0 => by simp [fall]
  | i + 1 => by
    have ih := fall_succ c i
    show fall (c + 1) (i + 1) * (c + 1 - (i + 1)) = fall c (i + 1) * (c - (i + 1)) + (i + 1 + 1) * fall c (i + 1)
    rw [ih]
    have e : fall c (i + 1) = fall c i * (c - i) := rfl
    rw [show c + 1 - (i + 1) = c - i by omega]
    rcases Nat.lt_or_ge i c with h | h
    · obtain ⟨d, hd⟩ : ∃ d, c = i + 1 + d := ⟨c - (i + 1), by omega⟩
      rw [e, show c - i = d + 1 by omega, show c - (i + 1) = d by omega]
      grind
    · have hz : c - i = 0 := by omega
      rw [e, hz]
      simp
theorem sft_one2 : sft (oneC 2) = dlt := by
  funext k
  show oneC 2 (k + 1) = dlt k
  unfold oneC dlt
  by_cases h : k = 0
  · subst h; rfl
  · rw [if_neg (by omega), if_neg h]
theorem conv_one2 (f : Nat → Nat) (i : Nat) : conv f (oneC 2) (i + 1) = f (i + 1) + (i + 1) * f i := by
  induction i generalizing f with
  | zero =>
    rw [conv_succ, sft_one2, conv_dlt, conv_zero]
    show f 1 * 1 + f 0 = f 1 + (0 + 1) * f 0
    omega
  | succ i ih =>
    rw [conv_succ, sft_one2, conv_dlt, ih (sft f)]
    show f (i + 1 + 1) + (i + 1) * f (i + 1) + f (i + 1) = _
    rw [Nat.add_mul (i + 1) 1, Nat.one_mul, Nat.add_assoc]
theorem pwc_fall (c : Nat) : ∀ i, pwc (oneC 2) c i = fall c i := by
  induction c with
  | zero =>
    intro i
    cases i with
    | zero => rfl
    | succ i =>
      have h : fall 0 (i + 1) = 0 := by show fall 0 i * (0 - i) = 0; rw [Nat.zero_sub, Nat.mul_zero]
      rw [h]; rfl
  | succ c ih =>
    intro i
    show conv (pwc (oneC 2) c) (oneC 2) i = _
    cases i with
    | zero => rw [conv_zero, ih 0]; rfl
    | succ i => rw [conv_one2, ih, ih, fall_succ]
end Go.Proofs.YtnfjnlnphdmdmaaDoor

namespace Go.Proofs.YtnfjnlnphdmdmaaDoor
open Go.RowKit Go.Sort
set_option linter.unusedVariables false
set_option maxRecDepth 100000
structure PairK (c k fx fy : Nat) : Prop where
  F : FrK fx fy
  e : fx * c ^ k = fall c k * fy
  s1 : fx ≤ 2 ^ (12 * k)
  s2 : fy ≤ 2 ^ (12 * k)
theorem fall_le (c : Nat) : ∀ k, fall c k ≤ c ^ k
  | 0 => Nat.le_refl _
  | k + 1 => by
    show fall c k * (c - k) ≤ c ^ (k + 1)
    rw [Nat.pow_succ]
    exact Nat.mul_le_mul (fall_le c k) (Nat.sub_le _ _)
theorem pairs_round {c k fx fy u v : Nat} (hc : c ≤ 2 ^ 12) (h0 : 1 ≤ c) (hk : k < 12) (P : PairK c k fx fy) (G : FrK u v) (he : u * c = (c - k) * v) (hu : u ≤ c - k) (hv : v ≤ c) : ∃ n d, frM (fx * u) (fy * v) = (n, d, 0) ∧ PairK c (k + 1) n d ∧ fx * u < Na.top ∧ fy * v < Na.top := by
  have b1 : fx * u ≤ 2 ^ (12 * k + 12) := mul_two P.s1 (Nat.le_trans hu (Nat.le_trans (Nat.sub_le _ _) hc))
  have b2 : fy * v ≤ 2 ^ (12 * k + 12) := mul_two P.s2 (Nat.le_trans hv hc)
  have t1 := le_top b1 (by omega)
  have t2 := le_top b2 (by omega)
  obtain ⟨n, d, e1, F, e2, l1, l2⟩ := FrK.of t1 t2 (Nat.mul_pos P.F.pos G.pos)
  refine ⟨n, d, e1, ⟨F, ?_, Nat.le_trans l1 (by rwa [Nat.mul_succ]), Nat.le_trans l2 (by rwa [Nat.mul_succ])⟩, t1, t2⟩
  have hp : 0 < fy * v := Nat.mul_pos P.F.pos G.pos
  refine Nat.eq_of_mul_eq_mul_right hp ?_
  show n * (c ^ k * c) * (fy * v) = fall c k * (c - k) * d * (fy * v)
  have e3 := P.e
  calc n * (c ^ k * c) * (fy * v) = (n * (fy * v)) * (c ^ k * c) := by grind
    _ = (fx * u * d) * (c ^ k * c) := by rw [e2]
    _ = (fx * c ^ k) * (u * c) * d := by grind
    _ = (fall c k * fy) * ((c - k) * v) * d := by rw [e3, he]
    _ = fall c k * (c - k) * d * (fy * v) := by grind
theorem frM_self {t : Nat} (h : 0 < t) : frM t t = (1, 1, 0) := by
  unfold frM
  rw [if_neg (by omega), Nat.gcd_self, Nat.div_self h]
theorem pairs_end {c n fx fy x y : Nat} (hc : c ≤ 2 ^ 12) (h0 : 1 ≤ c) (hn : n < 12) (P : PairK c n fx fy) (G : FrK x y) (he : x * c ^ n = (c ^ n - fall c n) * y) (hx : x ≤ 2 ^ (12 * n)) (hy : y ≤ 2 ^ (12 * n)) : frM (x * fy + fx * y) (y * fy) = (1, 1, 0) ∧ x * fy + fx * y < Na.top ∧ y * fy < Na.top := by
  have hp : 0 < c ^ n := Nat.pow_pos h0
  have e1 : x * fy + fx * y = y * fy := by
    refine Nat.eq_of_mul_eq_mul_right hp ?_
    obtain ⟨z, hz⟩ : ∃ z, c ^ n = fall c n + z := ⟨c ^ n - fall c n, by have := fall_le c n; omega⟩
    have e2 := P.e
    have e3 : c ^ n - fall c n = z := by omega
    rw [e3] at he
    calc (x * fy + fx * y) * c ^ n = (x * c ^ n) * fy + (fx * c ^ n) * y := by grind
      _ = (z * y) * fy + (fall c n * fy) * y := by rw [he, e2]
      _ = y * fy * (fall c n + z) := by grind
      _ = y * fy * c ^ n := by rw [hz]
  have b2 : y * fy ≤ 2 ^ (12 * n + 12 * n) := mul_two hy P.s2
  have t2 := le_top b2 (by omega)
  exact ⟨by rw [e1]; exact frM_self (Nat.mul_pos G.pos P.F.pos), by rw [e1]; exact t2, t2⟩
theorem cell_frac {n c : Nat} (hc : c ≤ 2 ^ 12) (h0 : 1 ≤ c) (hn : n < 12) : ∃ x y, cellF (n : Int) (c : Int) 2 = (x, y, 0) ∧ FrK x y ∧ x * c ^ n = (c ^ n - fall c n) * y ∧ x ≤ 2 ^ (12 * n) ∧ y ≤ 2 ^ (12 * n) := by
  have hc2 : c ≤ 4096 := hc
  unfold cellF
  rw [if_neg (by omega), if_neg (by omega)]
  rcases Nat.lt_or_ge n 2 with h | h
  · rw [if_pos (by omega)]
    refine ⟨0, 1, rfl, ⟨tiny_top (by omega), tiny_top (by omega), by omega, by decide⟩, ?_, Nat.zero_le _, Nat.one_le_two_pow⟩
    rcases (show n = 0 ∨ n = 1 by omega) with rfl | rfl
    · simp [fall]
    · simp [fall]
  · rw [if_neg (by omega)]
    have hp : 0 < c ^ n := Nat.pow_pos h0
    have b1 : c ^ n ≤ 2 ^ (12 * n) := pow_two hc n
    have t1 := le_top b1 (by omega)
    obtain ⟨x, y, e1, F, e2, l1, l2⟩ := FrK.of (x := c ^ n - fall c n) (Nat.lt_of_le_of_lt (Nat.sub_le _ _) t1) t1 hp
    refine ⟨x, y, ?_, F, e2, Nat.le_trans l1 (Nat.le_trans (Nat.sub_le _ _) b1), Nat.le_trans l2 b1⟩
    rw [show ((2 : Int).toNat) = 2 from rfl, Int.toNat_natCast, Int.toNat_natCast, pwc_fall]
    exact e1
end Go.Proofs.YtnfjnlnphdmdmaaDoor

namespace Go.Proofs.YtnfjnlnphdmdmaaDoor
open Go.RowKit Go.Sort
set_option linter.unusedVariables false
set_option maxRecDepth 100000
def RPairs (w0 : World) (b1 b2 : Nat) (Ax : Option Addr) (nx cx : Nat) (Ay : Option Addr) (ny cy : Nat) (x y n c : Nat) (v : Value) (wr : World) : Prop :=
  ∃ (k fx fy : Nat) (C1 : Option Addr) (k1 e1 : Nat) (C2 : Option Addr) (k2 e2 : Nat), k ≤ n ∧ v = .int .i64 (k : Int) ∧ Hid (PairK c k fx fy) ∧ Hid (Ow w0 wr none [] [(⟨Ax, nx, cx, nats (Na.dig x)⟩ : Ob), (⟨Ay, ny, cy, nats (Na.dig y)⟩ : Ob), (⟨C1, k1, e1, nats (Na.dig fx)⟩ : Ob), (⟨C2, k2, e2, nats (Na.dig fy)⟩ : Ob)] [Rw.pair b1 28 (.slice Ax nx cx) (.slice Ay ny cy), Rw.pair b2 28 (.slice C1 k1 e1) (.slice C2 k2 e2)])
theorem text_11 : str (De.text 1 ++ 47 :: De.text 1) = ⟨#[49, 47, 49]⟩ := by decide +kernel
theorem ofF_fr {i c : Nat} (hi : i < Na.top) (hc : c < Na.top) (h0 : 0 < c) : ∃ u v, ofF (i : Int) (c : Int) = (u, v, 0) ∧ FrK u v ∧ u * c = i * v ∧ u ≤ i ∧ v ≤ c := by
  obtain ⟨u, v, h1, h2, h3, h4, h5⟩ := FrK.of hi hc h0
  refine ⟨u, v, ?_, h2, h3, h4, h5⟩
  unfold ofF
  rw [if_neg (by omega), Int.toNat_natCast, Int.toNat_natCast]
  exact h1
set_option maxHeartbeats 16000000 in
theorem tailsPairs_any (a b : Int) (w : World) (ht : Tab w) : Calls Tryd.prog 12 #[.int .i64 a, .int .i64 b] w fun e w' => e = .returned (.bool true) ∧ Below w.heap.size w w' := by
  have HT := Lib.hid ht
  have H0 := Ow.of (St.refl w)
  obtain ⟨n, hn⟩ : ∃ n : Nat, a % 12 = (n : Int) := ⟨(a % 12).toNat, by omega⟩
  obtain ⟨z, hz⟩ : ∃ z, b % 4096 = z := ⟨_, rfl⟩
  obtain ⟨c, hcz⟩ : ∃ c : Nat, 1 + z = (c : Int) := ⟨(1 + z).toNat, by omega⟩
  have hn12 : n < 12 := by omega
  have hc1 : 1 ≤ c := by omega
  have hc2 : c ≤ 2 ^ 12 := by omega
  have hc3 : c ≤ 4096 := by omega
  have hw : IntKind.i64.wrap (1 + z) = (c : Int) := by rw [IntWalk.i64_in _ (by omega)]; exact hcz
  have hM1 : Hid (∀ w : World, Calls Tryd.prog 33 #[.int .i64 a, .int .i64 12] w fun e w' => e = .returned (.int .i64 (n : Int)) ∧ w = w') := fun w => by rw [← hn]; exact mod_any a 12 w (by omega) (by omega)
  have hM2 : Hid (∀ w : World, Calls Tryd.prog 33 #[.int .i64 b, .int .i64 4096] w fun e w' => e = .returned (.int .i64 z) ∧ w = w') := fun w => by rw [← hz]; exact mod_any b 4096 w (by omega) (by omega)
  obtain ⟨x, y, hcf, hF, hxe, hx2, hy2⟩ := cell_frac hc2 hc1 hn12
  have HN : Hid (c ≤ 2 ^ 12 ∧ 1 ≤ c ∧ n < 12 ∧ FrK x y ∧ x * c ^ n = (c ^ n - fall c n) * y ∧ x ≤ 2 ^ (12 * n) ∧ y ≤ 2 ^ (12 * n)) := ⟨hc2, hc1, hn12, hF, hxe, hx2, hy2⟩
  have HC := Lib.hid (t_cells_any H0 (n : Int) (c : Int) 2 ht)
  rw [hcf] at HC
  clear ht H0 hn hz hcz hcf hF hxe hx2 hy2 hc2
  go_enter Tryd.func12, Tryd.ntmps12
  go_wp2_with (go_at_call 33; ((first | (with_reducible refine (hM1.out _).mono ?_) | (with_reducible refine (hM2.out _).mono ?_)); rintro e w' ⟨rfl, rfl⟩))
  refine HC.out.mono ?_
  rintro e w1 ⟨Ax, nx, cx, Ay, ny, cy, rfl, G⟩
  have H := G.pair (.slice Ax nx cx) (.slice Ay ny cy) 28
  simp only [List.nil_append, List.cons_append] at H
  clear G HC
  have HC := Lib.hid (qrof_ow H 1 1 (by omega) (by omega))
  rw [ofF_all] at HC
  clear H
  go_wp2_with fail
  refine HC.out.mono ?_
  rintro e w2 ⟨C1, k1, e1, C2, k2, e2, rfl, G⟩
  have H := G.pair (.slice C1 k1 e1) (.slice C2 k2 e2) 28
  simp only [List.nil_append, List.cons_append] at H
  clear G HC
  have HO := Lib.hid H
  clear H
  go_wp2_with fail
  go_loopw [30] (fun v wr => RPairs w w1.heap.size w2.heap.size Ax nx cx Ay ny cy x y n c v wr) (fun v _ => n - (intOf v).toNat)
  case atStart => exact ⟨0, 1, 1, C1, k1, e1, C2, k2, e2, Nat.zero_le _, rfl, ⟨⟨tiny_top (by omega), tiny_top (by omega), by omega, by decide⟩, rfl, Nat.le_refl _, Nat.le_refl _⟩, HO⟩
  case round =>
    clear HO
    obtain ⟨k, fx, fy, C1, k1, e1, C2, k2, e2, hk, rfl, HP, HO⟩ := hrel
    rcases Nat.eq_or_lt_of_le hk with he | hlt
    · subst he
      have d1 : decide ((k : Int) < (k : Int)) = false := decide_eq_false (by omega)
      have d2 : decide (k < k) = false := decide_eq_false (by omega)
      have a0 := HO.out.p0 0 rfl
      have a1 := HO.out.p1 0 rfl
      have b0 := HO.out.p0 1 rfl
      have b1 := HO.out.p1 1 rfl
      obtain ⟨z1, z2, z3⟩ := pairs_end HN.out.1 HN.out.2.1 HN.out.2.2.1 HP.out HN.out.2.2.2.1 HN.out.2.2.2.2.1 HN.out.2.2.2.2.2.1 HN.out.2.2.2.2.2.2
      have HC := Lib.hid (qrAdd_any (p := Na.up (Na.dig x)) (q := Na.up (Na.dig y)) (r := Na.up (Na.dig fx)) (s := Na.up (Na.dig fy)) HO.out 0 1 2 3 (by rw [nats_up]; rfl) (by rw [nats_up]; rfl) (by rw [nats_up]; rfl) (by rw [nats_up]; rfl))
      rw [addF_low HN.out.2.2.2.1.px HN.out.2.2.2.1.py HP.out.F.px HP.out.F.py HN.out.2.2.2.1.pos HP.out.F.pos HN.out.2.2.2.1.g HP.out.F.g z2 z3, z1] at HC
      clear HO z1 z2 z3
      go_wp2_with fail
      refine HC.out.mono ?_
      rintro e w3 ⟨A5, n5, c5, A6, n6, c6, rfl, G⟩
      clear HC a0 a1 b0 b1
      have H := G.pair (.slice A5 n5 c5) (.slice A6 n6 c6) 28
      simp only [List.nil_append, List.cons_append] at H
      clear G
      have a0 := H.p0 2 rfl
      have a1 := H.p1 2 rfl
      have HC := Lib.hid (qrprint_ok (x := 1) (y := 1) H 4 5 rfl rfl (tiny_top (by omega)) (tiny_top (by omega)) (rv_low (tiny_top (by omega)) (tiny_top (by omega)) (by omega) (by decide)))
      rw [text_11] at HC
      clear H
      go_wp2_with fail
      refine HC.out.mono ?_
      rintro e w4 ⟨rfl, H⟩
      clear HC a0 a1
      have HC := Lib.hid (awake23_ow H HT.out)
      clear H
      go_wp2_with fail
      refine HC.out.mono ?_
      rintro e w5 ⟨rfl, G⟩
      have HB := Lib.hid G.below
      clear G HC
      go_wp2_with fail
      go_ret
      exact ⟨rfl, HB.out⟩
    · have d1 : decide ((k : Int) < (n : Int)) = true := decide_eq_true (by omega)
      have d2 : decide (k < n) = true := decide_eq_true hlt
      obtain ⟨u, v, hof0, hU, hue, hul, hvl⟩ := ofF_fr (i := c - k) (c := c) (tiny_top (by omega)) (tiny_top (by omega)) hc1
      obtain ⟨nn, dd, q1, q2, q3, q4⟩ := pairs_round HN.out.1 HN.out.2.1 (by omega) HP.out hU hue hul hvl
      have HQ : Hid (frM (fx * u) (fy * v) = (nn, dd, 0) ∧ PairK c (k + 1) nn dd ∧ fx * u < Na.top ∧ fy * v < Na.top) := ⟨q1, q2, q3, q4⟩
      have HU := Lib.hid hU
      have hw2 : IntKind.i64.wrap ((c : Int) - (k : Int)) = (c : Int) - (k : Int) := IntWalk.i64_in _ (by omega)
      clear hU hue hul hvl q1 q2 q3 q4
      rcases Int.lt_or_le 0 ((c : Int) - (k : Int)) with hm | hm
      · rw [show ((c - k : Nat) : Int) = (c : Int) - (k : Int) by omega] at hof0
        have hof : ofF ((c : Int) - (k : Int)) (c : Int) = (u, v, 0) := hof0
        have HC := Lib.hid (qrof_ow HO.out ((c : Int) - (k : Int)) (c : Int) (by omega) (by omega))
        rw [hof] at HC
        clear hof hof0
        have HF := HO
        clear HO
        go_wp2_with fail
        refine HC.out.mono ?_
        rintro e w3 ⟨A5, n5, c5, A6, n6, c6, rfl, G⟩
        clear HC HF
        have H := G.pair (.slice A5 n5 c5) (.slice A6 n6 c6) 28
        simp only [List.nil_append, List.cons_append] at H
        clear G
        have a0 := H.p0 1 rfl
        have a1 := H.p1 1 rfl
        have b0 := H.p0 2 rfl
        have b1 := H.p1 2 rfl
        have HC := Lib.hid (qrmul_any (p := Na.up (Na.dig fx)) (q := Na.up (Na.dig fy)) (r := Na.up (Na.dig u)) (s := Na.up (Na.dig v)) H 2 3 4 5 (by rw [nats_up]; rfl) (by rw [nats_up]; rfl) (by rw [nats_up]; rfl) (by rw [nats_up]; rfl))
        rw [mulF_low HP.out.F.px HP.out.F.py HU.out.px HU.out.py HP.out.F.pos HU.out.pos HP.out.F.g HU.out.g HQ.out.2.2.1 HQ.out.2.2.2, HQ.out.1] at HC
        clear H
        go_wp2_with fail
        refine HC.out.mono ?_
        rintro e w4 ⟨A7, n7, c7, A8, n8, c8, rfl, G⟩
        clear HC a0 a1 b0 b1
        have z0 := G.p0 1 rfl
        have z1 := G.p1 1 rfl
        have f0 := G.pf 1 rfl 0
        have f1 := G.pf 1 rfl 1
        have Z3 := G.set0 1 rfl (.slice A7 n7 c7)
        simp only [List.set_cons_succ, List.set_cons_zero] at Z3
        have Z4 := Z3.set1 1 rfl (.slice A8 n8 c8)
        simp only [List.set_cons_succ, List.set_cons_zero, List.cons_append, List.nil_append] at Z4
        have HN2 := Lib.hid ((Ow.fewO (O := [Rw.pair w1.heap.size 28 (.slice Ax nx cx) (.slice Ay ny cy), Rw.pair w2.heap.size 28 (.slice A7 n7 c7) (.slice A8 n8 c8)]) Z4).less (L' := [(⟨Ax, nx, cx, nats (Na.dig x)⟩ : Ob), (⟨Ay, ny, cy, nats (Na.dig y)⟩ : Ob), (⟨A7, n7, c7, nats (Na.dig nn)⟩ : Ob), (⟨A8, n8, c8, nats (Na.dig dd)⟩ : Ob)]) (fun o ho => by
          simp only [List.mem_cons, List.not_mem_nil, or_false] at ho ⊢
          rcases ho with h | h | h | h <;> simp [h]))
        clear G Z3 Z4
        go_wp2_with fail
        go_roundw
        case rel => exact ⟨k + 1, nn, dd, A7, n7, c7, A8, n8, c8, hlt, int_eqv (by omega), HQ.out.2.1, HN2⟩
        case measure => simp [intOf]; omega
      · rw [show ((c - k : Nat) : Int) = 0 by omega] at hof0
        have hof : ofF (0) (c : Int) = (u, v, 0) := hof0
        have HC := Lib.hid (qrof_ow HO.out (0) (c : Int) (by omega) (by omega))
        rw [hof] at HC
        clear hof hof0
        have HF := HO
        clear HO
        go_wp2_with fail
        refine HC.out.mono ?_
        rintro e w3 ⟨A5, n5, c5, A6, n6, c6, rfl, G⟩
        clear HC HF
        have H := G.pair (.slice A5 n5 c5) (.slice A6 n6 c6) 28
        simp only [List.nil_append, List.cons_append] at H
        clear G
        have a0 := H.p0 1 rfl
        have a1 := H.p1 1 rfl
        have b0 := H.p0 2 rfl
        have b1 := H.p1 2 rfl
        have HC := Lib.hid (qrmul_any (p := Na.up (Na.dig fx)) (q := Na.up (Na.dig fy)) (r := Na.up (Na.dig u)) (s := Na.up (Na.dig v)) H 2 3 4 5 (by rw [nats_up]; rfl) (by rw [nats_up]; rfl) (by rw [nats_up]; rfl) (by rw [nats_up]; rfl))
        rw [mulF_low HP.out.F.px HP.out.F.py HU.out.px HU.out.py HP.out.F.pos HU.out.pos HP.out.F.g HU.out.g HQ.out.2.2.1 HQ.out.2.2.2, HQ.out.1] at HC
        clear H
        go_wp2_with fail
        refine HC.out.mono ?_
        rintro e w4 ⟨A7, n7, c7, A8, n8, c8, rfl, G⟩
        clear HC a0 a1 b0 b1
        have z0 := G.p0 1 rfl
        have z1 := G.p1 1 rfl
        have f0 := G.pf 1 rfl 0
        have f1 := G.pf 1 rfl 1
        have Z3 := G.set0 1 rfl (.slice A7 n7 c7)
        simp only [List.set_cons_succ, List.set_cons_zero] at Z3
        have Z4 := Z3.set1 1 rfl (.slice A8 n8 c8)
        simp only [List.set_cons_succ, List.set_cons_zero, List.cons_append, List.nil_append] at Z4
        have HN2 := Lib.hid ((Ow.fewO (O := [Rw.pair w1.heap.size 28 (.slice Ax nx cx) (.slice Ay ny cy), Rw.pair w2.heap.size 28 (.slice A7 n7 c7) (.slice A8 n8 c8)]) Z4).less (L' := [(⟨Ax, nx, cx, nats (Na.dig x)⟩ : Ob), (⟨Ay, ny, cy, nats (Na.dig y)⟩ : Ob), (⟨A7, n7, c7, nats (Na.dig nn)⟩ : Ob), (⟨A8, n8, c8, nats (Na.dig dd)⟩ : Ob)]) (fun o ho => by
          simp only [List.mem_cons, List.not_mem_nil, or_false] at ho ⊢
          rcases ho with h | h | h | h <;> simp [h]))
        clear G Z3 Z4
        go_wp2_with fail
        go_roundw
        case rel => exact ⟨k + 1, nn, dd, A7, n7, c7, A8, n8, c8, hlt, int_eqv (by omega), HQ.out.2.1, HN2⟩
        case measure => simp [intOf]; omega
end Go.Proofs.YtnfjnlnphdmdmaaDoor


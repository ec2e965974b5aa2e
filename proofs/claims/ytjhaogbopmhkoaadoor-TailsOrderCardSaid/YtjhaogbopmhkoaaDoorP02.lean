/- what more is needed -/
import Derived.Test.YtjhaogbopmhkoaaDoorY26
import Derived.WalkKit
import Derived.WalkLawsBesides
import Derived.WalkSpells
import Derived.Lib.Hide
import Derived.Laws.BitsAllLaws
import Derived.Deep.QuietTactic
import Derived.BigQuiet
import Derived.Below
import Derived.OwnWalk
import Derived.Laws.OwnMore
import Derived.Laws.Rows
import Derived.Deep.AppendLies
import Derived.Maps.AppendAt
import Derived.RangeFuncNested
import Derived.RangeFuncBound
import Derived.RangeFuncCalls
import Derived.RangeFuncLeaves
import Derived.RangeFuncBox
import Derived.RangeFuncWrites
import Derived.Shelf.Abstract
import Derived.Shelf.RegionOpen
import Derived.OwnWalkIn
import Derived.TacticsInMore
import Derived.LoopNIn
import Derived.LoopIn
import Derived.Test.YtjhaogbopmhkoaaDoorChecked
import Derived.StillTailTactics
import Derived.Outline
import Derived.Deep.Cut
import Derived.RegionIn
import Derived.Lib.IndexBytes
import Derived.Lib.BufferRead
import Derived.RegionTactic
import Derived.ChangeAlike
import Derived.Deep.RegionWith
import Derived.StillTail
import Derived.Lib.QuietBelow
import Derived.Deep.RegionHeld3
import Derived.Lib.BitFns
import Derived.Deep.CutBlock
import Derived.Deep.LoopGhost
import Derived.Lib.TrailingZeros
import Derived.BigRegion
import Derived.Shelf.Spec.BitsCarry
import Derived.Laws.Tables
import Derived.ProofKit
import Derived.OpenShut
import Derived.Carry
import Derived.Test.YtjhaogbopmhkoaaDoorRows
import Derived.LaidMore
import Derived.Lay
import Derived.SevenTiedAt
import Derived.Stop.Joined
import Derived.Lib.SmallJoins
open List (cons_append nil_append append_assoc)
namespace Go.Proofs.YtjhaogbopmhkoaaDoor
open Go.RowKit
set_option linter.unusedVariables false
set_option maxRecDepth 100000
section
variable {P : Program} {w0 w w' : World} {g : Option Nat} {M : List (Nat × Value)} {L : List Ob} {O : List Rw} {t e : TypeId} {z : Value} {bytes : Nat}
theorem Ow.re (h : Ow w0 w g M L O) {O' : List Rw} (f : Nat → Nat) (hf : ∀ i j, i < O'.length → j < O'.length → f i = f j → i = j) (hO : ∀ (i : Nat) (r : Rw), O'[i]? = some r → O[f i]? = some r) : Ow w0 w g M L O' :=
  ⟨h.st, fun i r hi => h.own (f i) r (hO i r hi), fun i r hi => h.ap (f i) r (hO i r hi), fun i j r s hi hj hij => h.two (f i) (f j) r s (hO i r hi) (hO j s hj) fun e => hij (hf i j (get_lt hi) (get_lt hj) e)⟩
end
end Go.Proofs.YtjhaogbopmhkoaaDoor

namespace Go.Proofs.YtjhaogbopmhkoaaDoor
open Go.RowKit Go.Sort
set_option linter.unusedVariables false
set_option maxRecDepth 100000
section
variable {w0 w w' : World} {g : Option Nat} {M : List (Nat × Value)} {L : List Ob} {O : List Rw} {A A2 : Option Addr} {n c m c2 : Nat} {zs ys : List Int}
theorem ag_rcmp_b (h : Ow w0 w g M L O) (i j : Nat) (hi : L[i]? = some ⟨A, n, c, ints zs⟩) (hj : L[j]? = some ⟨A2, m, c2, ints ys⟩) (hv : Na.vld zs = true) (hv2 : Na.vld ys = true) :
    Calls Tryd.prog 55 #[.agg #[.slice A n c], .agg #[.slice A2 m c2]] w fun e w' => e = .returned (.int .i64 (Na.sgn (num zs) (num ys))) ∧ Below w.heap.size w w' := by
  obtain ⟨x, hx, e1⟩ := Na.vld_ex hv
  obtain ⟨y, hy, e2⟩ := Na.vld_ex hv2
  have p' := raw_dig (h.raw hi) e1
  have q' := raw_dig (h.raw hj) e2
  rw [e1, e2, num_dig, num_dig]
  exact (nrcmp_any A A2 n c m c2 x y w p'.1 q'.1 p'.2.1 q'.2.1 p'.2.2.2 q'.2.2.2 p'.2.2.1 q'.2.2.1).mono fun en w' ⟨he, hb⟩ => ⟨he, hb⟩
theorem ag_rcmp (h : Ow w0 w g M L O) (i j : Nat) (hi : L[i]? = some ⟨A, n, c, ints zs⟩) (hj : L[j]? = some ⟨A2, m, c2, ints ys⟩) (hv : Na.vld zs = true) (hv2 : Na.vld ys = true) :
    Calls Tryd.prog 55 #[.agg #[.slice A n c], .agg #[.slice A2 m c2]] w fun e w' => e = .returned (.int .i64 (Na.sgn (num zs) (num ys))) ∧ Ow w0 w' g M L O :=
  (ag_rcmp_b h i j hi hj hv hv2).mono fun en w' ⟨he, hb⟩ => ⟨he, h.go hb⟩
end
end Go.Proofs.YtjhaogbopmhkoaaDoor

namespace Go.Proofs.YtjhaogbopmhkoaaDoor
open Go.RowKit
set_option linter.unusedVariables false
section
variable {w0 w w' : World} {g : Option Nat} {M : List (Nat × Value)} {L : List Ob} {O : List Rw}
end
def addF (p q r s : List Int) : Nat × Nat × Int := if rv p q && rv r s then (if num p * num s < Na.top ∧ num r * num q < Na.top ∧ num q * num s < Na.top ∧ num p * num s + num r * num q < Na.top then frM (num p * num s + num r * num q) (num q * num s) else frE 3) else frE 1
def subF (p q r s : List Int) : Nat × Nat × Int := if rv p q && rv r s then (if num p * num s < Na.top ∧ num r * num q < Na.top ∧ num q * num s < Na.top then (if num r * num q ≤ num p * num s then frM (num p * num s - num r * num q) (num q * num s) else frE 5) else frE 3) else frE 1
def cmpV (p q r s : List Int) : Int := if rv p q && rv r s then (if num p * num s < Na.top ∧ num r * num q < Na.top then Na.sgn (num p * num s) (num r * num q) else 0) else 0
def cmpE (p q r s : List Int) : Int := if rv p q && rv r s then (if num p * num s < Na.top ∧ num r * num q < Na.top then 0 else 3) else 1
section
variable {w0 w w' : World} {g : Option Nat} {M : List (Nat × Value)} {L : List Ob} {O : List Rw} {A A2 : Option Addr} {n c m c2 x y : Nat}
end
end Go.Proofs.YtjhaogbopmhkoaaDoor

namespace Go.Proofs.YtjhaogbopmhkoaaDoor
open Go.RowKit
set_option linter.unusedVariables false
theorem addF_low {a b c d : Nat} (ha : a < Na.top) (hb : b < Na.top) (hc : c < Na.top) (hd : d < Na.top) (hb0 : 0 < b) (hd0 : 0 < d) (g1 : Nat.gcd a b = 1) (g2 : Nat.gcd c d = 1) (h1 : a * d + c * b < Na.top) (h3 : b * d < Na.top) : addF (Na.up (Na.dig a)) (Na.up (Na.dig b)) (Na.up (Na.dig c)) (Na.up (Na.dig d)) = frM (a * d + c * b) (b * d) := by
  unfold addF
  rw [rv_low ha hb hb0 g1, rv_low hc hd hd0 g2, num_dig, num_dig, num_dig, num_dig, if_pos (by rfl), if_pos ⟨by omega, by omega, h3, h1⟩]
theorem subF_low {a b c d : Nat} (ha : a < Na.top) (hb : b < Na.top) (hc : c < Na.top) (hd : d < Na.top) (hb0 : 0 < b) (hd0 : 0 < d) (g1 : Nat.gcd a b = 1) (g2 : Nat.gcd c d = 1) (h1 : a * d < Na.top) (h2 : c * b < Na.top) (h3 : b * d < Na.top) : subF (Na.up (Na.dig a)) (Na.up (Na.dig b)) (Na.up (Na.dig c)) (Na.up (Na.dig d)) = if c * b ≤ a * d then frM (a * d - c * b) (b * d) else frE 5 := by
  unfold subF
  rw [rv_low ha hb hb0 g1, rv_low hc hd hd0 g2, num_dig, num_dig, num_dig, num_dig, if_pos (by rfl), if_pos ⟨h1, h2, h3⟩]
end Go.Proofs.YtjhaogbopmhkoaaDoor

namespace Go.Proofs.YtjhaogbopmhkoaaDoor
open Go.RowKit Go.Sort
set_option linter.unusedVariables false
set_option maxRecDepth 100000
section
variable {w0 w w' : World} {g : Option Nat} {M : List (Nat × Value)} {L : List Ob} {O : List Rw} {A A2 : Option Addr} {n c m c2 x y : Nat}
end
end Go.Proofs.YtjhaogbopmhkoaaDoor

namespace Go.Proofs.YtjhaogbopmhkoaaDoor
open Go.RowKit Go.Sort
set_option linter.unusedVariables false
set_option maxRecDepth 100000
end Go.Proofs.YtjhaogbopmhkoaaDoor

namespace Go.Proofs.YtjhaogbopmhkoaaDoor
open Go.RowKit Go.Sort
set_option linter.unusedVariables false
set_option maxRecDepth 100000
end Go.Proofs.YtjhaogbopmhkoaaDoor

namespace Go.Proofs.YtjhaogbopmhkoaaDoor
open Go.RowKit Go.Sort
set_option linter.unusedVariables false
set_option maxRecDepth 100000
section
variable {w0 w w' : World} {g : Option Nat} {M : List (Nat × Value)} {L : List Ob} {O : List Rw} {A A2 : Option Addr} {n c m c2 x y : Nat} {p q : List Int}
end
section
variable {w0 w w' : World} {g : Option Nat} {M : List (Nat × Value)} {L : List Ob} {O : List Rw} {A A2 A3 A4 : Option Addr} {n c m c2 n3 c3 n4 c4 : Nat}
end
end Go.Proofs.YtjhaogbopmhkoaaDoor

namespace Go.Proofs.YtjhaogbopmhkoaaDoor
open Go.RowKit Go.Sort
set_option linter.unusedVariables false
set_option maxRecDepth 100000
theorem nrcmp_fr {w0 w : World} {g : Option Nat} {M : List (Nat × Value)} {L : List Ob} {O : List Rw} {A A2 : Option Addr} {n c m c2 x y : Nat} (h : Ow w0 w g M L O) (i j : Nat) (hi : L[i]? = some ⟨A, n, c, nats (Na.dig x)⟩) (hj : L[j]? = some ⟨A2, m, c2, nats (Na.dig y)⟩) (hx : x < Na.top) (hy : y < Na.top) :
    Calls Tryd.prog 55 #[.agg #[.slice A n c], .agg #[.slice A2 m c2]] w fun e w' => e = .returned (.int .i64 (Na.sgn x y)) ∧ Ow w0 w' g M L O := by
  have := ag_rcmp (zs := Na.up (Na.dig x)) (ys := Na.up (Na.dig y)) h i j (by rw [nats_up]; exact hi) (by rw [nats_up]; exact hj) (Na.vld_dig hx) (Na.vld_dig hy)
  rwa [num_dig, num_dig] at this
section
variable {w0 w w' : World} {g : Option Nat} {M M2 : List (Nat × Value)} {L : List Ob} {O : List Rw} {A A2 A3 A4 : Option Addr} {b n c m c2 n3 c3 n4 c4 x y : Nat} {p q r s : List Int}
set_option maxHeartbeats 8000000 in
theorem qrcmp_any (h : Ow w0 w g M L O) (i j k l : Nat) (hi : L[i]? = some ⟨A, n, c, ints p⟩) (hj : L[j]? = some ⟨A2, m, c2, ints q⟩) (hk : L[k]? = some ⟨A3, n3, c3, ints r⟩) (hl : L[l]? = some ⟨A4, n4, c4, ints s⟩)  :
    Calls Tryd.prog 18 #[.agg #[.slice A n c, .slice A2 m c2], .agg #[.slice A3 n3 c3, .slice A4 n4 c4]] w (fun e w' => e = .returned (.tuple #[.int .i64 (cmpV p q r s), .int .i64 (cmpE p q r s)]) ∧ Ow w0 w' g M L O) := by
  have H0 := (h.pair (.slice A n c) (.slice A2 m c2) 26).pair (.slice A3 n3 c3) (.slice A4 n4 c4) 26
  simp only [World.size_alloc, append_assoc, cons_append, nil_append] at H0
  have a0 := H0.p0 (O.length + 0) (by rw [get_r]; rfl)
  have a1 := H0.p1 (O.length + 0) (by rw [get_r]; rfl)
  have HV := Lib.hid (qrvalid_ow H0 i j hi hj)
  cases h1 : rv p q with
  | false =>
  rw [h1] at HV
  rw [show cmpV p q r s = 0 by unfold cmpV; rw [h1]; rfl, show cmpE p q r s = 1 by unfold cmpE; rw [h1]; rfl]
  clear h H0 hi hj hk hl h1
  go_enter Tryd.func18, Tryd.ntmps18
  go_wp2_with fail
  refine HV.out.mono ?_
  rintro e w1 ⟨rfl, H⟩
  clear HV a0 a1
  have HF := Lib.hid (H.fewO)
  clear H
  go_wp2_with fail
  go_ret2
  exact ⟨rfl, HF.out⟩
  | true =>
  rw [h1] at HV
  cases h2 : rv r s with
  | false =>
  rw [show cmpV p q r s = 0 by unfold cmpV; rw [h1, h2]; rfl, show cmpE p q r s = 1 by unfold cmpE; rw [h1, h2]; rfl]
  have HR := Lib.hid (And.intro hk (And.intro hl h2))
  clear h H0 hi hj hk hl h1 h2
  go_enter Tryd.func18, Tryd.ntmps18
  go_wp2_with fail
  refine HV.out.mono ?_
  rintro e w1 ⟨rfl, H⟩
  have b0 := H.p0 (O.length + 1) (by rw [get_r]; rfl)
  have b1 := H.p1 (O.length + 1) (by rw [get_r]; rfl)
  have HW := Lib.hid (qrvalid_ow H k l HR.out.1 HR.out.2.1)
  rw [HR.out.2.2] at HW
  clear HV H a0 a1
  go_wp2_with fail
  refine HW.out.mono ?_
  rintro e w2 ⟨rfl, H⟩
  clear HW b0 b1
  have HF := Lib.hid (H.fewO)
  clear H
  go_wp2_with fail
  go_ret2
  exact ⟨rfl, HF.out⟩
  | true =>
  have HR := Lib.hid (And.intro hk (And.intro hl h2))
  have e1 : cmpV p q r s = if num p * num s < Na.top ∧ num r * num q < Na.top then Na.sgn (num p * num s) (num r * num q) else 0 := by unfold cmpV; rw [h1, h2]; rfl
  have e2 : cmpE p q r s = if num p * num s < Na.top ∧ num r * num q < Na.top then 0 else 3 := by unfold cmpE; rw [h1, h2]; rfl
  rw [e1, e2]
  clear e1 e2
  obtain ⟨x, y, hx, hy, -, -, rfl, rfl⟩ := rv_ex h1
  obtain ⟨u, v, hu, hv, -, -, rfl, rfl⟩ := rv_ex h2
  rw [num_dig, num_dig, num_dig, num_dig]
  have HI := Lib.hid (And.intro (nats_lay hi) (And.intro (nats_lay hj) (And.intro (nats_lay hk) (nats_lay hl))))
  have HX := Lib.hid (And.intro hx (And.intro hy (And.intro hu hv)))
  clear h H0 hi hj hk hl h1 h2 hx hy hu hv
  by_cases hX : x * v < Na.top
  · by_cases hZ : u * y < Na.top
    · rw [if_pos ⟨hX, hZ⟩, if_pos ⟨hX, hZ⟩]
      obtain ⟨t, hmk⟩ : ∃ t, Na.sgn (x * v) (u * y) = t := ⟨_, rfl⟩
      rw [hmk]
      have HE := Lib.hid (And.intro hX (And.intro hZ hmk))
      clear hX hZ hmk
      go_enter Tryd.func18, Tryd.ntmps18
      go_wp2_with fail
      refine HV.out.mono ?_
      rintro e w1 ⟨rfl, H⟩
      have b0 := H.p0 (O.length + 1) (by rw [get_r]; rfl)
      have b1 := H.p1 (O.length + 1) (by rw [get_r]; rfl)
      have HW := Lib.hid (qrvalid_ow H k l HR.out.1 HR.out.2.1)
      rw [HR.out.2.2] at HW
      clear HV H a0 a1
      go_wp2_with fail
      refine HW.out.mono ?_
      rintro e w2 ⟨rfl, H⟩
      clear HW b0 b1
      have a0 := H.p0 (O.length + 0) (by rw [get_r]; rfl)
      have b1 := H.p1 (O.length + 1) (by rw [get_r]; rfl)
      have HC := Lib.hid (nrmul_fr H i l HI.out.1 HI.out.2.2.2 HX.out.1 HX.out.2.2.2)
      rw [resL_ok HE.out.1, resE_ok HE.out.1] at HC
      clear H
      go_wp2_with fail
      refine HC.out.mono ?_
      rintro e w3 ⟨B3, m3, d3, rfl, G⟩
      have H := G.boxed (.slice B3 m3 d3) 24
      try simp only [append_assoc, cons_append, nil_append] at H
      clear HC G a0 b1
      have b0 := H.p0 (O.length + 1) (by rw [get_r]; rfl)
      have a1 := H.p1 (O.length + 0) (by rw [get_r]; rfl)
      have HC := Lib.hid (nrmul_fr H k j ((get_l _ _ (get_lt HI.out.2.2.1)).trans HI.out.2.2.1) ((get_l _ _ (get_lt HI.out.2.1)).trans HI.out.2.1) HX.out.2.2.1 HX.out.2.1)
      rw [resL_ok HE.out.2.1, resE_ok HE.out.2.1] at HC
      clear H
      go_wp2_with fail
      refine HC.out.mono ?_
      rintro e w4 ⟨B4, m4, d4, rfl, G⟩
      have H := G.boxed (.slice B4 m4 d4) 24
      try simp only [append_assoc, cons_append, nil_append] at H
      clear HC G b0 a1
      have k0 := H.cell (M.length + 0) (by rw [get_r]; rfl)
      have k1 := H.cell (M.length + 1) (by rw [get_r]; rfl)
      have HC := Lib.hid (nrcmp_fr H (L.length + 0) (L.length + 1) (by rw [get_r]; rfl) (by rw [get_r]; rfl) HE.out.1 HE.out.2.1)
      rw [HE.out.2.2] at HC
      clear H
      go_wp2_with fail
      refine HC.out.mono ?_
      rintro e w5 ⟨rfl, H⟩
      clear HC k0 k1
      have HF := Lib.hid (H.fewM.fewO.less (L' := L) (fun o ho => by simp [ho]))
      clear H
      go_wp2_with fail
      go_ret2
      exact ⟨rfl, HF.out⟩
    · rw [if_neg (fun h => hZ h.2), if_neg (fun h => hZ h.2)]
      have HE := Lib.hid (And.intro hX hZ)
      clear hX hZ
      go_enter Tryd.func18, Tryd.ntmps18
      go_wp2_with fail
      refine HV.out.mono ?_
      rintro e w1 ⟨rfl, H⟩
      have b0 := H.p0 (O.length + 1) (by rw [get_r]; rfl)
      have b1 := H.p1 (O.length + 1) (by rw [get_r]; rfl)
      have HW := Lib.hid (qrvalid_ow H k l HR.out.1 HR.out.2.1)
      rw [HR.out.2.2] at HW
      clear HV H a0 a1
      go_wp2_with fail
      refine HW.out.mono ?_
      rintro e w2 ⟨rfl, H⟩
      clear HW b0 b1
      have a0 := H.p0 (O.length + 0) (by rw [get_r]; rfl)
      have b1 := H.p1 (O.length + 1) (by rw [get_r]; rfl)
      have HC := Lib.hid (nrmul_fr H i l HI.out.1 HI.out.2.2.2 HX.out.1 HX.out.2.2.2)
      rw [resL_ok HE.out.1, resE_ok HE.out.1] at HC
      clear H
      go_wp2_with fail
      refine HC.out.mono ?_
      rintro e w3 ⟨B3, m3, d3, rfl, G⟩
      have H := G.boxed (.slice B3 m3 d3) 24
      try simp only [append_assoc, cons_append, nil_append] at H
      clear HC G a0 b1
      have b0 := H.p0 (O.length + 1) (by rw [get_r]; rfl)
      have a1 := H.p1 (O.length + 0) (by rw [get_r]; rfl)
      have HC := Lib.hid (nrmul_fr H k j ((get_l _ _ (get_lt HI.out.2.2.1)).trans HI.out.2.2.1) ((get_l _ _ (get_lt HI.out.2.1)).trans HI.out.2.1) HX.out.2.2.1 HX.out.2.1)
      rw [resE_nt HE.out.2] at HC
      clear H
      go_wp2_with fail
      refine HC.out.mono ?_
      rintro e w4 ⟨B4, m4, d4, rfl, G⟩
      have H := G.boxed (.slice B4 m4 d4) 24
      try simp only [append_assoc, cons_append, nil_append] at H
      clear HC G b0 a1
      have HF := Lib.hid (H.fewM.fewO.less (L' := L) (fun o ho => by simp [ho]))
      clear H
      go_wp2_with fail
      go_ret2
      exact ⟨rfl, HF.out⟩
  · rw [if_neg (fun h => hX h.1), if_neg (fun h => hX h.1)]
    have HE := Lib.hid hX
    clear hX
    go_enter Tryd.func18, Tryd.ntmps18
    go_wp2_with fail
    refine HV.out.mono ?_
    rintro e w1 ⟨rfl, H⟩
    have b0 := H.p0 (O.length + 1) (by rw [get_r]; rfl)
    have b1 := H.p1 (O.length + 1) (by rw [get_r]; rfl)
    have HW := Lib.hid (qrvalid_ow H k l HR.out.1 HR.out.2.1)
    rw [HR.out.2.2] at HW
    clear HV H a0 a1
    go_wp2_with fail
    refine HW.out.mono ?_
    rintro e w2 ⟨rfl, H⟩
    clear HW b0 b1
    have a0 := H.p0 (O.length + 0) (by rw [get_r]; rfl)
    have b1 := H.p1 (O.length + 1) (by rw [get_r]; rfl)
    have HC := Lib.hid (nrmul_fr H i l HI.out.1 HI.out.2.2.2 HX.out.1 HX.out.2.2.2)
    rw [resE_nt HE.out] at HC
    clear H
    go_wp2_with fail
    refine HC.out.mono ?_
    rintro e w3 ⟨B3, m3, d3, rfl, G⟩
    have H := G.boxed (.slice B3 m3 d3) 24
    try simp only [append_assoc, cons_append, nil_append] at H
    clear HC G a0 b1
    have b0 := H.p0 (O.length + 1) (by rw [get_r]; rfl)
    have a1 := H.p1 (O.length + 0) (by rw [get_r]; rfl)
    have HC := Lib.hid (nrmul_fr H k j ((get_l _ _ (get_lt HI.out.2.2.1)).trans HI.out.2.2.1) ((get_l _ _ (get_lt HI.out.2.1)).trans HI.out.2.1) HX.out.2.2.1 HX.out.2.1)
    clear H
    go_wp2_with fail
    refine HC.out.mono ?_
    rintro e w4 ⟨B4, m4, d4, rfl, G⟩
    have H := G.boxed (.slice B4 m4 d4) 24
    try simp only [append_assoc, cons_append, nil_append] at H
    clear HC G b0 a1
    have HF := Lib.hid (H.fewM.fewO.less (L' := L) (fun o ho => by simp [ho]))
    clear H
    go_wp2_with fail
    go_ret2
    exact ⟨rfl, HF.out⟩
def GotX (w0 : World) (g : Option Nat) (M : List (Nat × Value)) (L : List Ob) (O : List Rw) (l1 l2 l3 : List Nat) (e0 : Int) (en : Ending) (w' : World) : Prop :=
  ∃ (A1 : Option Addr) (n1 c1 : Nat) (A2 : Option Addr) (n2 c2 : Nat) (A3 : Option Addr) (n3 c3 : Nat), en = .returned (.tuple #[.agg #[.slice A1 n1 c1], .agg #[.slice A2 n2 c2], .agg #[.slice A3 n3 c3], .int .i64 e0]) ∧ Ow w0 w' g M (L ++ [⟨A1, n1, c1, nats l1⟩, ⟨A2, n2, c2, nats l2⟩, ⟨A3, n3, c3, nats l3⟩]) O
theorem gotX_nil (h : Ow w0 w g M L O) (e0 : Int) : GotX w0 g M L O [] [] [] e0 (.returned (.tuple #[.agg #[.slice none 0 0], .agg #[.slice none 0 0], .agg #[.slice none 0 0], .int .i64 e0])) w := by
  refine ⟨none, 0, 0, none, 0, 0, none, 0, 0, rfl, ?_⟩
  have := ((h.old (A := none) (n := 0) (c := 0) (vs := nats []) (Sl.nil _ _ _) rfl (Nat.le_refl _) (by decide)).old (A := none) (n := 0) (c := 0) (vs := nats []) (Sl.nil _ _ _) rfl (Nat.le_refl _) (by decide)).old (A := none) (n := 0) (c := 0) (vs := nats []) (Sl.nil _ _ _) rfl (Nat.le_refl _) (by decide)
  rwa [append_assoc, append_assoc] at this
set_option maxHeartbeats 8000000 in
theorem qcross_ok {x y u v : Nat} (h : Ow w0 w g M L O) (i j k l : Nat) (hi : L[i]? = some ⟨A, n, c, nats (Na.dig x)⟩) (hj : L[j]? = some ⟨A2, m, c2, nats (Na.dig y)⟩) (hk : L[k]? = some ⟨A3, n3, c3, nats (Na.dig u)⟩) (hl : L[l]? = some ⟨A4, n4, c4, nats (Na.dig v)⟩) (hx : x < Na.top) (hy : y < Na.top) (hu : u < Na.top) (hv : v < Na.top) (hX : x * v < Na.top) (hY : u * y < Na.top) (hZ : y * v < Na.top) :
    Calls Tryd.prog 56 #[.agg #[.slice A n c, .slice A2 m c2], .agg #[.slice A3 n3 c3, .slice A4 n4 c4]] w (GotX w0 g M L O (Na.dig (x * v)) (Na.dig (u * y)) (Na.dig (y * v)) 0) := by
  have H0 := ((((h.pair (.slice A n c) (.slice A2 m c2) 26).pair (.slice A3 n3 c3) (.slice A4 n4 c4) 26).boxed (.slice none 0 0) 24).boxed (.slice none 0 0) 24).boxed (.slice none 0 0) 24
  simp only [World.size_alloc, append_assoc, cons_append, nil_append] at H0
  have H := H0
  have HI := Lib.hid (And.intro hi (And.intro hj (And.intro hk hl)))
  have HX := Lib.hid (And.intro hx (And.intro hy (And.intro hu hv)))
  have HE := Lib.hid (And.intro hX (And.intro hY hZ))
  have q1 := H.p0 (O.length + 0) (by rw [get_r]; rfl)
  have q2 := H.p1 (O.length + 1) (by rw [get_r]; rfl)
  have HC := Lib.hid (nrmul_fr H i l HI.out.1 HI.out.2.2.2 HX.out.1 HX.out.2.2.2)
  rw [resL_ok HE.out.1, resE_ok HE.out.1] at HC
  clear h H0 H hi hj hk hl hx hy hu hv hX hY hZ
  go_enter Tryd.func56, Tryd.ntmps56
  go_wp2_with fail
  refine HC.out.mono ?_
  rintro e w3 ⟨B3, m3, d3, rfl, G⟩
  have H := G.boxed (.slice B3 m3 d3) 24
  simp only [append_assoc, cons_append, nil_append] at H
  clear HC G q1 q2
  have b0 := H.p0 (O.length + 1) (by rw [get_r]; rfl)
  have a1 := H.p1 (O.length + 0) (by rw [get_r]; rfl)
  have HC := Lib.hid (nrmul_fr H k j ((get_l _ _ (get_lt HI.out.2.2.1)).trans HI.out.2.2.1) ((get_l _ _ (get_lt HI.out.2.1)).trans HI.out.2.1) HX.out.2.2.1 HX.out.2.1)
  rw [resL_ok HE.out.2.1, resE_ok HE.out.2.1] at HC
  clear H
  go_wp2_with fail
  refine HC.out.mono ?_
  rintro e w4 ⟨B4, m4, d4, rfl, G⟩
  have H := G.boxed (.slice B4 m4 d4) 24
  try simp only [append_assoc, cons_append, nil_append] at H
  clear HC G b0 a1
  have a1 := H.p1 (O.length + 0) (by rw [get_r]; rfl)
  have b1 := H.p1 (O.length + 1) (by rw [get_r]; rfl)
  have HC := Lib.hid (nrmul_fr H j l ((get_l _ _ (get_lt HI.out.2.1)).trans HI.out.2.1) ((get_l _ _ (get_lt HI.out.2.2.2)).trans HI.out.2.2.2) HX.out.2.1 HX.out.2.2.2)
  rw [resL_ok HE.out.2.2, resE_ok HE.out.2.2] at HC
  clear H
  go_wp2_with fail
  refine HC.out.mono ?_
  rintro e w5 ⟨B5, m5, d5, rfl, G⟩
  have H := G.boxed (.slice B5 m5 d5) 24
  try simp only [append_assoc, cons_append, nil_append] at H
  clear HC G a1 b1
  have HD := Lib.hid H.drew
  have HN := Lib.hid H
  have k0 := H.cell (M.length + 0) (by rw [get_r]; rfl)
  have k1 := H.cell (M.length + 1) (by rw [get_r]; rfl)
  have k2 := H.cell (M.length + 2) (by rw [get_r]; rfl)
  have k3 := H.cell (M.length + 3) (by rw [get_r]; rfl)
  have k4 := H.cell (M.length + 4) (by rw [get_r]; rfl)
  have k5 := H.cell (M.length + 5) (by rw [get_r]; rfl)
  have f0 := H.free (M.length + 0) (by rw [get_r]; rfl)
  have f1 := H.free (M.length + 1) (by rw [get_r]; rfl)
  have f2 := H.free (M.length + 2) (by rw [get_r]; rfl)
  have n03 := H.apart (M.length + 3) (M.length + 0) (by rw [get_r]; rfl) (by rw [get_r]; rfl) (by omega)
  have n04 := H.apart (M.length + 4) (M.length + 0) (by rw [get_r]; rfl) (by rw [get_r]; rfl) (by omega)
  have n05 := H.apart (M.length + 5) (M.length + 0) (by rw [get_r]; rfl) (by rw [get_r]; rfl) (by omega)
  have n13 := H.apart (M.length + 3) (M.length + 1) (by rw [get_r]; rfl) (by rw [get_r]; rfl) (by omega)
  have n14 := H.apart (M.length + 4) (M.length + 1) (by rw [get_r]; rfl) (by rw [get_r]; rfl) (by omega)
  have n15 := H.apart (M.length + 5) (M.length + 1) (by rw [get_r]; rfl) (by rw [get_r]; rfl) (by omega)
  have n23 := H.apart (M.length + 3) (M.length + 2) (by rw [get_r]; rfl) (by rw [get_r]; rfl) (by omega)
  have n24 := H.apart (M.length + 4) (M.length + 2) (by rw [get_r]; rfl) (by rw [get_r]; rfl) (by omega)
  have n25 := H.apart (M.length + 5) (M.length + 2) (by rw [get_r]; rfl) (by rw [get_r]; rfl) (by omega)
  clear H
  go_upto_region 6 with (fail)
  have x0 := HD.out.cell (M.length + 0) (by rw [get_r]; rfl)
  have x1 := HD.out.cell (M.length + 1) (by rw [get_r]; rfl)
  have x2 := HD.out.cell (M.length + 2) (by rw [get_r]; rfl)
  have x3 := HD.out.cell (M.length + 3) (by rw [get_r]; rfl)
  have x4 := HD.out.cell (M.length + 4) (by rw [get_r]; rfl)
  have x5 := HD.out.cell (M.length + 5) (by rw [get_r]; rfl)
  have y0 := HD.out.free (M.length + 0) (by rw [get_r]; rfl)
  have y1 := HD.out.free (M.length + 1) (by rw [get_r]; rfl)
  have y2 := HD.out.free (M.length + 2) (by rw [get_r]; rfl)
  go_region
  have Z1 := HN.out.setv (M.length + 0) (by rw [get_r]; rfl) (.slice B3 m3 d3)
  rw [set_r] at Z1
  simp only [List.set_cons_zero] at Z1
  have Z2 := Z1.setv (M.length + 1) (by rw [get_r]; rfl) (.slice B4 m4 d4)
  rw [set_r] at Z2
  simp only [List.set_cons_succ, List.set_cons_zero] at Z2
  have Z3 := Z2.setv (M.length + 2) (by rw [get_r]; rfl) (.slice B5 m5 d5)
  rw [set_r] at Z3
  simp only [List.set_cons_succ, List.set_cons_zero] at Z3
  have s0 := Z3.cell (M.length + 0) (by rw [get_r]; rfl)
  have s1 := Z3.cell (M.length + 1) (by rw [get_r]; rfl)
  have s2 := Z3.cell (M.length + 2) (by rw [get_r]; rfl)
  have HF := Lib.hid Z3.drew.fewM.fewO
  clear HD HN Z1 Z2 Z3 k0 k1 k2 k3 k4 k5 f0 f1 f2 x0 x1 x2 x3 x4 x5 y0 y1 y2 n03 n04 n05 n13 n14 n15 n23 n24 n25
  go_wp2_with fail
  refine bodyPost_ret (v := .tuple #[.agg #[.slice B3 m3 d3], .agg #[.slice B4 m4 d4], .agg #[.slice B5 m5 d5], .int .i64 0]) (by simp [results, Tryd.results56, go_sem, s0, s1, s2]) rfl ?_
  exact ⟨B3, m3, d3, B4, m4, d4, B5, m5, d5, rfl, HF.out⟩
set_option maxHeartbeats 8000000 in
theorem qcross_x {x y u v : Nat} (h : Ow w0 w g M L O) (i j k l : Nat) (hi : L[i]? = some ⟨A, n, c, nats (Na.dig x)⟩) (hj : L[j]? = some ⟨A2, m, c2, nats (Na.dig y)⟩) (hk : L[k]? = some ⟨A3, n3, c3, nats (Na.dig u)⟩) (hl : L[l]? = some ⟨A4, n4, c4, nats (Na.dig v)⟩) (hx : x < Na.top) (hy : y < Na.top) (hu : u < Na.top) (hv : v < Na.top) (hX : ¬ x * v < Na.top) :
    Calls Tryd.prog 56 #[.agg #[.slice A n c, .slice A2 m c2], .agg #[.slice A3 n3 c3, .slice A4 n4 c4]] w (GotX w0 g M L O [] [] [] 3) := by
  have H0 := ((((h.pair (.slice A n c) (.slice A2 m c2) 26).pair (.slice A3 n3 c3) (.slice A4 n4 c4) 26).boxed (.slice none 0 0) 24).boxed (.slice none 0 0) 24).boxed (.slice none 0 0) 24
  simp only [World.size_alloc, append_assoc, cons_append, nil_append] at H0
  have H := H0
  have HI := Lib.hid (And.intro hi (And.intro hj (And.intro hk hl)))
  have HX := Lib.hid (And.intro hx (And.intro hy (And.intro hu hv)))
  have HE := Lib.hid hX
  have q1 := H.p0 (O.length + 0) (by rw [get_r]; rfl)
  have q2 := H.p1 (O.length + 1) (by rw [get_r]; rfl)
  have HC := Lib.hid (nrmul_fr H i l HI.out.1 HI.out.2.2.2 HX.out.1 HX.out.2.2.2)
  rw [resE_nt HE.out] at HC
  clear h H0 H hi hj hk hl hx hy hu hv hX
  go_enter Tryd.func56, Tryd.ntmps56
  go_wp2_with fail
  refine HC.out.mono ?_
  rintro e w3 ⟨B3, m3, d3, rfl, G⟩
  have H := G.boxed (.slice B3 m3 d3) 24
  simp only [append_assoc, cons_append, nil_append] at H
  clear HC G q1 q2
  have b0 := H.p0 (O.length + 1) (by rw [get_r]; rfl)
  have a1 := H.p1 (O.length + 0) (by rw [get_r]; rfl)
  have HC := Lib.hid (nrmul_fr H k j ((get_l _ _ (get_lt HI.out.2.2.1)).trans HI.out.2.2.1) ((get_l _ _ (get_lt HI.out.2.1)).trans HI.out.2.1) HX.out.2.2.1 HX.out.2.1)
  clear H
  go_wp2_with fail
  refine HC.out.mono ?_
  rintro e w4 ⟨B4, m4, d4, rfl, G⟩
  have H := G.boxed (.slice B4 m4 d4) 24
  try simp only [append_assoc, cons_append, nil_append] at H
  clear HC G b0 a1
  have a1 := H.p1 (O.length + 0) (by rw [get_r]; rfl)
  have b1 := H.p1 (O.length + 1) (by rw [get_r]; rfl)
  have HC := Lib.hid (nrmul_fr H j l ((get_l _ _ (get_lt HI.out.2.1)).trans HI.out.2.1) ((get_l _ _ (get_lt HI.out.2.2.2)).trans HI.out.2.2.2) HX.out.2.1 HX.out.2.2.2)
  clear H
  go_wp2_with fail
  refine HC.out.mono ?_
  rintro e w5 ⟨B5, m5, d5, rfl, G⟩
  have H := G.boxed (.slice B5 m5 d5) 24
  try simp only [append_assoc, cons_append, nil_append] at H
  clear HC G a1 b1
  have k0 := H.cell (M.length + 0) (by rw [get_r]; rfl)
  have k1 := H.cell (M.length + 1) (by rw [get_r]; rfl)
  have k2 := H.cell (M.length + 2) (by rw [get_r]; rfl)
  have f0 := H.free (M.length + 0) (by rw [get_r]; rfl)
  have f1 := H.free (M.length + 1) (by rw [get_r]; rfl)
  have f2 := H.free (M.length + 2) (by rw [get_r]; rfl)
  have Z1 := H.setv (M.length + 0) (by rw [get_r]; rfl) (.slice none 0 0)
  rw [set_r] at Z1
  simp only [List.set_cons_zero] at Z1
  have Z2 := Z1.setv (M.length + 1) (by rw [get_r]; rfl) (.slice none 0 0)
  rw [set_r] at Z2
  simp only [List.set_cons_succ, List.set_cons_zero] at Z2
  have Z3 := Z2.setv (M.length + 2) (by rw [get_r]; rfl) (.slice none 0 0)
  rw [set_r] at Z3
  simp only [List.set_cons_succ, List.set_cons_zero] at Z3
  have s0 := Z3.cell (M.length + 0) (by rw [get_r]; rfl)
  have s1 := Z3.cell (M.length + 1) (by rw [get_r]; rfl)
  have s2 := Z3.cell (M.length + 2) (by rw [get_r]; rfl)
  have HF := Lib.hid (Z3.fewM.fewO.less (L' := L) (fun o ho => by simp [ho]))
  clear H Z1 Z2 Z3
  go_wp2_with fail
  refine bodyPost_ret (v := .tuple #[.agg #[.slice none 0 0], .agg #[.slice none 0 0], .agg #[.slice none 0 0], .int .i64 3]) (by simp [results, Tryd.results56, go_sem, s0, s1, s2]) rfl ?_
  exact gotX_nil HF.out 3
set_option maxHeartbeats 8000000 in
theorem qcross_y {x y u v : Nat} (h : Ow w0 w g M L O) (i j k l : Nat) (hi : L[i]? = some ⟨A, n, c, nats (Na.dig x)⟩) (hj : L[j]? = some ⟨A2, m, c2, nats (Na.dig y)⟩) (hk : L[k]? = some ⟨A3, n3, c3, nats (Na.dig u)⟩) (hl : L[l]? = some ⟨A4, n4, c4, nats (Na.dig v)⟩) (hx : x < Na.top) (hy : y < Na.top) (hu : u < Na.top) (hv : v < Na.top) (hX : x * v < Na.top) (hY : ¬ u * y < Na.top) :
    Calls Tryd.prog 56 #[.agg #[.slice A n c, .slice A2 m c2], .agg #[.slice A3 n3 c3, .slice A4 n4 c4]] w (GotX w0 g M L O [] [] [] 3) := by
  have H0 := ((((h.pair (.slice A n c) (.slice A2 m c2) 26).pair (.slice A3 n3 c3) (.slice A4 n4 c4) 26).boxed (.slice none 0 0) 24).boxed (.slice none 0 0) 24).boxed (.slice none 0 0) 24
  simp only [World.size_alloc, append_assoc, cons_append, nil_append] at H0
  have H := H0
  have HI := Lib.hid (And.intro hi (And.intro hj (And.intro hk hl)))
  have HX := Lib.hid (And.intro hx (And.intro hy (And.intro hu hv)))
  have HE := Lib.hid (And.intro hX hY)
  have q1 := H.p0 (O.length + 0) (by rw [get_r]; rfl)
  have q2 := H.p1 (O.length + 1) (by rw [get_r]; rfl)
  have HC := Lib.hid (nrmul_fr H i l HI.out.1 HI.out.2.2.2 HX.out.1 HX.out.2.2.2)
  rw [resL_ok HE.out.1, resE_ok HE.out.1] at HC
  clear h H0 H hi hj hk hl hx hy hu hv hX hY
  go_enter Tryd.func56, Tryd.ntmps56
  go_wp2_with fail
  refine HC.out.mono ?_
  rintro e w3 ⟨B3, m3, d3, rfl, G⟩
  have H := G.boxed (.slice B3 m3 d3) 24
  simp only [append_assoc, cons_append, nil_append] at H
  clear HC G q1 q2
  have b0 := H.p0 (O.length + 1) (by rw [get_r]; rfl)
  have a1 := H.p1 (O.length + 0) (by rw [get_r]; rfl)
  have HC := Lib.hid (nrmul_fr H k j ((get_l _ _ (get_lt HI.out.2.2.1)).trans HI.out.2.2.1) ((get_l _ _ (get_lt HI.out.2.1)).trans HI.out.2.1) HX.out.2.2.1 HX.out.2.1)
  rw [resE_nt HE.out.2] at HC
  clear H
  go_wp2_with fail
  refine HC.out.mono ?_
  rintro e w4 ⟨B4, m4, d4, rfl, G⟩
  have H := G.boxed (.slice B4 m4 d4) 24
  try simp only [append_assoc, cons_append, nil_append] at H
  clear HC G b0 a1
  have a1 := H.p1 (O.length + 0) (by rw [get_r]; rfl)
  have b1 := H.p1 (O.length + 1) (by rw [get_r]; rfl)
  have HC := Lib.hid (nrmul_fr H j l ((get_l _ _ (get_lt HI.out.2.1)).trans HI.out.2.1) ((get_l _ _ (get_lt HI.out.2.2.2)).trans HI.out.2.2.2) HX.out.2.1 HX.out.2.2.2)
  clear H
  go_wp2_with fail
  refine HC.out.mono ?_
  rintro e w5 ⟨B5, m5, d5, rfl, G⟩
  have H := G.boxed (.slice B5 m5 d5) 24
  try simp only [append_assoc, cons_append, nil_append] at H
  clear HC G a1 b1
  have k0 := H.cell (M.length + 0) (by rw [get_r]; rfl)
  have k1 := H.cell (M.length + 1) (by rw [get_r]; rfl)
  have k2 := H.cell (M.length + 2) (by rw [get_r]; rfl)
  have f0 := H.free (M.length + 0) (by rw [get_r]; rfl)
  have f1 := H.free (M.length + 1) (by rw [get_r]; rfl)
  have f2 := H.free (M.length + 2) (by rw [get_r]; rfl)
  have Z1 := H.setv (M.length + 0) (by rw [get_r]; rfl) (.slice none 0 0)
  rw [set_r] at Z1
  simp only [List.set_cons_zero] at Z1
  have Z2 := Z1.setv (M.length + 1) (by rw [get_r]; rfl) (.slice none 0 0)
  rw [set_r] at Z2
  simp only [List.set_cons_succ, List.set_cons_zero] at Z2
  have Z3 := Z2.setv (M.length + 2) (by rw [get_r]; rfl) (.slice none 0 0)
  rw [set_r] at Z3
  simp only [List.set_cons_succ, List.set_cons_zero] at Z3
  have s0 := Z3.cell (M.length + 0) (by rw [get_r]; rfl)
  have s1 := Z3.cell (M.length + 1) (by rw [get_r]; rfl)
  have s2 := Z3.cell (M.length + 2) (by rw [get_r]; rfl)
  have HF := Lib.hid (Z3.fewM.fewO.less (L' := L) (fun o ho => by simp [ho]))
  clear H Z1 Z2 Z3
  go_wp2_with fail
  refine bodyPost_ret (v := .tuple #[.agg #[.slice none 0 0], .agg #[.slice none 0 0], .agg #[.slice none 0 0], .int .i64 3]) (by simp [results, Tryd.results56, go_sem, s0, s1, s2]) rfl ?_
  exact gotX_nil HF.out 3
set_option maxHeartbeats 8000000 in
theorem qcross_z {x y u v : Nat} (h : Ow w0 w g M L O) (i j k l : Nat) (hi : L[i]? = some ⟨A, n, c, nats (Na.dig x)⟩) (hj : L[j]? = some ⟨A2, m, c2, nats (Na.dig y)⟩) (hk : L[k]? = some ⟨A3, n3, c3, nats (Na.dig u)⟩) (hl : L[l]? = some ⟨A4, n4, c4, nats (Na.dig v)⟩) (hx : x < Na.top) (hy : y < Na.top) (hu : u < Na.top) (hv : v < Na.top) (hX : x * v < Na.top) (hY : u * y < Na.top) (hZ : ¬ y * v < Na.top) :
    Calls Tryd.prog 56 #[.agg #[.slice A n c, .slice A2 m c2], .agg #[.slice A3 n3 c3, .slice A4 n4 c4]] w (GotX w0 g M L O [] [] [] 3) := by
  have H0 := ((((h.pair (.slice A n c) (.slice A2 m c2) 26).pair (.slice A3 n3 c3) (.slice A4 n4 c4) 26).boxed (.slice none 0 0) 24).boxed (.slice none 0 0) 24).boxed (.slice none 0 0) 24
  simp only [World.size_alloc, append_assoc, cons_append, nil_append] at H0
  have H := H0
  have HI := Lib.hid (And.intro hi (And.intro hj (And.intro hk hl)))
  have HX := Lib.hid (And.intro hx (And.intro hy (And.intro hu hv)))
  have HE := Lib.hid (And.intro hX (And.intro hY hZ))
  have q1 := H.p0 (O.length + 0) (by rw [get_r]; rfl)
  have q2 := H.p1 (O.length + 1) (by rw [get_r]; rfl)
  have HC := Lib.hid (nrmul_fr H i l HI.out.1 HI.out.2.2.2 HX.out.1 HX.out.2.2.2)
  rw [resL_ok HE.out.1, resE_ok HE.out.1] at HC
  clear h H0 H hi hj hk hl hx hy hu hv hX hY hZ
  go_enter Tryd.func56, Tryd.ntmps56
  go_wp2_with fail
  refine HC.out.mono ?_
  rintro e w3 ⟨B3, m3, d3, rfl, G⟩
  have H := G.boxed (.slice B3 m3 d3) 24
  simp only [append_assoc, cons_append, nil_append] at H
  clear HC G q1 q2
  have b0 := H.p0 (O.length + 1) (by rw [get_r]; rfl)
  have a1 := H.p1 (O.length + 0) (by rw [get_r]; rfl)
  have HC := Lib.hid (nrmul_fr H k j ((get_l _ _ (get_lt HI.out.2.2.1)).trans HI.out.2.2.1) ((get_l _ _ (get_lt HI.out.2.1)).trans HI.out.2.1) HX.out.2.2.1 HX.out.2.1)
  rw [resL_ok HE.out.2.1, resE_ok HE.out.2.1] at HC
  clear H
  go_wp2_with fail
  refine HC.out.mono ?_
  rintro e w4 ⟨B4, m4, d4, rfl, G⟩
  have H := G.boxed (.slice B4 m4 d4) 24
  try simp only [append_assoc, cons_append, nil_append] at H
  clear HC G b0 a1
  have a1 := H.p1 (O.length + 0) (by rw [get_r]; rfl)
  have b1 := H.p1 (O.length + 1) (by rw [get_r]; rfl)
  have HC := Lib.hid (nrmul_fr H j l ((get_l _ _ (get_lt HI.out.2.1)).trans HI.out.2.1) ((get_l _ _ (get_lt HI.out.2.2.2)).trans HI.out.2.2.2) HX.out.2.1 HX.out.2.2.2)
  rw [resE_nt HE.out.2.2] at HC
  clear H
  go_wp2_with fail
  refine HC.out.mono ?_
  rintro e w5 ⟨B5, m5, d5, rfl, G⟩
  have H := G.boxed (.slice B5 m5 d5) 24
  try simp only [append_assoc, cons_append, nil_append] at H
  clear HC G a1 b1
  have k0 := H.cell (M.length + 0) (by rw [get_r]; rfl)
  have k1 := H.cell (M.length + 1) (by rw [get_r]; rfl)
  have k2 := H.cell (M.length + 2) (by rw [get_r]; rfl)
  have f0 := H.free (M.length + 0) (by rw [get_r]; rfl)
  have f1 := H.free (M.length + 1) (by rw [get_r]; rfl)
  have f2 := H.free (M.length + 2) (by rw [get_r]; rfl)
  have Z1 := H.setv (M.length + 0) (by rw [get_r]; rfl) (.slice none 0 0)
  rw [set_r] at Z1
  simp only [List.set_cons_zero] at Z1
  have Z2 := Z1.setv (M.length + 1) (by rw [get_r]; rfl) (.slice none 0 0)
  rw [set_r] at Z2
  simp only [List.set_cons_succ, List.set_cons_zero] at Z2
  have Z3 := Z2.setv (M.length + 2) (by rw [get_r]; rfl) (.slice none 0 0)
  rw [set_r] at Z3
  simp only [List.set_cons_succ, List.set_cons_zero] at Z3
  have s0 := Z3.cell (M.length + 0) (by rw [get_r]; rfl)
  have s1 := Z3.cell (M.length + 1) (by rw [get_r]; rfl)
  have s2 := Z3.cell (M.length + 2) (by rw [get_r]; rfl)
  have HF := Lib.hid (Z3.fewM.fewO.less (L' := L) (fun o ho => by simp [ho]))
  clear H Z1 Z2 Z3
  go_wp2_with fail
  refine bodyPost_ret (v := .tuple #[.agg #[.slice none 0 0], .agg #[.slice none 0 0], .agg #[.slice none 0 0], .int .i64 3]) (by simp [results, Tryd.results56, go_sem, s0, s1, s2]) rfl ?_
  exact gotX_nil HF.out 3
theorem qcross_no {x y u v : Nat} (h : Ow w0 w g M L O) (i j k l : Nat) (hi : L[i]? = some ⟨A, n, c, nats (Na.dig x)⟩) (hj : L[j]? = some ⟨A2, m, c2, nats (Na.dig y)⟩) (hk : L[k]? = some ⟨A3, n3, c3, nats (Na.dig u)⟩) (hl : L[l]? = some ⟨A4, n4, c4, nats (Na.dig v)⟩) (hx : x < Na.top) (hy : y < Na.top) (hu : u < Na.top) (hv : v < Na.top) (hn : ¬(x * v < Na.top ∧ u * y < Na.top ∧ y * v < Na.top)) :
    Calls Tryd.prog 56 #[.agg #[.slice A n c, .slice A2 m c2], .agg #[.slice A3 n3 c3, .slice A4 n4 c4]] w (GotX w0 g M L O [] [] [] 3) := by
  by_cases hX : x * v < Na.top
  · by_cases hY : u * y < Na.top
    · exact qcross_z h i j k l hi hj hk hl hx hy hu hv hX hY (fun h => hn ⟨hX, hY, h⟩)
    · exact qcross_y h i j k l hi hj hk hl hx hy hu hv hX hY
  · exact qcross_x h i j k l hi hj hk hl hx hy hu hv hX
set_option maxHeartbeats 8000000 in
theorem qrAdd_any (h : Ow w0 w g M L O) (i j k l : Nat) (hi : L[i]? = some ⟨A, n, c, ints p⟩) (hj : L[j]? = some ⟨A2, m, c2, ints q⟩) (hk : L[k]? = some ⟨A3, n3, c3, ints r⟩) (hl : L[l]? = some ⟨A4, n4, c4, ints s⟩)  :
    Calls Tryd.prog 22 #[.agg #[.slice A n c, .slice A2 m c2], .agg #[.slice A3 n3 c3, .slice A4 n4 c4]] w (GotF w0 g M L O (addF p q r s)) := by
  have H0 := ((h.pair (.slice A n c) (.slice A2 m c2) 26).pair (.slice A3 n3 c3) (.slice A4 n4 c4) 26).pair (.slice none 0 0) (.slice none 0 0) 26
  simp only [World.size_alloc, append_assoc, cons_append, nil_append] at H0
  have a0 := H0.p0 (O.length + 0) (by rw [get_r]; rfl)
  have a1 := H0.p1 (O.length + 0) (by rw [get_r]; rfl)
  have HV := Lib.hid (qrvalid_ow H0 i j hi hj)
  cases h1 : rv p q with
  | false =>
  rw [h1] at HV
  rw [show addF p q r s = frE 1 by unfold addF; rw [h1]; rfl]
  clear h H0 hi hj hk hl h1
  go_enter Tryd.func22, Tryd.ntmps22
  go_wp2_with fail
  refine HV.out.mono ?_
  rintro e w1 ⟨rfl, H⟩
  clear HV a0 a1
  have k0 := H.p0 (O.length + 2) (by rw [get_r]; rfl)
  have k1 := H.p1 (O.length + 2) (by rw [get_r]; rfl)
  have f0 := H.pf (O.length + 2) (by rw [get_r]; rfl) 0
  have f1 := H.pf (O.length + 2) (by rw [get_r]; rfl) 1
  have Z3 := H.set0 (O.length + 2) (by rw [get_r]; rfl) (.slice none 0 0)
  rw [set_r] at Z3
  simp only [List.set_cons_succ, List.set_cons_zero] at Z3
  have Z4 := Z3.set1 (O.length + 2) (by rw [get_r]; rfl) (.slice none 0 0)
  rw [set_r] at Z4
  simp only [List.set_cons_succ, List.set_cons_zero] at Z4
  have s0 := Z4.p0 (O.length + 2) (by rw [get_r]; rfl)
  have s1 := Z4.p1 (O.length + 2) (by rw [get_r]; rfl)
  have HF := Lib.hid (Z4.fewO)
  clear H Z3 Z4
  go_wp2_with fail
  refine bodyPost_ret (v := .tuple #[.agg #[.slice none 0 0, .slice none 0 0], .int .i64 1]) (by simp [results, Tryd.results22, go_sem, s0, s1]) rfl ?_
  exact gotF_nil HF.out 1
  | true =>
  rw [h1] at HV
  cases h2 : rv r s with
  | false =>
  rw [show addF p q r s = frE 1 by unfold addF; rw [h1, h2]; rfl]
  have HR := Lib.hid (And.intro hk (And.intro hl h2))
  clear h H0 hi hj hk hl h1 h2
  go_enter Tryd.func22, Tryd.ntmps22
  go_wp2_with fail
  refine HV.out.mono ?_
  rintro e w1 ⟨rfl, H⟩
  have b0 := H.p0 (O.length + 1) (by rw [get_r]; rfl)
  have b1 := H.p1 (O.length + 1) (by rw [get_r]; rfl)
  have HW := Lib.hid (qrvalid_ow H k l HR.out.1 HR.out.2.1)
  rw [HR.out.2.2] at HW
  clear HV H a0 a1
  go_wp2_with fail
  refine HW.out.mono ?_
  rintro e w2 ⟨rfl, H⟩
  clear HW b0 b1
  have k0 := H.p0 (O.length + 2) (by rw [get_r]; rfl)
  have k1 := H.p1 (O.length + 2) (by rw [get_r]; rfl)
  have f0 := H.pf (O.length + 2) (by rw [get_r]; rfl) 0
  have f1 := H.pf (O.length + 2) (by rw [get_r]; rfl) 1
  have Z3 := H.set0 (O.length + 2) (by rw [get_r]; rfl) (.slice none 0 0)
  rw [set_r] at Z3
  simp only [List.set_cons_succ, List.set_cons_zero] at Z3
  have Z4 := Z3.set1 (O.length + 2) (by rw [get_r]; rfl) (.slice none 0 0)
  rw [set_r] at Z4
  simp only [List.set_cons_succ, List.set_cons_zero] at Z4
  have s0 := Z4.p0 (O.length + 2) (by rw [get_r]; rfl)
  have s1 := Z4.p1 (O.length + 2) (by rw [get_r]; rfl)
  have HF := Lib.hid (Z4.fewO)
  clear H Z3 Z4
  go_wp2_with fail
  refine bodyPost_ret (v := .tuple #[.agg #[.slice none 0 0, .slice none 0 0], .int .i64 1]) (by simp [results, Tryd.results22, go_sem, s0, s1]) rfl ?_
  exact gotF_nil HF.out 1
  | true =>
  have HR := Lib.hid (And.intro hk (And.intro hl h2))
  have e1 : addF p q r s = if num p * num s < Na.top ∧ num r * num q < Na.top ∧ num q * num s < Na.top ∧ num p * num s + num r * num q < Na.top then frM (num p * num s + num r * num q) (num q * num s) else frE 3 := by unfold addF; rw [h1, h2]; rfl
  rw [e1]
  clear e1
  obtain ⟨x, y, hx, hy, -, -, rfl, rfl⟩ := rv_ex h1
  obtain ⟨u, v, hu, hv, -, -, rfl, rfl⟩ := rv_ex h2
  rw [num_dig, num_dig, num_dig, num_dig]
  have HI := Lib.hid (And.intro (nats_lay hi) (And.intro (nats_lay hj) (And.intro (nats_lay hk) (nats_lay hl))))
  have HX := Lib.hid (And.intro hx (And.intro hy (And.intro hu hv)))
  clear h H0 hi hj hk hl h1 h2 hx hy hu hv
  by_cases hn : x * v < Na.top ∧ u * y < Na.top ∧ y * v < Na.top
  · obtain ⟨hX, hY, hZ⟩ := hn
    by_cases hs : x * v + u * y < Na.top
    · rw [if_pos ⟨hX, hY, hZ, hs⟩]
      obtain ⟨t, hmk⟩ : ∃ t, frM (x * v + (u * y)) (y * v) = t := ⟨_, rfl⟩
      rw [hmk]
      have HE := Lib.hid (And.intro hX (And.intro hY (And.intro hZ (And.intro hs hmk))))
      clear hX hY hZ hs hmk
      go_enter Tryd.func22, Tryd.ntmps22
      go_wp2_with fail
      refine HV.out.mono ?_
      rintro e w1 ⟨rfl, H⟩
      have b0 := H.p0 (O.length + 1) (by rw [get_r]; rfl)
      have b1 := H.p1 (O.length + 1) (by rw [get_r]; rfl)
      have HW := Lib.hid (qrvalid_ow H k l HR.out.1 HR.out.2.1)
      rw [HR.out.2.2] at HW
      clear HV H a0 a1
      go_wp2_with fail
      refine HW.out.mono ?_
      rintro e w2 ⟨rfl, H⟩
      clear HW b0 b1
      have a0 := H.p0 (O.length + 0) (by rw [get_r]; rfl)
      have a1 := H.p1 (O.length + 0) (by rw [get_r]; rfl)
      have b0 := H.p0 (O.length + 1) (by rw [get_r]; rfl)
      have b1 := H.p1 (O.length + 1) (by rw [get_r]; rfl)
      have HC := Lib.hid (qcross_ok H i j k l HI.out.1 HI.out.2.1 HI.out.2.2.1 HI.out.2.2.2 HX.out.1 HX.out.2.1 HX.out.2.2.1 HX.out.2.2.2 HE.out.1 HE.out.2.1 HE.out.2.2.1)
      clear H
      go_wp2_with fail
      refine HC.out.mono ?_
      rintro e w3 ⟨B3, m3, d3, B4, m4, d4, B5, m5, d5, rfl, G⟩
      have H := ((G.boxed (.slice B3 m3 d3) 24).boxed (.slice B4 m4 d4) 24).boxed (.slice B5 m5 d5) 24
      simp only [World.size_alloc, append_assoc, cons_append, nil_append] at H
      clear HC G a0 a1 b0 b1
      have k0 := H.cell (M.length + 0) (by rw [get_r]; rfl)
      have k1 := H.cell (M.length + 1) (by rw [get_r]; rfl)
      have HC := Lib.hid (nradd_fr H (L.length + 0) (L.length + 1) (by rw [get_r]; rfl) (by rw [get_r]; rfl) HE.out.1 HE.out.2.1)
      rw [resL_ok HE.out.2.2.2.1, resE_ok HE.out.2.2.2.1] at HC
      clear H
      go_wp2_with fail
      refine HC.out.mono ?_
      rintro e w4 ⟨B6, m6, d6, rfl, G⟩
      have H := G.boxed (.slice B6 m6 d6) 24
      simp only [append_assoc, cons_append, nil_append] at H
      clear HC G k0 k1
      have k0 := H.cell (M.length + 3) (by rw [get_r]; rfl)
      have k1 := H.cell (M.length + 2) (by rw [get_r]; rfl)
      have HC := Lib.hid (qrmake_fr H (L.length + 3) (L.length + 2) (by rw [get_r]; rfl) (by rw [get_r]; rfl) HE.out.2.2.2.1 HE.out.2.2.1 HE.out.2.2.2.2)
      clear H
      go_wp2_with fail
      refine HC.out.mono ?_
      rintro e w9 ⟨C1, i1, e1, C2, k2, e2, rfl, G⟩
      clear HC k0 k1
      have z0 := G.p0 (O.length + 2) (by rw [get_r]; rfl)
      have z1 := G.p1 (O.length + 2) (by rw [get_r]; rfl)
      have f0 := G.pf (O.length + 2) (by rw [get_r]; rfl) 0
      have f1 := G.pf (O.length + 2) (by rw [get_r]; rfl) 1
      have Z3 := G.set0 (O.length + 2) (by rw [get_r]; rfl) (.slice C1 i1 e1)
      rw [set_r] at Z3
      simp only [List.set_cons_succ, List.set_cons_zero] at Z3
      have Z4 := Z3.set1 (O.length + 2) (by rw [get_r]; rfl) (.slice C2 k2 e2)
      rw [set_r] at Z4
      simp only [List.set_cons_succ, List.set_cons_zero] at Z4
      have s0 := Z4.p0 (O.length + 2) (by rw [get_r]; rfl)
      have s1 := Z4.p1 (O.length + 2) (by rw [get_r]; rfl)
      have HF := Lib.hid (Z4.fewM.fewO.less (L' := L ++ [⟨C1, i1, e1, _⟩] ++ [⟨C2, k2, e2, _⟩]) (fun o ho => by
        simp only [List.mem_append, List.mem_singleton] at ho ⊢
        rcases ho with (h | h) | h
        · exact .inl (.inl (.inl h))
        · exact .inl (.inr h)
        · exact .inr h))
      clear G Z3 Z4
      go_wp2_with fail
      refine bodyPost_ret (v := .tuple #[.agg #[.slice C1 i1 e1, .slice C2 k2 e2], .int .i64 t.2.2]) (by simp [results, Tryd.results22, go_sem, s0, s1]) rfl ?_
      exact ⟨C1, i1, e1, C2, k2, e2, rfl, HF.out⟩
    · rw [if_neg (fun h => hs h.2.2.2)]
      have HE := Lib.hid (And.intro hX (And.intro hY (And.intro hZ hs)))
      clear hX hY hZ hs
      go_enter Tryd.func22, Tryd.ntmps22
      go_wp2_with fail
      refine HV.out.mono ?_
      rintro e w1 ⟨rfl, H⟩
      have b0 := H.p0 (O.length + 1) (by rw [get_r]; rfl)
      have b1 := H.p1 (O.length + 1) (by rw [get_r]; rfl)
      have HW := Lib.hid (qrvalid_ow H k l HR.out.1 HR.out.2.1)
      rw [HR.out.2.2] at HW
      clear HV H a0 a1
      go_wp2_with fail
      refine HW.out.mono ?_
      rintro e w2 ⟨rfl, H⟩
      clear HW b0 b1
      have a0 := H.p0 (O.length + 0) (by rw [get_r]; rfl)
      have a1 := H.p1 (O.length + 0) (by rw [get_r]; rfl)
      have b0 := H.p0 (O.length + 1) (by rw [get_r]; rfl)
      have b1 := H.p1 (O.length + 1) (by rw [get_r]; rfl)
      have HC := Lib.hid (qcross_ok H i j k l HI.out.1 HI.out.2.1 HI.out.2.2.1 HI.out.2.2.2 HX.out.1 HX.out.2.1 HX.out.2.2.1 HX.out.2.2.2 HE.out.1 HE.out.2.1 HE.out.2.2.1)
      clear H
      go_wp2_with fail
      refine HC.out.mono ?_
      rintro e w3 ⟨B3, m3, d3, B4, m4, d4, B5, m5, d5, rfl, G⟩
      have H := ((G.boxed (.slice B3 m3 d3) 24).boxed (.slice B4 m4 d4) 24).boxed (.slice B5 m5 d5) 24
      simp only [World.size_alloc, append_assoc, cons_append, nil_append] at H
      clear HC G a0 a1 b0 b1
      have k0 := H.cell (M.length + 0) (by rw [get_r]; rfl)
      have k1 := H.cell (M.length + 1) (by rw [get_r]; rfl)
      have HC := Lib.hid (nradd_fr H (L.length + 0) (L.length + 1) (by rw [get_r]; rfl) (by rw [get_r]; rfl) HE.out.1 HE.out.2.1)
      rw [resE_nt HE.out.2.2.2] at HC
      clear H
      go_wp2_with fail
      refine HC.out.mono ?_
      rintro e w4 ⟨B6, m6, d6, rfl, G⟩
      have H := G.boxed (.slice B6 m6 d6) 24
      simp only [append_assoc, cons_append, nil_append] at H
      clear HC G k0 k1
      have k0 := H.p0 (O.length + 2) (by rw [get_r]; rfl)
      have k1 := H.p1 (O.length + 2) (by rw [get_r]; rfl)
      have f0 := H.pf (O.length + 2) (by rw [get_r]; rfl) 0
      have f1 := H.pf (O.length + 2) (by rw [get_r]; rfl) 1
      have Z3 := H.set0 (O.length + 2) (by rw [get_r]; rfl) (.slice none 0 0)
      rw [set_r] at Z3
      simp only [List.set_cons_succ, List.set_cons_zero] at Z3
      have Z4 := Z3.set1 (O.length + 2) (by rw [get_r]; rfl) (.slice none 0 0)
      rw [set_r] at Z4
      simp only [List.set_cons_succ, List.set_cons_zero] at Z4
      have s0 := Z4.p0 (O.length + 2) (by rw [get_r]; rfl)
      have s1 := Z4.p1 (O.length + 2) (by rw [get_r]; rfl)
      have HF := Lib.hid (Z4.fewM.fewO.less (L' := L) (fun o ho => by simp [ho]))
      clear H Z3 Z4
      go_wp2_with fail
      refine bodyPost_ret (v := .tuple #[.agg #[.slice none 0 0, .slice none 0 0], .int .i64 3]) (by simp [results, Tryd.results22, go_sem, s0, s1]) rfl ?_
      exact gotF_nil HF.out 3
  · rw [if_neg (fun h => hn ⟨h.1, h.2.1, h.2.2.1⟩)]
    have HE := Lib.hid hn
    clear hn
    go_enter Tryd.func22, Tryd.ntmps22
    go_wp2_with fail
    refine HV.out.mono ?_
    rintro e w1 ⟨rfl, H⟩
    have b0 := H.p0 (O.length + 1) (by rw [get_r]; rfl)
    have b1 := H.p1 (O.length + 1) (by rw [get_r]; rfl)
    have HW := Lib.hid (qrvalid_ow H k l HR.out.1 HR.out.2.1)
    rw [HR.out.2.2] at HW
    clear HV H a0 a1
    go_wp2_with fail
    refine HW.out.mono ?_
    rintro e w2 ⟨rfl, H⟩
    clear HW b0 b1
    have a0 := H.p0 (O.length + 0) (by rw [get_r]; rfl)
    have a1 := H.p1 (O.length + 0) (by rw [get_r]; rfl)
    have b0 := H.p0 (O.length + 1) (by rw [get_r]; rfl)
    have b1 := H.p1 (O.length + 1) (by rw [get_r]; rfl)
    have HC := Lib.hid (qcross_no H i j k l HI.out.1 HI.out.2.1 HI.out.2.2.1 HI.out.2.2.2 HX.out.1 HX.out.2.1 HX.out.2.2.1 HX.out.2.2.2 HE.out)
    clear H
    go_wp2_with fail
    refine HC.out.mono ?_
    rintro e w3 ⟨B3, m3, d3, B4, m4, d4, B5, m5, d5, rfl, G⟩
    have H := ((G.boxed (.slice B3 m3 d3) 24).boxed (.slice B4 m4 d4) 24).boxed (.slice B5 m5 d5) 24
    simp only [World.size_alloc, append_assoc, cons_append, nil_append] at H
    clear HC G a0 a1 b0 b1
    have k0 := H.p0 (O.length + 2) (by rw [get_r]; rfl)
    have k1 := H.p1 (O.length + 2) (by rw [get_r]; rfl)
    have f0 := H.pf (O.length + 2) (by rw [get_r]; rfl) 0
    have f1 := H.pf (O.length + 2) (by rw [get_r]; rfl) 1
    have Z3 := H.set0 (O.length + 2) (by rw [get_r]; rfl) (.slice none 0 0)
    rw [set_r] at Z3
    simp only [List.set_cons_succ, List.set_cons_zero] at Z3
    have Z4 := Z3.set1 (O.length + 2) (by rw [get_r]; rfl) (.slice none 0 0)
    rw [set_r] at Z4
    simp only [List.set_cons_succ, List.set_cons_zero] at Z4
    have s0 := Z4.p0 (O.length + 2) (by rw [get_r]; rfl)
    have s1 := Z4.p1 (O.length + 2) (by rw [get_r]; rfl)
    have HF := Lib.hid (Z4.fewM.fewO.less (L' := L) (fun o ho => by simp [ho]))
    clear H Z3 Z4
    go_wp2_with fail
    refine bodyPost_ret (v := .tuple #[.agg #[.slice none 0 0, .slice none 0 0], .int .i64 3]) (by simp [results, Tryd.results22, go_sem, s0, s1]) rfl ?_
    exact gotF_nil HF.out 3
set_option maxHeartbeats 8000000 in
theorem qrSub_any (h : Ow w0 w g M L O) (i j k l : Nat) (hi : L[i]? = some ⟨A, n, c, ints p⟩) (hj : L[j]? = some ⟨A2, m, c2, ints q⟩) (hk : L[k]? = some ⟨A3, n3, c3, ints r⟩) (hl : L[l]? = some ⟨A4, n4, c4, ints s⟩)  :
    Calls Tryd.prog 19 #[.agg #[.slice A n c, .slice A2 m c2], .agg #[.slice A3 n3 c3, .slice A4 n4 c4]] w (GotF w0 g M L O (subF p q r s)) := by
  have H0 := ((h.pair (.slice A n c) (.slice A2 m c2) 26).pair (.slice A3 n3 c3) (.slice A4 n4 c4) 26).pair (.slice none 0 0) (.slice none 0 0) 26
  simp only [World.size_alloc, append_assoc, cons_append, nil_append] at H0
  have a0 := H0.p0 (O.length + 0) (by rw [get_r]; rfl)
  have a1 := H0.p1 (O.length + 0) (by rw [get_r]; rfl)
  have HV := Lib.hid (qrvalid_ow H0 i j hi hj)
  cases h1 : rv p q with
  | false =>
  rw [h1] at HV
  rw [show subF p q r s = frE 1 by unfold subF; rw [h1]; rfl]
  clear h H0 hi hj hk hl h1
  go_enter Tryd.func19, Tryd.ntmps19
  go_wp2_with fail
  refine HV.out.mono ?_
  rintro e w1 ⟨rfl, H⟩
  clear HV a0 a1
  have k0 := H.p0 (O.length + 2) (by rw [get_r]; rfl)
  have k1 := H.p1 (O.length + 2) (by rw [get_r]; rfl)
  have f0 := H.pf (O.length + 2) (by rw [get_r]; rfl) 0
  have f1 := H.pf (O.length + 2) (by rw [get_r]; rfl) 1
  have Z3 := H.set0 (O.length + 2) (by rw [get_r]; rfl) (.slice none 0 0)
  rw [set_r] at Z3
  simp only [List.set_cons_succ, List.set_cons_zero] at Z3
  have Z4 := Z3.set1 (O.length + 2) (by rw [get_r]; rfl) (.slice none 0 0)
  rw [set_r] at Z4
  simp only [List.set_cons_succ, List.set_cons_zero] at Z4
  have s0 := Z4.p0 (O.length + 2) (by rw [get_r]; rfl)
  have s1 := Z4.p1 (O.length + 2) (by rw [get_r]; rfl)
  have HF := Lib.hid (Z4.fewO)
  clear H Z3 Z4
  go_wp2_with fail
  refine bodyPost_ret (v := .tuple #[.agg #[.slice none 0 0, .slice none 0 0], .int .i64 1]) (by simp [results, Tryd.results19, go_sem, s0, s1]) rfl ?_
  exact gotF_nil HF.out 1
  | true =>
  rw [h1] at HV
  cases h2 : rv r s with
  | false =>
  rw [show subF p q r s = frE 1 by unfold subF; rw [h1, h2]; rfl]
  have HR := Lib.hid (And.intro hk (And.intro hl h2))
  clear h H0 hi hj hk hl h1 h2
  go_enter Tryd.func19, Tryd.ntmps19
  go_wp2_with fail
  refine HV.out.mono ?_
  rintro e w1 ⟨rfl, H⟩
  have b0 := H.p0 (O.length + 1) (by rw [get_r]; rfl)
  have b1 := H.p1 (O.length + 1) (by rw [get_r]; rfl)
  have HW := Lib.hid (qrvalid_ow H k l HR.out.1 HR.out.2.1)
  rw [HR.out.2.2] at HW
  clear HV H a0 a1
  go_wp2_with fail
  refine HW.out.mono ?_
  rintro e w2 ⟨rfl, H⟩
  clear HW b0 b1
  have k0 := H.p0 (O.length + 2) (by rw [get_r]; rfl)
  have k1 := H.p1 (O.length + 2) (by rw [get_r]; rfl)
  have f0 := H.pf (O.length + 2) (by rw [get_r]; rfl) 0
  have f1 := H.pf (O.length + 2) (by rw [get_r]; rfl) 1
  have Z3 := H.set0 (O.length + 2) (by rw [get_r]; rfl) (.slice none 0 0)
  rw [set_r] at Z3
  simp only [List.set_cons_succ, List.set_cons_zero] at Z3
  have Z4 := Z3.set1 (O.length + 2) (by rw [get_r]; rfl) (.slice none 0 0)
  rw [set_r] at Z4
  simp only [List.set_cons_succ, List.set_cons_zero] at Z4
  have s0 := Z4.p0 (O.length + 2) (by rw [get_r]; rfl)
  have s1 := Z4.p1 (O.length + 2) (by rw [get_r]; rfl)
  have HF := Lib.hid (Z4.fewO)
  clear H Z3 Z4
  go_wp2_with fail
  refine bodyPost_ret (v := .tuple #[.agg #[.slice none 0 0, .slice none 0 0], .int .i64 1]) (by simp [results, Tryd.results19, go_sem, s0, s1]) rfl ?_
  exact gotF_nil HF.out 1
  | true =>
  have HR := Lib.hid (And.intro hk (And.intro hl h2))
  have e1 : subF p q r s = if num p * num s < Na.top ∧ num r * num q < Na.top ∧ num q * num s < Na.top then (if num r * num q ≤ num p * num s then frM (num p * num s - num r * num q) (num q * num s) else frE 5) else frE 3 := by unfold subF; rw [h1, h2]; rfl
  rw [e1]
  clear e1
  obtain ⟨x, y, hx, hy, -, -, rfl, rfl⟩ := rv_ex h1
  obtain ⟨u, v, hu, hv, -, -, rfl, rfl⟩ := rv_ex h2
  rw [num_dig, num_dig, num_dig, num_dig]
  have HI := Lib.hid (And.intro (nats_lay hi) (And.intro (nats_lay hj) (And.intro (nats_lay hk) (nats_lay hl))))
  have HX := Lib.hid (And.intro hx (And.intro hy (And.intro hu hv)))
  clear h H0 hi hj hk hl h1 h2 hx hy hu hv
  by_cases hn : x * v < Na.top ∧ u * y < Na.top ∧ y * v < Na.top
  · obtain ⟨hX, hY, hZ⟩ := hn
    by_cases hs : u * y ≤ x * v
    · rw [if_pos ⟨hX, hY, hZ⟩, if_pos hs]
      obtain ⟨t, hmk⟩ : ∃ t, frM (x * v - (u * y)) (y * v) = t := ⟨_, rfl⟩
      rw [hmk]
      have HE := Lib.hid (And.intro hX (And.intro hY (And.intro hZ (And.intro hs hmk))))
      clear hX hY hZ hs hmk
      go_enter Tryd.func19, Tryd.ntmps19
      go_wp2_with fail
      refine HV.out.mono ?_
      rintro e w1 ⟨rfl, H⟩
      have b0 := H.p0 (O.length + 1) (by rw [get_r]; rfl)
      have b1 := H.p1 (O.length + 1) (by rw [get_r]; rfl)
      have HW := Lib.hid (qrvalid_ow H k l HR.out.1 HR.out.2.1)
      rw [HR.out.2.2] at HW
      clear HV H a0 a1
      go_wp2_with fail
      refine HW.out.mono ?_
      rintro e w2 ⟨rfl, H⟩
      clear HW b0 b1
      have a0 := H.p0 (O.length + 0) (by rw [get_r]; rfl)
      have a1 := H.p1 (O.length + 0) (by rw [get_r]; rfl)
      have b0 := H.p0 (O.length + 1) (by rw [get_r]; rfl)
      have b1 := H.p1 (O.length + 1) (by rw [get_r]; rfl)
      have HC := Lib.hid (qcross_ok H i j k l HI.out.1 HI.out.2.1 HI.out.2.2.1 HI.out.2.2.2 HX.out.1 HX.out.2.1 HX.out.2.2.1 HX.out.2.2.2 HE.out.1 HE.out.2.1 HE.out.2.2.1)
      clear H
      go_wp2_with fail
      refine HC.out.mono ?_
      rintro e w3 ⟨B3, m3, d3, B4, m4, d4, B5, m5, d5, rfl, G⟩
      have H := ((G.boxed (.slice B3 m3 d3) 24).boxed (.slice B4 m4 d4) 24).boxed (.slice B5 m5 d5) 24
      simp only [World.size_alloc, append_assoc, cons_append, nil_append] at H
      clear HC G a0 a1 b0 b1
      have k0 := H.cell (M.length + 0) (by rw [get_r]; rfl)
      have k1 := H.cell (M.length + 1) (by rw [get_r]; rfl)
      have HC := Lib.hid (nrsub_fr H (L.length + 0) (L.length + 1) (by rw [get_r]; rfl) (by rw [get_r]; rfl) HE.out.1 HE.out.2.1)
      rw [if_neg (Nat.not_lt.2 HE.out.2.2.2.1), if_neg (Nat.not_lt.2 HE.out.2.2.2.1)] at HC
      clear H
      go_wp2_with fail
      refine HC.out.mono ?_
      rintro e w4 ⟨B6, m6, d6, rfl, G⟩
      have H := G.boxed (.slice B6 m6 d6) 24
      simp only [append_assoc, cons_append, nil_append] at H
      clear HC G k0 k1
      have k0 := H.cell (M.length + 3) (by rw [get_r]; rfl)
      have k1 := H.cell (M.length + 2) (by rw [get_r]; rfl)
      have HC := Lib.hid (qrmake_fr H (L.length + 3) (L.length + 2) (by rw [get_r]; rfl) (by rw [get_r]; rfl) (Nat.lt_of_le_of_lt (Nat.sub_le _ _) HE.out.1) HE.out.2.2.1 HE.out.2.2.2.2)
      clear H
      go_wp2_with fail
      refine HC.out.mono ?_
      rintro e w9 ⟨C1, i1, e1, C2, k2, e2, rfl, G⟩
      clear HC k0 k1
      have z0 := G.p0 (O.length + 2) (by rw [get_r]; rfl)
      have z1 := G.p1 (O.length + 2) (by rw [get_r]; rfl)
      have f0 := G.pf (O.length + 2) (by rw [get_r]; rfl) 0
      have f1 := G.pf (O.length + 2) (by rw [get_r]; rfl) 1
      have Z3 := G.set0 (O.length + 2) (by rw [get_r]; rfl) (.slice C1 i1 e1)
      rw [set_r] at Z3
      simp only [List.set_cons_succ, List.set_cons_zero] at Z3
      have Z4 := Z3.set1 (O.length + 2) (by rw [get_r]; rfl) (.slice C2 k2 e2)
      rw [set_r] at Z4
      simp only [List.set_cons_succ, List.set_cons_zero] at Z4
      have s0 := Z4.p0 (O.length + 2) (by rw [get_r]; rfl)
      have s1 := Z4.p1 (O.length + 2) (by rw [get_r]; rfl)
      have HF := Lib.hid (Z4.fewM.fewO.less (L' := L ++ [⟨C1, i1, e1, _⟩] ++ [⟨C2, k2, e2, _⟩]) (fun o ho => by
        simp only [List.mem_append, List.mem_singleton] at ho ⊢
        rcases ho with (h | h) | h
        · exact .inl (.inl (.inl h))
        · exact .inl (.inr h)
        · exact .inr h))
      clear G Z3 Z4
      go_wp2_with fail
      refine bodyPost_ret (v := .tuple #[.agg #[.slice C1 i1 e1, .slice C2 k2 e2], .int .i64 t.2.2]) (by simp [results, Tryd.results19, go_sem, s0, s1]) rfl ?_
      exact ⟨C1, i1, e1, C2, k2, e2, rfl, HF.out⟩
    · rw [if_pos ⟨hX, hY, hZ⟩, if_neg hs]
      have HE := Lib.hid (And.intro hX (And.intro hY (And.intro hZ hs)))
      clear hX hY hZ hs
      go_enter Tryd.func19, Tryd.ntmps19
      go_wp2_with fail
      refine HV.out.mono ?_
      rintro e w1 ⟨rfl, H⟩
      have b0 := H.p0 (O.length + 1) (by rw [get_r]; rfl)
      have b1 := H.p1 (O.length + 1) (by rw [get_r]; rfl)
      have HW := Lib.hid (qrvalid_ow H k l HR.out.1 HR.out.2.1)
      rw [HR.out.2.2] at HW
      clear HV H a0 a1
      go_wp2_with fail
      refine HW.out.mono ?_
      rintro e w2 ⟨rfl, H⟩
      clear HW b0 b1
      have a0 := H.p0 (O.length + 0) (by rw [get_r]; rfl)
      have a1 := H.p1 (O.length + 0) (by rw [get_r]; rfl)
      have b0 := H.p0 (O.length + 1) (by rw [get_r]; rfl)
      have b1 := H.p1 (O.length + 1) (by rw [get_r]; rfl)
      have HC := Lib.hid (qcross_ok H i j k l HI.out.1 HI.out.2.1 HI.out.2.2.1 HI.out.2.2.2 HX.out.1 HX.out.2.1 HX.out.2.2.1 HX.out.2.2.2 HE.out.1 HE.out.2.1 HE.out.2.2.1)
      clear H
      go_wp2_with fail
      refine HC.out.mono ?_
      rintro e w3 ⟨B3, m3, d3, B4, m4, d4, B5, m5, d5, rfl, G⟩
      have H := ((G.boxed (.slice B3 m3 d3) 24).boxed (.slice B4 m4 d4) 24).boxed (.slice B5 m5 d5) 24
      simp only [World.size_alloc, append_assoc, cons_append, nil_append] at H
      clear HC G a0 a1 b0 b1
      have k0 := H.cell (M.length + 0) (by rw [get_r]; rfl)
      have k1 := H.cell (M.length + 1) (by rw [get_r]; rfl)
      have HC := Lib.hid (nrsub_fr H (L.length + 0) (L.length + 1) (by rw [get_r]; rfl) (by rw [get_r]; rfl) HE.out.1 HE.out.2.1)
      rw [if_pos (Nat.lt_of_not_le HE.out.2.2.2), if_pos (Nat.lt_of_not_le HE.out.2.2.2)] at HC
      clear H
      go_wp2_with fail
      refine HC.out.mono ?_
      rintro e w4 ⟨B6, m6, d6, rfl, G⟩
      have H := G.boxed (.slice B6 m6 d6) 24
      simp only [append_assoc, cons_append, nil_append] at H
      clear HC G k0 k1
      have k0 := H.p0 (O.length + 2) (by rw [get_r]; rfl)
      have k1 := H.p1 (O.length + 2) (by rw [get_r]; rfl)
      have f0 := H.pf (O.length + 2) (by rw [get_r]; rfl) 0
      have f1 := H.pf (O.length + 2) (by rw [get_r]; rfl) 1
      have Z3 := H.set0 (O.length + 2) (by rw [get_r]; rfl) (.slice none 0 0)
      rw [set_r] at Z3
      simp only [List.set_cons_succ, List.set_cons_zero] at Z3
      have Z4 := Z3.set1 (O.length + 2) (by rw [get_r]; rfl) (.slice none 0 0)
      rw [set_r] at Z4
      simp only [List.set_cons_succ, List.set_cons_zero] at Z4
      have s0 := Z4.p0 (O.length + 2) (by rw [get_r]; rfl)
      have s1 := Z4.p1 (O.length + 2) (by rw [get_r]; rfl)
      have HF := Lib.hid (Z4.fewM.fewO.less (L' := L) (fun o ho => by simp [ho]))
      clear H Z3 Z4
      go_wp2_with fail
      refine bodyPost_ret (v := .tuple #[.agg #[.slice none 0 0, .slice none 0 0], .int .i64 5]) (by simp [results, Tryd.results19, go_sem, s0, s1]) rfl ?_
      exact gotF_nil HF.out 5
  · rw [if_neg (fun h => hn ⟨h.1, h.2.1, h.2.2⟩)]
    have HE := Lib.hid hn
    clear hn
    go_enter Tryd.func19, Tryd.ntmps19
    go_wp2_with fail
    refine HV.out.mono ?_
    rintro e w1 ⟨rfl, H⟩
    have b0 := H.p0 (O.length + 1) (by rw [get_r]; rfl)
    have b1 := H.p1 (O.length + 1) (by rw [get_r]; rfl)
    have HW := Lib.hid (qrvalid_ow H k l HR.out.1 HR.out.2.1)
    rw [HR.out.2.2] at HW
    clear HV H a0 a1
    go_wp2_with fail
    refine HW.out.mono ?_
    rintro e w2 ⟨rfl, H⟩
    clear HW b0 b1
    have a0 := H.p0 (O.length + 0) (by rw [get_r]; rfl)
    have a1 := H.p1 (O.length + 0) (by rw [get_r]; rfl)
    have b0 := H.p0 (O.length + 1) (by rw [get_r]; rfl)
    have b1 := H.p1 (O.length + 1) (by rw [get_r]; rfl)
    have HC := Lib.hid (qcross_no H i j k l HI.out.1 HI.out.2.1 HI.out.2.2.1 HI.out.2.2.2 HX.out.1 HX.out.2.1 HX.out.2.2.1 HX.out.2.2.2 HE.out)
    clear H
    go_wp2_with fail
    refine HC.out.mono ?_
    rintro e w3 ⟨B3, m3, d3, B4, m4, d4, B5, m5, d5, rfl, G⟩
    have H := ((G.boxed (.slice B3 m3 d3) 24).boxed (.slice B4 m4 d4) 24).boxed (.slice B5 m5 d5) 24
    simp only [World.size_alloc, append_assoc, cons_append, nil_append] at H
    clear HC G a0 a1 b0 b1
    have k0 := H.p0 (O.length + 2) (by rw [get_r]; rfl)
    have k1 := H.p1 (O.length + 2) (by rw [get_r]; rfl)
    have f0 := H.pf (O.length + 2) (by rw [get_r]; rfl) 0
    have f1 := H.pf (O.length + 2) (by rw [get_r]; rfl) 1
    have Z3 := H.set0 (O.length + 2) (by rw [get_r]; rfl) (.slice none 0 0)
    rw [set_r] at Z3
    simp only [List.set_cons_succ, List.set_cons_zero] at Z3
    have Z4 := Z3.set1 (O.length + 2) (by rw [get_r]; rfl) (.slice none 0 0)
    rw [set_r] at Z4
    simp only [List.set_cons_succ, List.set_cons_zero] at Z4
    have s0 := Z4.p0 (O.length + 2) (by rw [get_r]; rfl)
    have s1 := Z4.p1 (O.length + 2) (by rw [get_r]; rfl)
    have HF := Lib.hid (Z4.fewM.fewO.less (L' := L) (fun o ho => by simp [ho]))
    clear H Z3 Z4
    go_wp2_with fail
    refine bodyPost_ret (v := .tuple #[.agg #[.slice none 0 0, .slice none 0 0], .int .i64 3]) (by simp [results, Tryd.results19, go_sem, s0, s1]) rfl ?_
    exact gotF_nil HF.out 3
end
end Go.Proofs.YtjhaogbopmhkoaaDoor

namespace Go.Proofs.YtjhaogbopmhkoaaDoor
open Go.RowKit Go.Sort
set_option linter.unusedVariables false
set_option maxRecDepth 100000
section
variable {w0 w w' : World} {g : Option Nat} {M M2 : List (Nat × Value)} {L : List Ob} {O : List Rw} {A A2 A3 A4 : Option Addr} {b n c m c2 n3 c3 n4 c4 x y : Nat} {p q r s : List Int}
end
end Go.Proofs.YtjhaogbopmhkoaaDoor

namespace Go.Proofs.YtjhaogbopmhkoaaDoor
open Go.RowKit Go.Sort
set_option linter.unusedVariables false
set_option maxRecDepth 100000
theorem sgn_gt2 {x y : Nat} (h : y < x) : Na.sgn x y = 1 := by unfold Na.sgn; rw [if_neg (by omega), if_pos h]
section
variable {w0 w w' : World} {g : Option Nat} {M M2 : List (Nat × Value)} {L : List Ob} {O : List Rw} {A A2 A3 A4 : Option Addr} {b n c m c2 n3 c3 n4 c4 x y : Nat} {p q r s : List Int}
set_option maxHeartbeats 4000000 in
theorem t_binom_range (h : Ow w0 w g M L O) (i j : Nat) (nn hits : Int) (hi : L[i]? = some ⟨A, n, c, ints p⟩) (hj : L[j]? = some ⟨A2, m, c2, ints q⟩) (ht : Tab w0) (hn : nn < 0 ∨ 40 < nn) : Calls Tryd.prog 20 #[.int .i64 nn, .int .i64 hits, .agg #[.slice A n c, .slice A2 m c2]] w (GotF w0 g M L O (frE 2)) := by
  have H := (h.pair (.slice A n c) (.slice A2 m c2) 26).pair (.slice none 0 0) (.slice none 0 0) 26
  simp only [World.size_alloc, append_assoc, cons_append, nil_append] at H
  rcases Int.lt_or_le nn 0 with h0 | h0
  · have t1 : decide (nn < 0) = true := decide_eq_true h0
    clear h hi hj hn ht
    go_enter Tryd.func20, Tryd.ntmps20
    have HF := Lib.hid H.fewO
    clear H
    go_wp2_with fail
    refine bodyPost_ret (v := .tuple #[.agg #[.slice none 0 0, .slice none 0 0], .int .i64 2]) (by simp [results, Tryd.results20, go_sem]) rfl ?_
    exact gotF_nil HF.out 2
  · have t1 : decide (nn < 0) = false := decide_eq_false (by omega)
    have t2 : decide (40 < nn) = true := decide_eq_true (by omega)
    clear h hi hj hn ht
    go_enter Tryd.func20, Tryd.ntmps20
    have HF := Lib.hid H.fewO
    clear H
    go_wp2_with fail
    refine bodyPost_ret (v := .tuple #[.agg #[.slice none 0 0, .slice none 0 0], .int .i64 2]) (by simp [results, Tryd.results20, go_sem]) rfl ?_
    exact gotF_nil HF.out 2
set_option maxHeartbeats 4000000 in
theorem t_binom_bad (h : Ow w0 w g M L O) (i j : Nat) (nn hits : Int) (hi : L[i]? = some ⟨A, n, c, ints p⟩) (hj : L[j]? = some ⟨A2, m, c2, ints q⟩) (ht : Tab w0) (hn : 0 ≤ nn ∧ nn ≤ 40) (hb : rv p q = false) : Calls Tryd.prog 20 #[.int .i64 nn, .int .i64 hits, .agg #[.slice A n c, .slice A2 m c2]] w (GotF w0 g M L O (frE 1)) := by
  have H := (h.pair (.slice A n c) (.slice A2 m c2) 26).pair (.slice none 0 0) (.slice none 0 0) 26
  simp only [World.size_alloc, append_assoc, cons_append, nil_append] at H
  have t1 : decide (nn < 0) = false := decide_eq_false (by omega)
  have t2 : decide (40 < nn) = false := decide_eq_false (by omega)
  have a0 := H.p0 (O.length + 0) (by rw [get_r]; rfl)
  have a1 := H.p1 (O.length + 0) (by rw [get_r]; rfl)
  have HV := Lib.hid (qvalid_ow H i j hi hj ht)
  rw [hb] at HV
  clear h H hi hj hn hb ht
  go_enter Tryd.func20, Tryd.ntmps20
  go_wp2_with fail
  refine HV.out.mono ?_
  rintro e w1 ⟨rfl, H⟩
  clear HV a0 a1
  have k0 := H.p0 (O.length + 1) (by rw [get_r]; rfl)
  have k1 := H.p1 (O.length + 1) (by rw [get_r]; rfl)
  have f0 := H.pf (O.length + 1) (by rw [get_r]; rfl) 0
  have f1 := H.pf (O.length + 1) (by rw [get_r]; rfl) 1
  have Z3 := H.set0 (O.length + 1) (by rw [get_r]; rfl) (.slice none 0 0)
  rw [set_r] at Z3
  simp only [List.set_cons_succ, List.set_cons_zero] at Z3
  have Z4 := Z3.set1 (O.length + 1) (by rw [get_r]; rfl) (.slice none 0 0)
  rw [set_r] at Z4
  simp only [List.set_cons_succ, List.set_cons_zero] at Z4
  have s0 := Z4.p0 (O.length + 1) (by rw [get_r]; rfl)
  have s1 := Z4.p1 (O.length + 1) (by rw [get_r]; rfl)
  have HF := Lib.hid Z4.fewO
  clear H Z3 Z4
  go_wp2_with fail
  refine bodyPost_ret (v := .tuple #[.agg #[.slice none 0 0, .slice none 0 0], .int .i64 1]) (by simp [results, Tryd.results20, go_sem, s0, s1]) rfl ?_
  exact gotF_nil HF.out 1
set_option maxHeartbeats 4000000 in
theorem t_binom_big {x y : Nat} (h : Ow w0 w g M L O) (i j : Nat) (nn hits : Int) (hi : L[i]? = some ⟨A, n, c, nats (Na.dig x)⟩) (hj : L[j]? = some ⟨A2, m, c2, nats (Na.dig y)⟩) (ht : Tab w0) (hn : 0 ≤ nn ∧ nn ≤ 40) (F : FrK x y) (hxy : y < x) : Calls Tryd.prog 20 #[.int .i64 nn, .int .i64 hits, .agg #[.slice A n c, .slice A2 m c2]] w (GotF w0 g M L O (frE 1)) := by
  have H := (h.pair (.slice A n c) (.slice A2 m c2) 26).pair (.slice none 0 0) (.slice none 0 0) 26
  simp only [World.size_alloc, append_assoc, cons_append, nil_append] at H
  have t1 : decide (nn < 0) = false := decide_eq_false (by omega)
  have t2 : decide (40 < nn) = false := decide_eq_false (by omega)
  have a0 := H.p0 (O.length + 0) (by rw [get_r]; rfl)
  have a1 := H.p1 (O.length + 0) (by rw [get_r]; rfl)
  have HV := Lib.hid (qvalid_ow (p := Na.up (Na.dig x)) (q := Na.up (Na.dig y)) H i j (by rw [nats_up]; exact hi) (by rw [nats_up]; exact hj) ht)
  rw [F.rv] at HV
  have HI := Lib.hid (And.intro hi hj)
  have HX := Lib.hid F
  have HS : Hid (Na.sgn x y = 1) := sgn_gt2 hxy
  clear h H hi hj hn hxy F ht
  go_enter Tryd.func20, Tryd.ntmps20
  go_wp2_with fail
  refine HV.out.mono ?_
  rintro e w1 ⟨rfl, H⟩
  clear HV a0 a1
  have a0 := H.p0 (O.length + 0) (by rw [get_r]; rfl)
  have a1 := H.p1 (O.length + 0) (by rw [get_r]; rfl)
  have HC := Lib.hid (cmp_ow H i j HI.out.1 HI.out.2)
  rw [HS.out] at HC
  clear H
  go_wp2_with fail
  refine HC.out.mono ?_
  rintro e w2 ⟨rfl, H⟩
  clear HC a0 a1
  have k0 := H.p0 (O.length + 1) (by rw [get_r]; rfl)
  have k1 := H.p1 (O.length + 1) (by rw [get_r]; rfl)
  have f0 := H.pf (O.length + 1) (by rw [get_r]; rfl) 0
  have f1 := H.pf (O.length + 1) (by rw [get_r]; rfl) 1
  have Z3 := H.set0 (O.length + 1) (by rw [get_r]; rfl) (.slice none 0 0)
  rw [set_r] at Z3
  simp only [List.set_cons_succ, List.set_cons_zero] at Z3
  have Z4 := Z3.set1 (O.length + 1) (by rw [get_r]; rfl) (.slice none 0 0)
  rw [set_r] at Z4
  simp only [List.set_cons_succ, List.set_cons_zero] at Z4
  have s0 := Z4.p0 (O.length + 1) (by rw [get_r]; rfl)
  have s1 := Z4.p1 (O.length + 1) (by rw [get_r]; rfl)
  have HF := Lib.hid Z4.fewO
  clear H Z3 Z4
  go_wp2_with fail
  refine bodyPost_ret (v := .tuple #[.agg #[.slice none 0 0, .slice none 0 0], .int .i64 1]) (by simp [results, Tryd.results20, go_sem, s0, s1]) rfl ?_
  exact gotF_nil HF.out 1
set_option maxHeartbeats 4000000 in
theorem t_binom_long {x y : Nat} (h : Ow w0 w g M L O) (i j : Nat) (nn hits : Int) (hi : L[i]? = some ⟨A, n, c, nats (Na.dig x)⟩) (hj : L[j]? = some ⟨A2, m, c2, nats (Na.dig y)⟩) (ht : Tab w0) (hn : 0 ≤ nn ∧ nn ≤ 40) (F : FrK x y) (hxy : x ≤ y) (hm : 2 < m) : Calls Tryd.prog 20 #[.int .i64 nn, .int .i64 hits, .agg #[.slice A n c, .slice A2 m c2]] w (GotF w0 g M L O (frE 3)) := by
  have hm9 : m ≤ 1000 := (h.sl hj).2.2.1
  have H := (h.pair (.slice A n c) (.slice A2 m c2) 26).pair (.slice none 0 0) (.slice none 0 0) 26
  simp only [World.size_alloc, append_assoc, cons_append, nil_append] at H
  have t1 : decide (nn < 0) = false := decide_eq_false (by omega)
  have t2 : decide (40 < nn) = false := decide_eq_false (by omega)
  have t3 : decide ((2 : Int) < (m : Int)) = true := decide_eq_true (by omega)
  have t4 : decide (2 < m) = true := decide_eq_true hm
  have a0 := H.p0 (O.length + 0) (by rw [get_r]; rfl)
  have a1 := H.p1 (O.length + 0) (by rw [get_r]; rfl)
  have HV := Lib.hid (qvalid_ow (p := Na.up (Na.dig x)) (q := Na.up (Na.dig y)) H i j (by rw [nats_up]; exact hi) (by rw [nats_up]; exact hj) ht)
  rw [F.rv] at HV
  have HI := Lib.hid (And.intro hi hj)
  have HX := Lib.hid F
  obtain ⟨sg, hsg, hs0⟩ := sgn_le2 hxy
  have HS := Lib.hid hsg
  have t5 : decide (0 < sg) = false := decide_eq_false (by omega)
  clear h H hi hj hn hxy F hm hsg hs0 ht
  go_enter Tryd.func20, Tryd.ntmps20
  go_wp2_with fail
  refine HV.out.mono ?_
  rintro e w1 ⟨rfl, H⟩
  clear HV a0 a1
  have a0 := H.p0 (O.length + 0) (by rw [get_r]; rfl)
  have a1 := H.p1 (O.length + 0) (by rw [get_r]; rfl)
  have HC := Lib.hid (cmp_ow H i j HI.out.1 HI.out.2)
  rw [HS.out] at HC
  clear H
  go_wp2_with fail
  refine HC.out.mono ?_
  rintro e w2 ⟨rfl, H⟩
  clear HC a0 a1
  have a1 := H.p1 (O.length + 0) (by rw [get_r]; rfl)
  have k0 := H.p0 (O.length + 1) (by rw [get_r]; rfl)
  have k1 := H.p1 (O.length + 1) (by rw [get_r]; rfl)
  have f0 := H.pf (O.length + 1) (by rw [get_r]; rfl) 0
  have f1 := H.pf (O.length + 1) (by rw [get_r]; rfl) 1
  have Z3 := H.set0 (O.length + 1) (by rw [get_r]; rfl) (.slice none 0 0)
  rw [set_r] at Z3
  simp only [List.set_cons_succ, List.set_cons_zero] at Z3
  have Z4 := Z3.set1 (O.length + 1) (by rw [get_r]; rfl) (.slice none 0 0)
  rw [set_r] at Z4
  simp only [List.set_cons_succ, List.set_cons_zero] at Z4
  have s0 := Z4.p0 (O.length + 1) (by rw [get_r]; rfl)
  have s1 := Z4.p1 (O.length + 1) (by rw [get_r]; rfl)
  have HF := Lib.hid Z4.fewO
  clear H Z3 Z4
  go_wp2_with fail
  refine bodyPost_ret (v := .tuple #[.agg #[.slice none 0 0, .slice none 0 0], .int .i64 3]) (by simp [results, Tryd.results20, go_sem, s0, s1]) rfl ?_
  exact gotF_nil HF.out 3
end
end Go.Proofs.YtjhaogbopmhkoaaDoor

namespace Go.Proofs.YtjhaogbopmhkoaaDoor
open Go.RowKit Go.Sort
set_option linter.unusedVariables false
theorem sumB_split (n x f h : Nat) : ∀ c, sumB n x f 0 (h + c) = sumB n x f 0 h + sumB n x f h c
  | 0 => rfl
  | c + 1 => by
    show sumB n x f 0 (h + c) + term n x f (0 + (h + c)) = sumB n x f 0 h + (sumB n x f h c + term n x f (h + c))
    rw [sumB_split n x f h c, Nat.zero_add, Nat.add_assoc]
theorem sumB_first (n x f lo : Nat) : ∀ c, sumB n x f lo (c + 1) = term n x f lo + sumB n x f (lo + 1) c
  | 0 => by show 0 + term n x f (lo + 0) = _ + 0; rw [Nat.zero_add, Nat.add_zero, Nat.add_zero]
  | c + 1 => by
    show sumB n x f lo (c + 1) + term n x f (lo + (c + 1)) = term n x f lo + (sumB n x f (lo + 1) c + term n x f (lo + 1 + c))
    rw [sumB_first n x f lo c, show lo + 1 + c = lo + (c + 1) by omega, Nat.add_assoc]
theorem term_flip {n x f j : Nat} (h : j ≤ n) : term n f x (n - j) = term n x f j := by
  unfold term
  rw [Na.bin_symm h, show n - (n - j) = j by omega, Nat.mul_comm (f ^ (n - j))]
theorem sumB_flip (n x f : Nat) : ∀ h, h ≤ n + 1 → sumB n f x (n + 1 - h) h = sumB n x f 0 h
  | 0, _ => rfl
  | h + 1, hh => by
    rw [sumB_first, show n + 1 - (h + 1) + 1 = n + 1 - h by omega, sumB_flip n x f h (by omega), show n + 1 - (h + 1) = n - h by omega, term_flip (by omega)]
    show _ = sumB n x f 0 h + term n x f (0 + h)
    rw [Nat.zero_add, Nat.add_comm]
theorem sumB_step (n x f : Nat) : ∀ c, c ≤ n → sumB (n + 1) x f 0 (c + 1) = f * sumB n x f 0 (c + 1) + x * sumB n x f 0 c
  | 0, _ => by
    show 0 + term (n + 1) x f (0 + 0) = f * (0 + term n x f (0 + 0)) + x * 0
    unfold term
    simp only [Nat.add_zero, Nat.zero_add, Na.bin_zero, Nat.pow_zero, Nat.sub_zero, Nat.pow_succ]
    grind
  | c + 1, h => by
    show sumB (n + 1) x f 0 (c + 1) + term (n + 1) x f (0 + (c + 1)) = f * (sumB n x f 0 (c + 1) + term n x f (0 + (c + 1))) + x * (sumB n x f 0 c + term n x f (0 + c))
    rw [sumB_step n x f c (by omega), Nat.zero_add, Nat.zero_add]
    obtain ⟨d, rfl⟩ : ∃ d, n = c + 1 + d := ⟨n - (c + 1), by omega⟩
    have e : term (c + 1 + d + 1) x f (c + 1) = f * term (c + 1 + d) x f (c + 1) + x * term (c + 1 + d) x f c := by
      unfold term
      rw [Na.bin_succ, show c + 1 + d + 1 - (c + 1) = d + 1 by omega, show c + 1 + d - (c + 1) = d by omega, show c + 1 + d - c = d + 1 by omega, Nat.pow_succ f, Nat.pow_succ x]
      grind
    rw [e]
    grind
theorem sumB_all (n x f : Nat) : sumB n x f 0 (n + 1) = (x + f) ^ n := by
  induction n with
  | zero => show 0 + term 0 x f (0 + 0) = 1; unfold term; simp [Na.bin]
  | succ n ih =>
    show sumB (n + 1) x f 0 (n + 1) + term (n + 1) x f (0 + (n + 1)) = _
    have e1 : term (n + 1) x f (0 + (n + 1)) = x * term n x f (0 + n) := by
      unfold term
      rw [Nat.zero_add, Nat.zero_add, Na.bin_self, Na.bin_self, Nat.sub_self, Nat.sub_self, Nat.pow_succ x]
      grind
    have e2 : sumB n x f 0 (n + 1) = sumB n x f 0 n + term n x f (0 + n) := rfl
    rw [sumB_step n x f n (Nat.le_refl _), e1, Nat.pow_succ, ← ih, e2]
    grind
theorem sumB_ends (n x f h : Nat) (hh : h ≤ n + 1) : sumB n x f h (n + 1 - h) + sumB n f x (n + 1 - h) h = (x + f) ^ n := by
  rw [sumB_flip n x f h hh, ← sumB_all, Nat.add_comm, ← sumB_split, show h + (n + 1 - h) = n + 1 by omega]
def fact : Nat → Nat
  | 0 => 1
  | n + 1 => (n + 1) * fact n
theorem fact_pos : ∀ n, 0 < fact n
  | 0 => by decide
  | n + 1 => Nat.mul_pos (by omega) (fact_pos n)
theorem bin_fact : ∀ (n k : Nat), k ≤ n → Na.bin n k * (fact k * fact (n - k)) = fact n
  | n, 0, _ => by rw [Na.bin_zero]; simp [fact]
  | n + 1, k + 1, h => by
    have ih := bin_fact n k (by omega)
    have e := Na.bin_absorb n k
    rw [show n + 1 - (k + 1) = n - k by omega]
    show Na.bin (n + 1) (k + 1) * ((k + 1) * fact k * fact (n - k)) = (n + 1) * fact n
    rw [← ih]
    grind
theorem bin_swap {t m d j : Nat} (hm : m ≤ t) (hd : d ≤ t) (h1 : j ≤ m) (h2 : j ≤ d) : Na.bin t d * (Na.bin d j * Na.bin (t - d) (m - j)) = Na.bin t m * (Na.bin m j * Na.bin (t - m) (d - j)) := by
  rcases Nat.lt_or_ge (t - d) (m - j) with h | h
  · rw [Na.bin_more h, Na.bin_more (n := t - m) (k := d - j) (by omega)]; simp
  · have f1 := bin_fact t d hd
    have f2 := bin_fact d j h2
    have f3 := bin_fact (t - d) (m - j) h
    have f4 := bin_fact t m hm
    have f5 := bin_fact m j h1
    have f6 := bin_fact (t - m) (d - j) (by omega)
    rw [show t - m - (d - j) = t - d - (m - j) by omega] at f6
    have hp : 0 < fact j * fact (d - j) * fact (m - j) * fact (t - d - (m - j)) := Nat.mul_pos (Nat.mul_pos (Nat.mul_pos (fact_pos _) (fact_pos _)) (fact_pos _)) (fact_pos _)
    refine Nat.eq_of_mul_eq_mul_right hp ?_
    generalize fact j = a at *
    generalize fact (d - j) = b at *
    generalize fact (m - j) = c at *
    generalize fact (t - d - (m - j)) = e at *
    generalize fact (t - d) = u at *
    generalize fact (t - m) = v at *
    generalize fact d = dd at *
    generalize fact m = mm at *
    generalize Na.bin t d = b1 at *
    generalize Na.bin d j = b2 at *
    generalize Na.bin (t - d) (m - j) = b3 at *
    generalize Na.bin t m = b4 at *
    generalize Na.bin m j = b5 at *
    generalize Na.bin (t - m) (d - j) = b6 at *
    calc b1 * (b2 * b3) * (a * b * c * e) = b1 * ((b2 * (a * b)) * (b3 * (c * e))) := by grind
      _ = b4 * (mm * v) := by rw [f2, f3, f1, f4]
      _ = b4 * ((b5 * (a * c)) * (b6 * (b * e))) := by rw [f5, f6]
      _ = b4 * (b5 * b6) * (a * b * c * e) := by grind
end Go.Proofs.YtjhaogbopmhkoaaDoor

namespace Go.Proofs.YtjhaogbopmhkoaaDoor
open Go.RowKit Go.Sort
set_option linter.unusedVariables false
theorem frM_cross {a x b y : Nat} (hx : 0 < x) (hy : 0 < y) (h : a * y = b * x) : frM a x = frM b y := by
  obtain ⟨n, d, h1, h2, h3, h4, -, -⟩ := frM_spec (x := a) hx
  obtain ⟨n', d', h1', h2', h3', h4', -, -⟩ := frM_spec (x := b) hy
  rw [h1, h1']
  have e : n * d' = n' * d := by
    refine Nat.eq_of_mul_eq_mul_right (Nat.mul_pos hx hy) ?_
    calc n * d' * (x * y) = (n * x) * (d' * y) := by grind
      _ = (a * d) * (d' * y) := by rw [h4]
      _ = (a * y) * (d * d') := by grind
      _ = (b * x) * (d * d') := by rw [h]
      _ = (b * d') * (d * x) := by grind
      _ = (n' * y) * (d * x) := by rw [h4']
      _ = n' * d * (x * y) := by grind
  have dv1 : d ∣ d' := by
    have : d ∣ n * d' := ⟨n', by rw [e, Nat.mul_comm]⟩
    exact (Nat.Coprime.symm h3).dvd_of_dvd_mul_left this
  have dv2 : d' ∣ d := by
    have : d' ∣ n' * d := ⟨n, by rw [← e, Nat.mul_comm]⟩
    exact (Nat.Coprime.symm h3').dvd_of_dvd_mul_left this
  have ed : d = d' := Nat.dvd_antisymm dv1 dv2
  subst ed
  have en : n = n' := Nat.eq_of_mul_eq_mul_right h2 e
  rw [en]
theorem sumH_more {t m d lo c : Nat} : ∀ e, (∀ j, lo + c ≤ j → Na.bin m j = 0) → sumH t m d lo (c + e) = sumH t m d lo c
  | 0, _ => rfl
  | e + 1, h => by
    show sumH t m d lo (c + e) + termH t m d (lo + (c + e)) = _
    rw [sumH_more e h]
    unfold termH
    rw [h _ (by omega), Nat.zero_mul, Nat.add_zero]
theorem sumH_swap {n m d lo : Nat} (hm : m ≤ n) (hd : d ≤ n) : ∀ c, lo + c ≤ m + 1 → lo + c ≤ d + 1 → Na.bin n d * sumH n d m lo c = Na.bin n m * sumH n m d lo c
  | 0, _, _ => rfl
  | c + 1, h1, h2 => by
    show Na.bin n d * (sumH n d m lo c + termH n d m (lo + c)) = Na.bin n m * (sumH n m d lo c + termH n m d (lo + c))
    rw [Nat.mul_add, Nat.mul_add, sumH_swap hm hd c (by omega) (by omega)]
    unfold termH
    rw [bin_swap (t := n) (m := m) (d := d) (j := lo + c) hm hd (by omega) (by omega)]
theorem sumH_exch {n m d lo : Nat} (hm : m ≤ n) (hd : d ≤ n) : Na.bin n d * sumH n d m lo (m + 1 - lo) = Na.bin n m * sumH n m d lo (d + 1 - lo) := by
  rcases Nat.le_total m d with h | h
  · have e : sumH n m d lo (d + 1 - lo) = sumH n m d lo (m + 1 - lo) := by
      obtain ⟨k, hk⟩ : ∃ k, d + 1 - lo = (m + 1 - lo) + k := ⟨(d + 1 - lo) - (m + 1 - lo), by omega⟩
      rw [hk]
      exact sumH_more k (fun j hj => Na.bin_more (by omega))
    rw [e]
    rcases Nat.lt_or_ge (m + 1) lo with h1 | h1
    · rw [show m + 1 - lo = 0 by omega]; rfl
    · exact sumH_swap hm hd _ (by omega) (by omega)
  · have e : sumH n d m lo (m + 1 - lo) = sumH n d m lo (d + 1 - lo) := by
      obtain ⟨k, hk⟩ : ∃ k, m + 1 - lo = (d + 1 - lo) + k := ⟨(m + 1 - lo) - (d + 1 - lo), by omega⟩
      rw [hk]
      exact sumH_more k (fun j hj => Na.bin_more (by omega))
    rw [e]
    rcases Nat.lt_or_ge (d + 1) lo with h1 | h1
    · rw [show d + 1 - lo = 0 by omega]; rfl
    · exact sumH_swap hm hd _ (by omega) (by omega)
theorem bin_pos {n k : Nat} (h : k ≤ n) : 0 < Na.bin n k := by
  rcases Nat.eq_zero_or_pos (Na.bin n k) with h0 | h0
  · have := bin_fact n k h
    rw [h0, Nat.zero_mul] at this
    have := fact_pos n
    omega
  · exact h0
theorem hyp_exch {n m d lo : Nat} (hm : m ≤ n) (hd : d ≤ n) : frM (sumH n m d lo (d + 1 - lo)) (Na.bin n d) = frM (sumH n d m lo (m + 1 - lo)) (Na.bin n m) :=
  frM_cross (bin_pos hd) (bin_pos hm) (by rw [Nat.mul_comm, ← sumH_exch hm hd, Nat.mul_comm])
theorem sumB_less {n x f h : Nat} : sumB n x f (h + 1) (n + 1 - (h + 1)) ≤ sumB n x f h (n + 1 - h) := by
  rcases Nat.lt_or_ge n h with h1 | h1
  · rw [show n + 1 - (h + 1) = 0 by omega]; exact Nat.zero_le _
  · obtain ⟨c, hc⟩ : ∃ c, n + 1 - h = c + 1 := ⟨n - h, by omega⟩
    rw [hc, show n + 1 - (h + 1) = c by omega, sumB_first]
    omega
end Go.Proofs.YtjhaogbopmhkoaaDoor

namespace Go.Proofs.YtjhaogbopmhkoaaDoor
open Go.RowKit Go.Sort
set_option linter.unusedVariables false
set_option maxRecDepth 100000
theorem frM_self {t : Nat} (h : 0 < t) : frM t t = (1, 1, 0) := by
  unfold frM
  rw [if_neg (by omega), Nat.gcd_self, Nat.div_self h]
end Go.Proofs.YtjhaogbopmhkoaaDoor

namespace Go.Proofs.YtjhaogbopmhkoaaDoor
open Go.RowKit Go.Sort
set_option linter.unusedVariables false
set_option maxRecDepth 100000
def binF (nn hits : Int) (p q : List Int) : Nat × Nat × Int := if nn < 0 ∨ 40 < nn then frE 2 else if rv p q = false then frE 1 else if num q < num p then frE 1 else if 2 < q.length then frE 3 else frM (sumB nn.toNat (num p) (num q - num p) hits.toNat (nn.toNat + 1 - hits.toNat)) (num q ^ nn.toNat)
section
variable {w0 w w' : World} {g : Option Nat} {M M2 : List (Nat × Value)} {L : List Ob} {O : List Rw} {A A2 A3 A4 : Option Addr} {b n c m c2 n3 c3 n4 c4 x y : Nat} {p q r s : List Int}
theorem ints_len (h : Ow w0 w g M L O) (j : Nat) (hj : L[j]? = some ⟨A2, m, c2, ints q⟩) : q.length = m := by
  have := (h.sl hj).1
  simpa [ints] using this
theorem t_binom_any (h : Ow w0 w g M L O) (i j : Nat) (nn hits : Int) (hi : L[i]? = some ⟨A, n, c, ints p⟩) (hj : L[j]? = some ⟨A2, m, c2, ints q⟩) (ht : Tab w0) (hh : hits ≤ 9223372036854775807) : Calls Tryd.prog 20 #[.int .i64 nn, .int .i64 hits, .agg #[.slice A n c, .slice A2 m c2]] w (GotF w0 g M L O (binF nn hits p q)) := by
  have hlen := ints_len h j hj
  unfold binF
  by_cases h1 : nn < 0 ∨ 40 < nn
  · rw [if_pos h1]; exact t_binom_range h i j nn hits hi hj ht h1
  · rw [if_neg h1]
    have h1' : 0 ≤ nn ∧ nn ≤ 40 := by omega
    cases hb : rv p q with
    | false => rw [if_pos rfl]; exact t_binom_bad h i j nn hits hi hj ht h1' hb
    | true =>
      rw [if_neg (by decide)]
      obtain ⟨x, y, hx, hy, h0, hg, rfl, rfl⟩ := rv_ex hb
      have F : FrK x y := ⟨hx, hy, h0, hg⟩
      rw [num_dig, num_dig]
      by_cases h2 : y < x
      · rw [if_pos h2]; exact t_binom_big h i j nn hits (nats_lay hi) (nats_lay hj) ht h1' F h2
      · rw [if_neg h2]
        by_cases h3 : 2 < (Na.up (Na.dig y)).length
        · rw [if_pos h3]; exact t_binom_long h i j nn hits (nats_lay hi) (nats_lay hj) ht h1' F (by omega) (by omega)
        · rw [if_neg h3]; exact t_binom_sum h i j nn hits (nats_lay hi) (nats_lay hj) ht h1' F (by omega) (by omega) hh
theorem fraction_ex (a b : Int) : ∃ x y, ofF (a % 4096) (1 + b % 4096) = (x, y, 0) ∧ FrK x y ∧ x ≤ 4095 ∧ y ≤ 4096 := by
  obtain ⟨n, d, h1, h2, h3, h4, h5⟩ := FrK.of (x := (a % 4096).toNat) (y := (1 + b % 4096).toNat) (tiny_top (by omega)) (tiny_top (by omega)) (by omega)
  refine ⟨n, d, ?_, h2, by omega, by omega⟩
  unfold ofF
  rw [if_neg (by omega)]
  exact h1
set_option maxHeartbeats 4000000 in
theorem fraction23 (h : Ow w0 w g M L O) (a b : Int) : Calls Tryd.prog 17 #[.int .i64 a, .int .i64 b] w fun e w' => ∃ (C1 : Option Addr) (k1 e1 : Nat) (C2 : Option Addr) (k2 e2 x y : Nat), e = .returned (.agg #[.slice C1 k1 e1, .slice C2 k2 e2]) ∧ FrK x y ∧ x ≤ 4095 ∧ y ≤ 4096 ∧ Ow w0 w' g M (L ++ [⟨C1, k1, e1, nats (Na.dig x)⟩] ++ [⟨C2, k2, e2, nats (Na.dig y)⟩]) O := by
  obtain ⟨x, y, h1, h2, h3, h4⟩ := fraction_ex a b
  obtain ⟨i, hi⟩ : ∃ z, a % 4096 = z := ⟨_, rfl⟩
  obtain ⟨k, hk⟩ : ∃ z, b % 4096 = z := ⟨_, rfl⟩
  have hk1 : 0 ≤ k ∧ k < 4096 := by omega
  have hi1 : 0 ≤ i ∧ i < 4096 := by omega
  have hM1 : Hid (∀ w : World, Calls Tryd.prog 14 #[.int .i64 a, .int .i64 4096] w fun e w' => e = .returned (.int .i64 i) ∧ w = w') := fun w => by rw [← hi]; exact mod_any a 4096 w (by omega) (by omega)
  have hM2 : Hid (∀ w : World, Calls Tryd.prog 14 #[.int .i64 b, .int .i64 4096] w fun e w' => e = .returned (.int .i64 k) ∧ w = w') := fun w => by rw [← hk]; exact mod_any b 4096 w (by omega) (by omega)
  rw [hi, hk] at h1
  have hw : IntKind.i64.wrap (1 + k) = 1 + k := IntWalk.i64_in _ (by omega)
  have H := h.pair (.slice none 0 0) (.slice none 0 0) 26
  have HC := Lib.hid (qrof_ow H i (1 + k) (by omega) (by omega))
  rw [h1] at HC
  have HX : Hid (FrK x y ∧ x ≤ 4095 ∧ y ≤ 4096) := ⟨h2, h3, h4⟩
  clear h H h1 h2 h3 h4 hi hk hk1 hi1
  go_enter Tryd.func17, Tryd.ntmps17
  go_wp2_with (go_at_call 14; (with_reducible (first | refine (hM1.out _).mono ?_ | refine (hM2.out _).mono ?_); rintro e w' ⟨rfl, rfl⟩))
  refine HC.out.mono ?_
  rintro e w1 ⟨C1, k1, e1, C2, k2, e2, rfl, G⟩
  have H1 := G.pair (.slice C1 k1 e1) (.slice C2 k2 e2) 26
  simp only [append_assoc O, nil_append, cons_append] at H1
  clear HC G
  have x0 := H1.p0 (O.length + 1) (by rw [get_r]; rfl)
  have x1 := H1.p1 (O.length + 1) (by rw [get_r]; rfl)
  have z0 := H1.p0 (O.length + 0) (by rw [get_r]; rfl)
  have z1 := H1.p1 (O.length + 0) (by rw [get_r]; rfl)
  have f0 := H1.pf (O.length + 0) (by rw [get_r]; rfl) 0
  have f1 := H1.pf (O.length + 0) (by rw [get_r]; rfl) 1
  have Z3 := H1.set0 (O.length + 0) (by rw [get_r]; rfl) (.slice C1 k1 e1)
  rw [set_r] at Z3
  simp only [List.set_cons_zero] at Z3
  have Z4 := Z3.set1 (O.length + 0) (by rw [get_r]; rfl) (.slice C2 k2 e2)
  rw [set_r] at Z4
  simp only [List.set_cons_zero] at Z4
  have r0 := Z4.p0 (O.length + 0) (by rw [get_r]; rfl)
  have r1 := Z4.p1 (O.length + 0) (by rw [get_r]; rfl)
  have HF := Lib.hid Z4.fewO
  clear H1 Z3 Z4
  go_wp2_with fail
  refine bodyPost_ret (v := .agg #[.slice C1 k1 e1, .slice C2 k2 e2]) (by simp [results, Tryd.results17, go_sem, r0, r1]) rfl ?_
  exact ⟨C1, k1, e1, C2, k2, e2, x, y, rfl, HX.out.1, HX.out.2.1, HX.out.2.2, HF.out⟩
end
end Go.Proofs.YtjhaogbopmhkoaaDoor

namespace Go.Proofs.YtjhaogbopmhkoaaDoor
open Go.RowKit Go.Sort
set_option linter.unusedVariables false
theorem binF_low {n x y : Nat} {h : Int} (hn : n ≤ 40) (F : FrK x y) (hxy : x ≤ y) (hy : y ≤ 4096) : binF (n : Int) h (Na.up (Na.dig x)) (Na.up (Na.dig y)) = frM (sumB n x (y - x) h.toNat (n + 1 - h.toNat)) (y ^ n) := by
  have hl : (Na.up (Na.dig y)).length ≤ 2 := by
    have h1 : (Na.dig y).length ≤ 2 := (Na.dig_len_iff y 2).2 (by omega)
    simpa [Na.up] using h1
  unfold binF
  rw [if_neg (by omega), F.rv, if_neg (by decide), num_dig, num_dig, if_neg (by omega), if_neg (by omega), Int.toNat_natCast]
theorem sumB_le {n x f lo : Nat} (c : Nat) (h : lo + c ≤ n + 1) : sumB n x f lo c ≤ (x + f) ^ n := by
  have h1 := sumB_split n x f lo c
  obtain ⟨k, hk⟩ : ∃ k, n + 1 = (lo + c) + k := ⟨n + 1 - (lo + c), by omega⟩
  have h2 := sumB_all n x f
  rw [hk] at h2
  have h3 : sumB n x f 0 (lo + c) ≤ sumB n x f 0 (lo + c + k) := by
    clear h2 hk h1
    induction k with
    | zero => exact Nat.le_refl _
    | succ k ih => exact Nat.le_trans ih (Nat.le_add_right _ _)
  omega
theorem sumB_top {n x f lo : Nat} : sumB n x f lo (n + 1 - lo) ≤ (x + f) ^ n := by
  rcases Nat.lt_or_ge n lo with h | h
  · rw [show n + 1 - lo = 0 by omega]; exact Nat.zero_le _
  · exact sumB_le _ (by omega)
theorem sumB_both {n x f h : Nat} : sumB n x f h (n + 1 - h) + sumB n f x ((n : Int) - (h : Int) + 1).toNat (n + 1 - ((n : Int) - (h : Int) + 1).toNat) = (x + f) ^ n := by
  rcases Nat.lt_or_ge (n + 1) h with h1 | h1
  · rw [show n + 1 - h = 0 by omega, show ((n : Int) - (h : Int) + 1).toNat = 0 by omega]
    show 0 + sumB n f x 0 (n + 1) = _
    rw [sumB_all, Nat.zero_add, Nat.add_comm f]
  · rw [show ((n : Int) - (h : Int) + 1).toNat = n + 1 - h by omega, show n + 1 - (n + 1 - h) = h by omega]
    exact sumB_ends n x f h h1
structure OrdK (n x y h a1 b1 a2 b2 a3 b3 : Nat) : Prop where
  e1 : frM (sumB n x (y - x) h (n + 1 - h)) (y ^ n) = (a1, b1, 0)
  e2 : frM (sumB n x (y - x) (h + 1) (n + 1 - (h + 1))) (y ^ n) = (a2, b2, 0)
  e3 : frM (sumB n (y - x) x ((n : Int) - (h : Int) + 1).toNat (n + 1 - ((n : Int) - (h : Int) + 1).toNat)) (y ^ n) = (a3, b3, 0)
  F1 : FrK a1 b1
  F2 : FrK a2 b2
  F3 : FrK a3 b3
  le : a2 * b1 ≤ a1 * b2
  p12 : a1 * b2 < Na.top
  p21 : a2 * b1 < Na.top
  sum : frM (a1 * b3 + a3 * b1) (b1 * b3) = (1, 1, 0)
  s13 : a1 * b3 + a3 * b1 < Na.top
  q13 : b1 * b3 < Na.top
theorem ord_round {n x y h : Nat} (hn : n ≤ 20) (hy : 0 < y) (hxy : x ≤ y) (hy2 : y ≤ 2 ^ 12) : ∃ a1 b1 a2 b2 a3 b3, OrdK n x y h a1 b1 a2 b2 a3 b3 := by
  have hp : 0 < y ^ n := Nat.pow_pos hy
  have hb : y ^ n ≤ 2 ^ (12 * n) := pow_two hy2 n
  have ht : y ^ n < Na.top := le_top hb (by omega)
  have hx : x + (y - x) = y := by omega
  have hx' : y - x + x = y := by omega
  have l1 : sumB n x (y - x) h (n + 1 - h) ≤ y ^ n := by have := sumB_top (n := n) (x := x) (f := y - x) (lo := h); rwa [hx] at this
  have l2 : sumB n x (y - x) (h + 1) (n + 1 - (h + 1)) ≤ sumB n x (y - x) h (n + 1 - h) := sumB_less
  have l3 : sumB n (y - x) x ((n : Int) - (h : Int) + 1).toNat (n + 1 - ((n : Int) - (h : Int) + 1).toNat) ≤ y ^ n := by have := sumB_top (n := n) (x := y - x) (f := x) (lo := ((n : Int) - (h : Int) + 1).toNat); rwa [hx'] at this
  have l4 : sumB n x (y - x) h (n + 1 - h) + sumB n (y - x) x ((n : Int) - (h : Int) + 1).toNat (n + 1 - ((n : Int) - (h : Int) + 1).toNat) = y ^ n := by have := sumB_both (n := n) (x := x) (f := y - x) (h := h); rwa [hx] at this
  obtain ⟨a1, b1, e1, F1, g1, u1, v1⟩ := FrK.of (Nat.lt_of_le_of_lt l1 ht) ht hp
  obtain ⟨a2, b2, e2, F2, g2, u2, v2⟩ := FrK.of (Nat.lt_of_le_of_lt (Nat.le_trans l2 l1) ht) ht hp
  obtain ⟨a3, b3, e3, F3, g3, u3, v3⟩ := FrK.of (Nat.lt_of_le_of_lt l3 ht) ht hp
  generalize hS1 : sumB n x (y - x) h (n + 1 - h) = S1 at *
  generalize hS2 : sumB n x (y - x) (h + 1) (n + 1 - (h + 1)) = S2 at *
  generalize hS3 : sumB n (y - x) x ((n : Int) - (h : Int) + 1).toNat (n + 1 - ((n : Int) - (h : Int) + 1).toNat) = S3 at *
  have ez : a1 * b3 + a3 * b1 = b1 * b3 := by
    refine Nat.eq_of_mul_eq_mul_right hp ?_
    calc (a1 * b3 + a3 * b1) * y ^ n = (a1 * y ^ n) * b3 + (a3 * y ^ n) * b1 := by grind
      _ = (S1 * b1) * b3 + (S3 * b3) * b1 := by rw [g1, g3]
      _ = b1 * b3 * (S1 + S3) := by grind
      _ = b1 * b3 * y ^ n := by rw [l4]
  have tp : ∀ {a b : Nat}, a ≤ y ^ n → b ≤ y ^ n → a * b < Na.top := fun ha hb' => le_top (mul_two (Nat.le_trans ha hb) (Nat.le_trans hb' hb)) (by omega)
  refine ⟨a1, b1, a2, b2, a3, b3, by rw [hS1]; exact e1, by rw [hS2]; exact e2, by rw [hS3]; exact e3, F1, F2, F3, ?_, tp (Nat.le_trans u1 l1) v2, tp (Nat.le_trans u2 (Nat.le_trans l2 l1)) v1, by rw [ez]; exact frM_self (Nat.mul_pos F1.pos F3.pos), by rw [ez]; exact tp v1 v3, tp v1 v3⟩
  refine Nat.le_of_mul_le_mul_right (c := y ^ n) ?_ hp
  calc a2 * b1 * y ^ n = (a2 * y ^ n) * b1 := by grind
    _ = S2 * (b2 * b1) := by rw [g2]; grind
    _ ≤ S1 * (b2 * b1) := Nat.mul_le_mul_right _ l2
    _ = (S1 * b1) * b2 := by grind
    _ = (a1 * y ^ n) * b2 := by rw [g1]
    _ = a1 * b2 * y ^ n := by grind
end Go.Proofs.YtjhaogbopmhkoaaDoor

namespace Go.Proofs.YtjhaogbopmhkoaaDoor
open Go.RowKit Go.Sort
set_option linter.unusedVariables false
theorem cmp_frk {x y u v : Nat} (F : FrK x y) (G : FrK u v) (h1 : x * v < Na.top) (h2 : u * y < Na.top) : cmpV (Na.up (Na.dig x)) (Na.up (Na.dig y)) (Na.up (Na.dig u)) (Na.up (Na.dig v)) = Na.sgn (x * v) (u * y) ∧ cmpE (Na.up (Na.dig x)) (Na.up (Na.dig y)) (Na.up (Na.dig u)) (Na.up (Na.dig v)) = 0 := by
  unfold cmpV cmpE
  rw [F.rv, G.rv, num_dig, num_dig, num_dig, num_dig]
  exact ⟨by rw [if_pos (by rfl), if_pos ⟨h1, h2⟩], by rw [if_pos (by rfl), if_pos ⟨h1, h2⟩]⟩
theorem sub_one {x y : Nat} (F : FrK x y) (h : x ≤ y) : subF (Na.up (Na.dig 1)) (Na.up (Na.dig 1)) (Na.up (Na.dig x)) (Na.up (Na.dig y)) = (y - x, y, 0) ∧ FrK (y - x) y := by
  have g1 : Nat.gcd (y - x) y = 1 := by
    have h1 : Nat.gcd (y - x) y ∣ y - x := Nat.gcd_dvd_left _ _
    have h2 : Nat.gcd (y - x) y ∣ y := Nat.gcd_dvd_right _ _
    have h3 : Nat.gcd (y - x) y ∣ x := by
      have := Nat.dvd_sub h2 h1
      rwa [show y - (y - x) = x by omega] at this
    have h4 := Nat.dvd_gcd h3 h2
    rw [F.g] at h4
    exact Nat.dvd_one.1 h4
  have hy := F.py
  have hp := F.pos
  refine ⟨?_, ⟨by omega, hy, hp, g1⟩⟩
  rw [subF_low (tiny_top (by omega)) (tiny_top (by omega)) F.px hy (by omega) hp (by decide) F.g (by omega) (by rw [Nat.mul_one]; exact F.px) (by omega), if_pos (by omega)]
  unfold frM
  rw [Nat.one_mul, Nat.mul_one, g1, if_neg (by omega), Nat.div_one, Nat.div_one]
theorem sgn_nn {x y : Nat} (h : y ≤ x) : (0 : Int) ≤ Na.sgn x y := by
  unfold Na.sgn
  rw [if_neg (by omega)]
  split <;> omega
theorem hypF_in {n m d : Nat} {h : Int} (hn : n ≤ 40) (hm : m ≤ n) (hd : d ≤ n) : hypF (n : Int) (m : Int) (d : Int) h = frM (sumH n m d h.toNat (d + 1 - h.toNat)) (Na.bin n d) := by
  unfold hypF
  rw [if_neg (by omega), Int.toNat_natCast, Int.toNat_natCast, Int.toNat_natCast]
theorem hypF_exch {n m d : Nat} {h : Int} (hn : n ≤ 40) (hm : m ≤ n) (hd : d ≤ n) : hypF (n : Int) (m : Int) (d : Int) h = hypF (n : Int) (d : Int) (m : Int) h := by
  rw [hypF_in hn hm hd, hypF_in hn hd hm]
  exact hyp_exch hm hd
theorem hypF_ok {n m d : Nat} {h : Int} (hn : n ≤ 40) (hm : m ≤ n) (hd : d ≤ n) : (hypF (n : Int) (m : Int) (d : Int) h).2.2 = 0 := by
  rw [hypF_in hn hm hd]
  unfold frM
  rw [if_neg (by have := bin_pos hd; omega)]
theorem binF_all {n x y : Nat} (hn : n ≤ 40) (F : FrK x y) (hxy : x ≤ y) (hy : y ≤ 4096) : binF (n : Int) 0 (Na.up (Na.dig x)) (Na.up (Na.dig y)) = (1, 1, 0) := by
  rw [binF_low hn F hxy hy]
  show frM (sumB n x (y - x) 0 (n + 1)) (y ^ n) = _
  rw [sumB_all, show x + (y - x) = y by omega]
  exact frM_self (Nat.pow_pos F.pos)
end Go.Proofs.YtjhaogbopmhkoaaDoor

namespace Go.Proofs.YtjhaogbopmhkoaaDoor
open Go.RowKit Go.Sort
set_option linter.unusedVariables false
set_option maxRecDepth 100000
theorem sgn_np {x y : Nat} (h : x ≤ y) : Na.sgn x y ≤ 0 := by
  unfold Na.sgn
  split
  · omega
  · rw [if_neg (by omega)]; omega
theorem text_11o : str (De.text 1 ++ 47 :: De.text 1) = ⟨#[49, 47, 49]⟩ := by decide +kernel
theorem text_1o : str (De.text 1) = ⟨#[49]⟩ := by decide +kernel
def ROrd (w0 : World) (L : List Ob) (O : List Rw) (v : Value) (wr : World) : Prop := ∃ i : Nat, i ≤ 2 ∧ v = .int .i64 (i : Int) ∧ Hid (Ow w0 wr none [] L O)
set_option maxHeartbeats 16000000 in
theorem tailsOrder_any (nn mm kk a b : Int) (w : World) (ht : Tab w) : Calls Tryd.prog 5 #[.int .i64 nn, .int .i64 mm, .int .i64 kk, .int .i64 a, .int .i64 b] w fun e w' => e = .returned (.bool true) ∧ Below w.heap.size w w' := by
  have HT := Lib.hid ht
  have H := Ow.of (St.refl w)
  obtain ⟨n, hn⟩ : ∃ n : Nat, nn % 20 = (n : Int) := ⟨(nn % 20).toNat, by omega⟩
  obtain ⟨k, hk⟩ : ∃ k : Nat, kk % 20 = (k : Int) := ⟨(kk % 20).toNat, by omega⟩
  obtain ⟨m, hm⟩ : ∃ m : Nat, mm % ((n : Int) + 1) = (m : Int) := ⟨(mm % ((n : Int) + 1)).toNat, by have := Int.emod_nonneg mm (show (n : Int) + 1 ≠ 0 by omega); omega⟩
  obtain ⟨d, hd⟩ : ∃ d : Nat, a % ((n : Int) + 1) = (d : Int) := ⟨(a % ((n : Int) + 1)).toNat, by have := Int.emod_nonneg a (show (n : Int) + 1 ≠ 0 by omega); omega⟩
  have hn20 : n < 20 := by omega
  have hk20 : k < 20 := by omega
  have hmn : m ≤ n := by have := Int.emod_lt_of_pos mm (show (0 : Int) < (n : Int) + 1 by omega); omega
  have hdn : d ≤ n := by have := Int.emod_lt_of_pos a (show (0 : Int) < (n : Int) + 1 by omega); omega
  have hw1 : IntKind.i64.wrap ((n : Int) + 1) = (n : Int) + 1 := IntWalk.i64_in _ (by omega)
  have hw2 : IntKind.i64.wrap ((k : Int) + 1) = (k : Int) + 1 := IntWalk.i64_in _ (by omega)
  have hM1 : Hid (∀ w : World, Calls Tryd.prog 14 #[.int .i64 nn, .int .i64 20] w fun e w' => e = .returned (.int .i64 (n : Int)) ∧ w = w') := fun w => by rw [← hn]; exact mod_any nn 20 w (by omega) (by omega)
  have hM2 : Hid (∀ w : World, Calls Tryd.prog 14 #[.int .i64 kk, .int .i64 20] w fun e w' => e = .returned (.int .i64 (k : Int)) ∧ w = w') := fun w => by rw [← hk]; exact mod_any kk 20 w (by omega) (by omega)
  have hM3 : Hid (∀ w : World, Calls Tryd.prog 14 #[.int .i64 mm, .int .i64 ((n : Int) + 1)] w fun e w' => e = .returned (.int .i64 (m : Int)) ∧ w = w') := fun w => by rw [← hm]; exact mod_any mm ((n : Int) + 1) w (by omega) (by omega)
  have hM4 : Hid (∀ w : World, Calls Tryd.prog 14 #[.int .i64 a, .int .i64 ((n : Int) + 1)] w fun e w' => e = .returned (.int .i64 (d : Int)) ∧ w = w') := fun w => by rw [← hd]; exact mod_any a ((n : Int) + 1) w (by omega) (by omega)
  clear hn hk hm hd ht
  go_enter Tryd.func5, Tryd.ntmps5
  have HC := Lib.hid (fraction23 H a b)
  clear H
  go_wp2_with (go_at_call 14; (with_reducible (first | refine (hM1.out _).mono ?_ | refine (hM2.out _).mono ?_ | refine (hM3.out _).mono ?_ | refine (hM4.out _).mono ?_); rintro e w' ⟨rfl, rfl⟩))
  refine HC.out.mono ?_
  rintro e v1 ⟨A1, n1, c1, A2, n2, c2, x, y, rfl, hF, hx, hy, G⟩
  clear HC
  have H := G.pair (.slice A1 n1 c1) (.slice A2 n2 c2) 26
  simp only [nil_append, cons_append] at H
  clear G
  have HC := Lib.hid (qrof_ow H 1 1 (by omega) (by omega))
  rw [ofF_all] at HC
  clear H
  go_wp2_with (go_at_call 14; (with_reducible (first | refine (hM1.out _).mono ?_ | refine (hM2.out _).mono ?_ | refine (hM3.out _).mono ?_ | refine (hM4.out _).mono ?_); rintro e w' ⟨rfl, rfl⟩))
  refine HC.out.mono ?_
  rintro e v2 ⟨B1, m1, d1, B2, m2, d2, rfl, G⟩
  clear HC
  have H := G.pair (.slice B1 m1 d1) (.slice B2 m2 d2) 26
  simp only [nil_append, cons_append] at H
  clear G
  have hO : FrK 1 1 := ⟨tiny_top (by omega), tiny_top (by omega), by omega, by decide⟩
  have a0 := H.p0 0 rfl
  have a1 := H.p1 0 rfl
  have b0 := H.p0 1 rfl
  have b1 := H.p1 1 rfl
  obtain ⟨sg, hsg⟩ : ∃ z, Na.sgn (x * 1) (1 * y) = z := ⟨_, rfl⟩
  have HC := Lib.hid (qrcmp_any (p := Na.up (Na.dig x)) (q := Na.up (Na.dig y)) (r := Na.up (Na.dig 1)) (s := Na.up (Na.dig 1)) H 0 1 2 3 (by rw [nats_up]; rfl) (by rw [nats_up]; rfl) (by rw [nats_up]; rfl) (by rw [nats_up]; rfl))
  rw [(cmp_frk hF hO (tiny_top (by omega)) (tiny_top (by omega))).1, (cmp_frk hF hO (tiny_top (by omega)) (tiny_top (by omega))).2, hsg] at HC
  clear H
  go_wp2_with (go_at_call 14; (with_reducible (first | refine (hM1.out _).mono ?_ | refine (hM2.out _).mono ?_ | refine (hM3.out _).mono ?_ | refine (hM4.out _).mono ?_); rintro e w' ⟨rfl, rfl⟩))
  refine HC.out.mono ?_
  rintro e v3 ⟨rfl, H⟩
  clear HC a0 a1 b0 b1
  rcases Nat.lt_or_ge y x with hxy | hxy
  · have hs1 : sg = 1 := by rw [← hsg]; unfold Na.sgn; rw [if_neg (by omega), if_pos (by omega)]
    subst hs1
    clear hsg
    have HP : Hid (FrK 1 1 ∧ 1 ≤ 1 ∧ 1 ≤ 4096) := ⟨hO, by omega, by omega⟩
    have a0 := H.p0 1 rfl
    have a1 := H.p1 1 rfl
    have z0 := H.p0 0 rfl
    have z1 := H.p1 0 rfl
    have f0 := H.pf 0 rfl 0
    have f1 := H.pf 0 rfl 1
    have Z3 := H.set0 0 rfl (.slice B1 m1 d1)
    simp only [List.set_cons_zero] at Z3
    have Z4 := Z3.set1 0 rfl (.slice B2 m2 d2)
    simp only [List.set_cons_zero] at Z4
    clear H Z3
    have H := Z4
    clear Z4
    have a0 := H.p0 1 rfl
    have a1 := H.p1 1 rfl
    have b0 := H.p0 0 rfl
    have b1 := H.p1 0 rfl
    have HC := Lib.hid (qrSub_any (p := Na.up (Na.dig 1)) (q := Na.up (Na.dig 1)) (r := Na.up (Na.dig 1)) (s := Na.up (Na.dig 1)) H 2 3 2 3 (by rw [nats_up]; rfl) (by rw [nats_up]; rfl) (by rw [nats_up]; rfl) (by rw [nats_up]; rfl))
    rw [(sub_one HP.out.1 HP.out.2.1).1] at HC
    clear H
    go_wp2_with (go_at_call 14; (with_reducible (first | refine (hM1.out _).mono ?_ | refine (hM2.out _).mono ?_ | refine (hM3.out _).mono ?_ | refine (hM4.out _).mono ?_); rintro e w' ⟨rfl, rfl⟩))
    refine HC.out.mono ?_
    rintro e v4 ⟨Q1, q1, q2, Q2, q3, q4, rfl, G⟩
    clear HC a0 a1 b0 b1
    have H := G.pair (.slice Q1 q1 q2) (.slice Q2 q3 q4) 26
    simp only [nil_append, cons_append] at H
    clear G
    have HQ := Lib.hid (sub_one HP.out.1 HP.out.2.1).2
    have h := H.arr #[.int .i64 (k : Int), .int .i64 ((k : Int) + 1)] 2 rfl (by omega) 3
    simp only [World.size_alloc, nil_append, cons_append] at h
    have HO := Lib.hid h
    clear h H
    go_wp2_with fail
    go_loopw [72] (fun v wr => ROrd w [(⟨A1, n1, c1, nats (Na.dig x)⟩ : Ob), (⟨A2, n2, c2, nats (Na.dig y)⟩ : Ob), (⟨B1, m1, d1, nats (Na.dig 1)⟩ : Ob), (⟨B2, m2, d2, nats (Na.dig 1)⟩ : Ob), (⟨Q1, q1, q2, nats (Na.dig (1 - 1))⟩ : Ob), (⟨Q2, q3, q4, nats (Na.dig 1)⟩ : Ob)] [Rw.pair v1.heap.size 26 (.slice B1 m1 d1) (.slice B2 m2 d2), Rw.pair v2.heap.size 26 (.slice B1 m1 d1) (.slice B2 m2 d2), Rw.pair v4.heap.size 26 (.slice Q1 q1 q2) (.slice Q2 q3 q4), (⟨some ⟨v4.heap.size + 1, 0, none⟩, 2, 2, 3, [.int .i64 (k : Int), .int .i64 ((k : Int) + 1)]⟩ : Rw)] v wr) (fun v _ => 2 - (intOf v).toNat)
    case atStart => exact ⟨0, by omega, rfl, HO⟩
    case round =>
      clear HO
      obtain ⟨i, hi, rfl, HO⟩ := hrel
      rcases (show i = 2 ∨ i = 0 ∨ i = 1 by omega) with rfl | rfl | rfl
      · have HE := Lib.hid (binF_all (n := n) (by omega) HP.out.1 HP.out.2.1 HP.out.2.2)
        have a0 := HO.out.p0 0 rfl
        have a1 := HO.out.p1 0 rfl
        have H := HO.out
        clear HO
        have HC := Lib.hid (t_binom_any (p := Na.up (Na.dig 1)) (q := Na.up (Na.dig 1)) H 2 3 (n : Int) 0 (by rw [nats_up]; rfl) (by rw [nats_up]; rfl) HT.out (by omega))
        rw [HE.out] at HC
        clear H
        go_wp2_with (go_at_call 14; (with_reducible (first | refine (hM1.out _).mono ?_ | refine (hM2.out _).mono ?_ | refine (hM3.out _).mono ?_ | refine (hM4.out _).mono ?_); rintro e w' ⟨rfl, rfl⟩))
        refine HC.out.mono ?_
        rintro e v5 ⟨C1, e1, g1, C2, e2, g2, rfl, G⟩
        clear HC a0 a1
        have H := G.pair (.slice C1 e1 g1) (.slice C2 e2 g2) 26
        simp only [nil_append, cons_append] at H
        clear G
        have a0 := H.p0 4 rfl
        have a1 := H.p1 4 rfl
        have b0 := H.p0 1 rfl
        have b1 := H.p1 1 rfl
        have HC := Lib.hid (qrprint_ok (x := 1) (y := 1) H 6 7 rfl rfl (tiny_top (by omega)) (tiny_top (by omega)) (rv_low (tiny_top (by omega)) (tiny_top (by omega)) (by omega) (by decide)))
        rw [text_11o] at HC
        clear H
        go_wp2_with (go_at_call 14; (with_reducible (first | refine (hM1.out _).mono ?_ | refine (hM2.out _).mono ?_ | refine (hM3.out _).mono ?_ | refine (hM4.out _).mono ?_); rintro e w' ⟨rfl, rfl⟩))
        refine HC.out.mono ?_
        rintro e v6 ⟨rfl, H⟩
        clear HC a0 a1 b0 b1
        have b0 := H.p0 1 rfl
        have HC := Lib.hid (rprt_d_ow (x := 1) H 2 rfl (tiny_top (by omega)))
        rw [text_1o] at HC
        clear H
        go_wp2_with (go_at_call 14; (with_reducible (first | refine (hM1.out _).mono ?_ | refine (hM2.out _).mono ?_ | refine (hM3.out _).mono ?_ | refine (hM4.out _).mono ?_); rintro e w' ⟨rfl, rfl⟩))
        refine HC.out.mono ?_
        rintro e v7 ⟨rfl, H⟩
        clear HC b0
        have HC := Lib.hid (awake23_ow H HT.out)
        clear H
        go_wp2_with (go_at_call 14; (with_reducible (first | refine (hM1.out _).mono ?_ | refine (hM2.out _).mono ?_ | refine (hM3.out _).mono ?_ | refine (hM4.out _).mono ?_); rintro e w' ⟨rfl, rfl⟩))
        refine HC.out.mono ?_
        rintro e v8 ⟨rfl, H⟩
        clear HC
        have HB := Lib.hid H.below
        clear H
        go_wp2_with fail
        go_ret
        exact ⟨rfl, HB.out⟩
      · have ca := cell_row HO.out (i := 3) rfl (k := 0) (v := .int .i64 (k : Int)) rfl (by omega)
        obtain ⟨x1, y1, x2, y2, x3, y3, K0⟩ := ord_round (n := n) (x := 1) (y := 1) (h := k) (by omega) HP.out.1.pos HP.out.2.1 HP.out.2.2
        have K := Lib.hid K0
        clear K0
        have E1 : Hid (binF (n : Int) (k : Int) (Na.up (Na.dig 1)) (Na.up (Na.dig 1)) = (x1, y1, 0)) := by
          unfold Hid
          rw [binF_low (n := n) (h := (k : Int)) (by omega) HP.out.1 HP.out.2.1 HP.out.2.2, show ((k : Int)).toNat = k by omega]
          exact K.out.e1
        have E2 : Hid (binF (n : Int) ((k : Int) + 1) (Na.up (Na.dig 1)) (Na.up (Na.dig 1)) = (x2, y2, 0)) := by
          unfold Hid
          rw [binF_low (n := n) (h := (k : Int) + 1) (by omega) HP.out.1 HP.out.2.1 HP.out.2.2, show ((k : Int) + 1).toNat = k + 1 by omega]
          exact K.out.e2
        have E3 : Hid (binF (n : Int) ((n : Int) - (k : Int) + 1) (Na.up (Na.dig (1 - 1))) (Na.up (Na.dig 1)) = (x3, y3, 0)) := by
          unfold Hid
          have h9 := K.out.e3
          rw [binF_low (n := n) (h := (n : Int) - (k : Int) + 1) (by omega) HQ.out (Nat.sub_le _ _) HP.out.2.2, show 1 - (1 - 1) = 1 by have := HP.out.2.1; omega]
          exact h9
        have u1 : IntKind.i64.wrap ((k : Int) + 1) = (k : Int) + 1 := IntWalk.i64_in _ (by omega)
        have u2 : IntKind.i64.wrap ((n : Int) - (k : Int)) = (n : Int) - (k : Int) := IntWalk.i64_in _ (by omega)
        have u3 : IntKind.i64.wrap ((n : Int) - (k : Int) + 1) = (n : Int) - (k : Int) + 1 := IntWalk.i64_in _ (by omega)
        have a0 := HO.out.p0 0 rfl
        have a1 := HO.out.p1 0 rfl
        have H := HO.out
        clear HO
        have HC := Lib.hid (t_binom_any (p := Na.up (Na.dig 1)) (q := Na.up (Na.dig 1)) H 2 3 (n : Int) (k : Int) (by rw [nats_up]; rfl) (by rw [nats_up]; rfl) HT.out (by omega))
        rw [E1.out] at HC
        clear H
        go_wp2_with (go_at_call 14; (with_reducible (first | refine (hM1.out _).mono ?_ | refine (hM2.out _).mono ?_ | refine (hM3.out _).mono ?_ | refine (hM4.out _).mono ?_); rintro e w' ⟨rfl, rfl⟩))
        refine HC.out.mono ?_
        rintro e v9 ⟨C1, e1, g1, C2, e2, g2, rfl, G⟩
        clear HC a0 a1 ca
        have H := G.pair (.slice C1 e1 g1) (.slice C2 e2 g2) 26
        simp only [nil_append, cons_append] at H
        clear G
        have a0 := H.p0 0 rfl
        have a1 := H.p1 0 rfl
        have HC := Lib.hid (t_binom_any (p := Na.up (Na.dig 1)) (q := Na.up (Na.dig 1)) H 2 3 (n : Int) ((k : Int) + 1) (by rw [nats_up]; rfl) (by rw [nats_up]; rfl) HT.out (by omega))
        rw [E2.out] at HC
        clear H
        go_wp2_with (go_at_call 14; (with_reducible (first | refine (hM1.out _).mono ?_ | refine (hM2.out _).mono ?_ | refine (hM3.out _).mono ?_ | refine (hM4.out _).mono ?_); rintro e w' ⟨rfl, rfl⟩))
        refine HC.out.mono ?_
        rintro e v10 ⟨C3, e3, g3, C4, e4, g4, rfl, G⟩
        clear HC a0 a1
        have H := G.pair (.slice C3 e3 g3) (.slice C4 e4 g4) 26
        simp only [nil_append, cons_append] at H
        clear G
        have a0 := H.p0 2 rfl
        have a1 := H.p1 2 rfl
        have HC := Lib.hid (t_binom_any (p := Na.up (Na.dig (1 - 1))) (q := Na.up (Na.dig 1)) H 4 5 (n : Int) ((n : Int) - (k : Int) + 1) (by rw [nats_up]; rfl) (by rw [nats_up]; rfl) HT.out (by omega))
        rw [E3.out] at HC
        clear H
        go_wp2_with (go_at_call 14; (with_reducible (first | refine (hM1.out _).mono ?_ | refine (hM2.out _).mono ?_ | refine (hM3.out _).mono ?_ | refine (hM4.out _).mono ?_); rintro e w' ⟨rfl, rfl⟩))
        refine HC.out.mono ?_
        rintro e v11 ⟨C5, e5, g5, C6, e6, g6, rfl, G⟩
        clear HC a0 a1
        have H := G.pair (.slice C5 e5 g5) (.slice C6 e6 g6) 26
        simp only [nil_append, cons_append] at H
        clear G
        have a0 := H.p0 4 rfl
        have a1 := H.p1 4 rfl
        have HC := Lib.hid (qrvalid_ow (p := Na.up (Na.dig x1)) (q := Na.up (Na.dig y1)) H 6 7 (by rw [nats_up]; rfl) (by rw [nats_up]; rfl))
        rw [K.out.F1.rv] at HC
        clear H
        go_wp2_with (go_at_call 14; (with_reducible (first | refine (hM1.out _).mono ?_ | refine (hM2.out _).mono ?_ | refine (hM3.out _).mono ?_ | refine (hM4.out _).mono ?_); rintro e w' ⟨rfl, rfl⟩))
        refine HC.out.mono ?_
        rintro e v12 ⟨rfl, H⟩
        clear HC a0 a1
        have a0 := H.p0 5 rfl
        have a1 := H.p1 5 rfl
        have HC := Lib.hid (qrvalid_ow (p := Na.up (Na.dig x2)) (q := Na.up (Na.dig y2)) H 8 9 (by rw [nats_up]; rfl) (by rw [nats_up]; rfl))
        rw [K.out.F2.rv] at HC
        clear H
        go_wp2_with (go_at_call 14; (with_reducible (first | refine (hM1.out _).mono ?_ | refine (hM2.out _).mono ?_ | refine (hM3.out _).mono ?_ | refine (hM4.out _).mono ?_); rintro e w' ⟨rfl, rfl⟩))
        refine HC.out.mono ?_
        rintro e v13 ⟨rfl, H⟩
        clear HC a0 a1
        have a0 := H.p0 6 rfl
        have a1 := H.p1 6 rfl
        have HC := Lib.hid (qrvalid_ow (p := Na.up (Na.dig x3)) (q := Na.up (Na.dig y3)) H 10 11 (by rw [nats_up]; rfl) (by rw [nats_up]; rfl))
        rw [K.out.F3.rv] at HC
        clear H
        go_wp2_with (go_at_call 14; (with_reducible (first | refine (hM1.out _).mono ?_ | refine (hM2.out _).mono ?_ | refine (hM3.out _).mono ?_ | refine (hM4.out _).mono ?_); rintro e w' ⟨rfl, rfl⟩))
        refine HC.out.mono ?_
        rintro e v14 ⟨rfl, H⟩
        clear HC a0 a1
        have a0 := H.p0 4 rfl
        have a1 := H.p1 4 rfl
        have b0 := H.p0 5 rfl
        have b1 := H.p1 5 rfl
        obtain ⟨sg, hsg⟩ : ∃ z, Na.sgn (x1 * y2) (x2 * y1) = z := ⟨_, rfl⟩
        have HC := Lib.hid (qrcmp_any (p := Na.up (Na.dig x1)) (q := Na.up (Na.dig y1)) (r := Na.up (Na.dig x2)) (s := Na.up (Na.dig y2)) H 6 7 8 9 (by rw [nats_up]; rfl) (by rw [nats_up]; rfl) (by rw [nats_up]; rfl) (by rw [nats_up]; rfl))
        rw [(cmp_frk K.out.F1 K.out.F2 K.out.p12 K.out.p21).1, (cmp_frk K.out.F1 K.out.F2 K.out.p12 K.out.p21).2, hsg] at HC
        clear H
        go_wp2_with (go_at_call 14; (with_reducible (first | refine (hM1.out _).mono ?_ | refine (hM2.out _).mono ?_ | refine (hM3.out _).mono ?_ | refine (hM4.out _).mono ?_); rintro e w' ⟨rfl, rfl⟩))
        refine HC.out.mono ?_
        rintro e v15 ⟨rfl, H⟩
        clear HC a0 a1 b0 b1
        have hs2 : decide (sg < 0) = false := decide_eq_false (by have := sgn_nn K.out.le; omega)
        clear hsg
        have a0 := H.p0 4 rfl
        have a1 := H.p1 4 rfl
        have b0 := H.p0 6 rfl
        have b1 := H.p1 6 rfl
        have HC := Lib.hid (qrAdd_any (p := Na.up (Na.dig x1)) (q := Na.up (Na.dig y1)) (r := Na.up (Na.dig x3)) (s := Na.up (Na.dig y3)) H 6 7 10 11 (by rw [nats_up]; rfl) (by rw [nats_up]; rfl) (by rw [nats_up]; rfl) (by rw [nats_up]; rfl))
        rw [addF_low K.out.F1.px K.out.F1.py K.out.F3.px K.out.F3.py K.out.F1.pos K.out.F3.pos K.out.F1.g K.out.F3.g K.out.s13 K.out.q13, K.out.sum] at HC
        clear H
        go_wp2_with (go_at_call 14; (with_reducible (first | refine (hM1.out _).mono ?_ | refine (hM2.out _).mono ?_ | refine (hM3.out _).mono ?_ | refine (hM4.out _).mono ?_); rintro e w' ⟨rfl, rfl⟩))
        refine HC.out.mono ?_
        rintro e v16 ⟨C7, e7, g7, C8, e8, g8, rfl, G⟩
        clear HC a0 a1 b0 b1
        have H := G.pair (.slice C7 e7 g7) (.slice C8 e8 g8) 26
        simp only [nil_append, cons_append] at H
        clear G
        have a0 := H.p0 7 rfl
        have a1 := H.p1 7 rfl
        have HC := Lib.hid (qrprint_ok (x := 1) (y := 1) H 12 13 rfl rfl (tiny_top (by omega)) (tiny_top (by omega)) (rv_low (tiny_top (by omega)) (tiny_top (by omega)) (by omega) (by decide)))
        rw [text_11o] at HC
        clear H
        go_wp2_with (go_at_call 14; (with_reducible (first | refine (hM1.out _).mono ?_ | refine (hM2.out _).mono ?_ | refine (hM3.out _).mono ?_ | refine (hM4.out _).mono ?_); rintro e w' ⟨rfl, rfl⟩))
        refine HC.out.mono ?_
        rintro e v17 ⟨rfl, H⟩
        clear HC a0 a1
        obtain ⟨r1, s1, t1, g1⟩ : ∃ u v t, hypF (n : Int) (m : Int) (d : Int) (k : Int) = (u, v, t) := ⟨_, _, _, rfl⟩
        have hz0 := hypF_ok (n := n) (m := m) (d := d) (h := (k : Int)) (by omega) hmn hdn
        rw [g1] at hz0
        obtain rfl : t1 = 0 := hz0
        have g2 : hypF (n : Int) (d : Int) (m : Int) (k : Int) = (r1, s1, 0) := (hypF_exch (by omega) hmn hdn).symm.trans g1
        have G1 := Lib.hid g1
        have G2 := Lib.hid g2
        clear g1 g2
        have HC := Lib.hid (t_hyper_any H (n : Int) (m : Int) (d : Int) (k : Int) HT.out (by omega))
        rw [G1.out] at HC
        clear H
        go_wp2_with (go_at_call 14; (with_reducible (first | refine (hM1.out _).mono ?_ | refine (hM2.out _).mono ?_ | refine (hM3.out _).mono ?_ | refine (hM4.out _).mono ?_); rintro e w' ⟨rfl, rfl⟩))
        refine HC.out.mono ?_
        rintro e v18 ⟨C9, e9, g9, C10, e10, g10, rfl, G⟩
        clear HC
        have H := G.pair (.slice C9 e9 g9) (.slice C10 e10 g10) 26
        simp only [nil_append, cons_append] at H
        clear G
        have HC := Lib.hid (t_hyper_any H (n : Int) (d : Int) (m : Int) (k : Int) HT.out (by omega))
        rw [G2.out] at HC
        clear H
        go_wp2_with (go_at_call 14; (with_reducible (first | refine (hM1.out _).mono ?_ | refine (hM2.out _).mono ?_ | refine (hM3.out _).mono ?_ | refine (hM4.out _).mono ?_); rintro e w' ⟨rfl, rfl⟩))
        refine HC.out.mono ?_
        rintro e v19 ⟨C11, e11, g11, C12, e12, g12, rfl, G⟩
        clear HC
        have H := G.pair (.slice C11 e11 g11) (.slice C12 e12 g12) 26
        simp only [nil_append, cons_append] at H
        clear G
        have a0 := H.p0 8 rfl
        have a1 := H.p1 8 rfl
        have b0 := H.p0 9 rfl
        have b1 := H.p1 9 rfl
        have HC := Lib.hid (same23 (p := Na.up (Na.dig r1)) (q := Na.up (Na.dig s1)) H 14 15 16 17 (by rw [nats_up]; rfl) (by rw [nats_up]; rfl) (by rw [nats_up]; rfl) (by rw [nats_up]; rfl) 0)
        clear H
        go_wp2_with (go_at_call 14; (with_reducible (first | refine (hM1.out _).mono ?_ | refine (hM2.out _).mono ?_ | refine (hM3.out _).mono ?_ | refine (hM4.out _).mono ?_); rintro e w' ⟨rfl, rfl⟩))
        refine HC.out.mono ?_
        rintro e v20 ⟨rfl, H⟩
        clear HC a0 a1 b0 b1
        have HN := Lib.hid ((Ow.fewO (O := [Rw.pair v1.heap.size 26 (.slice B1 m1 d1) (.slice B2 m2 d2), Rw.pair v2.heap.size 26 (.slice B1 m1 d1) (.slice B2 m2 d2), Rw.pair v4.heap.size 26 (.slice Q1 q1 q2) (.slice Q2 q3 q4), (⟨some ⟨v4.heap.size + 1, 0, none⟩, 2, 2, 3, [.int .i64 (k : Int), .int .i64 ((k : Int) + 1)]⟩ : Rw)]) H).less (L' := [(⟨A1, n1, c1, nats (Na.dig x)⟩ : Ob), (⟨A2, n2, c2, nats (Na.dig y)⟩ : Ob), (⟨B1, m1, d1, nats (Na.dig 1)⟩ : Ob), (⟨B2, m2, d2, nats (Na.dig 1)⟩ : Ob), (⟨Q1, q1, q2, nats (Na.dig (1 - 1))⟩ : Ob), (⟨Q2, q3, q4, nats (Na.dig 1)⟩ : Ob)]) (fun o ho => List.mem_append_left _ ho))
        clear H K E1 E2 E3 G1 G2
        go_wp2_with fail
        go_roundw
        case rel => exact ⟨1, by omega, int_eqv (by omega), HN⟩
        case measure => simp [intOf]
      · have ca := cell_row HO.out (i := 3) rfl (k := 1) (v := .int .i64 ((k : Int) + 1)) rfl (by omega)
        obtain ⟨x1, y1, x2, y2, x3, y3, K0⟩ := ord_round (n := n) (x := 1) (y := 1) (h := (k + 1)) (by omega) HP.out.1.pos HP.out.2.1 HP.out.2.2
        have K := Lib.hid K0
        clear K0
        have E1 : Hid (binF (n : Int) ((k : Int) + 1) (Na.up (Na.dig 1)) (Na.up (Na.dig 1)) = (x1, y1, 0)) := by
          unfold Hid
          rw [binF_low (n := n) (h := ((k : Int) + 1)) (by omega) HP.out.1 HP.out.2.1 HP.out.2.2, show (((k : Int) + 1)).toNat = (k + 1) by omega]
          exact K.out.e1
        have E2 : Hid (binF (n : Int) (((k : Int) + 1) + 1) (Na.up (Na.dig 1)) (Na.up (Na.dig 1)) = (x2, y2, 0)) := by
          unfold Hid
          rw [binF_low (n := n) (h := ((k : Int) + 1) + 1) (by omega) HP.out.1 HP.out.2.1 HP.out.2.2, show (((k : Int) + 1) + 1).toNat = (k + 1) + 1 by omega]
          exact K.out.e2
        have E3 : Hid (binF (n : Int) ((n : Int) - ((k : Int) + 1) + 1) (Na.up (Na.dig (1 - 1))) (Na.up (Na.dig 1)) = (x3, y3, 0)) := by
          unfold Hid
          have h9 := K.out.e3
          rw [binF_low (n := n) (h := (n : Int) - ((k : Int) + 1) + 1) (by omega) HQ.out (Nat.sub_le _ _) HP.out.2.2, show 1 - (1 - 1) = 1 by have := HP.out.2.1; omega]
          rw [show ((n : Int) - ((k : Int) + 1) + 1).toNat = ((n : Int) - ((k + 1 : Nat) : Int) + 1).toNat by omega]; exact h9
        have u1 : IntKind.i64.wrap (((k : Int) + 1) + 1) = ((k : Int) + 1) + 1 := IntWalk.i64_in _ (by omega)
        have u2 : IntKind.i64.wrap ((n : Int) - ((k : Int) + 1)) = (n : Int) - ((k : Int) + 1) := IntWalk.i64_in _ (by omega)
        have u3 : IntKind.i64.wrap ((n : Int) - ((k : Int) + 1) + 1) = (n : Int) - ((k : Int) + 1) + 1 := IntWalk.i64_in _ (by omega)
        have a0 := HO.out.p0 0 rfl
        have a1 := HO.out.p1 0 rfl
        have H := HO.out
        clear HO
        have HC := Lib.hid (t_binom_any (p := Na.up (Na.dig 1)) (q := Na.up (Na.dig 1)) H 2 3 (n : Int) ((k : Int) + 1) (by rw [nats_up]; rfl) (by rw [nats_up]; rfl) HT.out (by omega))
        rw [E1.out] at HC
        clear H
        go_wp2_with (go_at_call 14; (with_reducible (first | refine (hM1.out _).mono ?_ | refine (hM2.out _).mono ?_ | refine (hM3.out _).mono ?_ | refine (hM4.out _).mono ?_); rintro e w' ⟨rfl, rfl⟩))
        refine HC.out.mono ?_
        rintro e v21 ⟨C1, e1, g1, C2, e2, g2, rfl, G⟩
        clear HC a0 a1 ca
        have H := G.pair (.slice C1 e1 g1) (.slice C2 e2 g2) 26
        simp only [nil_append, cons_append] at H
        clear G
        have a0 := H.p0 0 rfl
        have a1 := H.p1 0 rfl
        have HC := Lib.hid (t_binom_any (p := Na.up (Na.dig 1)) (q := Na.up (Na.dig 1)) H 2 3 (n : Int) (((k : Int) + 1) + 1) (by rw [nats_up]; rfl) (by rw [nats_up]; rfl) HT.out (by omega))
        rw [E2.out] at HC
        clear H
        go_wp2_with (go_at_call 14; (with_reducible (first | refine (hM1.out _).mono ?_ | refine (hM2.out _).mono ?_ | refine (hM3.out _).mono ?_ | refine (hM4.out _).mono ?_); rintro e w' ⟨rfl, rfl⟩))
        refine HC.out.mono ?_
        rintro e v22 ⟨C3, e3, g3, C4, e4, g4, rfl, G⟩
        clear HC a0 a1
        have H := G.pair (.slice C3 e3 g3) (.slice C4 e4 g4) 26
        simp only [nil_append, cons_append] at H
        clear G
        have a0 := H.p0 2 rfl
        have a1 := H.p1 2 rfl
        have HC := Lib.hid (t_binom_any (p := Na.up (Na.dig (1 - 1))) (q := Na.up (Na.dig 1)) H 4 5 (n : Int) ((n : Int) - ((k : Int) + 1) + 1) (by rw [nats_up]; rfl) (by rw [nats_up]; rfl) HT.out (by omega))
        rw [E3.out] at HC
        clear H
        go_wp2_with (go_at_call 14; (with_reducible (first | refine (hM1.out _).mono ?_ | refine (hM2.out _).mono ?_ | refine (hM3.out _).mono ?_ | refine (hM4.out _).mono ?_); rintro e w' ⟨rfl, rfl⟩))
        refine HC.out.mono ?_
        rintro e v23 ⟨C5, e5, g5, C6, e6, g6, rfl, G⟩
        clear HC a0 a1
        have H := G.pair (.slice C5 e5 g5) (.slice C6 e6 g6) 26
        simp only [nil_append, cons_append] at H
        clear G
        have a0 := H.p0 4 rfl
        have a1 := H.p1 4 rfl
        have HC := Lib.hid (qrvalid_ow (p := Na.up (Na.dig x1)) (q := Na.up (Na.dig y1)) H 6 7 (by rw [nats_up]; rfl) (by rw [nats_up]; rfl))
        rw [K.out.F1.rv] at HC
        clear H
        go_wp2_with (go_at_call 14; (with_reducible (first | refine (hM1.out _).mono ?_ | refine (hM2.out _).mono ?_ | refine (hM3.out _).mono ?_ | refine (hM4.out _).mono ?_); rintro e w' ⟨rfl, rfl⟩))
        refine HC.out.mono ?_
        rintro e v24 ⟨rfl, H⟩
        clear HC a0 a1
        have a0 := H.p0 5 rfl
        have a1 := H.p1 5 rfl
        have HC := Lib.hid (qrvalid_ow (p := Na.up (Na.dig x2)) (q := Na.up (Na.dig y2)) H 8 9 (by rw [nats_up]; rfl) (by rw [nats_up]; rfl))
        rw [K.out.F2.rv] at HC
        clear H
        go_wp2_with (go_at_call 14; (with_reducible (first | refine (hM1.out _).mono ?_ | refine (hM2.out _).mono ?_ | refine (hM3.out _).mono ?_ | refine (hM4.out _).mono ?_); rintro e w' ⟨rfl, rfl⟩))
        refine HC.out.mono ?_
        rintro e v25 ⟨rfl, H⟩
        clear HC a0 a1
        have a0 := H.p0 6 rfl
        have a1 := H.p1 6 rfl
        have HC := Lib.hid (qrvalid_ow (p := Na.up (Na.dig x3)) (q := Na.up (Na.dig y3)) H 10 11 (by rw [nats_up]; rfl) (by rw [nats_up]; rfl))
        rw [K.out.F3.rv] at HC
        clear H
        go_wp2_with (go_at_call 14; (with_reducible (first | refine (hM1.out _).mono ?_ | refine (hM2.out _).mono ?_ | refine (hM3.out _).mono ?_ | refine (hM4.out _).mono ?_); rintro e w' ⟨rfl, rfl⟩))
        refine HC.out.mono ?_
        rintro e v26 ⟨rfl, H⟩
        clear HC a0 a1
        have a0 := H.p0 4 rfl
        have a1 := H.p1 4 rfl
        have b0 := H.p0 5 rfl
        have b1 := H.p1 5 rfl
        obtain ⟨sg, hsg⟩ : ∃ z, Na.sgn (x1 * y2) (x2 * y1) = z := ⟨_, rfl⟩
        have HC := Lib.hid (qrcmp_any (p := Na.up (Na.dig x1)) (q := Na.up (Na.dig y1)) (r := Na.up (Na.dig x2)) (s := Na.up (Na.dig y2)) H 6 7 8 9 (by rw [nats_up]; rfl) (by rw [nats_up]; rfl) (by rw [nats_up]; rfl) (by rw [nats_up]; rfl))
        rw [(cmp_frk K.out.F1 K.out.F2 K.out.p12 K.out.p21).1, (cmp_frk K.out.F1 K.out.F2 K.out.p12 K.out.p21).2, hsg] at HC
        clear H
        go_wp2_with (go_at_call 14; (with_reducible (first | refine (hM1.out _).mono ?_ | refine (hM2.out _).mono ?_ | refine (hM3.out _).mono ?_ | refine (hM4.out _).mono ?_); rintro e w' ⟨rfl, rfl⟩))
        refine HC.out.mono ?_
        rintro e v27 ⟨rfl, H⟩
        clear HC a0 a1 b0 b1
        have hs2 : decide (sg < 0) = false := decide_eq_false (by have := sgn_nn K.out.le; omega)
        clear hsg
        have a0 := H.p0 4 rfl
        have a1 := H.p1 4 rfl
        have b0 := H.p0 6 rfl
        have b1 := H.p1 6 rfl
        have HC := Lib.hid (qrAdd_any (p := Na.up (Na.dig x1)) (q := Na.up (Na.dig y1)) (r := Na.up (Na.dig x3)) (s := Na.up (Na.dig y3)) H 6 7 10 11 (by rw [nats_up]; rfl) (by rw [nats_up]; rfl) (by rw [nats_up]; rfl) (by rw [nats_up]; rfl))
        rw [addF_low K.out.F1.px K.out.F1.py K.out.F3.px K.out.F3.py K.out.F1.pos K.out.F3.pos K.out.F1.g K.out.F3.g K.out.s13 K.out.q13, K.out.sum] at HC
        clear H
        go_wp2_with (go_at_call 14; (with_reducible (first | refine (hM1.out _).mono ?_ | refine (hM2.out _).mono ?_ | refine (hM3.out _).mono ?_ | refine (hM4.out _).mono ?_); rintro e w' ⟨rfl, rfl⟩))
        refine HC.out.mono ?_
        rintro e v28 ⟨C7, e7, g7, C8, e8, g8, rfl, G⟩
        clear HC a0 a1 b0 b1
        have H := G.pair (.slice C7 e7 g7) (.slice C8 e8 g8) 26
        simp only [nil_append, cons_append] at H
        clear G
        have a0 := H.p0 7 rfl
        have a1 := H.p1 7 rfl
        have HC := Lib.hid (qrprint_ok (x := 1) (y := 1) H 12 13 rfl rfl (tiny_top (by omega)) (tiny_top (by omega)) (rv_low (tiny_top (by omega)) (tiny_top (by omega)) (by omega) (by decide)))
        rw [text_11o] at HC
        clear H
        go_wp2_with (go_at_call 14; (with_reducible (first | refine (hM1.out _).mono ?_ | refine (hM2.out _).mono ?_ | refine (hM3.out _).mono ?_ | refine (hM4.out _).mono ?_); rintro e w' ⟨rfl, rfl⟩))
        refine HC.out.mono ?_
        rintro e v29 ⟨rfl, H⟩
        clear HC a0 a1
        obtain ⟨r1, s1, t1, g1⟩ : ∃ u v t, hypF (n : Int) (m : Int) (d : Int) ((k : Int) + 1) = (u, v, t) := ⟨_, _, _, rfl⟩
        have hz0 := hypF_ok (n := n) (m := m) (d := d) (h := ((k : Int) + 1)) (by omega) hmn hdn
        rw [g1] at hz0
        obtain rfl : t1 = 0 := hz0
        have g2 : hypF (n : Int) (d : Int) (m : Int) ((k : Int) + 1) = (r1, s1, 0) := (hypF_exch (by omega) hmn hdn).symm.trans g1
        have G1 := Lib.hid g1
        have G2 := Lib.hid g2
        clear g1 g2
        have HC := Lib.hid (t_hyper_any H (n : Int) (m : Int) (d : Int) ((k : Int) + 1) HT.out (by omega))
        rw [G1.out] at HC
        clear H
        go_wp2_with (go_at_call 14; (with_reducible (first | refine (hM1.out _).mono ?_ | refine (hM2.out _).mono ?_ | refine (hM3.out _).mono ?_ | refine (hM4.out _).mono ?_); rintro e w' ⟨rfl, rfl⟩))
        refine HC.out.mono ?_
        rintro e v30 ⟨C9, e9, g9, C10, e10, g10, rfl, G⟩
        clear HC
        have H := G.pair (.slice C9 e9 g9) (.slice C10 e10 g10) 26
        simp only [nil_append, cons_append] at H
        clear G
        have HC := Lib.hid (t_hyper_any H (n : Int) (d : Int) (m : Int) ((k : Int) + 1) HT.out (by omega))
        rw [G2.out] at HC
        clear H
        go_wp2_with (go_at_call 14; (with_reducible (first | refine (hM1.out _).mono ?_ | refine (hM2.out _).mono ?_ | refine (hM3.out _).mono ?_ | refine (hM4.out _).mono ?_); rintro e w' ⟨rfl, rfl⟩))
        refine HC.out.mono ?_
        rintro e v31 ⟨C11, e11, g11, C12, e12, g12, rfl, G⟩
        clear HC
        have H := G.pair (.slice C11 e11 g11) (.slice C12 e12 g12) 26
        simp only [nil_append, cons_append] at H
        clear G
        have a0 := H.p0 8 rfl
        have a1 := H.p1 8 rfl
        have b0 := H.p0 9 rfl
        have b1 := H.p1 9 rfl
        have HC := Lib.hid (same23 (p := Na.up (Na.dig r1)) (q := Na.up (Na.dig s1)) H 14 15 16 17 (by rw [nats_up]; rfl) (by rw [nats_up]; rfl) (by rw [nats_up]; rfl) (by rw [nats_up]; rfl) 0)
        clear H
        go_wp2_with (go_at_call 14; (with_reducible (first | refine (hM1.out _).mono ?_ | refine (hM2.out _).mono ?_ | refine (hM3.out _).mono ?_ | refine (hM4.out _).mono ?_); rintro e w' ⟨rfl, rfl⟩))
        refine HC.out.mono ?_
        rintro e v32 ⟨rfl, H⟩
        clear HC a0 a1 b0 b1
        have HN := Lib.hid ((Ow.fewO (O := [Rw.pair v1.heap.size 26 (.slice B1 m1 d1) (.slice B2 m2 d2), Rw.pair v2.heap.size 26 (.slice B1 m1 d1) (.slice B2 m2 d2), Rw.pair v4.heap.size 26 (.slice Q1 q1 q2) (.slice Q2 q3 q4), (⟨some ⟨v4.heap.size + 1, 0, none⟩, 2, 2, 3, [.int .i64 (k : Int), .int .i64 ((k : Int) + 1)]⟩ : Rw)]) H).less (L' := [(⟨A1, n1, c1, nats (Na.dig x)⟩ : Ob), (⟨A2, n2, c2, nats (Na.dig y)⟩ : Ob), (⟨B1, m1, d1, nats (Na.dig 1)⟩ : Ob), (⟨B2, m2, d2, nats (Na.dig 1)⟩ : Ob), (⟨Q1, q1, q2, nats (Na.dig (1 - 1))⟩ : Ob), (⟨Q2, q3, q4, nats (Na.dig 1)⟩ : Ob)]) (fun o ho => List.mem_append_left _ ho))
        clear H K E1 E2 E3 G1 G2
        go_wp2_with fail
        go_roundw
        case rel => exact ⟨2, by omega, int_eqv (by omega), HN⟩
        case measure => simp [intOf]
  · have hs1 : sg ≤ 0 := by rw [← hsg]; exact sgn_np (by omega)
    have hs2 : decide (0 < sg) = false := decide_eq_false (by omega)
    have HP : Hid (FrK x y ∧ x ≤ y ∧ y ≤ 4096) := ⟨hF, hxy, hy⟩
    have a0 := H.p0 1 rfl
    have a1 := H.p1 1 rfl
    have b0 := H.p0 0 rfl
    have b1 := H.p1 0 rfl
    have HC := Lib.hid (qrSub_any (p := Na.up (Na.dig 1)) (q := Na.up (Na.dig 1)) (r := Na.up (Na.dig x)) (s := Na.up (Na.dig y)) H 2 3 0 1 (by rw [nats_up]; rfl) (by rw [nats_up]; rfl) (by rw [nats_up]; rfl) (by rw [nats_up]; rfl))
    rw [(sub_one HP.out.1 HP.out.2.1).1] at HC
    clear H
    go_wp2_with (go_at_call 14; (with_reducible (first | refine (hM1.out _).mono ?_ | refine (hM2.out _).mono ?_ | refine (hM3.out _).mono ?_ | refine (hM4.out _).mono ?_); rintro e w' ⟨rfl, rfl⟩))
    refine HC.out.mono ?_
    rintro e v33 ⟨Q1, q1, q2, Q2, q3, q4, rfl, G⟩
    clear HC a0 a1 b0 b1
    have H := G.pair (.slice Q1 q1 q2) (.slice Q2 q3 q4) 26
    simp only [nil_append, cons_append] at H
    clear G
    have HQ := Lib.hid (sub_one HP.out.1 HP.out.2.1).2
    have h := H.arr #[.int .i64 (k : Int), .int .i64 ((k : Int) + 1)] 2 rfl (by omega) 3
    simp only [World.size_alloc, nil_append, cons_append] at h
    have HO := Lib.hid h
    clear h H
    go_wp2_with fail
    go_loopw [72] (fun v wr => ROrd w [(⟨A1, n1, c1, nats (Na.dig x)⟩ : Ob), (⟨A2, n2, c2, nats (Na.dig y)⟩ : Ob), (⟨B1, m1, d1, nats (Na.dig 1)⟩ : Ob), (⟨B2, m2, d2, nats (Na.dig 1)⟩ : Ob), (⟨Q1, q1, q2, nats (Na.dig (y - x))⟩ : Ob), (⟨Q2, q3, q4, nats (Na.dig y)⟩ : Ob)] [Rw.pair v1.heap.size 26 (.slice A1 n1 c1) (.slice A2 n2 c2), Rw.pair v2.heap.size 26 (.slice B1 m1 d1) (.slice B2 m2 d2), Rw.pair v33.heap.size 26 (.slice Q1 q1 q2) (.slice Q2 q3 q4), (⟨some ⟨v33.heap.size + 1, 0, none⟩, 2, 2, 3, [.int .i64 (k : Int), .int .i64 ((k : Int) + 1)]⟩ : Rw)] v wr) (fun v _ => 2 - (intOf v).toNat)
    case atStart => exact ⟨0, by omega, rfl, HO⟩
    case round =>
      clear HO
      obtain ⟨i, hi, rfl, HO⟩ := hrel
      rcases (show i = 2 ∨ i = 0 ∨ i = 1 by omega) with rfl | rfl | rfl
      · have HE := Lib.hid (binF_all (n := n) (by omega) HP.out.1 HP.out.2.1 HP.out.2.2)
        have a0 := HO.out.p0 0 rfl
        have a1 := HO.out.p1 0 rfl
        have H := HO.out
        clear HO
        have HC := Lib.hid (t_binom_any (p := Na.up (Na.dig x)) (q := Na.up (Na.dig y)) H 0 1 (n : Int) 0 (by rw [nats_up]; rfl) (by rw [nats_up]; rfl) HT.out (by omega))
        rw [HE.out] at HC
        clear H
        go_wp2_with (go_at_call 14; (with_reducible (first | refine (hM1.out _).mono ?_ | refine (hM2.out _).mono ?_ | refine (hM3.out _).mono ?_ | refine (hM4.out _).mono ?_); rintro e w' ⟨rfl, rfl⟩))
        refine HC.out.mono ?_
        rintro e v34 ⟨C1, e1, g1, C2, e2, g2, rfl, G⟩
        clear HC a0 a1
        have H := G.pair (.slice C1 e1 g1) (.slice C2 e2 g2) 26
        simp only [nil_append, cons_append] at H
        clear G
        have a0 := H.p0 4 rfl
        have a1 := H.p1 4 rfl
        have b0 := H.p0 1 rfl
        have b1 := H.p1 1 rfl
        have HC := Lib.hid (qrprint_ok (x := 1) (y := 1) H 6 7 rfl rfl (tiny_top (by omega)) (tiny_top (by omega)) (rv_low (tiny_top (by omega)) (tiny_top (by omega)) (by omega) (by decide)))
        rw [text_11o] at HC
        clear H
        go_wp2_with (go_at_call 14; (with_reducible (first | refine (hM1.out _).mono ?_ | refine (hM2.out _).mono ?_ | refine (hM3.out _).mono ?_ | refine (hM4.out _).mono ?_); rintro e w' ⟨rfl, rfl⟩))
        refine HC.out.mono ?_
        rintro e v35 ⟨rfl, H⟩
        clear HC a0 a1 b0 b1
        have b0 := H.p0 1 rfl
        have HC := Lib.hid (rprt_d_ow (x := 1) H 2 rfl (tiny_top (by omega)))
        rw [text_1o] at HC
        clear H
        go_wp2_with (go_at_call 14; (with_reducible (first | refine (hM1.out _).mono ?_ | refine (hM2.out _).mono ?_ | refine (hM3.out _).mono ?_ | refine (hM4.out _).mono ?_); rintro e w' ⟨rfl, rfl⟩))
        refine HC.out.mono ?_
        rintro e v36 ⟨rfl, H⟩
        clear HC b0
        have HC := Lib.hid (awake23_ow H HT.out)
        clear H
        go_wp2_with (go_at_call 14; (with_reducible (first | refine (hM1.out _).mono ?_ | refine (hM2.out _).mono ?_ | refine (hM3.out _).mono ?_ | refine (hM4.out _).mono ?_); rintro e w' ⟨rfl, rfl⟩))
        refine HC.out.mono ?_
        rintro e v37 ⟨rfl, H⟩
        clear HC
        have HB := Lib.hid H.below
        clear H
        go_wp2_with fail
        go_ret
        exact ⟨rfl, HB.out⟩
      · have ca := cell_row HO.out (i := 3) rfl (k := 0) (v := .int .i64 (k : Int)) rfl (by omega)
        obtain ⟨x1, y1, x2, y2, x3, y3, K0⟩ := ord_round (n := n) (x := x) (y := y) (h := k) (by omega) HP.out.1.pos HP.out.2.1 HP.out.2.2
        have K := Lib.hid K0
        clear K0
        have E1 : Hid (binF (n : Int) (k : Int) (Na.up (Na.dig x)) (Na.up (Na.dig y)) = (x1, y1, 0)) := by
          unfold Hid
          rw [binF_low (n := n) (h := (k : Int)) (by omega) HP.out.1 HP.out.2.1 HP.out.2.2, show ((k : Int)).toNat = k by omega]
          exact K.out.e1
        have E2 : Hid (binF (n : Int) ((k : Int) + 1) (Na.up (Na.dig x)) (Na.up (Na.dig y)) = (x2, y2, 0)) := by
          unfold Hid
          rw [binF_low (n := n) (h := (k : Int) + 1) (by omega) HP.out.1 HP.out.2.1 HP.out.2.2, show ((k : Int) + 1).toNat = k + 1 by omega]
          exact K.out.e2
        have E3 : Hid (binF (n : Int) ((n : Int) - (k : Int) + 1) (Na.up (Na.dig (y - x))) (Na.up (Na.dig y)) = (x3, y3, 0)) := by
          unfold Hid
          have h9 := K.out.e3
          rw [binF_low (n := n) (h := (n : Int) - (k : Int) + 1) (by omega) HQ.out (Nat.sub_le _ _) HP.out.2.2, show y - (y - x) = x by have := HP.out.2.1; omega]
          exact h9
        have u1 : IntKind.i64.wrap ((k : Int) + 1) = (k : Int) + 1 := IntWalk.i64_in _ (by omega)
        have u2 : IntKind.i64.wrap ((n : Int) - (k : Int)) = (n : Int) - (k : Int) := IntWalk.i64_in _ (by omega)
        have u3 : IntKind.i64.wrap ((n : Int) - (k : Int) + 1) = (n : Int) - (k : Int) + 1 := IntWalk.i64_in _ (by omega)
        have a0 := HO.out.p0 0 rfl
        have a1 := HO.out.p1 0 rfl
        have H := HO.out
        clear HO
        have HC := Lib.hid (t_binom_any (p := Na.up (Na.dig x)) (q := Na.up (Na.dig y)) H 0 1 (n : Int) (k : Int) (by rw [nats_up]; rfl) (by rw [nats_up]; rfl) HT.out (by omega))
        rw [E1.out] at HC
        clear H
        go_wp2_with (go_at_call 14; (with_reducible (first | refine (hM1.out _).mono ?_ | refine (hM2.out _).mono ?_ | refine (hM3.out _).mono ?_ | refine (hM4.out _).mono ?_); rintro e w' ⟨rfl, rfl⟩))
        refine HC.out.mono ?_
        rintro e v38 ⟨C1, e1, g1, C2, e2, g2, rfl, G⟩
        clear HC a0 a1 ca
        have H := G.pair (.slice C1 e1 g1) (.slice C2 e2 g2) 26
        simp only [nil_append, cons_append] at H
        clear G
        have a0 := H.p0 0 rfl
        have a1 := H.p1 0 rfl
        have HC := Lib.hid (t_binom_any (p := Na.up (Na.dig x)) (q := Na.up (Na.dig y)) H 0 1 (n : Int) ((k : Int) + 1) (by rw [nats_up]; rfl) (by rw [nats_up]; rfl) HT.out (by omega))
        rw [E2.out] at HC
        clear H
        go_wp2_with (go_at_call 14; (with_reducible (first | refine (hM1.out _).mono ?_ | refine (hM2.out _).mono ?_ | refine (hM3.out _).mono ?_ | refine (hM4.out _).mono ?_); rintro e w' ⟨rfl, rfl⟩))
        refine HC.out.mono ?_
        rintro e v39 ⟨C3, e3, g3, C4, e4, g4, rfl, G⟩
        clear HC a0 a1
        have H := G.pair (.slice C3 e3 g3) (.slice C4 e4 g4) 26
        simp only [nil_append, cons_append] at H
        clear G
        have a0 := H.p0 2 rfl
        have a1 := H.p1 2 rfl
        have HC := Lib.hid (t_binom_any (p := Na.up (Na.dig (y - x))) (q := Na.up (Na.dig y)) H 4 5 (n : Int) ((n : Int) - (k : Int) + 1) (by rw [nats_up]; rfl) (by rw [nats_up]; rfl) HT.out (by omega))
        rw [E3.out] at HC
        clear H
        go_wp2_with (go_at_call 14; (with_reducible (first | refine (hM1.out _).mono ?_ | refine (hM2.out _).mono ?_ | refine (hM3.out _).mono ?_ | refine (hM4.out _).mono ?_); rintro e w' ⟨rfl, rfl⟩))
        refine HC.out.mono ?_
        rintro e v40 ⟨C5, e5, g5, C6, e6, g6, rfl, G⟩
        clear HC a0 a1
        have H := G.pair (.slice C5 e5 g5) (.slice C6 e6 g6) 26
        simp only [nil_append, cons_append] at H
        clear G
        have a0 := H.p0 4 rfl
        have a1 := H.p1 4 rfl
        have HC := Lib.hid (qrvalid_ow (p := Na.up (Na.dig x1)) (q := Na.up (Na.dig y1)) H 6 7 (by rw [nats_up]; rfl) (by rw [nats_up]; rfl))
        rw [K.out.F1.rv] at HC
        clear H
        go_wp2_with (go_at_call 14; (with_reducible (first | refine (hM1.out _).mono ?_ | refine (hM2.out _).mono ?_ | refine (hM3.out _).mono ?_ | refine (hM4.out _).mono ?_); rintro e w' ⟨rfl, rfl⟩))
        refine HC.out.mono ?_
        rintro e v41 ⟨rfl, H⟩
        clear HC a0 a1
        have a0 := H.p0 5 rfl
        have a1 := H.p1 5 rfl
        have HC := Lib.hid (qrvalid_ow (p := Na.up (Na.dig x2)) (q := Na.up (Na.dig y2)) H 8 9 (by rw [nats_up]; rfl) (by rw [nats_up]; rfl))
        rw [K.out.F2.rv] at HC
        clear H
        go_wp2_with (go_at_call 14; (with_reducible (first | refine (hM1.out _).mono ?_ | refine (hM2.out _).mono ?_ | refine (hM3.out _).mono ?_ | refine (hM4.out _).mono ?_); rintro e w' ⟨rfl, rfl⟩))
        refine HC.out.mono ?_
        rintro e v42 ⟨rfl, H⟩
        clear HC a0 a1
        have a0 := H.p0 6 rfl
        have a1 := H.p1 6 rfl
        have HC := Lib.hid (qrvalid_ow (p := Na.up (Na.dig x3)) (q := Na.up (Na.dig y3)) H 10 11 (by rw [nats_up]; rfl) (by rw [nats_up]; rfl))
        rw [K.out.F3.rv] at HC
        clear H
        go_wp2_with (go_at_call 14; (with_reducible (first | refine (hM1.out _).mono ?_ | refine (hM2.out _).mono ?_ | refine (hM3.out _).mono ?_ | refine (hM4.out _).mono ?_); rintro e w' ⟨rfl, rfl⟩))
        refine HC.out.mono ?_
        rintro e v43 ⟨rfl, H⟩
        clear HC a0 a1
        have a0 := H.p0 4 rfl
        have a1 := H.p1 4 rfl
        have b0 := H.p0 5 rfl
        have b1 := H.p1 5 rfl
        obtain ⟨sg, hsg⟩ : ∃ z, Na.sgn (x1 * y2) (x2 * y1) = z := ⟨_, rfl⟩
        have HC := Lib.hid (qrcmp_any (p := Na.up (Na.dig x1)) (q := Na.up (Na.dig y1)) (r := Na.up (Na.dig x2)) (s := Na.up (Na.dig y2)) H 6 7 8 9 (by rw [nats_up]; rfl) (by rw [nats_up]; rfl) (by rw [nats_up]; rfl) (by rw [nats_up]; rfl))
        rw [(cmp_frk K.out.F1 K.out.F2 K.out.p12 K.out.p21).1, (cmp_frk K.out.F1 K.out.F2 K.out.p12 K.out.p21).2, hsg] at HC
        clear H
        go_wp2_with (go_at_call 14; (with_reducible (first | refine (hM1.out _).mono ?_ | refine (hM2.out _).mono ?_ | refine (hM3.out _).mono ?_ | refine (hM4.out _).mono ?_); rintro e w' ⟨rfl, rfl⟩))
        refine HC.out.mono ?_
        rintro e v44 ⟨rfl, H⟩
        clear HC a0 a1 b0 b1
        have hs2 : decide (sg < 0) = false := decide_eq_false (by have := sgn_nn K.out.le; omega)
        clear hsg
        have a0 := H.p0 4 rfl
        have a1 := H.p1 4 rfl
        have b0 := H.p0 6 rfl
        have b1 := H.p1 6 rfl
        have HC := Lib.hid (qrAdd_any (p := Na.up (Na.dig x1)) (q := Na.up (Na.dig y1)) (r := Na.up (Na.dig x3)) (s := Na.up (Na.dig y3)) H 6 7 10 11 (by rw [nats_up]; rfl) (by rw [nats_up]; rfl) (by rw [nats_up]; rfl) (by rw [nats_up]; rfl))
        rw [addF_low K.out.F1.px K.out.F1.py K.out.F3.px K.out.F3.py K.out.F1.pos K.out.F3.pos K.out.F1.g K.out.F3.g K.out.s13 K.out.q13, K.out.sum] at HC
        clear H
        go_wp2_with (go_at_call 14; (with_reducible (first | refine (hM1.out _).mono ?_ | refine (hM2.out _).mono ?_ | refine (hM3.out _).mono ?_ | refine (hM4.out _).mono ?_); rintro e w' ⟨rfl, rfl⟩))
        refine HC.out.mono ?_
        rintro e v45 ⟨C7, e7, g7, C8, e8, g8, rfl, G⟩
        clear HC a0 a1 b0 b1
        have H := G.pair (.slice C7 e7 g7) (.slice C8 e8 g8) 26
        simp only [nil_append, cons_append] at H
        clear G
        have a0 := H.p0 7 rfl
        have a1 := H.p1 7 rfl
        have HC := Lib.hid (qrprint_ok (x := 1) (y := 1) H 12 13 rfl rfl (tiny_top (by omega)) (tiny_top (by omega)) (rv_low (tiny_top (by omega)) (tiny_top (by omega)) (by omega) (by decide)))
        rw [text_11o] at HC
        clear H
        go_wp2_with (go_at_call 14; (with_reducible (first | refine (hM1.out _).mono ?_ | refine (hM2.out _).mono ?_ | refine (hM3.out _).mono ?_ | refine (hM4.out _).mono ?_); rintro e w' ⟨rfl, rfl⟩))
        refine HC.out.mono ?_
        rintro e v46 ⟨rfl, H⟩
        clear HC a0 a1
        obtain ⟨r1, s1, t1, g1⟩ : ∃ u v t, hypF (n : Int) (m : Int) (d : Int) (k : Int) = (u, v, t) := ⟨_, _, _, rfl⟩
        have hz0 := hypF_ok (n := n) (m := m) (d := d) (h := (k : Int)) (by omega) hmn hdn
        rw [g1] at hz0
        obtain rfl : t1 = 0 := hz0
        have g2 : hypF (n : Int) (d : Int) (m : Int) (k : Int) = (r1, s1, 0) := (hypF_exch (by omega) hmn hdn).symm.trans g1
        have G1 := Lib.hid g1
        have G2 := Lib.hid g2
        clear g1 g2
        have HC := Lib.hid (t_hyper_any H (n : Int) (m : Int) (d : Int) (k : Int) HT.out (by omega))
        rw [G1.out] at HC
        clear H
        go_wp2_with (go_at_call 14; (with_reducible (first | refine (hM1.out _).mono ?_ | refine (hM2.out _).mono ?_ | refine (hM3.out _).mono ?_ | refine (hM4.out _).mono ?_); rintro e w' ⟨rfl, rfl⟩))
        refine HC.out.mono ?_
        rintro e v47 ⟨C9, e9, g9, C10, e10, g10, rfl, G⟩
        clear HC
        have H := G.pair (.slice C9 e9 g9) (.slice C10 e10 g10) 26
        simp only [nil_append, cons_append] at H
        clear G
        have HC := Lib.hid (t_hyper_any H (n : Int) (d : Int) (m : Int) (k : Int) HT.out (by omega))
        rw [G2.out] at HC
        clear H
        go_wp2_with (go_at_call 14; (with_reducible (first | refine (hM1.out _).mono ?_ | refine (hM2.out _).mono ?_ | refine (hM3.out _).mono ?_ | refine (hM4.out _).mono ?_); rintro e w' ⟨rfl, rfl⟩))
        refine HC.out.mono ?_
        rintro e v48 ⟨C11, e11, g11, C12, e12, g12, rfl, G⟩
        clear HC
        have H := G.pair (.slice C11 e11 g11) (.slice C12 e12 g12) 26
        simp only [nil_append, cons_append] at H
        clear G
        have a0 := H.p0 8 rfl
        have a1 := H.p1 8 rfl
        have b0 := H.p0 9 rfl
        have b1 := H.p1 9 rfl
        have HC := Lib.hid (same23 (p := Na.up (Na.dig r1)) (q := Na.up (Na.dig s1)) H 14 15 16 17 (by rw [nats_up]; rfl) (by rw [nats_up]; rfl) (by rw [nats_up]; rfl) (by rw [nats_up]; rfl) 0)
        clear H
        go_wp2_with (go_at_call 14; (with_reducible (first | refine (hM1.out _).mono ?_ | refine (hM2.out _).mono ?_ | refine (hM3.out _).mono ?_ | refine (hM4.out _).mono ?_); rintro e w' ⟨rfl, rfl⟩))
        refine HC.out.mono ?_
        rintro e v49 ⟨rfl, H⟩
        clear HC a0 a1 b0 b1
        have HN := Lib.hid ((Ow.fewO (O := [Rw.pair v1.heap.size 26 (.slice A1 n1 c1) (.slice A2 n2 c2), Rw.pair v2.heap.size 26 (.slice B1 m1 d1) (.slice B2 m2 d2), Rw.pair v33.heap.size 26 (.slice Q1 q1 q2) (.slice Q2 q3 q4), (⟨some ⟨v33.heap.size + 1, 0, none⟩, 2, 2, 3, [.int .i64 (k : Int), .int .i64 ((k : Int) + 1)]⟩ : Rw)]) H).less (L' := [(⟨A1, n1, c1, nats (Na.dig x)⟩ : Ob), (⟨A2, n2, c2, nats (Na.dig y)⟩ : Ob), (⟨B1, m1, d1, nats (Na.dig 1)⟩ : Ob), (⟨B2, m2, d2, nats (Na.dig 1)⟩ : Ob), (⟨Q1, q1, q2, nats (Na.dig (y - x))⟩ : Ob), (⟨Q2, q3, q4, nats (Na.dig y)⟩ : Ob)]) (fun o ho => List.mem_append_left _ ho))
        clear H K E1 E2 E3 G1 G2
        go_wp2_with fail
        go_roundw
        case rel => exact ⟨1, by omega, int_eqv (by omega), HN⟩
        case measure => simp [intOf]
      · have ca := cell_row HO.out (i := 3) rfl (k := 1) (v := .int .i64 ((k : Int) + 1)) rfl (by omega)
        obtain ⟨x1, y1, x2, y2, x3, y3, K0⟩ := ord_round (n := n) (x := x) (y := y) (h := (k + 1)) (by omega) HP.out.1.pos HP.out.2.1 HP.out.2.2
        have K := Lib.hid K0
        clear K0
        have E1 : Hid (binF (n : Int) ((k : Int) + 1) (Na.up (Na.dig x)) (Na.up (Na.dig y)) = (x1, y1, 0)) := by
          unfold Hid
          rw [binF_low (n := n) (h := ((k : Int) + 1)) (by omega) HP.out.1 HP.out.2.1 HP.out.2.2, show (((k : Int) + 1)).toNat = (k + 1) by omega]
          exact K.out.e1
        have E2 : Hid (binF (n : Int) (((k : Int) + 1) + 1) (Na.up (Na.dig x)) (Na.up (Na.dig y)) = (x2, y2, 0)) := by
          unfold Hid
          rw [binF_low (n := n) (h := ((k : Int) + 1) + 1) (by omega) HP.out.1 HP.out.2.1 HP.out.2.2, show (((k : Int) + 1) + 1).toNat = (k + 1) + 1 by omega]
          exact K.out.e2
        have E3 : Hid (binF (n : Int) ((n : Int) - ((k : Int) + 1) + 1) (Na.up (Na.dig (y - x))) (Na.up (Na.dig y)) = (x3, y3, 0)) := by
          unfold Hid
          have h9 := K.out.e3
          rw [binF_low (n := n) (h := (n : Int) - ((k : Int) + 1) + 1) (by omega) HQ.out (Nat.sub_le _ _) HP.out.2.2, show y - (y - x) = x by have := HP.out.2.1; omega]
          rw [show ((n : Int) - ((k : Int) + 1) + 1).toNat = ((n : Int) - ((k + 1 : Nat) : Int) + 1).toNat by omega]; exact h9
        have u1 : IntKind.i64.wrap (((k : Int) + 1) + 1) = ((k : Int) + 1) + 1 := IntWalk.i64_in _ (by omega)
        have u2 : IntKind.i64.wrap ((n : Int) - ((k : Int) + 1)) = (n : Int) - ((k : Int) + 1) := IntWalk.i64_in _ (by omega)
        have u3 : IntKind.i64.wrap ((n : Int) - ((k : Int) + 1) + 1) = (n : Int) - ((k : Int) + 1) + 1 := IntWalk.i64_in _ (by omega)
        have a0 := HO.out.p0 0 rfl
        have a1 := HO.out.p1 0 rfl
        have H := HO.out
        clear HO
        have HC := Lib.hid (t_binom_any (p := Na.up (Na.dig x)) (q := Na.up (Na.dig y)) H 0 1 (n : Int) ((k : Int) + 1) (by rw [nats_up]; rfl) (by rw [nats_up]; rfl) HT.out (by omega))
        rw [E1.out] at HC
        clear H
        go_wp2_with (go_at_call 14; (with_reducible (first | refine (hM1.out _).mono ?_ | refine (hM2.out _).mono ?_ | refine (hM3.out _).mono ?_ | refine (hM4.out _).mono ?_); rintro e w' ⟨rfl, rfl⟩))
        refine HC.out.mono ?_
        rintro e v50 ⟨C1, e1, g1, C2, e2, g2, rfl, G⟩
        clear HC a0 a1 ca
        have H := G.pair (.slice C1 e1 g1) (.slice C2 e2 g2) 26
        simp only [nil_append, cons_append] at H
        clear G
        have a0 := H.p0 0 rfl
        have a1 := H.p1 0 rfl
        have HC := Lib.hid (t_binom_any (p := Na.up (Na.dig x)) (q := Na.up (Na.dig y)) H 0 1 (n : Int) (((k : Int) + 1) + 1) (by rw [nats_up]; rfl) (by rw [nats_up]; rfl) HT.out (by omega))
        rw [E2.out] at HC
        clear H
        go_wp2_with (go_at_call 14; (with_reducible (first | refine (hM1.out _).mono ?_ | refine (hM2.out _).mono ?_ | refine (hM3.out _).mono ?_ | refine (hM4.out _).mono ?_); rintro e w' ⟨rfl, rfl⟩))
        refine HC.out.mono ?_
        rintro e v51 ⟨C3, e3, g3, C4, e4, g4, rfl, G⟩
        clear HC a0 a1
        have H := G.pair (.slice C3 e3 g3) (.slice C4 e4 g4) 26
        simp only [nil_append, cons_append] at H
        clear G
        have a0 := H.p0 2 rfl
        have a1 := H.p1 2 rfl
        have HC := Lib.hid (t_binom_any (p := Na.up (Na.dig (y - x))) (q := Na.up (Na.dig y)) H 4 5 (n : Int) ((n : Int) - ((k : Int) + 1) + 1) (by rw [nats_up]; rfl) (by rw [nats_up]; rfl) HT.out (by omega))
        rw [E3.out] at HC
        clear H
        go_wp2_with (go_at_call 14; (with_reducible (first | refine (hM1.out _).mono ?_ | refine (hM2.out _).mono ?_ | refine (hM3.out _).mono ?_ | refine (hM4.out _).mono ?_); rintro e w' ⟨rfl, rfl⟩))
        refine HC.out.mono ?_
        rintro e v52 ⟨C5, e5, g5, C6, e6, g6, rfl, G⟩
        clear HC a0 a1
        have H := G.pair (.slice C5 e5 g5) (.slice C6 e6 g6) 26
        simp only [nil_append, cons_append] at H
        clear G
        have a0 := H.p0 4 rfl
        have a1 := H.p1 4 rfl
        have HC := Lib.hid (qrvalid_ow (p := Na.up (Na.dig x1)) (q := Na.up (Na.dig y1)) H 6 7 (by rw [nats_up]; rfl) (by rw [nats_up]; rfl))
        rw [K.out.F1.rv] at HC
        clear H
        go_wp2_with (go_at_call 14; (with_reducible (first | refine (hM1.out _).mono ?_ | refine (hM2.out _).mono ?_ | refine (hM3.out _).mono ?_ | refine (hM4.out _).mono ?_); rintro e w' ⟨rfl, rfl⟩))
        refine HC.out.mono ?_
        rintro e v53 ⟨rfl, H⟩
        clear HC a0 a1
        have a0 := H.p0 5 rfl
        have a1 := H.p1 5 rfl
        have HC := Lib.hid (qrvalid_ow (p := Na.up (Na.dig x2)) (q := Na.up (Na.dig y2)) H 8 9 (by rw [nats_up]; rfl) (by rw [nats_up]; rfl))
        rw [K.out.F2.rv] at HC
        clear H
        go_wp2_with (go_at_call 14; (with_reducible (first | refine (hM1.out _).mono ?_ | refine (hM2.out _).mono ?_ | refine (hM3.out _).mono ?_ | refine (hM4.out _).mono ?_); rintro e w' ⟨rfl, rfl⟩))
        refine HC.out.mono ?_
        rintro e v54 ⟨rfl, H⟩
        clear HC a0 a1
        have a0 := H.p0 6 rfl
        have a1 := H.p1 6 rfl
        have HC := Lib.hid (qrvalid_ow (p := Na.up (Na.dig x3)) (q := Na.up (Na.dig y3)) H 10 11 (by rw [nats_up]; rfl) (by rw [nats_up]; rfl))
        rw [K.out.F3.rv] at HC
        clear H
        go_wp2_with (go_at_call 14; (with_reducible (first | refine (hM1.out _).mono ?_ | refine (hM2.out _).mono ?_ | refine (hM3.out _).mono ?_ | refine (hM4.out _).mono ?_); rintro e w' ⟨rfl, rfl⟩))
        refine HC.out.mono ?_
        rintro e v55 ⟨rfl, H⟩
        clear HC a0 a1
        have a0 := H.p0 4 rfl
        have a1 := H.p1 4 rfl
        have b0 := H.p0 5 rfl
        have b1 := H.p1 5 rfl
        obtain ⟨sg, hsg⟩ : ∃ z, Na.sgn (x1 * y2) (x2 * y1) = z := ⟨_, rfl⟩
        have HC := Lib.hid (qrcmp_any (p := Na.up (Na.dig x1)) (q := Na.up (Na.dig y1)) (r := Na.up (Na.dig x2)) (s := Na.up (Na.dig y2)) H 6 7 8 9 (by rw [nats_up]; rfl) (by rw [nats_up]; rfl) (by rw [nats_up]; rfl) (by rw [nats_up]; rfl))
        rw [(cmp_frk K.out.F1 K.out.F2 K.out.p12 K.out.p21).1, (cmp_frk K.out.F1 K.out.F2 K.out.p12 K.out.p21).2, hsg] at HC
        clear H
        go_wp2_with (go_at_call 14; (with_reducible (first | refine (hM1.out _).mono ?_ | refine (hM2.out _).mono ?_ | refine (hM3.out _).mono ?_ | refine (hM4.out _).mono ?_); rintro e w' ⟨rfl, rfl⟩))
        refine HC.out.mono ?_
        rintro e v56 ⟨rfl, H⟩
        clear HC a0 a1 b0 b1
        have hs2 : decide (sg < 0) = false := decide_eq_false (by have := sgn_nn K.out.le; omega)
        clear hsg
        have a0 := H.p0 4 rfl
        have a1 := H.p1 4 rfl
        have b0 := H.p0 6 rfl
        have b1 := H.p1 6 rfl
        have HC := Lib.hid (qrAdd_any (p := Na.up (Na.dig x1)) (q := Na.up (Na.dig y1)) (r := Na.up (Na.dig x3)) (s := Na.up (Na.dig y3)) H 6 7 10 11 (by rw [nats_up]; rfl) (by rw [nats_up]; rfl) (by rw [nats_up]; rfl) (by rw [nats_up]; rfl))
        rw [addF_low K.out.F1.px K.out.F1.py K.out.F3.px K.out.F3.py K.out.F1.pos K.out.F3.pos K.out.F1.g K.out.F3.g K.out.s13 K.out.q13, K.out.sum] at HC
        clear H
        go_wp2_with (go_at_call 14; (with_reducible (first | refine (hM1.out _).mono ?_ | refine (hM2.out _).mono ?_ | refine (hM3.out _).mono ?_ | refine (hM4.out _).mono ?_); rintro e w' ⟨rfl, rfl⟩))
        refine HC.out.mono ?_
        rintro e v57 ⟨C7, e7, g7, C8, e8, g8, rfl, G⟩
        clear HC a0 a1 b0 b1
        have H := G.pair (.slice C7 e7 g7) (.slice C8 e8 g8) 26
        simp only [nil_append, cons_append] at H
        clear G
        have a0 := H.p0 7 rfl
        have a1 := H.p1 7 rfl
        have HC := Lib.hid (qrprint_ok (x := 1) (y := 1) H 12 13 rfl rfl (tiny_top (by omega)) (tiny_top (by omega)) (rv_low (tiny_top (by omega)) (tiny_top (by omega)) (by omega) (by decide)))
        rw [text_11o] at HC
        clear H
        go_wp2_with (go_at_call 14; (with_reducible (first | refine (hM1.out _).mono ?_ | refine (hM2.out _).mono ?_ | refine (hM3.out _).mono ?_ | refine (hM4.out _).mono ?_); rintro e w' ⟨rfl, rfl⟩))
        refine HC.out.mono ?_
        rintro e v58 ⟨rfl, H⟩
        clear HC a0 a1
        obtain ⟨r1, s1, t1, g1⟩ : ∃ u v t, hypF (n : Int) (m : Int) (d : Int) ((k : Int) + 1) = (u, v, t) := ⟨_, _, _, rfl⟩
        have hz0 := hypF_ok (n := n) (m := m) (d := d) (h := ((k : Int) + 1)) (by omega) hmn hdn
        rw [g1] at hz0
        obtain rfl : t1 = 0 := hz0
        have g2 : hypF (n : Int) (d : Int) (m : Int) ((k : Int) + 1) = (r1, s1, 0) := (hypF_exch (by omega) hmn hdn).symm.trans g1
        have G1 := Lib.hid g1
        have G2 := Lib.hid g2
        clear g1 g2
        have HC := Lib.hid (t_hyper_any H (n : Int) (m : Int) (d : Int) ((k : Int) + 1) HT.out (by omega))
        rw [G1.out] at HC
        clear H
        go_wp2_with (go_at_call 14; (with_reducible (first | refine (hM1.out _).mono ?_ | refine (hM2.out _).mono ?_ | refine (hM3.out _).mono ?_ | refine (hM4.out _).mono ?_); rintro e w' ⟨rfl, rfl⟩))
        refine HC.out.mono ?_
        rintro e v59 ⟨C9, e9, g9, C10, e10, g10, rfl, G⟩
        clear HC
        have H := G.pair (.slice C9 e9 g9) (.slice C10 e10 g10) 26
        simp only [nil_append, cons_append] at H
        clear G
        have HC := Lib.hid (t_hyper_any H (n : Int) (d : Int) (m : Int) ((k : Int) + 1) HT.out (by omega))
        rw [G2.out] at HC
        clear H
        go_wp2_with (go_at_call 14; (with_reducible (first | refine (hM1.out _).mono ?_ | refine (hM2.out _).mono ?_ | refine (hM3.out _).mono ?_ | refine (hM4.out _).mono ?_); rintro e w' ⟨rfl, rfl⟩))
        refine HC.out.mono ?_
        rintro e v60 ⟨C11, e11, g11, C12, e12, g12, rfl, G⟩
        clear HC
        have H := G.pair (.slice C11 e11 g11) (.slice C12 e12 g12) 26
        simp only [nil_append, cons_append] at H
        clear G
        have a0 := H.p0 8 rfl
        have a1 := H.p1 8 rfl
        have b0 := H.p0 9 rfl
        have b1 := H.p1 9 rfl
        have HC := Lib.hid (same23 (p := Na.up (Na.dig r1)) (q := Na.up (Na.dig s1)) H 14 15 16 17 (by rw [nats_up]; rfl) (by rw [nats_up]; rfl) (by rw [nats_up]; rfl) (by rw [nats_up]; rfl) 0)
        clear H
        go_wp2_with (go_at_call 14; (with_reducible (first | refine (hM1.out _).mono ?_ | refine (hM2.out _).mono ?_ | refine (hM3.out _).mono ?_ | refine (hM4.out _).mono ?_); rintro e w' ⟨rfl, rfl⟩))
        refine HC.out.mono ?_
        rintro e v61 ⟨rfl, H⟩
        clear HC a0 a1 b0 b1
        have HN := Lib.hid ((Ow.fewO (O := [Rw.pair v1.heap.size 26 (.slice A1 n1 c1) (.slice A2 n2 c2), Rw.pair v2.heap.size 26 (.slice B1 m1 d1) (.slice B2 m2 d2), Rw.pair v33.heap.size 26 (.slice Q1 q1 q2) (.slice Q2 q3 q4), (⟨some ⟨v33.heap.size + 1, 0, none⟩, 2, 2, 3, [.int .i64 (k : Int), .int .i64 ((k : Int) + 1)]⟩ : Rw)]) H).less (L' := [(⟨A1, n1, c1, nats (Na.dig x)⟩ : Ob), (⟨A2, n2, c2, nats (Na.dig y)⟩ : Ob), (⟨B1, m1, d1, nats (Na.dig 1)⟩ : Ob), (⟨B2, m2, d2, nats (Na.dig 1)⟩ : Ob), (⟨Q1, q1, q2, nats (Na.dig (y - x))⟩ : Ob), (⟨Q2, q3, q4, nats (Na.dig y)⟩ : Ob)]) (fun o ho => List.mem_append_left _ ho))
        clear H K E1 E2 E3 G1 G2
        go_wp2_with fail
        go_roundw
        case rel => exact ⟨2, by omega, int_eqv (by omega), HN⟩
        case measure => simp [intOf]
end Go.Proofs.YtjhaogbopmhkoaaDoor


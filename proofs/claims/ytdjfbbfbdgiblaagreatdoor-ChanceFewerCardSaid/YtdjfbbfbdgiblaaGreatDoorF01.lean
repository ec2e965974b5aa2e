/- what more is needed -/
import Derived.Test.YtdjfbbfbdgiblaaGreatDoorK15
import Derived.WalkKit
import Derived.WalkLawsBesides
import Derived.WalkSpells
import Derived.Lib.Hide
import Derived.Laws.BitsAllLaws
import Derived.Deep.QuietTactic
import Derived.BigQuiet
import Derived.Below
import Derived.OwnWalk
import Derived.Laws.OwnMore
import Derived.Laws.Rows
import Derived.Deep.AppendLies
import Derived.Maps.AppendAt
import Derived.RangeFuncNested
import Derived.RangeFuncBound
import Derived.RangeFuncCalls
import Derived.RangeFuncLeaves
import Derived.RangeFuncBox
import Derived.RangeFuncWrites
import Derived.Shelf.Abstract
import Derived.Shelf.RegionOpen
import Derived.OwnWalkIn
import Derived.TacticsInMore
import Derived.LoopNIn
import Derived.LoopIn
import Derived.Test.YtdjfbbfbdgiblaaGreatDoorChecked
import Derived.StillTailTactics
import Derived.Outline
import Derived.Deep.Cut
import Derived.RegionIn
import Derived.Lib.IndexBytes
import Derived.Lib.BufferRead
import Derived.RegionTactic
import Derived.ChangeAlike
import Derived.Deep.RegionWith
import Derived.StillTail
import Derived.Lib.QuietBelow
import Derived.Deep.RegionHeld3
import Derived.Lib.BitFns
import Derived.Deep.CutBlock
import Derived.Deep.LoopGhost
import Derived.Lib.TrailingZeros
import Derived.BigRegion
import Derived.Shelf.Spec.BitsCarry
import Derived.Lib.AppendZeros
import Derived.Shelf.Bits.Mul64
import Derived.Test.YtdjfbbfbdgiblaaGreatDoorRows
import Derived.ProofKit
import Derived.OpenShut
import Derived.LaidMore
import Derived.Lay
import Derived.SevenTiedAt
import Derived.Stop.Joined
import Derived.Lib.SmallJoins
import Derived.Carry
namespace Go.Proofs.YtdjfbbfbdgiblaaGreatDoor
open Go.RowKit Go.Sort
set_option linter.unusedVariables false
set_option maxRecDepth 100000
section
variable {w0 w w' : World} {g : Option Nat} {M : List (Nat × Value)} {L : List Ob} {O : List Rw} {A A2 : Option Addr} {n c m c2 : Nat} {zs ys : List Int}
theorem ag_rcmp_b (h : Ow w0 w g M L O) (i j : Nat) (hi : L[i]? = some ⟨A, n, c, ints zs⟩) (hj : L[j]? = some ⟨A2, m, c2, ints ys⟩) (hv : Na.vld zs = true) (hv2 : Na.vld ys = true) :
    Calls Tryz.prog 29 #[.agg #[.slice A n c], .agg #[.slice A2 m c2]] w fun e w' => e = .returned (.int .i64 (Na.sgn (num zs) (num ys))) ∧ Below w.heap.size w w' := by
  obtain ⟨x, hx, e1⟩ := Na.vld_ex hv
  obtain ⟨y, hy, e2⟩ := Na.vld_ex hv2
  have p' := raw_dig (h.raw hi) e1
  have q' := raw_dig (h.raw hj) e2
  rw [e1, e2, num_dig, num_dig]
  exact (nrcmp_any A A2 n c m c2 x y w p'.1 q'.1 p'.2.1 q'.2.1 p'.2.2.2 q'.2.2.2 p'.2.2.1 q'.2.2.1).mono fun en w' ⟨he, hb⟩ => ⟨he, hb⟩
theorem ag_rcmp (h : Ow w0 w g M L O) (i j : Nat) (hi : L[i]? = some ⟨A, n, c, ints zs⟩) (hj : L[j]? = some ⟨A2, m, c2, ints ys⟩) (hv : Na.vld zs = true) (hv2 : Na.vld ys = true) :
    Calls Tryz.prog 29 #[.agg #[.slice A n c], .agg #[.slice A2 m c2]] w fun e w' => e = .returned (.int .i64 (Na.sgn (num zs) (num ys))) ∧ Ow w0 w' g M L O :=
  (ag_rcmp_b h i j hi hj hv hv2).mono fun en w' ⟨he, hb⟩ => ⟨he, h.go hb⟩
end
end Go.Proofs.YtdjfbbfbdgiblaaGreatDoor

namespace Go.Proofs.YtdjfbbfbdgiblaaGreatDoor
namespace Sy
open Gf
set_option linter.unusedVariables false
theorem wd_lt {l : List UInt8} {i : Nat} (h : i < l.length) : l[i]? = some (wd l i) := by unfold wd; rw [List.getElem?_eq_getElem h]; rfl
end Sy
end Go.Proofs.YtdjfbbfbdgiblaaGreatDoor

namespace Go.Proofs.YtdjfbbfbdgiblaaGreatDoor
open Go.RowKit
set_option linter.unusedVariables false
set_option maxRecDepth 100000

namespace Gf
/-- the error of a division by a: ErrZero, or none -/
def ez (a : UInt8) : Int := if a = 0 then 4 else 0
end Gf

end Go.Proofs.YtdjfbbfbdgiblaaGreatDoor

namespace Go.Proofs.YtdjfbbfbdgiblaaGreatDoor
open Go.RowKit Go.Sort
set_option linter.unusedVariables false
set_option maxRecDepth 100000
section
variable {w0 w w' : World} {g B : Nat} {M : List (Nat × Value)} {L : List Ob} {O : List Rw} {A : Option Addr} {n c : Nat}
def GotB (w0 : World) (g B : Nat) (M : List (Nat × Value)) (L : List Ob) (O : List Rw) (e : Ending) (w' : World) : Prop := ∃ r : Bool, e = .returned (.bool r) ∧ Dice w' g B ∧ Ow w0 w' (some g) M L O
theorem one_ow (h : Ow w0 w (some g) M L O) (hd : Dice w g B) (m : Int) (hm : 1 ≤ m) (hm2 : m ≤ 9223372036854775807) :
    Calls Tryz.prog 37 #[.pointer (some ⟨g, 0, none⟩), .int .i64 m] w (GotB w0 g B M L O) := by
  have HN := Lib.hid (next_any g B m w hm hm2 hd)
  have HH := Lib.hid h
  clear hd h
  go_enter Tryz.func37, Tryz.ntmps37
  go_wp2_with fail
  refine HN.out.mono ?_
  rintro e w1 ⟨r, rfl, h0, h1, hd, hg⟩
  have HD := Lib.hid hd
  have HG := Lib.hid hg
  clear hd hg
  go_wp2_with fail
  go_ret
  exact ⟨_, rfl, HD.out, HH.out.roll HG.out⟩
end
end Go.Proofs.YtdjfbbfbdgiblaaGreatDoor

namespace Go.Proofs.YtdjfbbfbdgiblaaGreatDoor
open Go.RowKit
set_option linter.unusedVariables false
set_option maxRecDepth 100000
theorem at_arr3 {w0 w : World} {g : Option Nat} {M : List (Nat × Value)} {L : List Ob} {O : List Rw} {b : Nat} {T : TypeId} (h : Ow w0 w g M L O) (i : Nat) (hi : O[i]? = some ⟨some ⟨b, 0, none⟩, 3, 3, T, [.int .i64 4, .int .i64 8, .int .i64 32]⟩) {r : Nat} (hr : r < 3) :
    ∃ k : Nat, 1 ≤ k ∧ k ≤ 32 ∧ w.cell? ⟨b, r, none⟩ = some (.int .i64 (k : Int)) := by
  rcases (show r = 0 ∨ r = 1 ∨ r = 2 by omega) with rfl | rfl | rfl
  · exact ⟨4, by omega, by omega, (h.row i hi).cellAt 0 (by decide)⟩
  · exact ⟨8, by omega, by omega, (h.row i hi).cellAt 1 (by decide)⟩
  · exact ⟨32, by omega, by omega, (h.row i hi).cellAt 2 (by decide)⟩
theorem row4 {w0 w : World} {g : Option Nat} {M : List (Nat × Value)} {L : List Ob} {O : List Rw} {b : Nat} {T : TypeId} {x0 x1 x2 x3 : Value} (h : Ow w0 w g M L O) (i : Nat) (hi : O[i]? = some ⟨some ⟨b, 0, none⟩, 4, 4, T, [x0, x1, x2, x3]⟩) :
    w.cell? ⟨b, 0, none⟩ = some x0 ∧ w.cell? ⟨b, 1, none⟩ = some x1 ∧ w.cell? ⟨b, 2, none⟩ = some x2 ∧ w.cell? ⟨b, 3, none⟩ = some x3 :=
  ⟨(h.row i hi).cellAt 0 (by decide), (h.row i hi).cellAt 1 (by decide), (h.row i hi).cellAt 2 (by decide), (h.row i hi).cellAt 3 (by decide)⟩
theorem put4 {w0 w : World} {g B : Nat} {M : List (Nat × Value)} {L : List Ob} {O : List Rw} {b : Nat} {T : TypeId} {x0 x1 x2 x3 : Value} (h : Ow w0 w (some g) M L O) (hd : Dice w g B) (hB : B ≤ w0.heap.size) (i : Nat) (hi : O[i]? = some ⟨some ⟨b, 0, none⟩, 4, 4, T, [x0, x1, x2, x3]⟩) (y0 y1 y2 y3 : Value) {w' : World} (hw : (((w.setCell ⟨b, 0, none⟩ y0).setCell ⟨b, 1, none⟩ y1).setCell ⟨b, 2, none⟩ y2).setCell ⟨b, 3, none⟩ y3 = w') :
    Ow w0 w' (some g) M L (O.set i ⟨some ⟨b, 0, none⟩, 4, 4, T, [y0, y1, y2, y3]⟩) ∧ Dice w' g B := by
  subst hw
  have hlt := get_lt hi
  have g1 := h.put i hi 0 y0
  have d1 := hd.turned hB h hi (grown_set w ⟨b, 0, none⟩ y0)
  have hi1 : (O.set i ⟨some ⟨b, 0, none⟩, 4, 4, T, [x0, x1, x2, x3].set 0 y0⟩)[i]? = some ⟨some ⟨b, 0, none⟩, 4, 4, T, [y0, x1, x2, x3]⟩ := List.getElem?_set_self hlt
  have g2 := g1.put i hi1 1 y1
  have d2 := d1.turned hB g1 hi1 (grown_set _ ⟨b, 1, none⟩ y1)
  rw [List.set_set] at g2
  have hi2 : (O.set i ⟨some ⟨b, 0, none⟩, 4, 4, T, [y0, x1, x2, x3].set 1 y1⟩)[i]? = some ⟨some ⟨b, 0, none⟩, 4, 4, T, [y0, y1, x2, x3]⟩ := List.getElem?_set_self hlt
  have g3 := g2.put i hi2 2 y2
  have d3 := d2.turned hB g2 hi2 (grown_set _ ⟨b, 2, none⟩ y2)
  rw [List.set_set] at g3
  have hi3 : (O.set i ⟨some ⟨b, 0, none⟩, 4, 4, T, [y0, y1, x2, x3].set 2 y2⟩)[i]? = some ⟨some ⟨b, 0, none⟩, 4, 4, T, [y0, y1, y2, x3]⟩ := List.getElem?_set_self hlt
  have g4 := g3.put i hi3 3 y3
  have d4 := d3.turned hB g3 hi3 (grown_set _ ⟨b, 3, none⟩ y3)
  rw [List.set_set] at g4
  exact ⟨g4, d4⟩
theorem Ow.none0 {w0 w : World} {g : Option Nat} {M : List (Nat × Value)} {L : List Ob} {O : List Rw} (h : Ow w0 w g M L O) : Ow w0 w g M L [] := by
  have := h.few 0
  rwa [List.take_zero] at this
set_option maxHeartbeats 2000000 in
theorem symbols_ow {w0 w : World} {g B : Nat} {L : List Ob} (h : Ow w0 w (some g) [] L []) (hd : Dice w g B) (hB : B ≤ w0.heap.size) :
    Calls Tryz.prog 14 #[.pointer (some ⟨g, 0, none⟩)] w fun e w' => ∃ d m f : Nat, e = .returned (.agg #[.int .i64 2, .int .i64 (d : Int), .int .i64 (m : Int), .int .i64 (f : Int)]) ∧ Cd d m f ∧ f ≤ m / 2 ∧ Dice w' g B ∧ Ow w0 w' (some g) [] L [] := by
  have H1 := (h.arr #[.int .i64 0, .int .i64 0, .int .i64 0, .int .i64 0] 4 rfl (by omega) 26).arr #[.int .i64 4, .int .i64 8, .int .i64 32] 3 rfl (by omega) 3
  simp only [List.nil_append, List.cons_append, World.size_alloc] at H1
  have HD1 : Hid (Dice ((w.alloc (.cells #[.int .i64 0, .int .i64 0, .int .i64 0, .int .i64 0] 26)).alloc (.cells #[.int .i64 4, .int .i64 8, .int .i64 32] 3)) g B) := (hd.grown (row := none) (World.grownBy_alloc _ _ _) (fun _ e => by cases e)).grown (row := none) (World.grownBy_alloc _ _ _) (fun _ e => by cases e)
  have HN := Lib.hid (next_ow H1 HD1.out 3 (by omega) (by omega))
  clear h H1 HD1 hd
  go_enter Tryz.func14, Tryz.ntmps14
  go_wp2_with fail
  refine HN.out.mono ?_
  rintro e w1 ⟨r1, rfl, hr1, hd1, h1, -⟩
  clear HN
  obtain ⟨k1, hk1, hk2, hc1⟩ := at_arr3 h1 1 rfl hr1
  have HN := Lib.hid (next_ow h1 hd1 k1 hk1 (by omega))
  clear h1 hd1
  go_wp2_with fail
  refine HN.out.mono ?_
  rintro e w2 ⟨r2, rfl, hr2, hd2, h2, -⟩
  clear HN hc1
  have HN := Lib.hid (next_ow h2 hd2 8 (by omega) (by omega))
  clear h2 hd2
  go_wp2_with fail
  refine HN.out.mono ?_
  rintro e w3 ⟨r3, rfl, hr3, hd3, h3, -⟩
  clear HN
  obtain ⟨d, hdd⟩ : ∃ d : Nat, d = 1 + r2 := ⟨_, rfl⟩
  obtain ⟨m, hmm⟩ : ∃ m : Nat, m = 1 + r3 := ⟨_, rfl⟩
  have ed : (1 : Int) + (r2 : Int) = (d : Int) := by omega
  have em : (1 : Int) + (r3 : Int) = (m : Int) := by omega
  obtain ⟨q2, hq2⟩ : ∃ q2 : Nat, Hid (q2 = m / 2) := ⟨_, rfl⟩
  have ef : (m : Int) / 2 = (q2 : Int) := by have := hq2.out; omega
  obtain ⟨hd1, hd2, hm1, hm2, hq4⟩ : 1 ≤ d ∧ d ≤ 32 ∧ 1 ≤ m ∧ m ≤ 8 ∧ q2 ≤ 4 := by have := hq2.out; omega
  have H4 := h3.arr #[.int .i64 2, .int .i64 (d : Int), .int .i64 (m : Int), .int .i64 (q2 : Int)] 4 rfl (by omega) 26
  simp only [List.nil_append, List.cons_append] at H4
  have HD4 : Hid (Dice (w3.alloc (.cells #[.int .i64 2, .int .i64 (d : Int), .int .i64 (m : Int), .int .i64 (q2 : Int)] 26)) g B) := hd3.grown (row := none) (World.grownBy_alloc _ _ _) (fun _ e => by cases e)
  have HN := Lib.hid (one_ow H4 HD4.out 3 (by omega) (by omega))
  clear h3 hd3 H4 HD4 hdd hmm hr3 hr2
  go_wp2_with fail
  refine HN.out.mono ?_
  rintro e w4 ⟨q, rfl, hd4, h4⟩
  clear HN
  have HH4 := Lib.hid h4
  have HD4 := Lib.hid hd4
  obtain ⟨c0, c1, c2, c3⟩ := h4.cdc 2 rfl
  have hf := h4.frzO 2 rfl 3
  have g0 := h4.frzO 0 rfl 0
  have g1 := h4.frzO 0 rfl 1
  have g2 := h4.frzO 0 rfl 2
  have g3 := h4.frzO 0 rfl 3
  clear h4 hd4
  obtain ⟨b0, b1, b2, b3⟩ := row4 HH4.out 0 rfl
  cases q with
  | false =>
    go_wp2_with fail
    obtain ⟨G, DG⟩ := put4 HH4.out HD4.out hB 0 rfl (.int .i64 2) (.int .i64 (d : Int)) (.int .i64 (m : Int)) (.int .i64 (q2 : Int)) rfl
    obtain ⟨k0, k1, k2, k3⟩ := row4 G 0 rfl
    refine bodyPost_ret (v := .agg #[.int .i64 2, .int .i64 (d : Int), .int .i64 (m : Int), .int .i64 (q2 : Int)]) (by simp [results, Tryz.results14, go_sem, k0, k1, k2, k3]) rfl ?_
    exact ⟨d, m, q2, rfl, ⟨hd1, hd2, hm1, hm2, by have := hq2.out; omega⟩, by have := hq2.out; omega, DG, G.none0⟩
  | true =>
    obtain ⟨z, hz⟩ : ∃ z : Nat, Hid (z = q2 + 1) := ⟨_, rfl⟩
    have ez : (q2 : Int) + 1 = (z : Int) := by have := hz.out; omega
    have HN := Lib.hid (next_ow HH4.out HD4.out z (by have := hz.out; omega) (by have := hz.out; omega))
    go_wp2_with fail
    refine HN.out.mono ?_
    rintro e w5 ⟨f, rfl, hf5, hd5, h5, -⟩
    clear HN c0 c1 c2 c3 hf g0 g1 g2 g3 b0 b1 b2 b3 HH4 HD4 ez
    have HF : Hid (f ≤ q2) := by have := hz.out; unfold Hid; omega
    obtain ⟨c0, -, -, c3⟩ := h5.cdc 2 rfl
    have hf := h5.frzO 2 rfl 3
    have h6 : Ow w0 (w5.setCell ⟨w3.heap.size, 3, none⟩ (.int .i64 (f : Int))) (some g) [] L _ := h5.put 2 rfl 3 (.int .i64 (f : Int))
    have HD6 : Hid (Dice (w5.setCell ⟨w3.heap.size, 3, none⟩ (.int .i64 (f : Int))) g B) := hd5.turned hB h5 (i := 2) rfl (grown_set w5 ⟨w3.heap.size, 3, none⟩ (.int .i64 (f : Int)))
    have HH6 := Lib.hid h6
    obtain ⟨e0, e1, e2, e3⟩ := h6.cdc (d := d) (m := m) (f := f) 2 rfl
    obtain ⟨b0, b1, b2, b3⟩ := row4 h6 0 rfl
    have g0 := h6.frzO 0 rfl 0
    have g1 := h6.frzO 0 rfl 1
    have g2 := h6.frzO 0 rfl 2
    have g3 := h6.frzO 0 rfl 3
    clear h5 hd5 hf5 h6
    go_wp2_with fail
    obtain ⟨G, DG⟩ := put4 HH6.out HD6.out hB 0 rfl (.int .i64 2) (.int .i64 (d : Int)) (.int .i64 (m : Int)) (.int .i64 (f : Int)) rfl
    obtain ⟨k0, k1, k2, k3⟩ := row4 G 0 rfl
    refine bodyPost_ret (v := .agg #[.int .i64 2, .int .i64 (d : Int), .int .i64 (m : Int), .int .i64 (f : Int)]) (by simp [results, Tryz.results14, go_sem, k0, k1, k2, k3]) rfl ?_
    exact ⟨d, m, f, rfl, ⟨hd1, hd2, hm1, hm2, by have := hq2.out; have := HF.out; omega⟩, by have := hq2.out; have := HF.out; omega, DG, G.none0⟩
end Go.Proofs.YtdjfbbfbdgiblaaGreatDoor

namespace Go.Proofs.YtdjfbbfbdgiblaaGreatDoor
set_option linter.unusedVariables false
namespace Ch
theorem wd_few {n c w : Nat} (h0 : 0 < w) (h : w ≤ c) : wd n c w = 0 := by
  unfold wd
  rw [if_neg (by omega), show w - c = 0 by omega]
  rfl
end Ch
end Go.Proofs.YtdjfbbfbdgiblaaGreatDoor

namespace Go.Proofs.YtdjfbbfbdgiblaaGreatDoor
set_option linter.unusedVariables false
namespace Ch
theorem nr_none {n u w : Nat} (h : u ≤ n) : nr n 0 u w = if u = w then 1 else 0 := by
  show 0 + (if u ≤ w + 0 then ns (fun o => nt n u 0 o (w + 0 - u)) (0 + 1 - 0 - (w + 0 - u)) else 0) = _
  rw [Nat.zero_add, Nat.add_zero]
  rcases Nat.lt_or_ge w u with h1 | h1
  · rw [if_neg (by omega), if_neg (by omega)]
  · rw [if_pos h1]
    by_cases e : u = w
    · subst e
      rw [if_pos rfl, Nat.sub_self]
      show 0 + nt n u 0 0 0 = 1
      unfold nt
      simp only [Na.bin_zero, Nat.pow_zero]
    · rw [if_neg e, show 0 + 1 - 0 - (w - u) = 0 by omega]
      rfl
theorem wr_none {n c w : Nat} (h0 : 0 < w) (h : w ≤ n) : wr n c 0 w = wd n c w := by
  show ns (fun i => wd n c (i + 1) * nr n 0 (i + 1) w) n = _
  rw [ns_one (k := w - 1) n (by omega) fun i hi hn => by rw [nr_none (by omega), if_neg (by omega)]; rfl]
  rw [show w - 1 + 1 = w by omega, nr_none h, if_pos rfl, Nat.mul_one]
theorem nr_self {n f u : Nat} (h : u ≤ n) : 1 ≤ nr n f u u := by
  refine Nat.le_trans ?_ (ns_in (k := 0) _ (by omega))
  show 1 ≤ if u ≤ u + 0 then ns (fun o => nt n u 0 o (u + 0 - u)) (f + 1 - 0 - (u + 0 - u)) else 0
  rw [if_pos (by omega)]
  refine Nat.le_trans ?_ (ns_in (k := 0) _ (by omega))
  rw [show u + 0 - u = 0 by omega]
  unfold nt
  simp only [Na.bin_zero, Nat.pow_zero]
  omega
theorem wd_wr {n c f w : Nat} (h0 : 0 < w) (h : w ≤ n) : wd n c w ≤ wr n c f w := by
  refine Nat.le_trans ?_ (ns_in (k := w - 1) _ (by omega))
  show _ ≤ wd n c (w - 1 + 1) * nr n f (w - 1 + 1) w
  rw [show w - 1 + 1 = w by omega]
  exact Nat.le_mul_of_pos_right _ (nr_self h)
theorem wr_few {n c f w : Nat} (h : w + f ≤ c) : wr n c f w = 0 := by
  refine ns_none _ fun i hi => ?_
  rcases Nat.lt_or_ge c (i + 1) with h1 | h1
  · rw [nr_out (by omega), Nat.mul_zero]
  · rw [wd_few (by omega) h1, Nat.zero_mul]
end Ch
end Go.Proofs.YtdjfbbfbdgiblaaGreatDoor

namespace Go.Proofs.YtdjfbbfbdgiblaaGreatDoor
open Go.RowKit Go.Sort
set_option linter.unusedVariables false
set_option maxRecDepth 100000
theorem Ch.wd_lt {d m f n v : Nat} (hc : Cv d m f n) (hv : v ≤ n) : Ch.wd n m v < Na.top := Ch.two366 (Nat.le_trans (Ch.wd_two (by have := hc.n40; omega) hc.n40) (by decide +kernel))
theorem sgn_le {x y : Nat} (h : x ≤ y) : Na.sgn x y ≤ 0 := by
  unfold Na.sgn
  split
  · decide
  · split
    · omega
    · decide
set_option maxHeartbeats 16000000 in
theorem chanceFewer_any (A0 : Option Addr) (n0 c0 : Nat) (ts : List Int) (a : Int) (w : World) (hn : ts.length = n0) (hl : n0 ≤ 9223372036854775807) (hs : Sl w w.heap.size A0 (ints ts)) (ht : Tab w) :
    Calls Tryz.prog 7 #[.slice A0 n0 c0, .int .i64 a] w fun e w' => e = .returned (.bool true) ∧ Below w.heap.size w w' := by
  have HT := Lib.hid ht
  rcases Nat.lt_or_ge 400 n0 with hbig | hsm
  · have HLi := Lib.hid (light_no A0 n0 c0 w hbig hl)
    have HAw := Lib.hid (awake08 w ht)
    clear hs ht
    go_enter Tryz.func7, Tryz.ntmps7
    go_wp2_with (first | (go_at_call 11; refine HLi.out.mono ?_; rintro e w1 ⟨rfl, rfl⟩) | (go_at_call 12; refine HAw.out.mono ?_; rintro e w2 ⟨rfl, hb⟩))
    go_ret
    exact ⟨rfl, hb⟩
  have HLi := Lib.hid (light_yes A0 n0 c0 w hsm)
  have HR := Lib.hid (roll_at (St.refl w) A0 n0 c0 w.heap.size ts hn (by omega) (Nat.le_refl _) hs)
  clear hs hn hl hsm ht
  go_enter Tryz.func7, Tryz.ntmps7
  go_wp2_with fail
  refine HLi.out.mono ?_
  rintro e w1 ⟨rfl, rfl⟩
  go_wp2_with fail
  refine HR.out.mono ?_
  rintro e w1 ⟨g, rfl, hd1, hst1⟩
  have HN := Lib.hid (symbols_ow (Ow.of hst1) hd1 (Nat.le_refl _))
  clear HR HLi hd1 hst1
  go_wp2_with fail
  refine HN.out.mono ?_
  rintro e w2 ⟨d, m, f, rfl, hcd, hfm, hd2, h2⟩
  have h3 := h2.code d m f
  try simp only [List.nil_append] at h3
  obtain ⟨n, hdm⟩ : ∃ n, d + m = n := ⟨_, rfl⟩
  have hc : Cv d m f n := by rw [← hdm]; exact Cv.of hcd hfm
  have HK := Lib.hid hc
  have hn40 := hc.n40
  have hni := hc.ni
  have hd32 := hcd.d2
  have hm8 := hcd.m2
  have HD := Lib.hid (show d + m = n ∧ 1 ≤ d ∧ 1 ≤ m from ⟨hdm, hcd.d1, hcd.m1⟩)
  clear HN hd2 h2 hdm hc hcd hfm
  have ha0 := Int.emod_nonneg a (show (n : Int) + 1 ≠ 0 by omega)
  have ha1 := Int.emod_lt_of_pos a (show (0 : Int) < (n : Int) + 1 by omega)
  obtain ⟨v, hv⟩ : ∃ v : Nat, a % ((n : Int) + 1) = (v : Int) := ⟨(a % ((n : Int) + 1)).toNat, by omega⟩
  have hvn : v ≤ n := by omega
  have HMd : Hid (∀ w : World, Calls Tryz.prog 27 #[.int .i64 a, .int .i64 ((n : Int) + 1)] w fun e w' => e = .returned (.int .i64 (v : Int)) ∧ w = w') := fun w => by rw [← hv]; exact mod_any a ((n : Int) + 1) w (by omega) (by omega)
  clear hv ha0 ha1
  obtain ⟨k0, k1, k2, k3⟩ := h3.cdc 0 rfl
  have HC := Lib.hid (c_Wrong h3 HK.out hvn)
  clear h3
  go_wp2_with fail
  refine (HMd.out _).mono ?_
  rintro e w3 ⟨rfl, rfl⟩
  go_wp2_with fail
  refine HC.out.mono ?_
  rintro e w4 ⟨B1, m1, d1, rfl, G⟩
  clear k0 k1 k2 k3 HC
  have H1 := G.boxed (.slice B1 m1 d1) 31
  try simp only [List.cons_append] at H1
  try simp only [List.nil_append] at H1
  obtain ⟨sb, hsb⟩ : ∃ b, (w4.alloc (.cells #[.slice B1 m1 d1] 31)).heap.size = b := ⟨_, rfl⟩
  have H2 := H1.code d m 0
  try simp only [List.cons_append] at H2
  try simp only [List.nil_append] at H2
  rw [hsb] at H2
  have H3 : Ow w ((w4.alloc (.cells #[.slice B1 m1 d1] 31)).alloc (.cells #[.int .i64 2, .int .i64 (d : Int), .int .i64 (m : Int), .int .i64 0] 26)) (some g) [(w4.heap.size, .slice B1 m1 d1)] [⟨B1, m1, d1, nats (Na.dig (Ch.wr n m f v))⟩] [⟨some ⟨w2.heap.size, 0, none⟩, 4, 4, 26, (cdv d m f).toList⟩, ⟨some ⟨sb, 0, none⟩, 4, 4, 26, (cdv d m 0).toList⟩] := H2
  obtain ⟨k0, k1, k2, k3⟩ := H1.cdc 0 rfl
  have hc0 : Cv d m 0 n := ⟨⟨HK.out.cd.d1, HK.out.cd.d2, HK.out.cd.m1, HK.out.cd.m2, by omega⟩, by omega, HK.out.sum, HK.out.n40, by omega, HK.out.ni⟩
  have HK0 := Lib.hid hc0
  have HC := Lib.hid (c_Wrong H3 hc0 hvn)
  clear G H1 H2 H3 hc0
  go_wp2_with fail
  refine HC.out.mono ?_
  rintro e w5 ⟨B2, m2, d2, rfl, G⟩
  clear HC k0 k1 k2 k3 hsb
  have H5 := G.boxed (.slice B2 m2 d2) 31
  try simp only [List.cons_append] at H5
  try simp only [List.nil_append] at H5
  clear G
  obtain ⟨q0, q1, q2, q3⟩ := H5.cdc 1 rfl
  have HC := Lib.hid (c_Words H5 HK0.out (v := v) hvn)
  clear H5
  go_wp2_with fail
  refine HC.out.mono ?_
  rintro e w11 ⟨B11, m11, d11, rfl, G⟩
  clear q0 q1 q2 q3 HC
  have H11 := G.boxed (.slice B11 m11 d11) 31
  try simp only [List.cons_append] at H11
  try simp only [List.nil_append] at H11
  clear G
  rcases Nat.eq_zero_or_pos v with hv0 | hv0
  · have hA : ((v : Int) == 0) = true := by rw [beq_iff_eq]; omega
    have e1 : Ch.wr n m f v = 0 := Ch.wr_few (by have := HK.out.fm; omega)
    have e2 : Ch.wr n m 0 v = 0 := Ch.wr_few (by omega)
    rw [e1, e2] at H11
    have l1 := H11.digs (i := 0) rfl
    have l2 := H11.digs (i := 1) rfl
    rw [Na.dig_zero] at l1 l2
    have y1 : ((m1 : Int) == 0) = true := by rw [beq_iff_eq]; simp at l1; omega
    have y2 : ((m2 : Int) == 0) = true := by rw [beq_iff_eq]; simp at l2; omega
    clear l1 l2 e1 e2 hv0
    have HC := Lib.hid (awake08_ow H11 HT.out)
    clear H11
    go_wp2_with fail
    refine HC.out.mono ?_
    rintro e w41 ⟨rfl, H41⟩
    clear HC
    have c0 := H41.cell 0 rfl
    have c1 := H41.cell 1 rfl
    have HB := Lib.hid H41.below
    clear H41
    go_wp2_with fail
    go_ret
    exact ⟨rfl, HB.out⟩
  · have hA : ((v : Int) == 0) = false := by rw [beq_eq_false_iff_ne]; omega
    have e2 : Ch.wr n m 0 v = Ch.wd n m v := Ch.wr_none hv0 hvn
    rw [e2] at H11
    have HS : Hid (Ch.wd n m v ≤ Ch.wr n m f v) := Ch.wd_wr hv0 hvn
    have HX : Hid (Ch.wd n m v < Na.top ∧ Ch.wr n m f v < Na.top) := ⟨Ch.wd_lt HK.out hvn, Ch.wr_lt HK.out hvn⟩
    clear e2 hv0
    have HC := Lib.hid (awake08_ow H11 HT.out)
    clear H11
    go_wp2_with fail
    refine HC.out.mono ?_
    rintro e w61 ⟨rfl, H61⟩
    clear HC
    obtain ⟨sg, hsg⟩ : ∃ s, Na.sgn (Ch.wd n m v) (Ch.wr n m f v) = s := ⟨_, rfl⟩
    have hs1 : decide (sg ≤ 0) = true := decide_eq_true (by rw [← hsg]; exact sgn_le HS.out)
    have c0 := H61.cell 0 rfl
    have c1 := H61.cell 1 rfl
    have HC := Lib.hid (ag_rcmp (zs := Na.up (Na.dig (Ch.wd n m v))) (ys := Na.up (Na.dig (Ch.wr n m f v))) H61 1 0 (by rw [nats_up]; rfl) (by rw [nats_up]; rfl) (Na.vld_dig HX.out.1) (Na.vld_dig HX.out.2))
    rw [num_dig, num_dig, hsg] at HC
    clear H61 hsg
    go_wp2_with fail
    refine HC.out.mono ?_
    rintro e w80 ⟨rfl, H80⟩
    clear c0 c1 HC
    have c1 := H80.cell 1 rfl
    have c2 := H80.cell 2 rfl
    have HC := Lib.hid (ag_same (l := Na.dig (Ch.wd n m v)) H80 1 2 rfl rfl)
    clear H80
    go_wp2_with fail
    refine HC.out.mono ?_
    rintro e w62 ⟨rfl, H62⟩
    clear c1 c2 HC
    have c0 := H62.cell 0 rfl
    obtain ⟨k0, k1, k2, k3⟩ := H62.cdc 0 rfl
    have g1 : IntKind.i64.wrap ((m : Int) - (f : Int)) = (m : Int) - (f : Int) := IntWalk.i64_in _ (by have := HK.out.fm; omega)
    have HB := Lib.hid H62.below
    rcases Nat.lt_or_ge m (v + f) with hgt | hle
    · have hd : decide ((m : Int) - (f : Int) < (v : Int)) = true := decide_eq_true (by omega)
      clear hgt H62
      go_wp2_with fail
      go_ret
      exact ⟨rfl, HB.out⟩
    · have hd : decide ((m : Int) - (f : Int) < (v : Int)) = false := decide_eq_false (by omega)
      have l1 := H62.digs (i := 0) rfl
      rw [Ch.wr_few hle, Na.dig_zero] at l1
      have y1 : ((m1 : Int) == 0) = true := by rw [beq_iff_eq]; simp at l1; omega
      clear l1 hle H62
      go_wp2_with fail
      go_ret
      exact ⟨rfl, HB.out⟩
end Go.Proofs.YtdjfbbfbdgiblaaGreatDoor


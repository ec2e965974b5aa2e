/- what more is needed -/
import Derived.Test.YtdjfbbfbdgiblaaGreatDoorK15
import Derived.WalkKit
import Derived.WalkLawsBesides
import Derived.WalkSpells
import Derived.Lib.Hide
import Derived.Laws.BitsAllLaws
import Derived.Deep.QuietTactic
import Derived.BigQuiet
import Derived.Below
import Derived.OwnWalk
import Derived.Laws.OwnMore
import Derived.Laws.Rows
import Derived.Deep.AppendLies
import Derived.Maps.AppendAt
import Derived.RangeFuncNested
import Derived.RangeFuncBound
import Derived.RangeFuncCalls
import Derived.RangeFuncLeaves
import Derived.RangeFuncBox
import Derived.RangeFuncWrites
import Derived.Shelf.Abstract
import Derived.Shelf.RegionOpen
import Derived.OwnWalkIn
import Derived.TacticsInMore
import Derived.LoopNIn
import Derived.LoopIn
import Derived.Test.YtdjfbbfbdgiblaaGreatDoorChecked
import Derived.StillTailTactics
import Derived.Outline
import Derived.Deep.Cut
import Derived.RegionIn
import Derived.Lib.IndexBytes
import Derived.Lib.BufferRead
import Derived.RegionTactic
import Derived.ChangeAlike
import Derived.Deep.RegionWith
import Derived.StillTail
import Derived.Lib.QuietBelow
import Derived.Deep.RegionHeld3
import Derived.Lib.BitFns
import Derived.Deep.CutBlock
import Derived.Deep.LoopGhost
import Derived.Lib.TrailingZeros
import Derived.BigRegion
import Derived.Shelf.Spec.BitsCarry
import Derived.Lib.AppendZeros
import Derived.Shelf.Bits.Mul64
import Derived.Test.YtdjfbbfbdgiblaaGreatDoorRows
import Derived.ProofKit
import Derived.OpenShut
import Derived.LaidMore
import Derived.Lay
import Derived.SevenTiedAt
import Derived.Stop.Joined
import Derived.Lib.SmallJoins
import Derived.Carry
namespace Go.Proofs.YtdjfbbfbdgiblaaGreatDoor
open Go.RowKit
set_option linter.unusedVariables false
set_option maxRecDepth 100000

namespace Gf
/-- the error of a division by a: ErrZero, or none -/
def ez (a : UInt8) : Int := if a = 0 then 4 else 0
end Gf

end Go.Proofs.YtdjfbbfbdgiblaaGreatDoor

namespace Go.Proofs.YtdjfbbfbdgiblaaGreatDoor
open Go.RowKit Go.Sort
set_option linter.unusedVariables false
set_option maxRecDepth 100000
section
variable {w0 w w' : World} {g B : Nat} {M : List (Nat × Value)} {L : List Ob} {O : List Rw} {A : Option Addr} {n c : Nat}
def GotB (w0 : World) (g B : Nat) (M : List (Nat × Value)) (L : List Ob) (O : List Rw) (e : Ending) (w' : World) : Prop := ∃ r : Bool, e = .returned (.bool r) ∧ Dice w' g B ∧ Ow w0 w' (some g) M L O
theorem one_ow (h : Ow w0 w (some g) M L O) (hd : Dice w g B) (m : Int) (hm : 1 ≤ m) (hm2 : m ≤ 9223372036854775807) :
    Calls Tryz.prog 37 #[.pointer (some ⟨g, 0, none⟩), .int .i64 m] w (GotB w0 g B M L O) := by
  have HN := Lib.hid (next_any g B m w hm hm2 hd)
  have HH := Lib.hid h
  clear hd h
  go_enter Tryz.func37, Tryz.ntmps37
  go_wp2_with fail
  refine HN.out.mono ?_
  rintro e w1 ⟨r, rfl, h0, h1, hd, hg⟩
  have HD := Lib.hid hd
  have HG := Lib.hid hg
  clear hd hg
  go_wp2_with fail
  go_ret
  exact ⟨_, rfl, HD.out, HH.out.roll HG.out⟩
end
end Go.Proofs.YtdjfbbfbdgiblaaGreatDoor

namespace Go.Proofs.YtdjfbbfbdgiblaaGreatDoor
open Go.RowKit
set_option linter.unusedVariables false
set_option maxRecDepth 100000
theorem at_arr3 {w0 w : World} {g : Option Nat} {M : List (Nat × Value)} {L : List Ob} {O : List Rw} {b : Nat} {T : TypeId} (h : Ow w0 w g M L O) (i : Nat) (hi : O[i]? = some ⟨some ⟨b, 0, none⟩, 3, 3, T, [.int .i64 4, .int .i64 8, .int .i64 32]⟩) {r : Nat} (hr : r < 3) :
    ∃ k : Nat, 1 ≤ k ∧ k ≤ 32 ∧ w.cell? ⟨b, r, none⟩ = some (.int .i64 (k : Int)) := by
  rcases (show r = 0 ∨ r = 1 ∨ r = 2 by omega) with rfl | rfl | rfl
  · exact ⟨4, by omega, by omega, (h.row i hi).cellAt 0 (by decide)⟩
  · exact ⟨8, by omega, by omega, (h.row i hi).cellAt 1 (by decide)⟩
  · exact ⟨32, by omega, by omega, (h.row i hi).cellAt 2 (by decide)⟩
theorem row4 {w0 w : World} {g : Option Nat} {M : List (Nat × Value)} {L : List Ob} {O : List Rw} {b : Nat} {T : TypeId} {x0 x1 x2 x3 : Value} (h : Ow w0 w g M L O) (i : Nat) (hi : O[i]? = some ⟨some ⟨b, 0, none⟩, 4, 4, T, [x0, x1, x2, x3]⟩) :
    w.cell? ⟨b, 0, none⟩ = some x0 ∧ w.cell? ⟨b, 1, none⟩ = some x1 ∧ w.cell? ⟨b, 2, none⟩ = some x2 ∧ w.cell? ⟨b, 3, none⟩ = some x3 :=
  ⟨(h.row i hi).cellAt 0 (by decide), (h.row i hi).cellAt 1 (by decide), (h.row i hi).cellAt 2 (by decide), (h.row i hi).cellAt 3 (by decide)⟩
theorem put4 {w0 w : World} {g B : Nat} {M : List (Nat × Value)} {L : List Ob} {O : List Rw} {b : Nat} {T : TypeId} {x0 x1 x2 x3 : Value} (h : Ow w0 w (some g) M L O) (hd : Dice w g B) (hB : B ≤ w0.heap.size) (i : Nat) (hi : O[i]? = some ⟨some ⟨b, 0, none⟩, 4, 4, T, [x0, x1, x2, x3]⟩) (y0 y1 y2 y3 : Value) {w' : World} (hw : (((w.setCell ⟨b, 0, none⟩ y0).setCell ⟨b, 1, none⟩ y1).setCell ⟨b, 2, none⟩ y2).setCell ⟨b, 3, none⟩ y3 = w') :
    Ow w0 w' (some g) M L (O.set i ⟨some ⟨b, 0, none⟩, 4, 4, T, [y0, y1, y2, y3]⟩) ∧ Dice w' g B := by
  subst hw
  have hlt := get_lt hi
  have g1 := h.put i hi 0 y0
  have d1 := hd.turned hB h hi (grown_set w ⟨b, 0, none⟩ y0)
  have hi1 : (O.set i ⟨some ⟨b, 0, none⟩, 4, 4, T, [x0, x1, x2, x3].set 0 y0⟩)[i]? = some ⟨some ⟨b, 0, none⟩, 4, 4, T, [y0, x1, x2, x3]⟩ := List.getElem?_set_self hlt
  have g2 := g1.put i hi1 1 y1
  have d2 := d1.turned hB g1 hi1 (grown_set _ ⟨b, 1, none⟩ y1)
  rw [List.set_set] at g2
  have hi2 : (O.set i ⟨some ⟨b, 0, none⟩, 4, 4, T, [y0, x1, x2, x3].set 1 y1⟩)[i]? = some ⟨some ⟨b, 0, none⟩, 4, 4, T, [y0, y1, x2, x3]⟩ := List.getElem?_set_self hlt
  have g3 := g2.put i hi2 2 y2
  have d3 := d2.turned hB g2 hi2 (grown_set _ ⟨b, 2, none⟩ y2)
  rw [List.set_set] at g3
  have hi3 : (O.set i ⟨some ⟨b, 0, none⟩, 4, 4, T, [y0, y1, x2, x3].set 2 y2⟩)[i]? = some ⟨some ⟨b, 0, none⟩, 4, 4, T, [y0, y1, y2, x3]⟩ := List.getElem?_set_self hlt
  have g4 := g3.put i hi3 3 y3
  have d4 := d3.turned hB g3 hi3 (grown_set _ ⟨b, 3, none⟩ y3)
  rw [List.set_set] at g4
  exact ⟨g4, d4⟩
theorem Ow.none0 {w0 w : World} {g : Option Nat} {M : List (Nat × Value)} {L : List Ob} {O : List Rw} (h : Ow w0 w g M L O) : Ow w0 w g M L [] := by
  have := h.few 0
  rwa [List.take_zero] at this
set_option maxHeartbeats 2000000 in
theorem symbols_ow {w0 w : World} {g B : Nat} {L : List Ob} (h : Ow w0 w (some g) [] L []) (hd : Dice w g B) (hB : B ≤ w0.heap.size) :
    Calls Tryz.prog 14 #[.pointer (some ⟨g, 0, none⟩)] w fun e w' => ∃ d m f : Nat, e = .returned (.agg #[.int .i64 2, .int .i64 (d : Int), .int .i64 (m : Int), .int .i64 (f : Int)]) ∧ Cd d m f ∧ f ≤ m / 2 ∧ Dice w' g B ∧ Ow w0 w' (some g) [] L [] := by
  have H1 := (h.arr #[.int .i64 0, .int .i64 0, .int .i64 0, .int .i64 0] 4 rfl (by omega) 26).arr #[.int .i64 4, .int .i64 8, .int .i64 32] 3 rfl (by omega) 3
  simp only [List.nil_append, List.cons_append, World.size_alloc] at H1
  have HD1 : Hid (Dice ((w.alloc (.cells #[.int .i64 0, .int .i64 0, .int .i64 0, .int .i64 0] 26)).alloc (.cells #[.int .i64 4, .int .i64 8, .int .i64 32] 3)) g B) := (hd.grown (row := none) (World.grownBy_alloc _ _ _) (fun _ e => by cases e)).grown (row := none) (World.grownBy_alloc _ _ _) (fun _ e => by cases e)
  have HN := Lib.hid (next_ow H1 HD1.out 3 (by omega) (by omega))
  clear h H1 HD1 hd
  go_enter Tryz.func14, Tryz.ntmps14
  go_wp2_with fail
  refine HN.out.mono ?_
  rintro e w1 ⟨r1, rfl, hr1, hd1, h1, -⟩
  clear HN
  obtain ⟨k1, hk1, hk2, hc1⟩ := at_arr3 h1 1 rfl hr1
  have HN := Lib.hid (next_ow h1 hd1 k1 hk1 (by omega))
  clear h1 hd1
  go_wp2_with fail
  refine HN.out.mono ?_
  rintro e w2 ⟨r2, rfl, hr2, hd2, h2, -⟩
  clear HN hc1
  have HN := Lib.hid (next_ow h2 hd2 8 (by omega) (by omega))
  clear h2 hd2
  go_wp2_with fail
  refine HN.out.mono ?_
  rintro e w3 ⟨r3, rfl, hr3, hd3, h3, -⟩
  clear HN
  obtain ⟨d, hdd⟩ : ∃ d : Nat, d = 1 + r2 := ⟨_, rfl⟩
  obtain ⟨m, hmm⟩ : ∃ m : Nat, m = 1 + r3 := ⟨_, rfl⟩
  have ed : (1 : Int) + (r2 : Int) = (d : Int) := by omega
  have em : (1 : Int) + (r3 : Int) = (m : Int) := by omega
  obtain ⟨q2, hq2⟩ : ∃ q2 : Nat, Hid (q2 = m / 2) := ⟨_, rfl⟩
  have ef : (m : Int) / 2 = (q2 : Int) := by have := hq2.out; omega
  obtain ⟨hd1, hd2, hm1, hm2, hq4⟩ : 1 ≤ d ∧ d ≤ 32 ∧ 1 ≤ m ∧ m ≤ 8 ∧ q2 ≤ 4 := by have := hq2.out; omega
  have H4 := h3.arr #[.int .i64 2, .int .i64 (d : Int), .int .i64 (m : Int), .int .i64 (q2 : Int)] 4 rfl (by omega) 26
  simp only [List.nil_append, List.cons_append] at H4
  have HD4 : Hid (Dice (w3.alloc (.cells #[.int .i64 2, .int .i64 (d : Int), .int .i64 (m : Int), .int .i64 (q2 : Int)] 26)) g B) := hd3.grown (row := none) (World.grownBy_alloc _ _ _) (fun _ e => by cases e)
  have HN := Lib.hid (one_ow H4 HD4.out 3 (by omega) (by omega))
  clear h3 hd3 H4 HD4 hdd hmm hr3 hr2
  go_wp2_with fail
  refine HN.out.mono ?_
  rintro e w4 ⟨q, rfl, hd4, h4⟩
  clear HN
  have HH4 := Lib.hid h4
  have HD4 := Lib.hid hd4
  obtain ⟨c0, c1, c2, c3⟩ := h4.cdc 2 rfl
  have hf := h4.frzO 2 rfl 3
  have g0 := h4.frzO 0 rfl 0
  have g1 := h4.frzO 0 rfl 1
  have g2 := h4.frzO 0 rfl 2
  have g3 := h4.frzO 0 rfl 3
  clear h4 hd4
  obtain ⟨b0, b1, b2, b3⟩ := row4 HH4.out 0 rfl
  cases q with
  | false =>
    go_wp2_with fail
    obtain ⟨G, DG⟩ := put4 HH4.out HD4.out hB 0 rfl (.int .i64 2) (.int .i64 (d : Int)) (.int .i64 (m : Int)) (.int .i64 (q2 : Int)) rfl
    obtain ⟨k0, k1, k2, k3⟩ := row4 G 0 rfl
    refine bodyPost_ret (v := .agg #[.int .i64 2, .int .i64 (d : Int), .int .i64 (m : Int), .int .i64 (q2 : Int)]) (by simp [results, Tryz.results14, go_sem, k0, k1, k2, k3]) rfl ?_
    exact ⟨d, m, q2, rfl, ⟨hd1, hd2, hm1, hm2, by have := hq2.out; omega⟩, by have := hq2.out; omega, DG, G.none0⟩
  | true =>
    obtain ⟨z, hz⟩ : ∃ z : Nat, Hid (z = q2 + 1) := ⟨_, rfl⟩
    have ez : (q2 : Int) + 1 = (z : Int) := by have := hz.out; omega
    have HN := Lib.hid (next_ow HH4.out HD4.out z (by have := hz.out; omega) (by have := hz.out; omega))
    go_wp2_with fail
    refine HN.out.mono ?_
    rintro e w5 ⟨f, rfl, hf5, hd5, h5, -⟩
    clear HN c0 c1 c2 c3 hf g0 g1 g2 g3 b0 b1 b2 b3 HH4 HD4 ez
    have HF : Hid (f ≤ q2) := by have := hz.out; unfold Hid; omega
    obtain ⟨c0, -, -, c3⟩ := h5.cdc 2 rfl
    have hf := h5.frzO 2 rfl 3
    have h6 : Ow w0 (w5.setCell ⟨w3.heap.size, 3, none⟩ (.int .i64 (f : Int))) (some g) [] L _ := h5.put 2 rfl 3 (.int .i64 (f : Int))
    have HD6 : Hid (Dice (w5.setCell ⟨w3.heap.size, 3, none⟩ (.int .i64 (f : Int))) g B) := hd5.turned hB h5 (i := 2) rfl (grown_set w5 ⟨w3.heap.size, 3, none⟩ (.int .i64 (f : Int)))
    have HH6 := Lib.hid h6
    obtain ⟨e0, e1, e2, e3⟩ := h6.cdc (d := d) (m := m) (f := f) 2 rfl
    obtain ⟨b0, b1, b2, b3⟩ := row4 h6 0 rfl
    have g0 := h6.frzO 0 rfl 0
    have g1 := h6.frzO 0 rfl 1
    have g2 := h6.frzO 0 rfl 2
    have g3 := h6.frzO 0 rfl 3
    clear h5 hd5 hf5 h6
    go_wp2_with fail
    obtain ⟨G, DG⟩ := put4 HH6.out HD6.out hB 0 rfl (.int .i64 2) (.int .i64 (d : Int)) (.int .i64 (m : Int)) (.int .i64 (f : Int)) rfl
    obtain ⟨k0, k1, k2, k3⟩ := row4 G 0 rfl
    refine bodyPost_ret (v := .agg #[.int .i64 2, .int .i64 (d : Int), .int .i64 (m : Int), .int .i64 (f : Int)]) (by simp [results, Tryz.results14, go_sem, k0, k1, k2, k3]) rfl ?_
    exact ⟨d, m, f, rfl, ⟨hd1, hd2, hm1, hm2, by have := hq2.out; have := HF.out; omega⟩, by have := hq2.out; have := HF.out; omega, DG, G.none0⟩
end Go.Proofs.YtdjfbbfbdgiblaaGreatDoor

namespace Go.Proofs.YtdjfbbfbdgiblaaGreatDoor
open Go.RowKit Go.Sort
set_option linter.unusedVariables false
set_option maxRecDepth 100000
def RAd (w0 : World) (g : Nat) (Mb : List (Nat × Value)) (Lb : List Ob) (Ob : List Rw) (b3 b4 n m : Nat) (x : Value) (wr : World) : Prop :=
  ∃ (k : Nat) (P : Option Addr) (np cp : Nat) (Q : Option Addr) (nq cq : Nat), k ≤ n + 1 ∧ x = .int .i64 (k : Int) ∧ np ≤ 100 ∧ nq ≤ 100 ∧
    Hid (Ow w0 wr (some g) (Mb ++ [(b3, .slice P np cp), (b4, .slice Q nq cq)]) (Lb ++ [⟨P, np, cp, nats (Na.dig (Ch.ns (Ch.wd n m) k))⟩, ⟨Q, nq, cq, nats (Na.dig (Ch.ns (Ch.er n) k))⟩]) Ob)
set_option maxHeartbeats 16000000 in
theorem chanceAdds_any (A0 : Option Addr) (n0 c0 : Nat) (ts : List Int) (w : World) (hn : ts.length = n0) (hl : n0 ≤ 9223372036854775807) (hs : Sl w w.heap.size A0 (ints ts)) (ht : Tab w) :
    Calls Tryz.prog 3 #[.slice A0 n0 c0] w fun e w' => e = .returned (.bool true) ∧ Below w.heap.size w w' := by
  have HT := Lib.hid ht
  rcases Nat.lt_or_ge 400 n0 with hbig | hsm
  · have HLi := Lib.hid (light_no A0 n0 c0 w hbig hl)
    have HAw := Lib.hid (awake08 w ht)
    clear hs ht
    go_enter Tryz.func3, Tryz.ntmps3
    go_wp2_with (first | (go_at_call 11; refine HLi.out.mono ?_; rintro e w1 ⟨rfl, rfl⟩) | (go_at_call 12; refine HAw.out.mono ?_; rintro e w2 ⟨rfl, hb⟩))
    go_ret
    exact ⟨rfl, hb⟩
  have HLi := Lib.hid (light_yes A0 n0 c0 w hsm)
  have HR := Lib.hid (roll_at (St.refl w) A0 n0 c0 w.heap.size ts hn (by omega) (Nat.le_refl _) hs)
  clear hs hn hl hsm ht
  go_enter Tryz.func3, Tryz.ntmps3
  go_wp2_with fail
  refine HLi.out.mono ?_
  rintro e w1 ⟨rfl, rfl⟩
  go_wp2_with fail
  refine HR.out.mono ?_
  rintro e w1 ⟨g, rfl, hd1, hst1⟩
  have HN := Lib.hid (symbols_ow (Ow.of hst1) hd1 (Nat.le_refl _))
  clear HR HLi hd1 hst1
  go_wp2_with fail
  refine HN.out.mono ?_
  rintro e w2 ⟨d, m, f, rfl, hcd, hfm, hd2, h2⟩
  have h3 := h2.code d m f
  try simp only [List.nil_append] at h3
  obtain ⟨n, hdm⟩ : ∃ n, d + m = n := ⟨_, rfl⟩
  have hc : Cv d m f n := by rw [← hdm]; exact Cv.of hcd hfm
  have HK := Lib.hid hc
  have hn40 := hc.n40
  have hni := hc.ni
  have hd32 := hcd.d2
  have hm8 := hcd.m2
  have HD := Lib.hid (show d + m = n ∧ 1 ≤ d ∧ 1 ≤ m from ⟨hdm, hcd.d1, hcd.m1⟩)
  clear HN hd2 h2 hdm hc hcd hfm
  obtain ⟨k0, k1, k2, k3⟩ := h3.cdc 0 rfl
  have HC := Lib.hid (rof_z h3 256 (by omega))
  clear h3
  go_wp2_with fail
  refine HC.out.mono ?_
  rintro e w11 ⟨B11, m11, d11, rfl, G⟩
  clear k0 k1 k2 k3 HC
  have H11 := G.boxed (.slice B11 m11 d11) 31
  try simp only [List.cons_append] at H11
  try simp only [List.nil_append] at H11
  clear G
  have c0 := H11.cell 0 rfl
  obtain ⟨k0, k1, k2, k3⟩ := H11.cdc 0 rfl
  have HC := Lib.hid (rpow_z H11 0 rfl (byte_top (by omega)) d (by omega) (num_top (by omega) (by omega)))
  clear H11
  go_wp2_with fail
  refine HC.out.mono ?_
  rintro e w12 ⟨B12, m12, d12, rfl, G⟩
  clear c0 k0 k1 k2 k3 HC
  have H12 := G.boxed (.slice B12 m12 d12) 31
  try simp only [List.cons_append] at H12
  try simp only [List.nil_append] at H12
  clear G
  have c0 := H12.cell 0 rfl
  obtain ⟨k0, k1, k2, k3⟩ := H12.cdc 0 rfl
  have HC := Lib.hid (rpow_z H12 0 rfl (byte_top (by omega)) n (by omega) (num_top (by omega) (by omega)))
  clear H12
  go_wp2_with fail
  refine HC.out.mono ?_
  rintro e w13 ⟨B13, m13, d13, rfl, G⟩
  clear c0 k0 k1 k2 k3 HC
  have H13 := G.boxed (.slice B13 m13 d13) 31
  try simp only [List.cons_append] at H13
  try simp only [List.nil_append] at H13
  clear G
  have H4 := ((H13.boxed (.slice none 0 0) 31).boxed (.slice none 0 0) 31).nil'.nil'
  try simp only [World.size_alloc] at H4
  try simp only [List.cons_append] at H4
  try simp only [List.nil_append] at H4
  have HO := Lib.hid H4
  clear H13 H4
  go_wp2_with fail
  go_loopw [13] (fun x wr => RAd w g [(w11.heap.size, .slice B11 m11 d11), (w12.heap.size, .slice B12 m12 d12), (w13.heap.size, .slice B13 m13 d13)] [⟨B11, m11, d11, nats (Na.dig 256)⟩, ⟨B12, m12, d12, nats (Na.dig (256 ^ d))⟩, ⟨B13, m13, d13, nats (Na.dig (256 ^ n))⟩] [⟨some ⟨w2.heap.size, 0, none⟩, 4, 4, 26, (cdv d m f).toList⟩] (w13.heap.size + 1) (w13.heap.size + 1 + 1) n m x wr) (fun x _ => 42 - (intOf x).toNat)
  case atStart => exact ⟨0, none, 0, 0, none, 0, 0, by omega, rfl, by omega, by omega, HO.out⟩
  case round =>
    clear HO
    obtain ⟨k, P, np, cp, Q, nq, cq, hk, rfl, hnp, hnq, HO⟩ := hrel
    have H5 := HO.out
    try simp only [List.cons_append] at H5
    try simp only [List.nil_append] at H5
    clear HO
    rcases Nat.lt_or_ge k (n + 1) with hlt | hge
    · have hd : decide ((k : Int) ≤ (n : Int)) = true := decide_eq_true (by omega)
      have hd' : decide (k ≤ n) = true := decide_eq_true (by omega)
      have HB : Hid (AdK d m n k) := AdK.of hn40 HD.out.1 HD.out.2.1 (by omega)
      have t1 : decide ((100 : Int) < (np : Int)) = false := decide_eq_false (by omega)
      have t2 : decide (100 < np) = false := decide_eq_false (by omega)
      have t3 : decide ((100 : Int) < (nq : Int)) = false := decide_eq_false (by omega)
      have t4 : decide (100 < nq) = false := decide_eq_false (by omega)
      obtain ⟨k0, k1, k2, k3⟩ := H5.cdc 0 rfl
      have HC := Lib.hid (c_Words H5 HK.out (v := k) (by omega))
      clear H5
      go_wp2_with fail
      refine HC.out.mono ?_
      rintro e w31 ⟨B31, m31, d31, rfl, G⟩
      clear k0 k1 k2 k3 HC
      have H31 := G.boxed (.slice B31 m31 d31) 31
      try simp only [List.cons_append] at H31
      try simp only [List.nil_append] at H31
      clear G
      obtain ⟨k0, k1, k2, k3⟩ := H31.cdc 0 rfl
      have HC := Lib.hid (c_Errors H31 HK.out (v := k) (by omega))
      clear H31
      go_wp2_with fail
      refine HC.out.mono ?_
      rintro e w32 ⟨B32, m32, d32, rfl, G⟩
      clear k0 k1 k2 k3 HC
      have H32 := G.boxed (.slice B32 m32 d32) 31
      try simp only [List.cons_append] at H32
      try simp only [List.nil_append] at H32
      clear G
      have c3 := H32.cell 3 rfl
      have c4 := H32.cell 4 rfl
      have c5 := H32.cell 5 rfl
      have HC := Lib.hid (radd_z H32 3 5 rfl rfl HB.out.p HB.out.a HB.out.s)
      clear H32
      go_wp2_with fail
      refine HC.out.mono ?_
      rintro e w33 ⟨B33, m33, d33, rfl, G⟩
      clear c3 c4 c5 HC
      have H33 := G
      try simp only [List.cons_append] at H33
      try simp only [List.nil_append] at H33
      clear G
      have v3 := H33.cell 3 rfl
      have f3 := H33.free 3 rfl
      have Z := H33.setv 3 rfl (.slice B33 m33 d33)
      simp only [List.set_cons_succ, List.set_cons_zero] at Z
      clear H33
      have c4 := Z.cell 4 rfl
      have c6 := Z.cell 6 rfl
      have z4 := Z.cell 4 rfl
      have z6 := Z.cell 6 rfl
      have HC := Lib.hid (radd_z Z 4 6 rfl rfl HB.out.q HB.out.b HB.out.t)
      clear Z
      go_wp2_with fail
      refine HC.out.mono ?_
      rintro e w34 ⟨B34, m34, d34, rfl, G⟩
      clear v3 f3 c4 c6 z4 z6 HC
      have H34 := G
      try simp only [List.cons_append] at H34
      try simp only [List.nil_append] at H34
      clear G
      have v4 := H34.cell 4 rfl
      have f4 := H34.free 4 rfl
      have Z := H34.setv 4 rfl (.slice B34 m34 d34)
      simp only [List.set_cons_succ, List.set_cons_zero] at Z
      clear H34
      have HG := Lib.hid Z
      clear Z
      go_wp2_with fail
      clear v4 f4 t1 t2 t3 t4
      go_roundw
      case rel =>
        have e1 : (Na.dig (Ch.ns (Ch.wd n m) (k + 1))).length ≤ 100 := pow256_dig (k := n - m) (by omega) (by rw [← Ch.wd_all n m (by have := HD.out; omega) (by omega)]; exact Ch.ns_part _ (by omega))
        have e2 : (Na.dig (Ch.ns (Ch.er n) (k + 1))).length ≤ 100 := pow256_dig (k := n) (by omega) (by rw [← Ch.er_all n]; exact Ch.ns_part _ (by omega))
        refine ⟨k + 1, B33, m33, d33, B34, m34, d34, by omega, by go_num, ?_, ?_, ?_⟩
        · rw [← HG.out.digs (i := 7) rfl]; exact e1
        · rw [← HG.out.digs (i := 8) rfl]; exact e2
        · refine HG.out.few2 rfl (fun o ho => ?_)
          simp only [List.cons_append, List.nil_append, List.mem_cons, List.mem_nil_iff, or_false] at ho ⊢
          rcases ho with h | h | h | h | h
          · exact .inl h
          · exact .inr (.inl h)
          · exact .inr (.inr (.inl h))
          · exact .inr (.inr (.inr (.inr (.inr (.inr (.inr (.inl h)))))))
          · exact .inr (.inr (.inr (.inr (.inr (.inr (.inr (.inr h)))))))
      case measure => simp [intOf]; omega
    · have hd : decide ((k : Int) ≤ (n : Int)) = false := decide_eq_false (by omega)
      have hd' : decide (k ≤ n) = false := decide_eq_false (by omega)
      obtain rfl : k = n + 1 := by omega
      have e1 := Ch.wd_all n m (by have := HD.out; omega) (by omega)
      have e2 := Ch.er_all n
      rw [show n - m = d by have := HD.out; omega] at e1
      rw [e1, e2] at H5
      clear e1 e2
      have HC := Lib.hid (awake08_ow H5 HT.out)
      clear H5
      go_wp2_with fail
      refine HC.out.mono ?_
      rintro e w61 ⟨rfl, H61⟩
      clear HC
      have c1 := H61.cell 1 rfl
      have c3 := H61.cell 3 rfl
      have HC := Lib.hid (ag_same (l := Na.dig (256 ^ d)) H61 3 1 rfl rfl)
      clear H61
      go_wp2_with fail
      refine HC.out.mono ?_
      rintro e w62 ⟨rfl, H62⟩
      clear c1 c3 HC
      have c2 := H62.cell 2 rfl
      have c4 := H62.cell 4 rfl
      have HC := Lib.hid (ag_same (l := Na.dig (256 ^ n)) H62 4 2 rfl rfl)
      clear H62
      go_wp2_with fail
      refine HC.out.mono ?_
      rintro e w63 ⟨rfl, H63⟩
      clear c2 c4 HC
      have HB := Lib.hid H63.below
      clear H63
      go_wp2_with fail
      go_ret
      exact ⟨rfl, HB.out⟩
end Go.Proofs.YtdjfbbfbdgiblaaGreatDoor


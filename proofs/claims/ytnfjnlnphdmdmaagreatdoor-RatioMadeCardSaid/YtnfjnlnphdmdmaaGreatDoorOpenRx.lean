/- XOpenRat XRatTaz joined. -/
import Derived.Test.YtnfjnlnphdmdmaaGreatDoorLawSl
import Derived.WalkKit
import Derived.ProofKit
import Derived.OpenShut
import Derived.Test.YtnfjnlnphdmdmaaGreatDoorWm
import Derived.Test.YtnfjnlnphdmdmaaGreatDoorRows
import Derived.LaidMore
import Derived.Lay
import Derived.SevenTiedAt
import Derived.Stop.Joined
import Derived.Lib.SmallJoins
/- A fraction among a statement's parameters, opened. -/
namespace Go.Proofs.YtnfjnlnphdmdmaaGreatDoor
open Go.ChangeShapes Go.WideShapes Go.ChangeAt Go.RowKit
set_option linter.unusedVariables false
section
variable {H : Type} {enc : TypeId × Value → H} {P : Program} {W : World}
theorem open_num {t ts e : TypeId} {f0 : Field} {k : IntKind} (ht : P.underlying t = some (.struct #[f0])) (hts : f0.type = ts) (hoff : f0.offset = 0) (hcs1 : P.cellsOf ts = 1) (hs : P.underlying ts = some (.slice e)) (he : P.underlying e = some (.int k)) (hc : P.cellsOf e = 1)
    {fuel : Nat} {u : Value} {y : DataW H × List MemPlace} (hf : DataW.trod enc P W 0 (fun _ => true) true fuel t [u] = some y) :
    ∃ (A : Option Addr) (n c : Nat) (zs : List Int), u = .slice A n c ∧ zs.length = n ∧ n ≤ c ∧ c ≤ maxLen ∧ Sl W W.heap.size A (zs.map (Value.int k)) ∧ ∀ b, (∀ x ∈ y.1.weights P t, x ≤ b) → n * P.bytesOf e ≤ b := by
  obtain ⟨y0, m, rfl, hl, hy⟩ := trod_struct1 ht hf
  rw [hoff, hts, hcs1, List.drop_zero] at hy
  have hy' : DataW.trod enc P W 0 (fun _ => true) true m ts [u] = some y0 := hy
  rcases Go.ChangeShapes.open_ints hs he hc hy' with ⟨hcs, _⟩ | ⟨a, len, cap, zs, hcs, _, hle, hmx, hall, rfl, hcell, hwf⟩
  · obtain rfl : u = .slice none 0 0 := (List.cons.inj hcs).1
    exact ⟨none, 0, 0, [], rfl, rfl, Nat.le_refl _, Nat.zero_le _, Sl.nil _ _ _, fun b _ => by rw [Nat.zero_mul]; exact Nat.zero_le _⟩
  · obtain rfl : u = .slice (some a) len cap := (List.cons.inj hcs).1
    have hz : zs.length = cap := by simpa using hall
    refine ⟨some a, len, cap, zs.take len, rfl, by rw [List.length_take]; omega, hle, hmx, fun hn => ?_, fun b hb => ?_⟩
    rotate_left
    · refine Nat.le_trans (Nat.mul_le_mul_right _ (show len ≤ (lits (H := H) k (zs.take len)).length + (lits (H := H) k (zs.drop len)).length by simp [lits]; omega)) (hb _ ?_)
      simp [DataW.weights, DataW.weightsEach, ht, hts, hs]
    rw [List.length_map, List.length_take] at hn
    refine ⟨a, rfl, ?_, fun j u hu => ?_⟩
    · have h0 := hcell 0 (by omega)
      have := block_lt h0
      rwa [add_block] at this
    · rw [List.getElem?_map, List.getElem?_take] at hu
      by_cases hj : j < len
      · rw [if_pos hj, List.getElem?_eq_getElem (by omega)] at hu
        rw [hcell j (by omega), List.getD_eq_getElem?_getD, List.getElem?_eq_getElem (by omega)]
        exact hu
      · rw [if_neg hj] at hu
        cases hu
theorem open_ratio {tr t ts e : TypeId} {g0 g1 f0 : Field} {k : IntKind} (hr : P.underlying tr = some (.struct #[g0, g1])) (hg0 : g0.type = t) (hg1 : g1.type = t) (ho0 : g0.offset = 0) (ho1 : g1.offset = 1) (hctr : P.cellsOf tr = 2) (hct : P.cellsOf t = 1)
    (ht : P.underlying t = some (.struct #[f0])) (hts : f0.type = ts) (hoff : f0.offset = 0) (hcs1 : P.cellsOf ts = 1) (hs : P.underlying ts = some (.slice e)) (he : P.underlying e = some (.int k)) (hc : P.cellsOf e = 1) {r : Reach} {b0 : Nat} {v : Value} {d : DataW H} {ps : List MemPlace}
    (hval : Value.okWide P W r b0 tr v) (h : DataW.Trod enc P W 0 (fun _ => true) true tr v d ps) :
    ∃ (A : Option Addr) (n c : Nat) (zs : List Int) (A2 : Option Addr) (m c2 : Nat) (ys : List Int), v = .agg #[.slice A n c, .slice A2 m c2] ∧ zs.length = n ∧ n ≤ c ∧ c ≤ maxLen ∧ Sl W W.heap.size A (zs.map (Value.int k)) ∧ ys.length = m ∧ m ≤ c2 ∧ c2 ≤ maxLen ∧ Sl W W.heap.size A2 (ys.map (Value.int k)) ∧ ∀ b, (∀ x ∈ d.weights P tr, x ≤ b) → n * P.bytesOf e ≤ b ∧ m * P.bytesOf e ≤ b := by
  obtain ⟨cs, rfl, hsz⟩ := okWide_struct hr hval
  rw [hctr] at hsz
  obtain ⟨fuel, hf⟩ := h
  obtain ⟨y0, y1, m, hyy, hl, hy0, hy1⟩ := trod_struct2 hr hf
  obtain rfl : d = .agg [y0.1, y1.1] := congrArg Prod.fst hyy
  rw [ho0, hg0, hct, List.drop_zero] at hy0
  rw [ho1, hg1, hct] at hy1
  obtain ⟨u, x, rfl⟩ : ∃ u x, cs = #[u, x] := by
    obtain ⟨l⟩ := cs
    match l, hsz with
    | [u, x], _ => exact ⟨u, x, rfl⟩
  obtain ⟨A, n, c, zs, rfl, a1, a2, a3, a4, a5⟩ := open_num ht hts hoff hcs1 hs he hc (show DataW.trod enc P W 0 (fun _ => true) true m t [u] = some y0 from hy0)
  obtain ⟨A2, n2, c2, ys, rfl, b1, b2, b3, b4, b5⟩ := open_num ht hts hoff hcs1 hs he hc (show DataW.trod enc P W 0 (fun _ => true) true m t [x] = some y1 from hy1)
  exact ⟨A, n, c, zs, A2, n2, c2, ys, rfl, a1, a2, a3, a4, b1, b2, b3, b4, fun b hb => ⟨a5 b fun x hx => hb x (by simp [DataW.weights, DataW.weightsEach, hr, hg0, hg1, hx]), b5 b fun x hx => hb x (by simp [DataW.weights, DataW.weightsEach, hr, hg0, hg1, hx])⟩⟩
end
end Go.Proofs.YtnfjnlnphdmdmaaGreatDoor

/- The table of math/bits out of what is laid. -/
namespace Go.Proofs.YtnfjnlnphdmdmaaGreatDoor
open Go.ChangeShapes Go.WideShapes Go.ChangeAt Go.RowKit
set_option linter.unusedVariables false
set_option maxRecDepth 100000
theorem tab_of {W : World} (h : laidMetH Tryz.prog Rows.ratioRawRow.laid W) : Tab W := by
  rw [MakeChecks.laidMetH_plain _ _ _ (by kernel_rfl)] at h
  obtain ⟨ps, ⟨g, t, cs, fuel, p, q, hg, ht, hv, hd, _, _⟩, _, _⟩ := h
  obtain rfl := Option.some.inj ((show Tryz.prog.globalNamed "math/bits.deBruijn64tab" = some 0 by kernel_rfl).symm.trans hg)
  obtain rfl := Option.some.inj ((show (Tryz.prog.globals[0]?).map (·.type) = some 118 by kernel_rfl).symm.trans ht)
  obtain ⟨xs, m, _, ex, _, hl, hel⟩ := DataW.trod_array Tryz.underlying118 hd
  have c5 : Tryz.prog.cellsOf 5 = 1 := by kernel_rfl
  have hlen : Lib.deBruijn64tab.length = 64 := by kernel_rfl
  have e3 : (xs.map (·.1)) = Lib.deBruijn64tab.map fun n : Nat => .lit (.int .u8 (n : Int)) := (DataW.agg.inj (Prod.mk.inj ex).1).symm
  have hcell : ∀ k v : Nat, Lib.deBruijn64tab[k]? = some v → W.cell? ⟨0, k, none⟩ = some (.int .u8 (v : Int)) := by
    intro r v hr
    have hr64 : r < 64 := by
      rcases Nat.lt_or_ge r 64 with h | h
      · exact h
      · rw [List.getElem?_eq_none (by omega)] at hr; cases hr
    have hE := hel r hr64
    rw [c5, Nat.mul_one, List.getElem?_eq_getElem (by omega)] at hE
    obtain ⟨z, e1, e2, _⟩ := DataW.trod_int Tryz.underlying5 hE
    have e4 : (xs.map (·.1))[r]? = (Lib.deBruijn64tab.map fun n : Nat => (DataW.lit (.int .u8 (n : Int)) : DataW Unit))[r]? := by rw [e3]
    rw [List.getElem?_map, List.getElem?_map, List.getElem?_eq_getElem (by omega : r < xs.length), hr, e2] at e4
    have hz : z = (v : Int) := by
      simp only [Option.map_some, Option.some.injEq, DataW.lit.injEq, Lit.int.injEq, true_and] at e4
      exact e4
    rw [World.var?_cell hg hv r, ← hz]
    have : cs.toList[r]? = some (.int .u8 z) := by
      have h0 : ((cs.toList.drop r).take 1)[0]? = some (.int .u8 z) := by rw [e1]; rfl
      simpa using h0
    simpa using this
  refine ⟨?_, hcell⟩
  have h0 := hcell 0 0 (by kernel_rfl)
  rcases Nat.eq_zero_or_pos W.heap.size with h | h
  · exfalso
    unfold World.cell? at h0
    rw [Array.getElem?_eq_none (by simp only; omega)] at h0
    cases h0
  · exact h
end Go.Proofs.YtnfjnlnphdmdmaaGreatDoor

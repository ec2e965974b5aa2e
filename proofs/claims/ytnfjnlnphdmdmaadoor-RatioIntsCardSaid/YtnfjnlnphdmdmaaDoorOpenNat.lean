/- A number among a statement's parameters, opened. -/
import Derived.Test.YtnfjnlnphdmdmaaDoorOpenSl
import Derived.WalkKit
import Derived.ProofKit
import Derived.OpenShut
namespace Go.Proofs.YtnfjnlnphdmdmaaDoor
open Go.ChangeShapes Go.WideShapes Go.ChangeAt Go.RowKit
set_option linter.unusedVariables false
section
variable {H : Type} {enc : TypeId × Value → H} {P : Program} {W : World}
theorem open_nat {t ts e : TypeId} {f0 : Field} {k : IntKind} (ht : P.underlying t = some (.struct #[f0])) (hts : f0.type = ts) (hoff : f0.offset = 0) (hct : P.cellsOf t = 1) (hcs1 : P.cellsOf ts = 1) (hs : P.underlying ts = some (.slice e)) (he : P.underlying e = some (.int k)) (hc : P.cellsOf e = 1) {r : Reach} {b0 : Nat} {v : Value} {d : DataW H} {ps : List MemPlace}
    (hval : Value.okWide P W r b0 t v) (h : DataW.Trod enc P W 0 (fun _ => true) true t v d ps) :
    ∃ (A : Option Addr) (n c : Nat) (zs : List Int), v = .agg #[.slice A n c] ∧ zs.length = n ∧ n ≤ c ∧ c ≤ maxLen ∧ Sl W W.heap.size A (zs.map (Value.int k)) ∧ ∀ z ∈ zs, (Lit.int k z).wf = true := by
  obtain ⟨cs, rfl, hsz⟩ := okWide_struct ht hval
  rw [hct] at hsz
  obtain ⟨fuel, hf⟩ := h
  obtain ⟨y0, m, _, hl, hy⟩ := trod_struct1 ht hf
  rw [hoff, hts, hcs1, List.drop_zero] at hy
  obtain ⟨u, rfl⟩ : ∃ u, cs = #[u] := by
    obtain ⟨l⟩ := cs
    match l, hsz with
    | [u], _ => exact ⟨u, rfl⟩
  have hy' : DataW.trod enc P W 0 (fun _ => true) true m ts [u] = some y0 := hy
  rcases Go.ChangeShapes.open_ints hs he hc hy' with ⟨hcs, _⟩ | ⟨a, len, cap, zs, hcs, _, hle, hmx, hall, _, hcell, hwf⟩
  · obtain rfl : u = .slice none 0 0 := (List.cons.inj hcs).1
    exact ⟨none, 0, 0, [], rfl, rfl, Nat.le_refl _, Nat.zero_le _, Sl.nil _ _ _, fun z hz => by cases hz⟩
  · obtain rfl : u = .slice (some a) len cap := (List.cons.inj hcs).1
    have hz : zs.length = cap := by simpa using hall
    refine ⟨some a, len, cap, zs.take len, rfl, by rw [List.length_take]; omega, hle, hmx, fun hn => ?_, fun z hz => hwf z (List.mem_of_mem_take hz)⟩
    rw [List.length_map, List.length_take] at hn
    refine ⟨a, rfl, ?_, fun j u hu => ?_⟩
    · have h0 := hcell 0 (by omega)
      have := block_lt h0
      rwa [add_block] at this
    · rw [List.getElem?_map, List.getElem?_take] at hu
      by_cases hj : j < len
      · rw [if_pos hj, List.getElem?_eq_getElem (by omega)] at hu
        rw [hcell j (by omega), List.getD_eq_getElem?_getD, List.getElem?_eq_getElem (by omega)]
        exact hu
      · rw [if_neg hj] at hu
        cases hu
end
end Go.Proofs.YtnfjnlnphdmdmaaDoor

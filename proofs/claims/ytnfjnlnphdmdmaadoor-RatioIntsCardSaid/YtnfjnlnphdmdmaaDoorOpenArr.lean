/- Arrays of integers among a statement's parameters, opened. -/
import Derived.Test.YtnfjnlnphdmdmaaDoorOpenSl
import Derived.Lib.SmallJoins
namespace Go.Proofs.YtnfjnlnphdmdmaaDoor
open Go.ChangeShapes Go.WideShapes Go.ChangeAt Go.RowKit
set_option linter.unusedVariables false
section
variable {H : Type} {enc : TypeId × Value → H} {P : Program} {W : World} {q : IntKind} {base : Nat} {sp : Nat → Bool} {held : Bool}
theorem ints_mapM {e : TypeId} (he : P.underlying e = some (.int q)) {m : Nat} {cs : List Value} : ∀ (L : List Nat) (xs : List (DataW H × List MemPlace)),
    L.mapM (fun i => DataW.trod enc P W base sp held m e ((cs.drop (i * 1)).take 1)) = some xs → ∀ i ∈ L, ∃ a, (cs.drop i).take 1 = [.int q a] ∧ (Lit.int q a).wf = true
  | [], xs, h => fun i hi => by cases hi
  | j :: L, xs, h => fun i hi => by
    rw [List.mapM_cons] at h
    simp only [bind, Option.bind_eq_some_iff, pure, Option.some.injEq] at h
    obtain ⟨y, hy, ys, hys, rfl⟩ := h
    rcases List.mem_cons.1 hi with rfl | hi
    · obtain ⟨a, ea, _, wa⟩ := DataW.trod_int he hy
      rw [Nat.mul_one] at ea
      exact ⟨a, ea, wa⟩
    · exact ints_mapM he L ys hys i hi
theorem ints_all : ∀ (cs : List Value), (∀ i, i < cs.length → ∃ a, (cs.drop i).take 1 = [Value.int q a] ∧ (Lit.int q a).wf = true) → ∃ zs : List Int, cs = zs.map (Value.int q) ∧ ∀ z ∈ zs, (Lit.int q z).wf = true
  | [], _ => ⟨[], rfl, fun z hz => by cases hz⟩
  | c :: cs, h => by
    obtain ⟨a, ha, wa⟩ := h 0 (by simp)
    obtain ⟨zs, hzs, hw⟩ := ints_all cs (fun i hi => h (i + 1) (by simp; omega))
    have hc : c = Value.int q a := by simpa using ha
    exact ⟨a :: zs, by rw [hzs, hc]; rfl, fun z hz => by rcases List.mem_cons.1 hz with rfl | hz; exact wa; exact hw z hz⟩
theorem open_iarr {t e : TypeId} {n : Nat} (ht : P.underlying t = some (.array n e)) (he : P.underlying e = some (.int q)) (hc : P.cellsOf e = 1) (hsz : P.cellsOf t = n) {r : Reach} {b0 : Nat} {v : Value} {d : DataW H} {ps : List MemPlace}
    (hval : Value.okWide P W r b0 t v) (h : DataW.Trod enc P W base sp held t v d ps) : ∃ zs : List Int, v = .agg (zs.map (Value.int q)).toArray ∧ zs.length = n ∧ ∀ z ∈ zs, (Lit.int q z).wf = true := by
  simp only [Value.okWide, ht] at hval
  obtain ⟨cs, rfl, h2, _⟩ := hval
  rw [hsz] at h2
  obtain ⟨fuel, hf⟩ := h
  cases fuel with
  | zero => simp [DataW.trod] at hf
  | succ m =>
    rw [DataW.trod_step] at hf
    unfold DataW.trodStep at hf
    simp only [ht, Value.cells] at hf
    rw [if_pos (by rw [hsz]; simpa using h2), hc] at hf
    simp only [Option.map_eq_some_iff] at hf
    obtain ⟨ys, hy, _⟩ := hf
    obtain ⟨zs, hzs, hw⟩ := ints_all cs.toList fun i hi => ints_mapM he _ ys hy i (List.mem_range.2 (by simpa [h2] using hi))
    exact ⟨zs, by rw [← hzs], by have := congrArg List.length hzs; simp at this; omega, hw⟩
theorem open_arr2 {t e : TypeId} (ht : P.underlying t = some (.array 2 e)) (he : P.underlying e = some (.int q)) (hc : P.cellsOf e = 1) (hsz : P.cellsOf t = 2) {r : Reach} {b0 : Nat} {v : Value} {d : DataW H} {ps : List MemPlace}
    (hval : Value.okWide P W r b0 t v) (h : DataW.Trod enc P W base sp held t v d ps) : ∃ a b : Int, v = .agg #[.int q a, .int q b] ∧ (Lit.int q a).wf = true ∧ (Lit.int q b).wf = true := by
  obtain ⟨zs, hv, hz, hw⟩ := open_iarr ht he hc hsz hval h
  match zs, hz with
  | [a, b], _ => exact ⟨a, b, hv, hw a (by simp), hw b (by simp)⟩
theorem open_arr3 {t e : TypeId} (ht : P.underlying t = some (.array 3 e)) (he : P.underlying e = some (.int q)) (hc : P.cellsOf e = 1) (hsz : P.cellsOf t = 3) {r : Reach} {b0 : Nat} {v : Value} {d : DataW H} {ps : List MemPlace}
    (hval : Value.okWide P W r b0 t v) (h : DataW.Trod enc P W base sp held t v d ps) : ∃ a b c : Int, v = .agg #[.int q a, .int q b, .int q c] ∧ (Lit.int q a).wf = true ∧ (Lit.int q b).wf = true ∧ (Lit.int q c).wf = true := by
  obtain ⟨zs, hv, hz, hw⟩ := open_iarr ht he hc hsz hval h
  match zs, hz with
  | [a, b, c], _ => exact ⟨a, b, c, hv, hw a (by simp), hw b (by simp), hw c (by simp)⟩
end
end Go.Proofs.YtnfjnlnphdmdmaaDoor

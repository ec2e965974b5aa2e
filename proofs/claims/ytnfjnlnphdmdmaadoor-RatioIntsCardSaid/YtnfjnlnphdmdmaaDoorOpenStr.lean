/- A string among a statement's parameters, opened; a 64-bit integer's bound. -/
import Derived.WalkKit
import Derived.ProofKit
import Derived.OpenShut
namespace Go.Proofs.YtnfjnlnphdmdmaaDoor
open Go.ChangeShapes Go.WideShapes Go.ChangeAt Go.RowKit
theorem open_str {P : Program} {W : World} {t : TypeId} {v : Value} {r : Reach} {b0 : Nat} (ht : P.underlying t = some .string) (h : Value.okWide P W r b0 t v) : ∃ s, v = .string s ∧ s.size ≤ 9223372036854775807 := by
  obtain ⟨s, rfl⟩ := okWide_string ht h
  refine ⟨s, rfl, ?_⟩
  have h3 : (s.size : Int) ≤ IntKind.i64.max := by simpa [Value.okWide, Cell.okWide, Cell.ok, ht] using h
  have h2 : IntKind.i64.max = 9223372036854775807 := rfl
  omega
theorem i64_le {n : Int} (h : (Lit.int .i64 n).wf = true) : n ≤ 9223372036854775807 := by
  simp [Lit.wf, IntKind.min, IntKind.max, IntKind.bits, IntKind.signed] at h
  omega
end Go.Proofs.YtnfjnlnphdmdmaaDoor

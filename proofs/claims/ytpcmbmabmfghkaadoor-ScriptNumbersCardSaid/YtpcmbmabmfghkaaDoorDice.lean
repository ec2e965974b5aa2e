/- The contracts of the dice that make inputs: what they give out is in range, and nothing but their own block turns. -/
import Derived.Test.YtpcmbmabmfghkaaDoorMem
import Derived.Test.YtpcmbmabmfghkaaDoorMod
import Derived.StillTailTactics
import Derived.Outline
namespace Go.Proofs.YtpcmbmabmfghkaaDoor
open Go.RowKit
set_option linter.unusedVariables false
set_option maxRecDepth 100000

/-- ints as values -/
def encI (n : Int) : Value := .int .i64 n
def ints (l : List Int) : List Value := l.map encI
theorem ints_length (l : List Int) : (ints l).length = l.length := List.length_map _
theorem ints_one (l : List Int) : ∀ u ∈ ints l, u.oneCell' = true := by
  intro u hu
  obtain ⟨b, _, rfl⟩ := List.mem_map.1 hu
  rfl
theorem Sl.int {w : World} {B : Nat} {A : Option Addr} {l : List Int} (h : Sl w B A (ints l)) {k : Nat} {b : Int} (hk : l[k]? = some b) : ∃ ad, A = some ad ∧ ad.block < B ∧ w.cell? (ad.add k) = some (.int .i64 b) := by
  have hlt : k < l.length := by
    rcases Nat.lt_or_ge k l.length with h | h
    · exact h
    · rw [List.getElem?_eq_none h] at hk; cases hk
  obtain ⟨ad, e, hb, hc⟩ := h (by rw [ints_length]; omega)
  exact ⟨ad, e, hb, hc k _ (by unfold ints; rw [List.getElem?_map, hk]; rfl)⟩
theorem int_at (l : List Int) (k : Nat) (h : k < l.length) : ∃ b : Int, l[k]? = some b := ⟨_, List.getElem?_eq_getElem h⟩

end Go.Proofs.YtpcmbmabmfghkaaDoor

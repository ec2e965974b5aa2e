/- the map of verbs: its fact, a new entry. -/
import Derived.Test.YtpcmbmabmfghkaaDoorScE
import Derived.MapFrom
namespace Go.Proofs.YtpcmbmabmfghkaaDoor
open Go.RowKit
set_option linter.unusedVariables false
set_option maxRecDepth 100000
/-- the word of kind i + 1 -/
def nm : Nat → ByteArray
  | 0 => ⟨#[114, 101, 97, 100]⟩
  | 1 => ⟨#[119, 114, 105, 116, 101]⟩
  | 2 => ⟨#[109, 97, 112]⟩
  | 3 => ⟨#[102, 111, 114, 107]⟩
  | 4 => ⟨#[100, 114, 111, 112]⟩
  | _ => ⟨#[115, 97, 118, 101]⟩
/-- the entries so far (an operation's number is one more than its verb's) -/
def VMap (Ld : Nat → Bool) (b : Nat) (W : World) : Prop :=
  ∃ es clock, W.heap[b]? = some (.map es clock) ∧ MapKept.Stamped es clock ∧ (∀ x ∈ es.toList, ∃ i, i < 6 ∧ Ld (i + 1) = true ∧ x.key = .int .i64 ((i : Int) + 1) ∧ x.val = .string (nm i)) ∧ ∀ i, i < 6 → Ld (i + 1) = true → ∃ x ∈ es.toList, x.key = .int .i64 ((i : Int) + 1)
theorem underVM : ∃ kt et d, Tryd.prog.underlying 77 = some (.map kt et) ∧ Tryd.prog.underlying kt = some d ∧ d = .int .i64 := ⟨_, _, _, rfl, rfl, rfl⟩
theorem vput {W : World} {Ld : Nat → Bool} {b B i : Nat} (hi : i < 6) (h : VMap Ld b W) (hf : Ld (i + 1) = false) (hB : B ≤ b) :
    ∃ W', (Instr.mapUpdate 77 (.map (some b)) (.int .i64 ((i : Int) + 1)) (.string (nm i))).run Tryd.prog W = .ok () W' ∧ VMap (dset Ld (i + 1)) b W' ∧ Below B W W' := by
  obtain ⟨es, clock, hb, hs, hx, hy⟩ := h
  obtain ⟨kt, et, d, hm, hd, rfl⟩ := underVM
  have hkey : MapKept.IsKey (.int .i64) (.int .i64 ((i : Int) + 1)) := rfl
  have hks : ∀ x ∈ es.toList, MapKept.IsKey (.int .i64) x.key := fun x h => by
    obtain ⟨j, _, _, e, _⟩ := hx x h
    rw [e]; rfl
  have hno : ∀ x ∈ es.toList, x.key ≠ .int .i64 ((i : Int) + 1) := fun x h e => by
    obtain ⟨j, hj, hl, e2, _⟩ := hx x h
    rw [e2] at e
    injection e with _ e3
    have : j = i := by omega
    subst this
    rw [hf] at hl
    cases hl
  rcases MapKept.findNow_spec hkey es.toList 0 hks with ⟨h1, h2⟩ | ⟨j, e, h1, h2, h3⟩
  · refine ⟨_, by simp [Instr.mapUpdate, run_underlying hm, MapKept.run_getObj_map hb, MapKept.run_checkKey hd hkey, MapKept.run_findKey hd h1, MapKept.run_setObj_map _ hb, Result.andThen]; rfl, ⟨_, _, (MapKept.heap_set hb).1, MapKept.stamped_push hs h2, ?_, ?_⟩, ?_⟩
    · intro x hx'
      simp only [Array.toList_push, List.mem_append, List.mem_singleton] at hx'
      rcases hx' with h | rfl
      · obtain ⟨j, hj, hl, e1, e2⟩ := hx x h
        exact ⟨j, hj, by simp [dset, hl], e1, e2⟩
      · exact ⟨i, hi, by simp [dset], rfl, rfl⟩
    · intro j hj hl
      by_cases hji : j = i
      · subst hji
        exact ⟨_, by simp only [Array.toList_push, List.mem_append, List.mem_singleton]; exact .inr rfl, rfl⟩
      · have hl' : Ld (j + 1) = true := by
          simp only [dset] at hl
          split at hl
          · next e => exact absurd (by omega) hji
          · exact hl
        obtain ⟨x, hx1, hx2⟩ := hy j hj hl'
        exact ⟨x, by simp only [Array.toList_push, List.mem_append]; exact .inl hx1, hx2⟩
    · exact ⟨rfl, rfl, rfl, by simp, fun k hk => (MapKept.heap_set hb).2 k (by omega)⟩
  · exact absurd h3 (hno e (List.mem_of_getElem? h2))
end Go.Proofs.YtpcmbmabmfghkaaDoor

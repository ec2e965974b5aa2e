/- the step of a loop over a map keeps the tape. -/
import Derived.Test.YtpcmbmabmfghkaaDoorScG
import Derived.Laws.IdiomRangeMap
namespace Go.Proofs.YtpcmbmabmfghkaaDoor
open Go.RowKit
set_option linter.unusedVariables false
/-- a run that comes to a value keeps the tape -/
def KT {α : Type} (P : Program) (s : Sem α) : Prop := ∀ w v w', s.run P w = .ok v w' → w'.tape = w.tape
theorem KT.bind {α β : Type} {P : Program} {s : Sem α} {f : α → Sem β} (hs : KT P s) (hf : ∀ a, KT P (f a)) : KT P (s >>= f) := by
  intro w v w' h
  rw [Sem.run_bind] at h
  cases e : s.run P w with
  | ok a w1 =>
    rw [e] at h
    exact (hf a w1 v w' h).trans (hs w a w1 e)
  | halt x w1 =>
    rw [e] at h
    cases h
theorem KT.pure {α : Type} {P : Program} (a : α) : KT P (pure a : Sem α) := by
  intro w v w' h
  simp at h
  rw [h.2]
theorem KT.getObj {P : Program} (r : Nat) : KT P (getObj r) := by
  intro w v w' h
  simp only [Go.getObj, Sem.run] at h
  repeat' split at h
  all_goals first | (cases h; rfl) | cases h
theorem KT.setObj {P : Program} (r : Nat) (o : Obj) : KT P (setObj r o) := by
  intro w v w' h
  simp only [Go.setObj, Sem.run] at h
  repeat' split at h
  all_goals first | (cases h; rfl) | cases h
theorem KT.choose {P : Program} (q : Question) : KT P (choose q) := by
  intro w v w' h
  simp only [Go.choose, Sem.run] at h
  repeat' split at h
  all_goals first | (cases h; rfl) | cases h
theorem KT.stuck {α : Type} {P : Program} (s : String) : KT P (stuck s : Sem α) := by
  intro w v w' h
  simp [Go.stuck] at h
theorem KT.unsupported {α : Type} {P : Program} (u : Unsupported) : KT P (unsupported u : Sem α) := by
  intro w v w' h
  simp [Go.unsupported] at h
theorem next_tape {P : Program} {r : Nat} {ty : TypeId} : KT P (Instr.next (.pointer (some ⟨r, 0, none⟩)) false ty) := by
  unfold Instr.next
  refine KT.bind (KT.getObj r) fun o => ?_
  repeat' split
  all_goals first
    | exact KT.pure _
    | exact KT.stuck _
    | skip
  · cases ‹false = true›
  · refine KT.bind (KT.getObj _) fun o => ?_
    repeat' split
    all_goals first
      | exact KT.stuck _
      | skip
    · dsimp only
      refine KT.bind (KT.unsupported _) fun _ => KT.bind (KT.choose _) fun j => ?_
      split
      · exact KT.bind (KT.setObj _ _) fun _ => KT.pure _
      · exact KT.pure _
      · exact KT.stuck _
    · dsimp only
      refine KT.bind (KT.choose _) fun j => ?_
      split
      · exact KT.bind (KT.setObj _ _) fun _ => KT.pure _
      · exact KT.pure _
      · exact KT.stuck _
theorem next_below {P : Program} {w w1 : World} {r : Nat} {o o1 : Obj} {v : Value} {ty : TypeId} (hal : w1.Alike w) (h : (Instr.next (.pointer (some ⟨r, 0, none⟩)) false ty).run P (w.alloc o) = .ok v (w1.alloc o1)) (B : Nat) : Below B w w1 :=
  ⟨hal.2.1, next_tape (w.alloc o) v (w1.alloc o1) h, hal.2.2, by rw [hal.1]; exact Nat.le_refl _, fun k _ => by rw [hal.1]⟩
end Go.Proofs.YtpcmbmabmfghkaaDoor

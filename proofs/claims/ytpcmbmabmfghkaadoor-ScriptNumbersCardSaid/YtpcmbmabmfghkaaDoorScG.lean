/- script.verbs. -/
import Derived.Test.YtpcmbmabmfghkaaDoorScF
import Derived.Test.YtpcmbmabmfghkaaDoorRegB
namespace Go.Proofs.YtpcmbmabmfghkaaDoor
open Go.RowKit
set_option linter.unusedVariables false
set_option maxRecDepth 100000
theorem VMap.none {Ld : Nat → Bool} {b : Nat} {W : World} (hb : W.heap[b]? = some (.map #[] 0)) (h : ∀ i, i < 6 → Ld (i + 1) = false) : VMap Ld b W :=
  ⟨_, _, hb, MapKept.stamped_empty 0, fun x hx => by simp at hx, fun i hi hl => by rw [h i hi] at hl; cases hl⟩
theorem VMap.iff {Ld Ld' : Nat → Bool} {b : Nat} {W : World} (h : VMap Ld b W) (he : ∀ i, i < 6 → Ld (i + 1) = Ld' (i + 1)) : VMap Ld' b W := by
  obtain ⟨es, clock, hb, hs, hx, hy⟩ := h
  exact ⟨es, clock, hb, hs, fun x h => by
    obtain ⟨i, hi, hl, e⟩ := hx x h
    exact ⟨i, hi, (he i hi) ▸ hl, e⟩, fun i hi hl => hy i hi ((he i hi).symm ▸ hl)⟩
theorem makeVerbs (w : World) : (Instr.makeMap 77 none).run Tryd.prog w = .ok (.map (some w.heap.size)) (w.alloc (.map #[] 0)) := by
  simp [Instr.makeMap, Result.andThen]
set_option maxHeartbeats 1000000 in
theorem verbs_any (w : World) :
    Calls Tryd.prog 29 #[] w fun e w' => ∃ nb, e = .returned (.map (some nb)) ∧ w.heap.size ≤ nb ∧ VMap (fun _ => true) nb w' ∧ Below w.heap.size w w' := by
  have H0 : VMap (fun _ => false) w.heap.size (w.alloc (.map #[] 0)) := VMap.none (MapKept.heap_alloc w _).1 (fun _ _ => rfl)
  obtain ⟨w1, r1, H1, b1⟩ := vput (i := 0) (by decide) H0 rfl (Nat.le_refl _)
  obtain ⟨w2, r2, H2, b2⟩ := vput (i := 1) (by decide) H1 (by simp [dset]) (Nat.le_refl _)
  obtain ⟨w3, r3, H3, b3⟩ := vput (i := 2) (by decide) H2 (by simp [dset]) (Nat.le_refl _)
  obtain ⟨w4, r4, H4, b4⟩ := vput (i := 3) (by decide) H3 (by simp [dset]) (Nat.le_refl _)
  obtain ⟨w5, r5, H5, b5⟩ := vput (i := 4) (by decide) H4 (by simp [dset]) (Nat.le_refl _)
  obtain ⟨w6, r6, H6, b6⟩ := vput (i := 5) (by decide) H5 (by simp [dset]) (Nat.le_refl _)
  have HV := Lib.hid (H6.iff (Ld' := fun _ => true) (fun i hi => by
    have : i = 0 ∨ i = 1 ∨ i = 2 ∨ i = 3 ∨ i = 4 ∨ i = 5 := by omega
    rcases this with rfl | rfl | rfl | rfl | rfl | rfl
    all_goals simp [dset]))
  have HB := Lib.hid (((((((Below.mk rfl rfl rfl (by rw [World.size_alloc]; omega) (fun k hk => (MapKept.heap_alloc w _).2 k hk) : Below w.heap.size w (w.alloc (.map #[] 0))).trans b1).trans b2).trans b3).trans b4).trans b5).trans b6)
  have R1 : Hid ((Instr.mapUpdate 77 (.map (some w.heap.size)) (.int .i64 1) (.string ⟨#[114, 101, 97, 100]⟩)).run Tryd.prog (w.alloc (.map #[] 0)) = .ok () w1) := Lib.hid r1
  have R2 : Hid ((Instr.mapUpdate 77 (.map (some w.heap.size)) (.int .i64 2) (.string ⟨#[119, 114, 105, 116, 101]⟩)).run Tryd.prog w1 = .ok () w2) := Lib.hid r2
  have R3 : Hid ((Instr.mapUpdate 77 (.map (some w.heap.size)) (.int .i64 3) (.string ⟨#[109, 97, 112]⟩)).run Tryd.prog w2 = .ok () w3) := Lib.hid r3
  have R4 : Hid ((Instr.mapUpdate 77 (.map (some w.heap.size)) (.int .i64 4) (.string ⟨#[102, 111, 114, 107]⟩)).run Tryd.prog w3 = .ok () w4) := Lib.hid r4
  have R5 : Hid ((Instr.mapUpdate 77 (.map (some w.heap.size)) (.int .i64 5) (.string ⟨#[100, 114, 111, 112]⟩)).run Tryd.prog w4 = .ok () w5) := Lib.hid r5
  have R6 : Hid ((Instr.mapUpdate 77 (.map (some w.heap.size)) (.int .i64 6) (.string ⟨#[115, 97, 118, 101]⟩)).run Tryd.prog w5 = .ok () w6) := Lib.hid r6
  clear H0 H1 H2 H3 H4 H5 H6 b1 b2 b3 b4 b5 b6 r1 r2 r3 r4 r5 r6
  go_enter Tryd.func29, Tryd.ntmps29
  go_wp2_with fail
  rw [makeVerbs]
  simp only [Result.andThen]
  rw [Oper.upon_value]
  go_wp2_with fail
  rw [R1.out]
  simp only [Result.andThen]
  rw [Oper.upon_skip]
  go_wp2_with fail
  rw [R2.out]
  simp only [Result.andThen]
  rw [Oper.upon_skip]
  go_wp2_with fail
  rw [R3.out]
  simp only [Result.andThen]
  rw [Oper.upon_skip]
  go_wp2_with fail
  rw [R4.out]
  simp only [Result.andThen]
  rw [Oper.upon_skip]
  go_wp2_with fail
  rw [R5.out]
  simp only [Result.andThen]
  rw [Oper.upon_skip]
  go_wp2_with fail
  rw [R6.out]
  simp only [Result.andThen]
  rw [Oper.upon_skip]
  go_wp2_with fail
  go_ret
  exact ⟨_, rfl, Nat.le_refl _, HV.out, HB.out⟩
end Go.Proofs.YtpcmbmabmfghkaaDoor

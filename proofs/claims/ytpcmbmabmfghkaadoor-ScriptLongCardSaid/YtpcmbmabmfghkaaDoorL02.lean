/- ScF ScG ScT ScH -/
import Derived.Test.YtpcmbmabmfghkaaDoorL01
import Derived.MapFrom
import Derived.Laws.IdiomRangeMap
import Derived.Laws.Tables
import Derived.LoopTactic
import Derived.Deep.Cut
namespace Go.Proofs.YtpcmbmabmfghkaaDoor
open Go.RowKit
set_option linter.unusedVariables false
set_option maxRecDepth 100000
/-- the word of kind i + 1 -/
def nm : Nat → ByteArray
  | 0 => ⟨#[114, 101, 97, 100]⟩
  | 1 => ⟨#[119, 114, 105, 116, 101]⟩
  | 2 => ⟨#[109, 97, 112]⟩
  | 3 => ⟨#[102, 111, 114, 107]⟩
  | 4 => ⟨#[100, 114, 111, 112]⟩
  | _ => ⟨#[115, 97, 118, 101]⟩
/-- the entries so far (an operation's number is one more than its verb's) -/
def VMap (Ld : Nat → Bool) (b : Nat) (W : World) : Prop :=
  ∃ es clock, W.heap[b]? = some (.map es clock) ∧ MapKept.Stamped es clock ∧ (∀ x ∈ es.toList, ∃ i, i < 6 ∧ Ld (i + 1) = true ∧ x.key = .int .i64 ((i : Int) + 1) ∧ x.val = .string (nm i)) ∧ ∀ i, i < 6 → Ld (i + 1) = true → ∃ x ∈ es.toList, x.key = .int .i64 ((i : Int) + 1)
theorem underVM : ∃ kt et d, Tryd.prog.underlying 77 = some (.map kt et) ∧ Tryd.prog.underlying kt = some d ∧ d = .int .i64 := ⟨_, _, _, rfl, rfl, rfl⟩
theorem vput {W : World} {Ld : Nat → Bool} {b B i : Nat} (hi : i < 6) (h : VMap Ld b W) (hf : Ld (i + 1) = false) (hB : B ≤ b) :
    ∃ W', (Instr.mapUpdate 77 (.map (some b)) (.int .i64 ((i : Int) + 1)) (.string (nm i))).run Tryd.prog W = .ok () W' ∧ VMap (dset Ld (i + 1)) b W' ∧ Below B W W' := by
  obtain ⟨es, clock, hb, hs, hx, hy⟩ := h
  obtain ⟨kt, et, d, hm, hd, rfl⟩ := underVM
  have hkey : MapKept.IsKey (.int .i64) (.int .i64 ((i : Int) + 1)) := rfl
  have hks : ∀ x ∈ es.toList, MapKept.IsKey (.int .i64) x.key := fun x h => by
    obtain ⟨j, _, _, e, _⟩ := hx x h
    rw [e]; rfl
  have hno : ∀ x ∈ es.toList, x.key ≠ .int .i64 ((i : Int) + 1) := fun x h e => by
    obtain ⟨j, hj, hl, e2, _⟩ := hx x h
    rw [e2] at e
    injection e with _ e3
    have : j = i := by omega
    subst this
    rw [hf] at hl
    cases hl
  rcases MapKept.findNow_spec hkey es.toList 0 hks with ⟨h1, h2⟩ | ⟨j, e, h1, h2, h3⟩
  · refine ⟨_, by simp [Instr.mapUpdate, run_underlying hm, MapKept.run_getObj_map hb, MapKept.run_checkKey hd hkey, MapKept.run_findKey hd h1, MapKept.run_setObj_map _ hb, Result.andThen]; rfl, ⟨_, _, (MapKept.heap_set hb).1, MapKept.stamped_push hs h2, ?_, ?_⟩, ?_⟩
    · intro x hx'
      simp only [Array.toList_push, List.mem_append, List.mem_singleton] at hx'
      rcases hx' with h | rfl
      · obtain ⟨j, hj, hl, e1, e2⟩ := hx x h
        exact ⟨j, hj, by simp [dset, hl], e1, e2⟩
      · exact ⟨i, hi, by simp [dset], rfl, rfl⟩
    · intro j hj hl
      by_cases hji : j = i
      · subst hji
        exact ⟨_, by simp only [Array.toList_push, List.mem_append, List.mem_singleton]; exact .inr rfl, rfl⟩
      · have hl' : Ld (j + 1) = true := by
          simp only [dset] at hl
          split at hl
          · next e => exact absurd (by omega) hji
          · exact hl
        obtain ⟨x, hx1, hx2⟩ := hy j hj hl'
        exact ⟨x, by simp only [Array.toList_push, List.mem_append]; exact .inl hx1, hx2⟩
    · exact ⟨rfl, rfl, rfl, by simp, fun k hk => (MapKept.heap_set hb).2 k (by omega)⟩
  · exact absurd h3 (hno e (List.mem_of_getElem? h2))
end Go.Proofs.YtpcmbmabmfghkaaDoor

namespace Go.Proofs.YtpcmbmabmfghkaaDoor
open Go.RowKit
set_option linter.unusedVariables false
set_option maxRecDepth 100000
theorem VMap.none {Ld : Nat → Bool} {b : Nat} {W : World} (hb : W.heap[b]? = some (.map #[] 0)) (h : ∀ i, i < 6 → Ld (i + 1) = false) : VMap Ld b W :=
  ⟨_, _, hb, MapKept.stamped_empty 0, fun x hx => by simp at hx, fun i hi hl => by rw [h i hi] at hl; cases hl⟩
theorem VMap.iff {Ld Ld' : Nat → Bool} {b : Nat} {W : World} (h : VMap Ld b W) (he : ∀ i, i < 6 → Ld (i + 1) = Ld' (i + 1)) : VMap Ld' b W := by
  obtain ⟨es, clock, hb, hs, hx, hy⟩ := h
  exact ⟨es, clock, hb, hs, fun x h => by
    obtain ⟨i, hi, hl, e⟩ := hx x h
    exact ⟨i, hi, (he i hi) ▸ hl, e⟩, fun i hi hl => hy i hi ((he i hi).symm ▸ hl)⟩
theorem makeVerbs (w : World) : (Instr.makeMap 77 none).run Tryd.prog w = .ok (.map (some w.heap.size)) (w.alloc (.map #[] 0)) := by
  simp [Instr.makeMap, Result.andThen]
set_option maxHeartbeats 1000000 in
theorem verbs_any (w : World) :
    Calls Tryd.prog 29 #[] w fun e w' => ∃ nb, e = .returned (.map (some nb)) ∧ w.heap.size ≤ nb ∧ VMap (fun _ => true) nb w' ∧ Below w.heap.size w w' := by
  have H0 : VMap (fun _ => false) w.heap.size (w.alloc (.map #[] 0)) := VMap.none (MapKept.heap_alloc w _).1 (fun _ _ => rfl)
  obtain ⟨w1, r1, H1, b1⟩ := vput (i := 0) (by decide) H0 rfl (Nat.le_refl _)
  obtain ⟨w2, r2, H2, b2⟩ := vput (i := 1) (by decide) H1 (by simp [dset]) (Nat.le_refl _)
  obtain ⟨w3, r3, H3, b3⟩ := vput (i := 2) (by decide) H2 (by simp [dset]) (Nat.le_refl _)
  obtain ⟨w4, r4, H4, b4⟩ := vput (i := 3) (by decide) H3 (by simp [dset]) (Nat.le_refl _)
  obtain ⟨w5, r5, H5, b5⟩ := vput (i := 4) (by decide) H4 (by simp [dset]) (Nat.le_refl _)
  obtain ⟨w6, r6, H6, b6⟩ := vput (i := 5) (by decide) H5 (by simp [dset]) (Nat.le_refl _)
  have HV := Lib.hid (H6.iff (Ld' := fun _ => true) (fun i hi => by
    have : i = 0 ∨ i = 1 ∨ i = 2 ∨ i = 3 ∨ i = 4 ∨ i = 5 := by omega
    rcases this with rfl | rfl | rfl | rfl | rfl | rfl
    all_goals simp [dset]))
  have HB := Lib.hid (((((((Below.mk rfl rfl rfl (by rw [World.size_alloc]; omega) (fun k hk => (MapKept.heap_alloc w _).2 k hk) : Below w.heap.size w (w.alloc (.map #[] 0))).trans b1).trans b2).trans b3).trans b4).trans b5).trans b6)
  have R1 : Hid ((Instr.mapUpdate 77 (.map (some w.heap.size)) (.int .i64 1) (.string ⟨#[114, 101, 97, 100]⟩)).run Tryd.prog (w.alloc (.map #[] 0)) = .ok () w1) := Lib.hid r1
  have R2 : Hid ((Instr.mapUpdate 77 (.map (some w.heap.size)) (.int .i64 2) (.string ⟨#[119, 114, 105, 116, 101]⟩)).run Tryd.prog w1 = .ok () w2) := Lib.hid r2
  have R3 : Hid ((Instr.mapUpdate 77 (.map (some w.heap.size)) (.int .i64 3) (.string ⟨#[109, 97, 112]⟩)).run Tryd.prog w2 = .ok () w3) := Lib.hid r3
  have R4 : Hid ((Instr.mapUpdate 77 (.map (some w.heap.size)) (.int .i64 4) (.string ⟨#[102, 111, 114, 107]⟩)).run Tryd.prog w3 = .ok () w4) := Lib.hid r4
  have R5 : Hid ((Instr.mapUpdate 77 (.map (some w.heap.size)) (.int .i64 5) (.string ⟨#[100, 114, 111, 112]⟩)).run Tryd.prog w4 = .ok () w5) := Lib.hid r5
  have R6 : Hid ((Instr.mapUpdate 77 (.map (some w.heap.size)) (.int .i64 6) (.string ⟨#[115, 97, 118, 101]⟩)).run Tryd.prog w5 = .ok () w6) := Lib.hid r6
  clear H0 H1 H2 H3 H4 H5 H6 b1 b2 b3 b4 b5 b6 r1 r2 r3 r4 r5 r6
  go_enter Tryd.func29, Tryd.ntmps29
  go_wp2_with fail
  rw [makeVerbs]
  simp only [Result.andThen]
  rw [Oper.upon_value]
  go_wp2_with fail
  rw [R1.out]
  simp only [Result.andThen]
  rw [Oper.upon_skip]
  go_wp2_with fail
  rw [R2.out]
  simp only [Result.andThen]
  rw [Oper.upon_skip]
  go_wp2_with fail
  rw [R3.out]
  simp only [Result.andThen]
  rw [Oper.upon_skip]
  go_wp2_with fail
  rw [R4.out]
  simp only [Result.andThen]
  rw [Oper.upon_skip]
  go_wp2_with fail
  rw [R5.out]
  simp only [Result.andThen]
  rw [Oper.upon_skip]
  go_wp2_with fail
  rw [R6.out]
  simp only [Result.andThen]
  rw [Oper.upon_skip]
  go_wp2_with fail
  go_ret
  exact ⟨_, rfl, Nat.le_refl _, HV.out, HB.out⟩
end Go.Proofs.YtpcmbmabmfghkaaDoor

namespace Go.Proofs.YtpcmbmabmfghkaaDoor
open Go.RowKit
set_option linter.unusedVariables false
/-- a run that comes to a value keeps the tape -/
def KT {α : Type} (P : Program) (s : Sem α) : Prop := ∀ w v w', s.run P w = .ok v w' → w'.tape = w.tape
theorem KT.bind {α β : Type} {P : Program} {s : Sem α} {f : α → Sem β} (hs : KT P s) (hf : ∀ a, KT P (f a)) : KT P (s >>= f) := by
  intro w v w' h
  rw [Sem.run_bind] at h
  cases e : s.run P w with
  | ok a w1 =>
    rw [e] at h
    exact (hf a w1 v w' h).trans (hs w a w1 e)
  | halt x w1 =>
    rw [e] at h
    cases h
theorem KT.pure {α : Type} {P : Program} (a : α) : KT P (pure a : Sem α) := by
  intro w v w' h
  simp at h
  rw [h.2]
theorem KT.getObj {P : Program} (r : Nat) : KT P (getObj r) := by
  intro w v w' h
  simp only [Go.getObj, Sem.run] at h
  repeat' split at h
  all_goals first | (cases h; rfl) | cases h
theorem KT.setObj {P : Program} (r : Nat) (o : Obj) : KT P (setObj r o) := by
  intro w v w' h
  simp only [Go.setObj, Sem.run] at h
  repeat' split at h
  all_goals first | (cases h; rfl) | cases h
theorem KT.choose {P : Program} (q : Question) : KT P (choose q) := by
  intro w v w' h
  simp only [Go.choose, Sem.run] at h
  repeat' split at h
  all_goals first | (cases h; rfl) | cases h
theorem KT.stuck {α : Type} {P : Program} (s : String) : KT P (stuck s : Sem α) := by
  intro w v w' h
  simp [Go.stuck] at h
theorem KT.unsupported {α : Type} {P : Program} (u : Unsupported) : KT P (unsupported u : Sem α) := by
  intro w v w' h
  simp [Go.unsupported] at h
theorem next_tape {P : Program} {r : Nat} {ty : TypeId} : KT P (Instr.next (.pointer (some ⟨r, 0, none⟩)) false ty) := by
  unfold Instr.next
  refine KT.bind (KT.getObj r) fun o => ?_
  repeat' split
  all_goals first
    | exact KT.pure _
    | exact KT.stuck _
    | skip
  · cases ‹false = true›
  · refine KT.bind (KT.getObj _) fun o => ?_
    repeat' split
    all_goals first
      | exact KT.stuck _
      | skip
    · dsimp only
      refine KT.bind (KT.unsupported _) fun _ => KT.bind (KT.choose _) fun j => ?_
      split
      · exact KT.bind (KT.setObj _ _) fun _ => KT.pure _
      · exact KT.pure _
      · exact KT.stuck _
    · dsimp only
      refine KT.bind (KT.choose _) fun j => ?_
      split
      · exact KT.bind (KT.setObj _ _) fun _ => KT.pure _
      · exact KT.pure _
      · exact KT.stuck _
theorem next_below {P : Program} {w w1 : World} {r : Nat} {o o1 : Obj} {v : Value} {ty : TypeId} (hal : w1.Alike w) (h : (Instr.next (.pointer (some ⟨r, 0, none⟩)) false ty).run P (w.alloc o) = .ok v (w1.alloc o1)) (B : Nat) : Below B w w1 :=
  ⟨hal.2.1, next_tape (w.alloc o) v (w1.alloc o1) h, hal.2.2, by rw [hal.1]; exact Nat.le_refl _, fun k _ => by rw [hal.1]⟩
end Go.Proofs.YtpcmbmabmfghkaaDoor

namespace Go.Proofs.YtpcmbmabmfghkaaDoor
open Go.RowKit
set_option linter.unusedVariables false
set_option maxRecDepth 100000
theorem mem_leftV {es : Array MapEntry} {seen : Array Nat} {x : MapEntry} (h : x ∈ (leftOf es seen).toList) : x ∈ es.toList := by
  unfold leftOf at h
  simp at h ⊢
  exact h.1
set_option maxHeartbeats 2000000 in
/-- the line 'sync' -/
theorem event_sync {w0 w : World} {g : Option Nat} {M : List (Nat × Value)} {L : List Ob} {O O' : List Rw} (rb : Nat)
    (h : Ow w0 w g M L O) (HN : ∀ w1 r, Ow w0 w1 g M L (O ++ [r]) → Calls Tryd.prog 28 #[.pointer (some ⟨rb, 0, none⟩)] w1 fun e w' => e = .returned (.string ⟨#[115, 121, 110, 99]⟩) ∧ Ow w0 w' g M L (O' ++ [r])) :
    Calls Tryd.prog 17 #[.pointer (some ⟨rb, 0, none⟩)] w fun e w' => e = .returned (.agg #[.int .i64 8, .int .i64 0, .int .i64 0, .int .i64 0, .int .i64 0, .int .i64 0, .int .i64 0, .int .i64 0, .slice none 0 0, .int .i64 0, .int .i64 0, .int .i64 0, .int .i64 0, .int .i64 0, .int .i64 0, .int .i64 0, .int .i64 0, .int .u8 0, .int .u8 0, .bool false, .int .i64 0, .int .i64 0, .int .i64 0, .int .i64 0, .bool false, .bool false]) ∧ Ow w0 w' g M L (O') := by
  have hs : ∀ i, i < 6 → ((nm i).toList == [115, 121, 110, 99]) = false := by
    intro i hi
    have : i = 0 ∨ i = 1 ∨ i = 2 ∨ i = 3 ∨ i = 4 ∨ i = 5 := by omega
    rcases this with rfl | rfl | rfl | rfl | rfl | rfl
    all_goals decide +kernel
  have H0 := h.arr #[.int .i64 0, .int .i64 0, .int .i64 0, .int .i64 0, .int .i64 0, .int .i64 0, .int .i64 0, .int .i64 0, .slice none 0 0, .int .i64 0, .int .i64 0, .int .i64 0, .int .i64 0, .int .i64 0, .int .i64 0, .int .i64 0, .int .i64 0, .int .u8 0, .int .u8 0, .bool false, .int .i64 0, .int .i64 0, .int .i64 0, .int .i64 0, .bool false, .bool false] 26 rfl (by omega) 37
  have HO := Lib.hid H0
  have HNx := Lib.hid HN
  clear h H0 HN
  go_enter Tryd.func17, Tryd.ntmps17
  go_wp2_with fail
  refine (HNx.out _ _ HO.out).mono ?_
  rintro e w1 ⟨rfl, ho1⟩
  have HO1 := Lib.hid ho1
  clear ho1
  go_wp2_with fail
  refine (verbs_any w1).mono ?_
  rintro e w2 ⟨nb, rfl, hnb, hvm, hb2⟩
  have HO2 := Lib.hid (HO1.out.go hb2)
  obtain ⟨es, clock, hbk, hst, hx, -⟩ := hvm
  obtain ⟨kt, et, d, hm, hd, -⟩ := underVM
  have hrg := run_range_map (P := Tryd.prog) w2 _ kt et nb es clock hm hbk
  go_wp2_with fail
  all_goals
    go_loopw [] (fun w' => ∃ (wa : World) (seen : Array Nat), wa.Alike w2 ∧ Below w2.heap.size w2 wa ∧ w' = wa.alloc (.mapIter (some nb) clock seen clock)) (fun w' => (leftOf es (w'.iterSeen w2.heap.size)).size)
    case atStart => exact ⟨w2, #[], ⟨rfl, rfl, rfl⟩, Below.refl _ _, rfl⟩
    case round =>
      obtain ⟨wa, seen, hal, hba, rfl⟩ := hrel
      have hsz : wa.heap.size = w2.heap.size := by rw [hal.1]
      have hb1 : wa.heap[nb]? = some (.map es clock) := by rw [hal.1]; exact hbk
      have law := run_next_map (P := Tryd.prog) wa 0 nb clock clock seen es clock hb1 hst.1 (Nat.le_refl _)
      rw [hsz] at law
      rcases law with ⟨h0, hrun⟩ | ⟨e, he, wb, hal2, hrun⟩
      · have hnx : ∀ ty, (Instr.next (.pointer (some ⟨w2.heap.size, 0, none⟩)) false ty).run Tryd.prog (wa.alloc (.mapIter (some nb) clock seen clock)) = _ := fun _ => hrun
        have HO4 := Lib.hid ((HO2.out.go hba).go (w' := wa.alloc (.mapIter (some nb) clock seen clock)) ⟨rfl, rfl, rfl, by rw [World.size_alloc]; omega, fun k hk => (MapKept.heap_alloc wa _).2 k hk⟩)
        clear hx hst hal hba hbk hb1 h0 hrun hb2 hm hd HNx HO HO1
        go_upto_region 25 with fail
        have hg := (HO4.out.rowHeap (O'.length + 0) (by rw [get_r]; rfl)).1
        have hp := HO4.out.putRow (k := 26) (O'.length + 0) (by rw [get_r]; rfl) #[.int .i64 8, .int .i64 0, .int .i64 0, .int .i64 0, .int .i64 0, .int .i64 0, .int .i64 0, .int .i64 0, .slice none 0 0, .int .i64 0, .int .i64 0, .int .i64 0, .int .i64 0, .int .i64 0, .int .i64 0, .int .i64 0, .int .i64 0, .int .u8 0, .int .u8 0, .bool false, .int .i64 0, .int .i64 0, .int .i64 0, .int .i64 0, .bool false, .bool false] rfl (by omega)
        rw [set_r] at hp
        simp only [List.set_cons_zero] at hp
        have HP := Lib.hid hp.fewO
        have l26 := run_loadVar_row (P := Tryd.prog) ((wa.alloc (.mapIter (some nb) clock seen clock)).setRow w.heap.size #[.int .i64 8, .int .i64 0, .int .i64 0, .int .i64 0, .int .i64 0, .int .i64 0, .int .i64 0, .int .i64 0, .slice none 0 0, .int .i64 0, .int .i64 0, .int .i64 0, .int .i64 0, .int .i64 0, .int .i64 0, .int .i64 0, .int .i64 0, .int .u8 0, .int .u8 0, .bool false, .int .i64 0, .int .i64 0, .int .i64 0, .int .i64 0, .bool false, .bool false]) w.heap.size 37 37 #[.int .i64 8, .int .i64 0, .int .i64 0, .int .i64 0, .int .i64 0, .int .i64 0, .int .i64 0, .int .i64 0, .slice none 0 0, .int .i64 0, .int .i64 0, .int .i64 0, .int .i64 0, .int .i64 0, .int .i64 0, .int .i64 0, .int .i64 0, .int .u8 0, .int .u8 0, .bool false, .int .i64 0, .int .i64 0, .int .i64 0, .int .i64 0, .bool false, .bool false] (0, 0) _ (hp.rowHeap (O'.length + 0) (by rw [get_r]; rfl)).1 Tryd.underlying37 rfl sizeEv
        have has : ∀ (ad : Addr) (W : World), (asAddr (.pointer (some ad))).run Tryd.prog W = .ok ad W := fun _ _ => rfl
        have HG := Lib.hid hg
        clear hp hg
        repeat (first | refine wpList_store_row rfl 37 (.tmp 2) (.tmp 72) rfl w.heap.size #[.int .i64 8, .int .i64 0, .int .i64 0, .int .i64 0, .int .i64 0, .int .i64 0, .int .i64 0, .int .i64 0, .slice none 0 0, .int .i64 0, .int .i64 0, .int .i64 0, .int .i64 0, .int .i64 0, .int .i64 0, .int .i64 0, .int .i64 0, .int .u8 0, .int .u8 0, .bool false, .int .i64 0, .int .i64 0, .int .i64 0, .int .i64 0, .bool false, .bool false] rfl rfl 37 _ HG.out sizeEv rfl (by simp [Value.oneCell']) ?_ | go_step)
        go_wp2_with fail
        refine bodyPost_ret (v := .agg #[.int .i64 8, .int .i64 0, .int .i64 0, .int .i64 0, .int .i64 0, .int .i64 0, .int .i64 0, .int .i64 0, .slice none 0 0, .int .i64 0, .int .i64 0, .int .i64 0, .int .i64 0, .int .i64 0, .int .i64 0, .int .i64 0, .int .i64 0, .int .u8 0, .int .u8 0, .bool false, .int .i64 0, .int .i64 0, .int .i64 0, .int .i64 0, .bool false, .bool false]) (by simp [results, Tryd.results17, asAddr, l26, Act.put]) rfl ?_
        exact ⟨rfl, HP.out⟩
      · obtain ⟨i, hi, -, hkx, hval⟩ := hx e (mem_leftV he)
        rw [hval, hkx] at hrun
        have hnx : ∀ ty, (Instr.next (.pointer (some ⟨w2.heap.size, 0, none⟩)) false ty).run Tryd.prog (wa.alloc (.mapIter (some nb) clock seen clock)) = _ := fun _ => hrun
        have hsz2 : wb.heap.size = w2.heap.size := by rw [hal2.1, hal.1]
        have hb3 : wb.heap[nb]? = some (.map es clock) := by rw [hal2.1]; exact hb1
        have hen := run_entry_map (P := Tryd.prog) wb nb clock seen es clock e hb3 (mem_leftV he) hst.2.1
        rw [hsz2, hval, hkx] at hen
        have hal3 : wb.Alike w2 := ⟨hal2.1.trans hal.1, hal2.2.1.trans hal.2.1, hal2.2.2.trans hal.2.2⟩
        have hcmp := hs i hi
        clear hx
        have hbb := hba.trans (next_below hal2 hrun w2.heap.size)
        go_wp2_with fail
        go_roundw
        case rel => exact ⟨wb, seen.push e.born, hal3, hbb, rfl⟩
        case measure =>
          rw [← hsz2, World.iterSeen_alloc, hsz2, ← hsz, World.iterSeen_alloc]
          exact left_shrinks es seen e he
set_option maxHeartbeats 2000000 in
/-- the line 'flush' -/
theorem event_flush {w0 w : World} {g : Option Nat} {M : List (Nat × Value)} {L : List Ob} {O O' : List Rw} (rb : Nat)
    (h : Ow w0 w g M L O) (HN : ∀ w1 r, Ow w0 w1 g M L (O ++ [r]) → Calls Tryd.prog 28 #[.pointer (some ⟨rb, 0, none⟩)] w1 fun e w' => e = .returned (.string ⟨#[102, 108, 117, 115, 104]⟩) ∧ Ow w0 w' g M L (O' ++ [r])) :
    Calls Tryd.prog 17 #[.pointer (some ⟨rb, 0, none⟩)] w fun e w' => e = .returned (.agg #[.int .i64 6, .int .i64 0, .int .i64 0, .int .i64 0, .int .i64 0, .int .i64 0, .int .i64 0, .int .i64 0, .slice none 0 0, .int .i64 0, .int .i64 0, .int .i64 0, .int .i64 0, .int .i64 0, .int .i64 0, .int .i64 0, .int .i64 0, .int .u8 0, .int .u8 0, .bool false, .int .i64 0, .int .i64 0, .int .i64 0, .int .i64 0, .bool false, .bool false]) ∧ Ow w0 w' g M L (O') := by
  have hs : ∀ i, i < 6 → ((nm i).toList == [102, 108, 117, 115, 104]) = false := by
    intro i hi
    have : i = 0 ∨ i = 1 ∨ i = 2 ∨ i = 3 ∨ i = 4 ∨ i = 5 := by omega
    rcases this with rfl | rfl | rfl | rfl | rfl | rfl
    all_goals decide +kernel
  have H0 := h.arr #[.int .i64 0, .int .i64 0, .int .i64 0, .int .i64 0, .int .i64 0, .int .i64 0, .int .i64 0, .int .i64 0, .slice none 0 0, .int .i64 0, .int .i64 0, .int .i64 0, .int .i64 0, .int .i64 0, .int .i64 0, .int .i64 0, .int .i64 0, .int .u8 0, .int .u8 0, .bool false, .int .i64 0, .int .i64 0, .int .i64 0, .int .i64 0, .bool false, .bool false] 26 rfl (by omega) 37
  have HO := Lib.hid H0
  have HNx := Lib.hid HN
  clear h H0 HN
  go_enter Tryd.func17, Tryd.ntmps17
  go_wp2_with fail
  refine (HNx.out _ _ HO.out).mono ?_
  rintro e w1 ⟨rfl, ho1⟩
  have HO1 := Lib.hid ho1
  clear ho1
  go_wp2_with fail
  refine (verbs_any w1).mono ?_
  rintro e w2 ⟨nb, rfl, hnb, hvm, hb2⟩
  have HO2 := Lib.hid (HO1.out.go hb2)
  obtain ⟨es, clock, hbk, hst, hx, -⟩ := hvm
  obtain ⟨kt, et, d, hm, hd, -⟩ := underVM
  have hrg := run_range_map (P := Tryd.prog) w2 _ kt et nb es clock hm hbk
  go_wp2_with fail
  all_goals
    go_loopw [] (fun w' => ∃ (wa : World) (seen : Array Nat), wa.Alike w2 ∧ Below w2.heap.size w2 wa ∧ w' = wa.alloc (.mapIter (some nb) clock seen clock)) (fun w' => (leftOf es (w'.iterSeen w2.heap.size)).size)
    case atStart => exact ⟨w2, #[], ⟨rfl, rfl, rfl⟩, Below.refl _ _, rfl⟩
    case round =>
      obtain ⟨wa, seen, hal, hba, rfl⟩ := hrel
      have hsz : wa.heap.size = w2.heap.size := by rw [hal.1]
      have hb1 : wa.heap[nb]? = some (.map es clock) := by rw [hal.1]; exact hbk
      have law := run_next_map (P := Tryd.prog) wa 0 nb clock clock seen es clock hb1 hst.1 (Nat.le_refl _)
      rw [hsz] at law
      rcases law with ⟨h0, hrun⟩ | ⟨e, he, wb, hal2, hrun⟩
      · have hnx : ∀ ty, (Instr.next (.pointer (some ⟨w2.heap.size, 0, none⟩)) false ty).run Tryd.prog (wa.alloc (.mapIter (some nb) clock seen clock)) = _ := fun _ => hrun
        have HO4 := Lib.hid ((HO2.out.go hba).go (w' := wa.alloc (.mapIter (some nb) clock seen clock)) ⟨rfl, rfl, rfl, by rw [World.size_alloc]; omega, fun k hk => (MapKept.heap_alloc wa _).2 k hk⟩)
        clear hx hst hal hba hbk hb1 h0 hrun hb2 hm hd HNx HO HO1
        go_upto_region 23 with fail
        have hg := (HO4.out.rowHeap (O'.length + 0) (by rw [get_r]; rfl)).1
        have hp := HO4.out.putRow (k := 26) (O'.length + 0) (by rw [get_r]; rfl) #[.int .i64 6, .int .i64 0, .int .i64 0, .int .i64 0, .int .i64 0, .int .i64 0, .int .i64 0, .int .i64 0, .slice none 0 0, .int .i64 0, .int .i64 0, .int .i64 0, .int .i64 0, .int .i64 0, .int .i64 0, .int .i64 0, .int .i64 0, .int .u8 0, .int .u8 0, .bool false, .int .i64 0, .int .i64 0, .int .i64 0, .int .i64 0, .bool false, .bool false] rfl (by omega)
        rw [set_r] at hp
        simp only [List.set_cons_zero] at hp
        have HP := Lib.hid hp.fewO
        have l26 := run_loadVar_row (P := Tryd.prog) ((wa.alloc (.mapIter (some nb) clock seen clock)).setRow w.heap.size #[.int .i64 6, .int .i64 0, .int .i64 0, .int .i64 0, .int .i64 0, .int .i64 0, .int .i64 0, .int .i64 0, .slice none 0 0, .int .i64 0, .int .i64 0, .int .i64 0, .int .i64 0, .int .i64 0, .int .i64 0, .int .i64 0, .int .i64 0, .int .u8 0, .int .u8 0, .bool false, .int .i64 0, .int .i64 0, .int .i64 0, .int .i64 0, .bool false, .bool false]) w.heap.size 37 37 #[.int .i64 6, .int .i64 0, .int .i64 0, .int .i64 0, .int .i64 0, .int .i64 0, .int .i64 0, .int .i64 0, .slice none 0 0, .int .i64 0, .int .i64 0, .int .i64 0, .int .i64 0, .int .i64 0, .int .i64 0, .int .i64 0, .int .i64 0, .int .u8 0, .int .u8 0, .bool false, .int .i64 0, .int .i64 0, .int .i64 0, .int .i64 0, .bool false, .bool false] (0, 0) _ (hp.rowHeap (O'.length + 0) (by rw [get_r]; rfl)).1 Tryd.underlying37 rfl sizeEv
        have has : ∀ (ad : Addr) (W : World), (asAddr (.pointer (some ad))).run Tryd.prog W = .ok ad W := fun _ _ => rfl
        have HG := Lib.hid hg
        clear hp hg
        repeat (first | refine wpList_store_row rfl 37 (.tmp 2) (.tmp 69) rfl w.heap.size #[.int .i64 6, .int .i64 0, .int .i64 0, .int .i64 0, .int .i64 0, .int .i64 0, .int .i64 0, .int .i64 0, .slice none 0 0, .int .i64 0, .int .i64 0, .int .i64 0, .int .i64 0, .int .i64 0, .int .i64 0, .int .i64 0, .int .i64 0, .int .u8 0, .int .u8 0, .bool false, .int .i64 0, .int .i64 0, .int .i64 0, .int .i64 0, .bool false, .bool false] rfl rfl 37 _ HG.out sizeEv rfl (by simp [Value.oneCell']) ?_ | go_step)
        go_wp2_with fail
        refine bodyPost_ret (v := .agg #[.int .i64 6, .int .i64 0, .int .i64 0, .int .i64 0, .int .i64 0, .int .i64 0, .int .i64 0, .int .i64 0, .slice none 0 0, .int .i64 0, .int .i64 0, .int .i64 0, .int .i64 0, .int .i64 0, .int .i64 0, .int .i64 0, .int .i64 0, .int .u8 0, .int .u8 0, .bool false, .int .i64 0, .int .i64 0, .int .i64 0, .int .i64 0, .bool false, .bool false]) (by simp [results, Tryd.results17, asAddr, l26, Act.put]) rfl ?_
        exact ⟨rfl, HP.out⟩
      · obtain ⟨i, hi, -, hkx, hval⟩ := hx e (mem_leftV he)
        rw [hval, hkx] at hrun
        have hnx : ∀ ty, (Instr.next (.pointer (some ⟨w2.heap.size, 0, none⟩)) false ty).run Tryd.prog (wa.alloc (.mapIter (some nb) clock seen clock)) = _ := fun _ => hrun
        have hsz2 : wb.heap.size = w2.heap.size := by rw [hal2.1, hal.1]
        have hb3 : wb.heap[nb]? = some (.map es clock) := by rw [hal2.1]; exact hb1
        have hen := run_entry_map (P := Tryd.prog) wb nb clock seen es clock e hb3 (mem_leftV he) hst.2.1
        rw [hsz2, hval, hkx] at hen
        have hal3 : wb.Alike w2 := ⟨hal2.1.trans hal.1, hal2.2.1.trans hal.2.1, hal2.2.2.trans hal.2.2⟩
        have hcmp := hs i hi
        clear hx
        have hbb := hba.trans (next_below hal2 hrun w2.heap.size)
        go_wp2_with fail
        go_roundw
        case rel => exact ⟨wb, seen.push e.born, hal3, hbb, rfl⟩
        case measure =>
          rw [← hsz2, World.iterSeen_alloc, hsz2, ← hsz, World.iterSeen_alloc]
          exact left_shrinks es seen e he
set_option maxHeartbeats 2000000 in
/-- an empty word -/
theorem event_none {w0 w : World} {g : Option Nat} {M : List (Nat × Value)} {L : List Ob} {O O' : List Rw} (rb : Nat) (ri : Nat) (sl bad : Value)
    (h : Ow w0 w g M L O) (HN : ∀ w1 r, Ow w0 w1 g M L (O ++ [r]) → Calls Tryd.prog 28 #[.pointer (some ⟨rb, 0, none⟩)] w1 fun e w' => e = .returned (.string ⟨#[]⟩) ∧ Ow w0 w' g M L (O' ++ [r]))
    (hR : O'[ri]? = some ⟨some ⟨rb, 0, none⟩, 2, 2, 62, [sl, bad]⟩) :
    Calls Tryd.prog 17 #[.pointer (some ⟨rb, 0, none⟩)] w fun e w' => e = .returned (.agg #[.int .i64 0, .int .i64 0, .int .i64 0, .int .i64 0, .int .i64 0, .int .i64 0, .int .i64 0, .int .i64 0, .slice none 0 0, .int .i64 0, .int .i64 0, .int .i64 0, .int .i64 0, .int .i64 0, .int .i64 0, .int .i64 0, .int .i64 0, .int .u8 0, .int .u8 0, .bool false, .int .i64 0, .int .i64 0, .int .i64 0, .int .i64 0, .bool false, .bool false]) ∧ Ow w0 w' g M L (O'.set ri ⟨some ⟨rb, 0, none⟩, 2, 2, 62, [sl, .bool true]⟩) := by
  have hs : ∀ i, i < 6 → ((nm i).toList == []) = false := by
    intro i hi
    have : i = 0 ∨ i = 1 ∨ i = 2 ∨ i = 3 ∨ i = 4 ∨ i = 5 := by omega
    rcases this with rfl | rfl | rfl | rfl | rfl | rfl
    all_goals decide +kernel
  have H0 := h.arr #[.int .i64 0, .int .i64 0, .int .i64 0, .int .i64 0, .int .i64 0, .int .i64 0, .int .i64 0, .int .i64 0, .slice none 0 0, .int .i64 0, .int .i64 0, .int .i64 0, .int .i64 0, .int .i64 0, .int .i64 0, .int .i64 0, .int .i64 0, .int .u8 0, .int .u8 0, .bool false, .int .i64 0, .int .i64 0, .int .i64 0, .int .i64 0, .bool false, .bool false] 26 rfl (by omega) 37
  have HO := Lib.hid H0
  have HNx := Lib.hid HN
  have HRx := Lib.hid hR
  clear hR
  clear h H0 HN
  go_enter Tryd.func17, Tryd.ntmps17
  go_wp2_with fail
  refine (HNx.out _ _ HO.out).mono ?_
  rintro e w1 ⟨rfl, ho1⟩
  have HO1 := Lib.hid ho1
  clear ho1
  go_wp2_with fail
  refine (verbs_any w1).mono ?_
  rintro e w2 ⟨nb, rfl, hnb, hvm, hb2⟩
  have HO2 := Lib.hid (HO1.out.go hb2)
  obtain ⟨es, clock, hbk, hst, hx, -⟩ := hvm
  obtain ⟨kt, et, d, hm, hd, -⟩ := underVM
  have hrg := run_range_map (P := Tryd.prog) w2 _ kt et nb es clock hm hbk
  go_wp2_with fail
  all_goals
    go_loopw [] (fun w' => ∃ (wa : World) (seen : Array Nat), wa.Alike w2 ∧ Below w2.heap.size w2 wa ∧ w' = wa.alloc (.mapIter (some nb) clock seen clock)) (fun w' => (leftOf es (w'.iterSeen w2.heap.size)).size)
    case atStart => exact ⟨w2, #[], ⟨rfl, rfl, rfl⟩, Below.refl _ _, rfl⟩
    case round =>
      obtain ⟨wa, seen, hal, hba, rfl⟩ := hrel
      have hsz : wa.heap.size = w2.heap.size := by rw [hal.1]
      have hb1 : wa.heap[nb]? = some (.map es clock) := by rw [hal.1]; exact hbk
      have law := run_next_map (P := Tryd.prog) wa 0 nb clock clock seen es clock hb1 hst.1 (Nat.le_refl _)
      rw [hsz] at law
      rcases law with ⟨h0, hrun⟩ | ⟨e, he, wb, hal2, hrun⟩
      · have hnx : ∀ ty, (Instr.next (.pointer (some ⟨w2.heap.size, 0, none⟩)) false ty).run Tryd.prog (wa.alloc (.mapIter (some nb) clock seen clock)) = _ := fun _ => hrun
        have HO4 := Lib.hid ((HO2.out.go hba).go (w' := wa.alloc (.mapIter (some nb) clock seen clock)) ⟨rfl, rfl, rfl, by rw [World.size_alloc]; omega, fun k hk => (MapKept.heap_alloc wa _).2 k hk⟩)
        clear hx hst hal hba hbk hb1 h0 hrun hb2 hm hd HNx HO HO1
        go_upto_region 26 with fail
        have hRr := (get_l O' [(⟨some ⟨w.heap.size, 0, none⟩, 26, 26, 37, [.int .i64 0, .int .i64 0, .int .i64 0, .int .i64 0, .int .i64 0, .int .i64 0, .int .i64 0, .int .i64 0, .slice none 0 0, .int .i64 0, .int .i64 0, .int .i64 0, .int .i64 0, .int .i64 0, .int .i64 0, .int .i64 0, .int .i64 0, .int .u8 0, .int .u8 0, .bool false, .int .i64 0, .int .i64 0, .int .i64 0, .int .i64 0, .bool false, .bool false]⟩ : Rw)] (get_lt HRx.out)).trans HRx.out
        have HO5 := Lib.hid (by have hq := HO4.out.put ri hRr 1 (.bool true); rw [set_l _ _ (get_lt HRx.out)] at hq; exact hq : Ow w0 ((wa.alloc (.mapIter (some nb) clock seen clock)).setCell ⟨rb, 1, none⟩ (.bool true)) g M L ((O'.set ri ⟨some ⟨rb, 0, none⟩, 2, 2, 62, [sl, .bool true]⟩) ++ [(⟨some ⟨w.heap.size, 0, none⟩, 26, 26, 37, [.int .i64 0, .int .i64 0, .int .i64 0, .int .i64 0, .int .i64 0, .int .i64 0, .int .i64 0, .int .i64 0, .slice none 0 0, .int .i64 0, .int .i64 0, .int .i64 0, .int .i64 0, .int .i64 0, .int .i64 0, .int .i64 0, .int .i64 0, .int .u8 0, .int .u8 0, .bool false, .int .i64 0, .int .i64 0, .int .i64 0, .int .i64 0, .bool false, .bool false]⟩ : Rw)]))
        have frz := HO4.out.thaw ri hRr 1
        have yb := (HO4.out.row ri hRr).cellAt 1 (by decide)
        clear hRr HO4
        have hg := (HO5.out.rowHeap ((O'.set ri ⟨some ⟨rb, 0, none⟩, 2, 2, 62, [sl, .bool true]⟩).length + 0) (by rw [get_r]; rfl)).1
        have hp := HO5.out.putRow (k := 26) ((O'.set ri ⟨some ⟨rb, 0, none⟩, 2, 2, 62, [sl, .bool true]⟩).length + 0) (by rw [get_r]; rfl) #[.int .i64 0, .int .i64 0, .int .i64 0, .int .i64 0, .int .i64 0, .int .i64 0, .int .i64 0, .int .i64 0, .slice none 0 0, .int .i64 0, .int .i64 0, .int .i64 0, .int .i64 0, .int .i64 0, .int .i64 0, .int .i64 0, .int .i64 0, .int .u8 0, .int .u8 0, .bool false, .int .i64 0, .int .i64 0, .int .i64 0, .int .i64 0, .bool false, .bool false] rfl (by omega)
        rw [set_r] at hp
        simp only [List.set_cons_zero] at hp
        have HP := Lib.hid hp.fewO
        have l26 := run_loadVar_row (P := Tryd.prog) (((wa.alloc (.mapIter (some nb) clock seen clock)).setCell ⟨rb, 1, none⟩ (.bool true)).setRow w.heap.size #[.int .i64 0, .int .i64 0, .int .i64 0, .int .i64 0, .int .i64 0, .int .i64 0, .int .i64 0, .int .i64 0, .slice none 0 0, .int .i64 0, .int .i64 0, .int .i64 0, .int .i64 0, .int .i64 0, .int .i64 0, .int .i64 0, .int .i64 0, .int .u8 0, .int .u8 0, .bool false, .int .i64 0, .int .i64 0, .int .i64 0, .int .i64 0, .bool false, .bool false]) w.heap.size 37 37 #[.int .i64 0, .int .i64 0, .int .i64 0, .int .i64 0, .int .i64 0, .int .i64 0, .int .i64 0, .int .i64 0, .slice none 0 0, .int .i64 0, .int .i64 0, .int .i64 0, .int .i64 0, .int .i64 0, .int .i64 0, .int .i64 0, .int .i64 0, .int .u8 0, .int .u8 0, .bool false, .int .i64 0, .int .i64 0, .int .i64 0, .int .i64 0, .bool false, .bool false] (0, 0) _ (hp.rowHeap ((O'.set ri ⟨some ⟨rb, 0, none⟩, 2, 2, 62, [sl, .bool true]⟩).length + 0) (by rw [get_r]; rfl)).1 Tryd.underlying37 rfl sizeEv
        have has : ∀ (ad : Addr) (W : World), (asAddr (.pointer (some ad))).run Tryd.prog W = .ok ad W := fun _ _ => rfl
        have HG := Lib.hid hg
        clear hp hg
        repeat (first | refine wpList_store_row rfl 37 (.tmp 2) (.tmp 76) rfl w.heap.size #[.int .i64 0, .int .i64 0, .int .i64 0, .int .i64 0, .int .i64 0, .int .i64 0, .int .i64 0, .int .i64 0, .slice none 0 0, .int .i64 0, .int .i64 0, .int .i64 0, .int .i64 0, .int .i64 0, .int .i64 0, .int .i64 0, .int .i64 0, .int .u8 0, .int .u8 0, .bool false, .int .i64 0, .int .i64 0, .int .i64 0, .int .i64 0, .bool false, .bool false] rfl rfl 37 _ HG.out sizeEv rfl (by simp [Value.oneCell']) ?_ | go_step)
        go_wp2_with fail
        refine bodyPost_ret (v := .agg #[.int .i64 0, .int .i64 0, .int .i64 0, .int .i64 0, .int .i64 0, .int .i64 0, .int .i64 0, .int .i64 0, .slice none 0 0, .int .i64 0, .int .i64 0, .int .i64 0, .int .i64 0, .int .i64 0, .int .i64 0, .int .i64 0, .int .i64 0, .int .u8 0, .int .u8 0, .bool false, .int .i64 0, .int .i64 0, .int .i64 0, .int .i64 0, .bool false, .bool false]) (by simp [results, Tryd.results17, asAddr, l26, Act.put]) rfl ?_
        exact ⟨rfl, HP.out⟩
      · obtain ⟨i, hi, -, hkx, hval⟩ := hx e (mem_leftV he)
        rw [hval, hkx] at hrun
        have hnx : ∀ ty, (Instr.next (.pointer (some ⟨w2.heap.size, 0, none⟩)) false ty).run Tryd.prog (wa.alloc (.mapIter (some nb) clock seen clock)) = _ := fun _ => hrun
        have hsz2 : wb.heap.size = w2.heap.size := by rw [hal2.1, hal.1]
        have hb3 : wb.heap[nb]? = some (.map es clock) := by rw [hal2.1]; exact hb1
        have hen := run_entry_map (P := Tryd.prog) wb nb clock seen es clock e hb3 (mem_leftV he) hst.2.1
        rw [hsz2, hval, hkx] at hen
        have hal3 : wb.Alike w2 := ⟨hal2.1.trans hal.1, hal2.2.1.trans hal.2.1, hal2.2.2.trans hal.2.2⟩
        have hcmp := hs i hi
        clear hx
        have hbb := hba.trans (next_below hal2 hrun w2.heap.size)
        go_wp2_with fail
        go_roundw
        case rel => exact ⟨wb, seen.push e.born, hal3, hbb, rfl⟩
        case measure =>
          rw [← hsz2, World.iterSeen_alloc, hsz2, ← hsz, World.iterSeen_alloc]
          exact left_shrinks es seen e he
end Go.Proofs.YtpcmbmabmfghkaaDoor

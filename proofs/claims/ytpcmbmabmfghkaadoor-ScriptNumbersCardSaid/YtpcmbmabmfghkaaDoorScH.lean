/- script.reader.event at a verb that is no operation's. -/
import Derived.Test.YtpcmbmabmfghkaaDoorScT
import Derived.Laws.IdiomRangeMap
import Derived.Laws.Tables
import Derived.LoopTactic
import Derived.Deep.Cut
namespace Go.Proofs.YtpcmbmabmfghkaaDoor
open Go.RowKit
set_option linter.unusedVariables false
set_option maxRecDepth 100000
theorem mem_leftV {es : Array MapEntry} {seen : Array Nat} {x : MapEntry} (h : x ∈ (leftOf es seen).toList) : x ∈ es.toList := by
  unfold leftOf at h
  simp at h ⊢
  exact h.1
set_option maxHeartbeats 2000000 in
/-- the line 'sync' -/
theorem event_sync {w0 w : World} {g : Option Nat} {M : List (Nat × Value)} {L : List Ob} {O O' : List Rw} (rb : Nat)
    (h : Ow w0 w g M L O) (HN : ∀ w1 r, Ow w0 w1 g M L (O ++ [r]) → Calls Tryd.prog 28 #[.pointer (some ⟨rb, 0, none⟩)] w1 fun e w' => e = .returned (.string ⟨#[115, 121, 110, 99]⟩) ∧ Ow w0 w' g M L (O' ++ [r])) :
    Calls Tryd.prog 17 #[.pointer (some ⟨rb, 0, none⟩)] w fun e w' => e = .returned (.agg #[.int .i64 8, .int .i64 0, .int .i64 0, .int .i64 0, .int .i64 0, .int .i64 0, .int .i64 0, .int .i64 0, .slice none 0 0, .int .i64 0, .int .i64 0, .int .i64 0, .int .i64 0, .int .i64 0, .int .i64 0, .int .i64 0, .int .i64 0, .int .u8 0, .int .u8 0, .bool false, .int .i64 0, .int .i64 0, .int .i64 0, .int .i64 0, .bool false, .bool false]) ∧ Ow w0 w' g M L (O') := by
  have hs : ∀ i, i < 6 → ((nm i).toList == [115, 121, 110, 99]) = false := by
    intro i hi
    have : i = 0 ∨ i = 1 ∨ i = 2 ∨ i = 3 ∨ i = 4 ∨ i = 5 := by omega
    rcases this with rfl | rfl | rfl | rfl | rfl | rfl
    all_goals decide +kernel
  have H0 := h.arr #[.int .i64 0, .int .i64 0, .int .i64 0, .int .i64 0, .int .i64 0, .int .i64 0, .int .i64 0, .int .i64 0, .slice none 0 0, .int .i64 0, .int .i64 0, .int .i64 0, .int .i64 0, .int .i64 0, .int .i64 0, .int .i64 0, .int .i64 0, .int .u8 0, .int .u8 0, .bool false, .int .i64 0, .int .i64 0, .int .i64 0, .int .i64 0, .bool false, .bool false] 26 rfl (by omega) 37
  have HO := Lib.hid H0
  have HNx := Lib.hid HN
  clear h H0 HN
  go_enter Tryd.func17, Tryd.ntmps17
  go_wp2_with fail
  refine (HNx.out _ _ HO.out).mono ?_
  rintro e w1 ⟨rfl, ho1⟩
  have HO1 := Lib.hid ho1
  clear ho1
  go_wp2_with fail
  refine (verbs_any w1).mono ?_
  rintro e w2 ⟨nb, rfl, hnb, hvm, hb2⟩
  have HO2 := Lib.hid (HO1.out.go hb2)
  obtain ⟨es, clock, hbk, hst, hx, -⟩ := hvm
  obtain ⟨kt, et, d, hm, hd, -⟩ := underVM
  have hrg := run_range_map (P := Tryd.prog) w2 _ kt et nb es clock hm hbk
  go_wp2_with fail
  all_goals
    go_loopw [] (fun w' => ∃ (wa : World) (seen : Array Nat), wa.Alike w2 ∧ Below w2.heap.size w2 wa ∧ w' = wa.alloc (.mapIter (some nb) clock seen clock)) (fun w' => (leftOf es (w'.iterSeen w2.heap.size)).size)
    case atStart => exact ⟨w2, #[], ⟨rfl, rfl, rfl⟩, Below.refl _ _, rfl⟩
    case round =>
      obtain ⟨wa, seen, hal, hba, rfl⟩ := hrel
      have hsz : wa.heap.size = w2.heap.size := by rw [hal.1]
      have hb1 : wa.heap[nb]? = some (.map es clock) := by rw [hal.1]; exact hbk
      have law := run_next_map (P := Tryd.prog) wa 0 nb clock clock seen es clock hb1 hst.1 (Nat.le_refl _)
      rw [hsz] at law
      rcases law with ⟨h0, hrun⟩ | ⟨e, he, wb, hal2, hrun⟩
      · have hnx : ∀ ty, (Instr.next (.pointer (some ⟨w2.heap.size, 0, none⟩)) false ty).run Tryd.prog (wa.alloc (.mapIter (some nb) clock seen clock)) = _ := fun _ => hrun
        have HO4 := Lib.hid ((HO2.out.go hba).go (w' := wa.alloc (.mapIter (some nb) clock seen clock)) ⟨rfl, rfl, rfl, by rw [World.size_alloc]; omega, fun k hk => (MapKept.heap_alloc wa _).2 k hk⟩)
        clear hx hst hal hba hbk hb1 h0 hrun hb2 hm hd HNx HO HO1
        go_upto_region 25 with fail
        have hg := (HO4.out.rowHeap (O'.length + 0) (by rw [get_r]; rfl)).1
        have hp := HO4.out.putRow (k := 26) (O'.length + 0) (by rw [get_r]; rfl) #[.int .i64 8, .int .i64 0, .int .i64 0, .int .i64 0, .int .i64 0, .int .i64 0, .int .i64 0, .int .i64 0, .slice none 0 0, .int .i64 0, .int .i64 0, .int .i64 0, .int .i64 0, .int .i64 0, .int .i64 0, .int .i64 0, .int .i64 0, .int .u8 0, .int .u8 0, .bool false, .int .i64 0, .int .i64 0, .int .i64 0, .int .i64 0, .bool false, .bool false] rfl (by omega)
        rw [set_r] at hp
        simp only [List.set_cons_zero] at hp
        have HP := Lib.hid hp.fewO
        have l26 := run_loadVar_row (P := Tryd.prog) ((wa.alloc (.mapIter (some nb) clock seen clock)).setRow w.heap.size #[.int .i64 8, .int .i64 0, .int .i64 0, .int .i64 0, .int .i64 0, .int .i64 0, .int .i64 0, .int .i64 0, .slice none 0 0, .int .i64 0, .int .i64 0, .int .i64 0, .int .i64 0, .int .i64 0, .int .i64 0, .int .i64 0, .int .i64 0, .int .u8 0, .int .u8 0, .bool false, .int .i64 0, .int .i64 0, .int .i64 0, .int .i64 0, .bool false, .bool false]) w.heap.size 37 37 #[.int .i64 8, .int .i64 0, .int .i64 0, .int .i64 0, .int .i64 0, .int .i64 0, .int .i64 0, .int .i64 0, .slice none 0 0, .int .i64 0, .int .i64 0, .int .i64 0, .int .i64 0, .int .i64 0, .int .i64 0, .int .i64 0, .int .i64 0, .int .u8 0, .int .u8 0, .bool false, .int .i64 0, .int .i64 0, .int .i64 0, .int .i64 0, .bool false, .bool false] (0, 0) _ (hp.rowHeap (O'.length + 0) (by rw [get_r]; rfl)).1 Tryd.underlying37 rfl sizeEv
        have has : ∀ (ad : Addr) (W : World), (asAddr (.pointer (some ad))).run Tryd.prog W = .ok ad W := fun _ _ => rfl
        have HG := Lib.hid hg
        clear hp hg
        repeat (first | refine wpList_store_row rfl 37 (.tmp 2) (.tmp 72) rfl w.heap.size #[.int .i64 8, .int .i64 0, .int .i64 0, .int .i64 0, .int .i64 0, .int .i64 0, .int .i64 0, .int .i64 0, .slice none 0 0, .int .i64 0, .int .i64 0, .int .i64 0, .int .i64 0, .int .i64 0, .int .i64 0, .int .i64 0, .int .i64 0, .int .u8 0, .int .u8 0, .bool false, .int .i64 0, .int .i64 0, .int .i64 0, .int .i64 0, .bool false, .bool false] rfl rfl 37 _ HG.out sizeEv rfl (by simp [Value.oneCell']) ?_ | go_step)
        go_wp2_with fail
        refine bodyPost_ret (v := .agg #[.int .i64 8, .int .i64 0, .int .i64 0, .int .i64 0, .int .i64 0, .int .i64 0, .int .i64 0, .int .i64 0, .slice none 0 0, .int .i64 0, .int .i64 0, .int .i64 0, .int .i64 0, .int .i64 0, .int .i64 0, .int .i64 0, .int .i64 0, .int .u8 0, .int .u8 0, .bool false, .int .i64 0, .int .i64 0, .int .i64 0, .int .i64 0, .bool false, .bool false]) (by simp [results, Tryd.results17, asAddr, l26, Act.put]) rfl ?_
        exact ⟨rfl, HP.out⟩
      · obtain ⟨i, hi, -, hkx, hval⟩ := hx e (mem_leftV he)
        rw [hval, hkx] at hrun
        have hnx : ∀ ty, (Instr.next (.pointer (some ⟨w2.heap.size, 0, none⟩)) false ty).run Tryd.prog (wa.alloc (.mapIter (some nb) clock seen clock)) = _ := fun _ => hrun
        have hsz2 : wb.heap.size = w2.heap.size := by rw [hal2.1, hal.1]
        have hb3 : wb.heap[nb]? = some (.map es clock) := by rw [hal2.1]; exact hb1
        have hen := run_entry_map (P := Tryd.prog) wb nb clock seen es clock e hb3 (mem_leftV he) hst.2.1
        rw [hsz2, hval, hkx] at hen
        have hal3 : wb.Alike w2 := ⟨hal2.1.trans hal.1, hal2.2.1.trans hal.2.1, hal2.2.2.trans hal.2.2⟩
        have hcmp := hs i hi
        clear hx
        have hbb := hba.trans (next_below hal2 hrun w2.heap.size)
        go_wp2_with fail
        go_roundw
        case rel => exact ⟨wb, seen.push e.born, hal3, hbb, rfl⟩
        case measure =>
          rw [← hsz2, World.iterSeen_alloc, hsz2, ← hsz, World.iterSeen_alloc]
          exact left_shrinks es seen e he
set_option maxHeartbeats 2000000 in
/-- the line 'flush' -/
theorem event_flush {w0 w : World} {g : Option Nat} {M : List (Nat × Value)} {L : List Ob} {O O' : List Rw} (rb : Nat)
    (h : Ow w0 w g M L O) (HN : ∀ w1 r, Ow w0 w1 g M L (O ++ [r]) → Calls Tryd.prog 28 #[.pointer (some ⟨rb, 0, none⟩)] w1 fun e w' => e = .returned (.string ⟨#[102, 108, 117, 115, 104]⟩) ∧ Ow w0 w' g M L (O' ++ [r])) :
    Calls Tryd.prog 17 #[.pointer (some ⟨rb, 0, none⟩)] w fun e w' => e = .returned (.agg #[.int .i64 6, .int .i64 0, .int .i64 0, .int .i64 0, .int .i64 0, .int .i64 0, .int .i64 0, .int .i64 0, .slice none 0 0, .int .i64 0, .int .i64 0, .int .i64 0, .int .i64 0, .int .i64 0, .int .i64 0, .int .i64 0, .int .i64 0, .int .u8 0, .int .u8 0, .bool false, .int .i64 0, .int .i64 0, .int .i64 0, .int .i64 0, .bool false, .bool false]) ∧ Ow w0 w' g M L (O') := by
  have hs : ∀ i, i < 6 → ((nm i).toList == [102, 108, 117, 115, 104]) = false := by
    intro i hi
    have : i = 0 ∨ i = 1 ∨ i = 2 ∨ i = 3 ∨ i = 4 ∨ i = 5 := by omega
    rcases this with rfl | rfl | rfl | rfl | rfl | rfl
    all_goals decide +kernel
  have H0 := h.arr #[.int .i64 0, .int .i64 0, .int .i64 0, .int .i64 0, .int .i64 0, .int .i64 0, .int .i64 0, .int .i64 0, .slice none 0 0, .int .i64 0, .int .i64 0, .int .i64 0, .int .i64 0, .int .i64 0, .int .i64 0, .int .i64 0, .int .i64 0, .int .u8 0, .int .u8 0, .bool false, .int .i64 0, .int .i64 0, .int .i64 0, .int .i64 0, .bool false, .bool false] 26 rfl (by omega) 37
  have HO := Lib.hid H0
  have HNx := Lib.hid HN
  clear h H0 HN
  go_enter Tryd.func17, Tryd.ntmps17
  go_wp2_with fail
  refine (HNx.out _ _ HO.out).mono ?_
  rintro e w1 ⟨rfl, ho1⟩
  have HO1 := Lib.hid ho1
  clear ho1
  go_wp2_with fail
  refine (verbs_any w1).mono ?_
  rintro e w2 ⟨nb, rfl, hnb, hvm, hb2⟩
  have HO2 := Lib.hid (HO1.out.go hb2)
  obtain ⟨es, clock, hbk, hst, hx, -⟩ := hvm
  obtain ⟨kt, et, d, hm, hd, -⟩ := underVM
  have hrg := run_range_map (P := Tryd.prog) w2 _ kt et nb es clock hm hbk
  go_wp2_with fail
  all_goals
    go_loopw [] (fun w' => ∃ (wa : World) (seen : Array Nat), wa.Alike w2 ∧ Below w2.heap.size w2 wa ∧ w' = wa.alloc (.mapIter (some nb) clock seen clock)) (fun w' => (leftOf es (w'.iterSeen w2.heap.size)).size)
    case atStart => exact ⟨w2, #[], ⟨rfl, rfl, rfl⟩, Below.refl _ _, rfl⟩
    case round =>
      obtain ⟨wa, seen, hal, hba, rfl⟩ := hrel
      have hsz : wa.heap.size = w2.heap.size := by rw [hal.1]
      have hb1 : wa.heap[nb]? = some (.map es clock) := by rw [hal.1]; exact hbk
      have law := run_next_map (P := Tryd.prog) wa 0 nb clock clock seen es clock hb1 hst.1 (Nat.le_refl _)
      rw [hsz] at law
      rcases law with ⟨h0, hrun⟩ | ⟨e, he, wb, hal2, hrun⟩
      · have hnx : ∀ ty, (Instr.next (.pointer (some ⟨w2.heap.size, 0, none⟩)) false ty).run Tryd.prog (wa.alloc (.mapIter (some nb) clock seen clock)) = _ := fun _ => hrun
        have HO4 := Lib.hid ((HO2.out.go hba).go (w' := wa.alloc (.mapIter (some nb) clock seen clock)) ⟨rfl, rfl, rfl, by rw [World.size_alloc]; omega, fun k hk => (MapKept.heap_alloc wa _).2 k hk⟩)
        clear hx hst hal hba hbk hb1 h0 hrun hb2 hm hd HNx HO HO1
        go_upto_region 23 with fail
        have hg := (HO4.out.rowHeap (O'.length + 0) (by rw [get_r]; rfl)).1
        have hp := HO4.out.putRow (k := 26) (O'.length + 0) (by rw [get_r]; rfl) #[.int .i64 6, .int .i64 0, .int .i64 0, .int .i64 0, .int .i64 0, .int .i64 0, .int .i64 0, .int .i64 0, .slice none 0 0, .int .i64 0, .int .i64 0, .int .i64 0, .int .i64 0, .int .i64 0, .int .i64 0, .int .i64 0, .int .i64 0, .int .u8 0, .int .u8 0, .bool false, .int .i64 0, .int .i64 0, .int .i64 0, .int .i64 0, .bool false, .bool false] rfl (by omega)
        rw [set_r] at hp
        simp only [List.set_cons_zero] at hp
        have HP := Lib.hid hp.fewO
        have l26 := run_loadVar_row (P := Tryd.prog) ((wa.alloc (.mapIter (some nb) clock seen clock)).setRow w.heap.size #[.int .i64 6, .int .i64 0, .int .i64 0, .int .i64 0, .int .i64 0, .int .i64 0, .int .i64 0, .int .i64 0, .slice none 0 0, .int .i64 0, .int .i64 0, .int .i64 0, .int .i64 0, .int .i64 0, .int .i64 0, .int .i64 0, .int .i64 0, .int .u8 0, .int .u8 0, .bool false, .int .i64 0, .int .i64 0, .int .i64 0, .int .i64 0, .bool false, .bool false]) w.heap.size 37 37 #[.int .i64 6, .int .i64 0, .int .i64 0, .int .i64 0, .int .i64 0, .int .i64 0, .int .i64 0, .int .i64 0, .slice none 0 0, .int .i64 0, .int .i64 0, .int .i64 0, .int .i64 0, .int .i64 0, .int .i64 0, .int .i64 0, .int .i64 0, .int .u8 0, .int .u8 0, .bool false, .int .i64 0, .int .i64 0, .int .i64 0, .int .i64 0, .bool false, .bool false] (0, 0) _ (hp.rowHeap (O'.length + 0) (by rw [get_r]; rfl)).1 Tryd.underlying37 rfl sizeEv
        have has : ∀ (ad : Addr) (W : World), (asAddr (.pointer (some ad))).run Tryd.prog W = .ok ad W := fun _ _ => rfl
        have HG := Lib.hid hg
        clear hp hg
        repeat (first | refine wpList_store_row rfl 37 (.tmp 2) (.tmp 69) rfl w.heap.size #[.int .i64 6, .int .i64 0, .int .i64 0, .int .i64 0, .int .i64 0, .int .i64 0, .int .i64 0, .int .i64 0, .slice none 0 0, .int .i64 0, .int .i64 0, .int .i64 0, .int .i64 0, .int .i64 0, .int .i64 0, .int .i64 0, .int .i64 0, .int .u8 0, .int .u8 0, .bool false, .int .i64 0, .int .i64 0, .int .i64 0, .int .i64 0, .bool false, .bool false] rfl rfl 37 _ HG.out sizeEv rfl (by simp [Value.oneCell']) ?_ | go_step)
        go_wp2_with fail
        refine bodyPost_ret (v := .agg #[.int .i64 6, .int .i64 0, .int .i64 0, .int .i64 0, .int .i64 0, .int .i64 0, .int .i64 0, .int .i64 0, .slice none 0 0, .int .i64 0, .int .i64 0, .int .i64 0, .int .i64 0, .int .i64 0, .int .i64 0, .int .i64 0, .int .i64 0, .int .u8 0, .int .u8 0, .bool false, .int .i64 0, .int .i64 0, .int .i64 0, .int .i64 0, .bool false, .bool false]) (by simp [results, Tryd.results17, asAddr, l26, Act.put]) rfl ?_
        exact ⟨rfl, HP.out⟩
      · obtain ⟨i, hi, -, hkx, hval⟩ := hx e (mem_leftV he)
        rw [hval, hkx] at hrun
        have hnx : ∀ ty, (Instr.next (.pointer (some ⟨w2.heap.size, 0, none⟩)) false ty).run Tryd.prog (wa.alloc (.mapIter (some nb) clock seen clock)) = _ := fun _ => hrun
        have hsz2 : wb.heap.size = w2.heap.size := by rw [hal2.1, hal.1]
        have hb3 : wb.heap[nb]? = some (.map es clock) := by rw [hal2.1]; exact hb1
        have hen := run_entry_map (P := Tryd.prog) wb nb clock seen es clock e hb3 (mem_leftV he) hst.2.1
        rw [hsz2, hval, hkx] at hen
        have hal3 : wb.Alike w2 := ⟨hal2.1.trans hal.1, hal2.2.1.trans hal.2.1, hal2.2.2.trans hal.2.2⟩
        have hcmp := hs i hi
        clear hx
        have hbb := hba.trans (next_below hal2 hrun w2.heap.size)
        go_wp2_with fail
        go_roundw
        case rel => exact ⟨wb, seen.push e.born, hal3, hbb, rfl⟩
        case measure =>
          rw [← hsz2, World.iterSeen_alloc, hsz2, ← hsz, World.iterSeen_alloc]
          exact left_shrinks es seen e he
set_option maxHeartbeats 2000000 in
/-- an empty word -/
theorem event_none {w0 w : World} {g : Option Nat} {M : List (Nat × Value)} {L : List Ob} {O O' : List Rw} (rb : Nat) (ri : Nat) (sl bad : Value)
    (h : Ow w0 w g M L O) (HN : ∀ w1 r, Ow w0 w1 g M L (O ++ [r]) → Calls Tryd.prog 28 #[.pointer (some ⟨rb, 0, none⟩)] w1 fun e w' => e = .returned (.string ⟨#[]⟩) ∧ Ow w0 w' g M L (O' ++ [r]))
    (hR : O'[ri]? = some ⟨some ⟨rb, 0, none⟩, 2, 2, 62, [sl, bad]⟩) :
    Calls Tryd.prog 17 #[.pointer (some ⟨rb, 0, none⟩)] w fun e w' => e = .returned (.agg #[.int .i64 0, .int .i64 0, .int .i64 0, .int .i64 0, .int .i64 0, .int .i64 0, .int .i64 0, .int .i64 0, .slice none 0 0, .int .i64 0, .int .i64 0, .int .i64 0, .int .i64 0, .int .i64 0, .int .i64 0, .int .i64 0, .int .i64 0, .int .u8 0, .int .u8 0, .bool false, .int .i64 0, .int .i64 0, .int .i64 0, .int .i64 0, .bool false, .bool false]) ∧ Ow w0 w' g M L (O'.set ri ⟨some ⟨rb, 0, none⟩, 2, 2, 62, [sl, .bool true]⟩) := by
  have hs : ∀ i, i < 6 → ((nm i).toList == []) = false := by
    intro i hi
    have : i = 0 ∨ i = 1 ∨ i = 2 ∨ i = 3 ∨ i = 4 ∨ i = 5 := by omega
    rcases this with rfl | rfl | rfl | rfl | rfl | rfl
    all_goals decide +kernel
  have H0 := h.arr #[.int .i64 0, .int .i64 0, .int .i64 0, .int .i64 0, .int .i64 0, .int .i64 0, .int .i64 0, .int .i64 0, .slice none 0 0, .int .i64 0, .int .i64 0, .int .i64 0, .int .i64 0, .int .i64 0, .int .i64 0, .int .i64 0, .int .i64 0, .int .u8 0, .int .u8 0, .bool false, .int .i64 0, .int .i64 0, .int .i64 0, .int .i64 0, .bool false, .bool false] 26 rfl (by omega) 37
  have HO := Lib.hid H0
  have HNx := Lib.hid HN
  have HRx := Lib.hid hR
  clear hR
  clear h H0 HN
  go_enter Tryd.func17, Tryd.ntmps17
  go_wp2_with fail
  refine (HNx.out _ _ HO.out).mono ?_
  rintro e w1 ⟨rfl, ho1⟩
  have HO1 := Lib.hid ho1
  clear ho1
  go_wp2_with fail
  refine (verbs_any w1).mono ?_
  rintro e w2 ⟨nb, rfl, hnb, hvm, hb2⟩
  have HO2 := Lib.hid (HO1.out.go hb2)
  obtain ⟨es, clock, hbk, hst, hx, -⟩ := hvm
  obtain ⟨kt, et, d, hm, hd, -⟩ := underVM
  have hrg := run_range_map (P := Tryd.prog) w2 _ kt et nb es clock hm hbk
  go_wp2_with fail
  all_goals
    go_loopw [] (fun w' => ∃ (wa : World) (seen : Array Nat), wa.Alike w2 ∧ Below w2.heap.size w2 wa ∧ w' = wa.alloc (.mapIter (some nb) clock seen clock)) (fun w' => (leftOf es (w'.iterSeen w2.heap.size)).size)
    case atStart => exact ⟨w2, #[], ⟨rfl, rfl, rfl⟩, Below.refl _ _, rfl⟩
    case round =>
      obtain ⟨wa, seen, hal, hba, rfl⟩ := hrel
      have hsz : wa.heap.size = w2.heap.size := by rw [hal.1]
      have hb1 : wa.heap[nb]? = some (.map es clock) := by rw [hal.1]; exact hbk
      have law := run_next_map (P := Tryd.prog) wa 0 nb clock clock seen es clock hb1 hst.1 (Nat.le_refl _)
      rw [hsz] at law
      rcases law with ⟨h0, hrun⟩ | ⟨e, he, wb, hal2, hrun⟩
      · have hnx : ∀ ty, (Instr.next (.pointer (some ⟨w2.heap.size, 0, none⟩)) false ty).run Tryd.prog (wa.alloc (.mapIter (some nb) clock seen clock)) = _ := fun _ => hrun
        have HO4 := Lib.hid ((HO2.out.go hba).go (w' := wa.alloc (.mapIter (some nb) clock seen clock)) ⟨rfl, rfl, rfl, by rw [World.size_alloc]; omega, fun k hk => (MapKept.heap_alloc wa _).2 k hk⟩)
        clear hx hst hal hba hbk hb1 h0 hrun hb2 hm hd HNx HO HO1
        go_upto_region 26 with fail
        have hRr := (get_l O' [(⟨some ⟨w.heap.size, 0, none⟩, 26, 26, 37, [.int .i64 0, .int .i64 0, .int .i64 0, .int .i64 0, .int .i64 0, .int .i64 0, .int .i64 0, .int .i64 0, .slice none 0 0, .int .i64 0, .int .i64 0, .int .i64 0, .int .i64 0, .int .i64 0, .int .i64 0, .int .i64 0, .int .i64 0, .int .u8 0, .int .u8 0, .bool false, .int .i64 0, .int .i64 0, .int .i64 0, .int .i64 0, .bool false, .bool false]⟩ : Rw)] (get_lt HRx.out)).trans HRx.out
        have HO5 := Lib.hid (by have hq := HO4.out.put ri hRr 1 (.bool true); rw [set_l _ _ (get_lt HRx.out)] at hq; exact hq : Ow w0 ((wa.alloc (.mapIter (some nb) clock seen clock)).setCell ⟨rb, 1, none⟩ (.bool true)) g M L ((O'.set ri ⟨some ⟨rb, 0, none⟩, 2, 2, 62, [sl, .bool true]⟩) ++ [(⟨some ⟨w.heap.size, 0, none⟩, 26, 26, 37, [.int .i64 0, .int .i64 0, .int .i64 0, .int .i64 0, .int .i64 0, .int .i64 0, .int .i64 0, .int .i64 0, .slice none 0 0, .int .i64 0, .int .i64 0, .int .i64 0, .int .i64 0, .int .i64 0, .int .i64 0, .int .i64 0, .int .i64 0, .int .u8 0, .int .u8 0, .bool false, .int .i64 0, .int .i64 0, .int .i64 0, .int .i64 0, .bool false, .bool false]⟩ : Rw)]))
        have frz := HO4.out.thaw ri hRr 1
        have yb := (HO4.out.row ri hRr).cellAt 1 (by decide)
        clear hRr HO4
        have hg := (HO5.out.rowHeap ((O'.set ri ⟨some ⟨rb, 0, none⟩, 2, 2, 62, [sl, .bool true]⟩).length + 0) (by rw [get_r]; rfl)).1
        have hp := HO5.out.putRow (k := 26) ((O'.set ri ⟨some ⟨rb, 0, none⟩, 2, 2, 62, [sl, .bool true]⟩).length + 0) (by rw [get_r]; rfl) #[.int .i64 0, .int .i64 0, .int .i64 0, .int .i64 0, .int .i64 0, .int .i64 0, .int .i64 0, .int .i64 0, .slice none 0 0, .int .i64 0, .int .i64 0, .int .i64 0, .int .i64 0, .int .i64 0, .int .i64 0, .int .i64 0, .int .i64 0, .int .u8 0, .int .u8 0, .bool false, .int .i64 0, .int .i64 0, .int .i64 0, .int .i64 0, .bool false, .bool false] rfl (by omega)
        rw [set_r] at hp
        simp only [List.set_cons_zero] at hp
        have HP := Lib.hid hp.fewO
        have l26 := run_loadVar_row (P := Tryd.prog) (((wa.alloc (.mapIter (some nb) clock seen clock)).setCell ⟨rb, 1, none⟩ (.bool true)).setRow w.heap.size #[.int .i64 0, .int .i64 0, .int .i64 0, .int .i64 0, .int .i64 0, .int .i64 0, .int .i64 0, .int .i64 0, .slice none 0 0, .int .i64 0, .int .i64 0, .int .i64 0, .int .i64 0, .int .i64 0, .int .i64 0, .int .i64 0, .int .i64 0, .int .u8 0, .int .u8 0, .bool false, .int .i64 0, .int .i64 0, .int .i64 0, .int .i64 0, .bool false, .bool false]) w.heap.size 37 37 #[.int .i64 0, .int .i64 0, .int .i64 0, .int .i64 0, .int .i64 0, .int .i64 0, .int .i64 0, .int .i64 0, .slice none 0 0, .int .i64 0, .int .i64 0, .int .i64 0, .int .i64 0, .int .i64 0, .int .i64 0, .int .i64 0, .int .i64 0, .int .u8 0, .int .u8 0, .bool false, .int .i64 0, .int .i64 0, .int .i64 0, .int .i64 0, .bool false, .bool false] (0, 0) _ (hp.rowHeap ((O'.set ri ⟨some ⟨rb, 0, none⟩, 2, 2, 62, [sl, .bool true]⟩).length + 0) (by rw [get_r]; rfl)).1 Tryd.underlying37 rfl sizeEv
        have has : ∀ (ad : Addr) (W : World), (asAddr (.pointer (some ad))).run Tryd.prog W = .ok ad W := fun _ _ => rfl
        have HG := Lib.hid hg
        clear hp hg
        repeat (first | refine wpList_store_row rfl 37 (.tmp 2) (.tmp 76) rfl w.heap.size #[.int .i64 0, .int .i64 0, .int .i64 0, .int .i64 0, .int .i64 0, .int .i64 0, .int .i64 0, .int .i64 0, .slice none 0 0, .int .i64 0, .int .i64 0, .int .i64 0, .int .i64 0, .int .i64 0, .int .i64 0, .int .i64 0, .int .i64 0, .int .u8 0, .int .u8 0, .bool false, .int .i64 0, .int .i64 0, .int .i64 0, .int .i64 0, .bool false, .bool false] rfl rfl 37 _ HG.out sizeEv rfl (by simp [Value.oneCell']) ?_ | go_step)
        go_wp2_with fail
        refine bodyPost_ret (v := .agg #[.int .i64 0, .int .i64 0, .int .i64 0, .int .i64 0, .int .i64 0, .int .i64 0, .int .i64 0, .int .i64 0, .slice none 0 0, .int .i64 0, .int .i64 0, .int .i64 0, .int .i64 0, .int .i64 0, .int .i64 0, .int .i64 0, .int .i64 0, .int .u8 0, .int .u8 0, .bool false, .int .i64 0, .int .i64 0, .int .i64 0, .int .i64 0, .bool false, .bool false]) (by simp [results, Tryd.results17, asAddr, l26, Act.put]) rfl ?_
        exact ⟨rfl, HP.out⟩
      · obtain ⟨i, hi, -, hkx, hval⟩ := hx e (mem_leftV he)
        rw [hval, hkx] at hrun
        have hnx : ∀ ty, (Instr.next (.pointer (some ⟨w2.heap.size, 0, none⟩)) false ty).run Tryd.prog (wa.alloc (.mapIter (some nb) clock seen clock)) = _ := fun _ => hrun
        have hsz2 : wb.heap.size = w2.heap.size := by rw [hal2.1, hal.1]
        have hb3 : wb.heap[nb]? = some (.map es clock) := by rw [hal2.1]; exact hb1
        have hen := run_entry_map (P := Tryd.prog) wb nb clock seen es clock e hb3 (mem_leftV he) hst.2.1
        rw [hsz2, hval, hkx] at hen
        have hal3 : wb.Alike w2 := ⟨hal2.1.trans hal.1, hal2.2.1.trans hal.2.1, hal2.2.2.trans hal.2.2⟩
        have hcmp := hs i hi
        clear hx
        have hbb := hba.trans (next_below hal2 hrun w2.heap.size)
        go_wp2_with fail
        go_roundw
        case rel => exact ⟨wb, seen.push e.born, hal3, hbb, rfl⟩
        case measure =>
          rw [← hsz2, World.iterSeen_alloc, hsz2, ← hsz, World.iterSeen_alloc]
          exact left_shrinks es seen e he
set_option maxHeartbeats 2000000 in
/-- the line of a time -/
theorem event_time {w0 w : World} {g : Option Nat} {M : List (Nat × Value)} {L : List Ob} {O O' : List Rw} (rb : Nat) (n : Int) {O'' : List Rw}
    (h : Ow w0 w g M L O) (HN : ∀ w1 r, Ow w0 w1 g M L (O ++ [r]) → Calls Tryd.prog 28 #[.pointer (some ⟨rb, 0, none⟩)] w1 fun e w' => e = .returned (.string ⟨#[116, 105, 109, 101]⟩) ∧ Ow w0 w' g M L (O' ++ [r]))
    (HM : ∀ w1 r, Ow w0 w1 g M L (O' ++ [r]) → Calls Tryd.prog 32 #[.pointer (some ⟨rb, 0, none⟩)] w1 fun e w' => e = .returned (.int .i64 n) ∧ Ow w0 w' g M L (O'' ++ [r])) :
    Calls Tryd.prog 17 #[.pointer (some ⟨rb, 0, none⟩)] w fun e w' => e = .returned (.agg #[.int .i64 3, .int .i64 n, .int .i64 0, .int .i64 0, .int .i64 0, .int .i64 0, .int .i64 0, .int .i64 0, .slice none 0 0, .int .i64 0, .int .i64 0, .int .i64 0, .int .i64 0, .int .i64 0, .int .i64 0, .int .i64 0, .int .i64 0, .int .u8 0, .int .u8 0, .bool false, .int .i64 0, .int .i64 0, .int .i64 0, .int .i64 0, .bool false, .bool false]) ∧ Ow w0 w' g M L (O'') := by
  have hs : ∀ i, i < 6 → ((nm i).toList == [116, 105, 109, 101]) = false := by
    intro i hi
    have : i = 0 ∨ i = 1 ∨ i = 2 ∨ i = 3 ∨ i = 4 ∨ i = 5 := by omega
    rcases this with rfl | rfl | rfl | rfl | rfl | rfl
    all_goals decide +kernel
  have H0 := h.arr #[.int .i64 0, .int .i64 0, .int .i64 0, .int .i64 0, .int .i64 0, .int .i64 0, .int .i64 0, .int .i64 0, .slice none 0 0, .int .i64 0, .int .i64 0, .int .i64 0, .int .i64 0, .int .i64 0, .int .i64 0, .int .i64 0, .int .i64 0, .int .u8 0, .int .u8 0, .bool false, .int .i64 0, .int .i64 0, .int .i64 0, .int .i64 0, .bool false, .bool false] 26 rfl (by omega) 37
  have HO := Lib.hid H0
  have HNx := Lib.hid HN
  have HMx := Lib.hid HM
  clear HM
  clear h H0 HN
  go_enter Tryd.func17, Tryd.ntmps17
  go_wp2_with fail
  refine (HNx.out _ _ HO.out).mono ?_
  rintro e w1 ⟨rfl, ho1⟩
  have HO1 := Lib.hid ho1
  clear ho1
  go_wp2_with fail
  refine (verbs_any w1).mono ?_
  rintro e w2 ⟨nb, rfl, hnb, hvm, hb2⟩
  have HO2 := Lib.hid (HO1.out.go hb2)
  obtain ⟨es, clock, hbk, hst, hx, -⟩ := hvm
  obtain ⟨kt, et, d, hm, hd, -⟩ := underVM
  have hrg := run_range_map (P := Tryd.prog) w2 _ kt et nb es clock hm hbk
  go_wp2_with fail
  all_goals
    go_loopw [] (fun w' => ∃ (wa : World) (seen : Array Nat), wa.Alike w2 ∧ Below w2.heap.size w2 wa ∧ w' = wa.alloc (.mapIter (some nb) clock seen clock)) (fun w' => (leftOf es (w'.iterSeen w2.heap.size)).size)
    case atStart => exact ⟨w2, #[], ⟨rfl, rfl, rfl⟩, Below.refl _ _, rfl⟩
    case round =>
      obtain ⟨wa, seen, hal, hba, rfl⟩ := hrel
      have hsz : wa.heap.size = w2.heap.size := by rw [hal.1]
      have hb1 : wa.heap[nb]? = some (.map es clock) := by rw [hal.1]; exact hbk
      have law := run_next_map (P := Tryd.prog) wa 0 nb clock clock seen es clock hb1 hst.1 (Nat.le_refl _)
      rw [hsz] at law
      rcases law with ⟨h0, hrun⟩ | ⟨e, he, wb, hal2, hrun⟩
      · have hnx : ∀ ty, (Instr.next (.pointer (some ⟨w2.heap.size, 0, none⟩)) false ty).run Tryd.prog (wa.alloc (.mapIter (some nb) clock seen clock)) = _ := fun _ => hrun
        have HO4 := Lib.hid ((HO2.out.go hba).go (w' := wa.alloc (.mapIter (some nb) clock seen clock)) ⟨rfl, rfl, rfl, by rw [World.size_alloc]; omega, fun k hk => (MapKept.heap_alloc wa _).2 k hk⟩)
        clear hx hst hal hba hbk hb1 h0 hrun hb2 hm hd HNx HO HO1
        go_upto_region 11 with fail
        go_wp2_with fail
        refine (HMx.out _ _ HO4.out).mono ?_
        rintro e w4 ⟨rfl, ho5⟩
        have HO5 := Lib.hid ho5
        clear ho5 HO4 HMx
        dsimp only
        have hg := (HO5.out.rowHeap (O''.length + 0) (by rw [get_r]; rfl)).1
        have hp := HO5.out.putRow (k := 26) (O''.length + 0) (by rw [get_r]; rfl) #[.int .i64 3, .int .i64 n, .int .i64 0, .int .i64 0, .int .i64 0, .int .i64 0, .int .i64 0, .int .i64 0, .slice none 0 0, .int .i64 0, .int .i64 0, .int .i64 0, .int .i64 0, .int .i64 0, .int .i64 0, .int .i64 0, .int .i64 0, .int .u8 0, .int .u8 0, .bool false, .int .i64 0, .int .i64 0, .int .i64 0, .int .i64 0, .bool false, .bool false] rfl (by omega)
        rw [set_r] at hp
        simp only [List.set_cons_zero] at hp
        have HP := Lib.hid hp.fewO
        have l26 := run_loadVar_row (P := Tryd.prog) (w4.setRow w.heap.size #[.int .i64 3, .int .i64 n, .int .i64 0, .int .i64 0, .int .i64 0, .int .i64 0, .int .i64 0, .int .i64 0, .slice none 0 0, .int .i64 0, .int .i64 0, .int .i64 0, .int .i64 0, .int .i64 0, .int .i64 0, .int .i64 0, .int .i64 0, .int .u8 0, .int .u8 0, .bool false, .int .i64 0, .int .i64 0, .int .i64 0, .int .i64 0, .bool false, .bool false]) w.heap.size 37 37 #[.int .i64 3, .int .i64 n, .int .i64 0, .int .i64 0, .int .i64 0, .int .i64 0, .int .i64 0, .int .i64 0, .slice none 0 0, .int .i64 0, .int .i64 0, .int .i64 0, .int .i64 0, .int .i64 0, .int .i64 0, .int .i64 0, .int .i64 0, .int .u8 0, .int .u8 0, .bool false, .int .i64 0, .int .i64 0, .int .i64 0, .int .i64 0, .bool false, .bool false] (0, 0) _ (hp.rowHeap (O''.length + 0) (by rw [get_r]; rfl)).1 Tryd.underlying37 rfl sizeEv
        have has : ∀ (ad : Addr) (W : World), (asAddr (.pointer (some ad))).run Tryd.prog W = .ok ad W := fun _ _ => rfl
        have HG := Lib.hid hg
        clear hp hg
        repeat (first | refine wpList_store_row rfl 37 (.tmp 2) (.tmp 32) rfl w.heap.size #[.int .i64 3, .int .i64 n, .int .i64 0, .int .i64 0, .int .i64 0, .int .i64 0, .int .i64 0, .int .i64 0, .slice none 0 0, .int .i64 0, .int .i64 0, .int .i64 0, .int .i64 0, .int .i64 0, .int .i64 0, .int .i64 0, .int .i64 0, .int .u8 0, .int .u8 0, .bool false, .int .i64 0, .int .i64 0, .int .i64 0, .int .i64 0, .bool false, .bool false] rfl rfl 37 _ HG.out sizeEv rfl (by simp [Value.oneCell']) ?_ | go_step)
        go_wp2_with fail
        refine bodyPost_ret (v := .agg #[.int .i64 3, .int .i64 n, .int .i64 0, .int .i64 0, .int .i64 0, .int .i64 0, .int .i64 0, .int .i64 0, .slice none 0 0, .int .i64 0, .int .i64 0, .int .i64 0, .int .i64 0, .int .i64 0, .int .i64 0, .int .i64 0, .int .i64 0, .int .u8 0, .int .u8 0, .bool false, .int .i64 0, .int .i64 0, .int .i64 0, .int .i64 0, .bool false, .bool false]) (by simp [results, Tryd.results17, asAddr, l26, Act.put]) rfl ?_
        exact ⟨rfl, HP.out⟩
      · obtain ⟨i, hi, -, hkx, hval⟩ := hx e (mem_leftV he)
        rw [hval, hkx] at hrun
        have hnx : ∀ ty, (Instr.next (.pointer (some ⟨w2.heap.size, 0, none⟩)) false ty).run Tryd.prog (wa.alloc (.mapIter (some nb) clock seen clock)) = _ := fun _ => hrun
        have hsz2 : wb.heap.size = w2.heap.size := by rw [hal2.1, hal.1]
        have hb3 : wb.heap[nb]? = some (.map es clock) := by rw [hal2.1]; exact hb1
        have hen := run_entry_map (P := Tryd.prog) wb nb clock seen es clock e hb3 (mem_leftV he) hst.2.1
        rw [hsz2, hval, hkx] at hen
        have hal3 : wb.Alike w2 := ⟨hal2.1.trans hal.1, hal2.2.1.trans hal.2.1, hal2.2.2.trans hal.2.2⟩
        have hcmp := hs i hi
        clear hx
        have hbb := hba.trans (next_below hal2 hrun w2.heap.size)
        go_wp2_with fail
        go_roundw
        case rel => exact ⟨wb, seen.push e.born, hal3, hbb, rfl⟩
        case measure =>
          rw [← hsz2, World.iterSeen_alloc, hsz2, ← hsz, World.iterSeen_alloc]
          exact left_shrinks es seen e he
end Go.Proofs.YtpcmbmabmfghkaaDoor

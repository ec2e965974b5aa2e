/- script.reader.event at a write. -/
import Derived.Test.YtpcmbmabmfghkaaDoorScK
namespace Go.Proofs.YtpcmbmabmfghkaaDoor
open Go.RowKit
set_option linter.unusedVariables false
set_option maxRecDepth 100000
theorem left_none {es : Array MapEntry} {seen : Array Nat} (h : (leftOf es seen).size = 0) {x : MapEntry} (hx : x ∈ es.toList) : x.born ∈ seen.toList := by
  have h2 : leftOf es seen = #[] := Array.eq_empty_of_size_eq_zero h
  by_cases hb : x.born ∈ seen.toList
  · exact hb
  · exfalso
    have : x ∈ (leftOf es seen).toList := by
      unfold leftOf
      simp at hx hb ⊢
      exact ⟨hx, hb⟩
    rw [h2] at this
    simp at this
theorem nodup_born {l : List MapEntry} (h : (l.map (·.born)).Nodup) {x y : MapEntry} (hx : x ∈ l) (hy : y ∈ l) (hb : x.born = y.born) : x = y := by
  induction l with
  | nil => cases hx
  | cons a l ih =>
    rw [List.map_cons, List.nodup_cons] at h
    rcases List.mem_cons.1 hx with rfl | hx'
    · rcases List.mem_cons.1 hy with rfl | hy'
      · rfl
      · exact absurd (List.mem_map.2 ⟨y, hy', hb.symm⟩) h.1
    · rcases List.mem_cons.1 hy with rfl | hy'
      · exact absurd (List.mem_map.2 ⟨x, hx', hb⟩) h.1
      · exact ih h.2 hx' hy'
set_option maxHeartbeats 2000000 in
/-- the line of a write -/
theorem event_write {w0 w : World} {g : Option Nat} {M : List (Nat × Value)} {L : List Ob} {O O' O'' : List Rw} (rb : Nat) (p q s : Int) (n : Nat) (vs : List Value)
    (h : Ow w0 w g M L O) (HN : ∀ w1 R, Ow w0 w1 g M L (O ++ R) → Calls Tryd.prog 28 #[.pointer (some ⟨rb, 0, none⟩)] w1 fun e w' => e = .returned (.string ⟨#[119, 114, 105, 116, 101]⟩) ∧ Ow w0 w' g M L (O' ++ R))
    (HM : ∀ w1 R, Ow w0 w1 g M L (O' ++ R) → Calls Tryd.prog 30 #[.pointer (some ⟨rb, 0, none⟩), .int .i64 2] w1 fun e w' => ∃ (A : Option Addr) (c : Nat), e = .returned (.agg #[.int .i64 2, .int .i64 p, .int .i64 q, .int .i64 s, .int .i64 0, .slice A n c]) ∧ Ow w0 w' g M L (O'' ++ (R ++ [⟨A, n, c, 5, vs⟩]))) :
    Calls Tryd.prog 17 #[.pointer (some ⟨rb, 0, none⟩)] w fun e w' => ∃ (A : Option Addr) (c : Nat), e = .returned (.agg #[.int .i64 1, .int .i64 0, .int .i64 0, .int .i64 2, .int .i64 p, .int .i64 q, .int .i64 s, .int .i64 0, .slice A n c, .int .i64 0, .int .i64 0, .int .i64 0, .int .i64 0, .int .i64 0, .int .i64 0, .int .i64 0, .int .i64 0, .int .u8 0, .int .u8 0, .bool false, .int .i64 0, .int .i64 0, .int .i64 0, .int .i64 0, .bool false, .bool false]) ∧ Ow w0 w' g M L (O'' ++ [⟨A, n, c, 5, vs⟩]) := by
  have hs : ∀ i, i < 6 → i ≠ 1 → ((nm i).toList == [119, 114, 105, 116, 101]) = false := by
    intro i hi hn
    have : i = 0 ∨ i = 2 ∨ i = 3 ∨ i = 4 ∨ i = 5 := by omega
    rcases this with rfl | rfl | rfl | rfl | rfl
    all_goals decide +kernel
  have hw : ((nm 1).toList == [119, 114, 105, 116, 101]) = true := by decide +kernel
  have H0 := h.arr #[.int .i64 0, .int .i64 0, .int .i64 0, .int .i64 0, .int .i64 0, .int .i64 0, .int .i64 0, .int .i64 0, .slice none 0 0, .int .i64 0, .int .i64 0, .int .i64 0, .int .i64 0, .int .i64 0, .int .i64 0, .int .i64 0, .int .i64 0, .int .u8 0, .int .u8 0, .bool false, .int .i64 0, .int .i64 0, .int .i64 0, .int .i64 0, .bool false, .bool false] 26 rfl (by omega) 37
  have HO := Lib.hid H0
  have HNx := Lib.hid HN
  have HMx := Lib.hid HM
  have HS := Lib.hid hs
  clear h H0 HN HM hs
  go_enter Tryd.func17, Tryd.ntmps17
  go_wp2_with fail
  refine (HNx.out _ _ HO.out).mono ?_
  rintro e w1 ⟨rfl, ho1⟩
  have HO1 := Lib.hid ho1
  clear ho1
  go_wp2_with fail
  refine (verbs_any w1).mono ?_
  rintro e w2 ⟨nb, rfl, hnb, hvm, hb2⟩
  have HO2 := Lib.hid (HO1.out.go hb2)
  obtain ⟨es, clock, hbk, hst, hx, hall⟩ := hvm
  obtain ⟨x0, hx0, hk0⟩ := hall 1 (by decide) rfl
  have HX0 := Lib.hid (And.intro hx0 hk0)
  clear hall hx0 hk0
  obtain ⟨kt, et, d, hm, hd, -⟩ := underVM
  have hrg := run_range_map (P := Tryd.prog) w2 _ kt et nb es clock hm hbk
  go_wp2_with fail
  all_goals
    go_loopw [] (fun w' => ∃ (wa : World) (seen : Array Nat), wa.Alike w2 ∧ Below w2.heap.size w2 wa ∧ Hid (∀ x ∈ es.toList, x.born ∈ seen.toList → x.key ≠ .int .i64 2) ∧ w' = wa.alloc (.mapIter (some nb) clock seen clock)) (fun w' => (leftOf es (w'.iterSeen w2.heap.size)).size)
    case atStart => exact ⟨w2, #[], ⟨rfl, rfl, rfl⟩, Below.refl _ _, (by unfold Hid; intro x _ h; simp at h), rfl⟩
    case round =>
      obtain ⟨wa, seen, hal, hba, HNK, rfl⟩ := hrel
      have hsz : wa.heap.size = w2.heap.size := by rw [hal.1]
      have hb1 : wa.heap[nb]? = some (.map es clock) := by rw [hal.1]; exact hbk
      have law := run_next_map (P := Tryd.prog) wa 0 nb clock clock seen es clock hb1 hst.1 (Nat.le_refl _)
      rw [hsz] at law
      rcases law with ⟨h0, hrun⟩ | ⟨e, he, wb, hal2, hrun⟩
      · exact absurd HX0.out.2 (HNK.out x0 HX0.out.1 (left_none h0 HX0.out.1))
      · obtain ⟨i, hi, -, hkx, hval⟩ := hx e (mem_leftV he)
        rw [hval, hkx] at hrun
        have hsz2 : wb.heap.size = w2.heap.size := by rw [hal2.1, hal.1]
        have hb3 : wb.heap[nb]? = some (.map es clock) := by rw [hal2.1]; exact hb1
        have hen := run_entry_map (P := Tryd.prog) wb nb clock seen es clock e hb3 (mem_leftV he) hst.2.1
        rw [hsz2, hval, hkx] at hen
        have hal3 : wb.Alike w2 := ⟨hal2.1.trans hal.1, hal2.2.1.trans hal.2.1, hal2.2.2.trans hal.2.2⟩
        have hbb := hba.trans (next_below hal2 hrun w2.heap.size)
        clear hx
        by_cases h1 : i = 1
        · subst h1
          rw [show (((1 : Nat) : Int) + 1) = 2 from rfl] at hrun hen
          have hnx : ∀ ty, (Instr.next (.pointer (some ⟨w2.heap.size, 0, none⟩)) false ty).run Tryd.prog (wa.alloc (.mapIter (some nb) clock seen clock)) = _ := fun _ => hrun
          have HO4 := Lib.hid ((HO2.out.go hbb).go (w' := wb.alloc (.mapIter (some nb) clock (seen.push e.born) clock)) ⟨rfl, rfl, rfl, by rw [World.size_alloc]; omega, fun k hk => (MapKept.heap_alloc wb _).2 k hk⟩)
          clear hst hal hba hbk hb1 hrun hb2 hm hd HNx HO HO1 he hkx hval hi hal2 hal3 hb3 hbb
          go_wp2_with fail
          refine (HMx.out _ _ HO4.out).mono ?_
          rintro e5 w4 ⟨A, c, rfl, ho5⟩
          simp only [List.cons_append, List.nil_append] at ho5
          have hg := (ho5.rowHeap (O''.length + 0) (by rw [get_r]; rfl)).1
          have hp := ho5.putRow (k := 26) (O''.length + 0) (by rw [get_r]; rfl) #[.int .i64 1, .int .i64 0, .int .i64 0, .int .i64 2, .int .i64 p, .int .i64 q, .int .i64 s, .int .i64 0, .slice A n c, .int .i64 0, .int .i64 0, .int .i64 0, .int .i64 0, .int .i64 0, .int .i64 0, .int .i64 0, .int .i64 0, .int .u8 0, .int .u8 0, .bool false, .int .i64 0, .int .i64 0, .int .i64 0, .int .i64 0, .bool false, .bool false] rfl (by omega)
          rw [set_r] at hp
          simp only [List.set_cons_zero] at hp
          have l26 := run_loadVar_row (P := Tryd.prog) _ w.heap.size 37 37 #[.int .i64 1, .int .i64 0, .int .i64 0, .int .i64 2, .int .i64 p, .int .i64 q, .int .i64 s, .int .i64 0, .slice A n c, .int .i64 0, .int .i64 0, .int .i64 0, .int .i64 0, .int .i64 0, .int .i64 0, .int .i64 0, .int .i64 0, .int .u8 0, .int .u8 0, .bool false, .int .i64 0, .int .i64 0, .int .i64 0, .int .i64 0, .bool false, .bool false] (0, 0) _ (hp.rowHeap (O''.length + 0) (by rw [get_r]; rfl)).1 Tryd.underlying37 rfl sizeEv
          have hfin := hp.re (O' := O'' ++ [⟨A, n, c, 5, vs⟩]) (fun i => if i < O''.length then i else i + 1) (fun i j hi hj e => by
            split at e <;> split at e <;> omega) (fun i r hr => by
            by_cases hlt : i < O''.length
            · rw [if_pos hlt, get_l _ _ hlt]
              rwa [get_l _ _ hlt] at hr
            · rw [if_neg hlt]
              have hk : i = O''.length + 0 := by
                have := get_lt hr
                rw [List.length_append, List.length_singleton] at this
                omega
              subst hk
              rw [get_r] at hr
              rw [show O''.length + 0 + 1 = O''.length + 1 from rfl, get_r]
              exact hr)
          have has : ∀ (ad : Addr) (W : World), (asAddr (.pointer (some ad))).run Tryd.prog W = .ok ad W := fun _ _ => rfl
          have HG := Lib.hid hg
          have HP := Lib.hid hfin
          clear hp hg ho5 hfin HO4 HMx
          dsimp only
          repeat (first | refine wpList_store_row rfl 37 (.tmp 2) (.tmp 21) rfl w.heap.size #[.int .i64 1, .int .i64 0, .int .i64 0, .int .i64 2, .int .i64 p, .int .i64 q, .int .i64 s, .int .i64 0, .slice A n c, .int .i64 0, .int .i64 0, .int .i64 0, .int .i64 0, .int .i64 0, .int .i64 0, .int .i64 0, .int .i64 0, .int .u8 0, .int .u8 0, .bool false, .int .i64 0, .int .i64 0, .int .i64 0, .int .i64 0, .bool false, .bool false] rfl rfl 37 _ HG.out sizeEv rfl (by simp [Value.oneCell']) ?_ | go_step)
          go_wp2_with fail
          refine bodyPost_ret (v := .agg #[.int .i64 1, .int .i64 0, .int .i64 0, .int .i64 2, .int .i64 p, .int .i64 q, .int .i64 s, .int .i64 0, .slice A n c, .int .i64 0, .int .i64 0, .int .i64 0, .int .i64 0, .int .i64 0, .int .i64 0, .int .i64 0, .int .i64 0, .int .u8 0, .int .u8 0, .bool false, .int .i64 0, .int .i64 0, .int .i64 0, .int .i64 0, .bool false, .bool false]) (by simp [results, Tryd.results17, asAddr, l26, Act.put]) rfl ?_
          exact ⟨A, c, rfl, HP.out⟩
        · have hcmp := HS.out i hi h1
          have hnx : ∀ ty, (Instr.next (.pointer (some ⟨w2.heap.size, 0, none⟩)) false ty).run Tryd.prog (wa.alloc (.mapIter (some nb) clock seen clock)) = _ := fun _ => hrun
          have HNK2 : Hid (∀ x ∈ es.toList, x.born ∈ (seen.push e.born).toList → x.key ≠ .int .i64 2) := by
            unfold Hid
            intro x hxm hxb
            rw [Array.toList_push, List.mem_append, List.mem_singleton] at hxb
            rcases hxb with h | h
            · exact HNK.out x hxm h
            · have := nodup_born hst.2.1 hxm (mem_leftV he) h
              subst this
              rw [hkx]
              intro e2
              injection e2 with _ e3
              omega
          clear h1 hkx hval
          go_wp2_with fail
          go_roundw
          case rel => exact ⟨wb, seen.push e.born, hal3, hbb, HNK2, rfl⟩
          case measure =>
            rw [← hsz2, World.iterSeen_alloc, hsz2, ← hsz, World.iterSeen_alloc]
            exact left_shrinks es seen e he
end Go.Proofs.YtpcmbmabmfghkaaDoor

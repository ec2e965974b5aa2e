/- script.reader.operation at a write. -/
import Derived.Test.YtpcmbmabmfghkaaDoorScX
namespace Go.Proofs.YtpcmbmabmfghkaaDoor
open Go.RowKit
set_option linter.unusedVariables false
set_option maxRecDepth 100000
set_option maxHeartbeats 2000000 in
theorem op_write {w0 w : World} {g : Option Nat} {M : List (Nat × Value)} {L : List Ob} {O O1 O2 O3 O4 : List Rw} (rb : Nat) (p q s : Int) (n : Nat) (vs : List Value)
    (h : Ow w0 w g M L O)
    (HN1 : ∀ w1 R, Ow w0 w1 g M L (O ++ R) → Calls Tryd.prog 32 #[.pointer (some ⟨rb, 0, none⟩)] w1 fun e w' => e = .returned (.int .i64 p) ∧ Ow w0 w' g M L (O1 ++ R))
    (HN2 : ∀ w1 R, Ow w0 w1 g M L (O1 ++ R) → Calls Tryd.prog 32 #[.pointer (some ⟨rb, 0, none⟩)] w1 fun e w' => e = .returned (.int .i64 q) ∧ Ow w0 w' g M L (O2 ++ R))
    (HN3 : ∀ w1 R, Ow w0 w1 g M L (O2 ++ R) → Calls Tryd.prog 32 #[.pointer (some ⟨rb, 0, none⟩)] w1 fun e w' => e = .returned (.int .i64 s) ∧ Ow w0 w' g M L (O3 ++ R))
    (HB : ∀ w1 R, Ow w0 w1 g M L (O3 ++ R) → Calls Tryd.prog 50 #[.pointer (some ⟨rb, 0, none⟩)] w1 fun e w' => ∃ (A : Option Addr) (c : Nat), e = .returned (.slice A n c) ∧ Ow w0 w' g M L (O4 ++ (R ++ [⟨A, n, c, 5, vs⟩]))) :
    Calls Tryd.prog 30 #[.pointer (some ⟨rb, 0, none⟩), .int .i64 2] w fun e w' => ∃ (A : Option Addr) (c : Nat), e = .returned (.agg #[.int .i64 2, .int .i64 p, .int .i64 q, .int .i64 s, .int .i64 0, .slice A n c]) ∧ Ow w0 w' g M L (O4 ++ [⟨A, n, c, 5, vs⟩]) := by
  have H0 := Lib.hid (h.arr #[.int .i64 0, .int .i64 0, .int .i64 0, .int .i64 0, .int .i64 0, .slice none 0 0] 6 rfl (by omega) 29)
  have X1 := Lib.hid HN1
  have X2 := Lib.hid HN2
  have X3 := Lib.hid HN3
  have XB := Lib.hid HB
  clear h HN1 HN2 HN3 HB
  go_enter Tryd.func30, Tryd.ntmps30
  go_wp2_with fail
  refine (X1.out _ _ H0.out).mono ?_
  rintro e w1 ⟨rfl, h1⟩
  have h2 := h1.arr #[.int .i64 0, .int .i64 0, .int .i64 0, .int .i64 0, .int .i64 0, .slice none 0 0] 6 rfl (by omega) 29
  simp only [List.append_assoc, List.cons_append, List.nil_append] at h2
  have hg5 := (h2.rowHeap (O1.length + 1) (by rw [get_r]; rfl)).1
  have h3 := h2.putRow (k := 6) (O1.length + 1) (by rw [get_r]; rfl) #[.int .i64 2, .int .i64 p, .int .i64 0, .int .i64 0, .int .i64 0, .slice none 0 0] rfl (by omega)
  rw [set_r] at h3
  simp only [List.set_cons_zero, List.set_cons_succ] at h3
  have HG := Lib.hid hg5
  have H1 := Lib.hid h3
  clear h1 h2 h3 hg5 H0 X1
  dsimp only
  repeat (first | refine wpList_store_row rfl 29 (.tmp 5) (.tmp 9) rfl w1.heap.size #[.int .i64 2, .int .i64 p, .int .i64 0, .int .i64 0, .int .i64 0, .slice none 0 0] rfl rfl 29 _ HG.out sizeOp rfl (by simp [Value.oneCell']) ?_ | go_step)
  go_wp2_with fail
  refine (X2.out _ _ H1.out).mono ?_
  rintro e w2 ⟨rfl, h1⟩
  have y2 : w2.cell? ⟨w1.heap.size, 2, none⟩ = some (.int .i64 0) := (h1.row (O2.length + 1) (by rw [get_r]; rfl)).cellAt 2 (by decide)
  have f2 := h1.thaw (O2.length + 1) (by rw [get_r]; rfl) 2
  have h2 := h1.put (O2.length + 1) (by rw [get_r]; rfl) 2 (.int .i64 q)
  rw [set_r] at h2
  simp only [List.set_cons_zero, List.set_cons_succ] at h2
  have H2 := Lib.hid h2
  clear h1 h2 H1 X2 HG
  go_wp2_with (with_reducible refine upon_id ?_; go_simp)
  refine (X3.out _ _ H2.out).mono ?_
  rintro e w3 ⟨rfl, h1⟩
  have y3 : w3.cell? ⟨w1.heap.size, 3, none⟩ = some (.int .i64 0) := (h1.row (O3.length + 1) (by rw [get_r]; rfl)).cellAt 3 (by decide)
  have f3 := h1.thaw (O3.length + 1) (by rw [get_r]; rfl) 3
  have h2 := h1.put (O3.length + 1) (by rw [get_r]; rfl) 3 (.int .i64 s)
  rw [set_r] at h2
  simp only [List.set_cons_zero, List.set_cons_succ] at h2
  have H3 := Lib.hid h2
  clear h1 h2 H2 X3 y2 f2
  go_wp2_with (with_reducible refine upon_id ?_; go_simp)
  refine (XB.out _ _ H3.out).mono ?_
  rintro e w4 ⟨A, c, rfl, h1⟩
  simp only [List.cons_append, List.nil_append] at h1
  have y5 : w4.cell? ⟨w1.heap.size, 5, none⟩ = some (.slice none 0 0) := (h1.row (O4.length + 1) (by rw [get_r]; rfl)).cellAt 5 (by decide)
  have f5 := h1.thaw (O4.length + 1) (by rw [get_r]; rfl) 5
  have h2 := h1.put (O4.length + 1) (by rw [get_r]; rfl) 5 (.slice A n c)
  rw [set_r] at h2
  simp only [List.set_cons_zero, List.set_cons_succ] at h2
  have hg5 := (h2.rowHeap (O4.length + 1) (by rw [get_r]; rfl)).1
  have hg4 := (h2.rowHeap (O4.length + 0) (by rw [get_r]; rfl)).1
  have h3 := h2.putRow (k := 6) (O4.length + 0) (by rw [get_r]; rfl) #[.int .i64 2, .int .i64 p, .int .i64 q, .int .i64 s, .int .i64 0, .slice A n c] rfl (by omega)
  rw [set_r] at h3
  simp only [List.set_cons_zero] at h3
  have hg6 := (h3.rowHeap (O4.length + 0) (by rw [get_r]; rfl)).1
  have hfin := h3.re (O' := O4 ++ [⟨A, n, c, 5, vs⟩]) (fun i => if i < O4.length then i else i + 2) (fun i j hi hj e => by
    split at e <;> split at e <;> omega) (fun i r hr => by
    by_cases hlt : i < O4.length
    · rw [if_pos hlt, get_l _ _ hlt]
      rwa [get_l _ _ hlt] at hr
    · rw [if_neg hlt]
      have hk : i = O4.length + 0 := by
        have := get_lt hr
        rw [List.length_append, List.length_singleton] at this
        omega
      subst hk
      rw [get_r] at hr
      rw [show O4.length + 0 + 2 = O4.length + 2 from rfl, get_r]
      exact hr)
  have HF := Lib.hid hfin
  have G5 := Lib.hid hg5
  have G4 := Lib.hid hg4
  have G6 := Lib.hid hg6
  clear h1 h2 h3 hg5 hg4 hg6 hfin H3 XB y3 f3
  go_upto_region 10 with (with_reducible refine upon_id ?_; go_simp)
  repeat (first | refine wpList_load_row rfl 29 (.tmp 5) rfl w1.heap.size rfl 29 #[.int .i64 2, .int .i64 p, .int .i64 q, .int .i64 s, .int .i64 0, .slice A n c] (0, 0) _ G5.out Tryd.underlying29 rfl sizeOp ?_ | refine wpList_store_row rfl 29 (.tmp 4) (.tmp 33) rfl w.heap.size #[.int .i64 2, .int .i64 p, .int .i64 q, .int .i64 s, .int .i64 0, .slice A n c] rfl rfl 29 _ G4.out sizeOp rfl (by simp [Value.oneCell']) ?_ | go_step)
  have l6 := run_loadVar_row (P := Tryd.prog) _ w.heap.size 29 29 #[.int .i64 2, .int .i64 p, .int .i64 q, .int .i64 s, .int .i64 0, .slice A n c] (0, 0) _ G6.out Tryd.underlying29 rfl sizeOp
  have has : ∀ (ad : Addr) (W : World), (asAddr (.pointer (some ad))).run Tryd.prog W = .ok ad W := fun _ _ => rfl
  go_wp2_with fail
  refine bodyPost_ret (v := .agg #[.int .i64 2, .int .i64 p, .int .i64 q, .int .i64 s, .int .i64 0, .slice A n c]) (by simp [results, Tryd.results30, asAddr, l6, Act.put]) rfl ?_
  exact ⟨_, _, rfl, HF.out⟩
end Go.Proofs.YtpcmbmabmfghkaaDoor

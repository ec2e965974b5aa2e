/- script.Parse at some texts. -/
import Derived.Test.YtpcmbmabmfghkaaDoorScP
import Derived.Lib.SmallJoins
namespace Go.Proofs.YtpcmbmabmfghkaaDoor
open Go.RowKit
set_option linter.unusedVariables false
set_option maxRecDepth 100000
theorem cut_a (w : World) (m : Int) (hm : w.cell? ⟨0, 0, none⟩ = some (.int .i64 m)) :
    Calls Tryd.prog 15 #[.string ⟨#[119, 114, 105, 116, 101, 32, 49, 32, 48, 32, 51, 32, 48, 48, 102, 102, 10, 102, 108, 117, 115, 104, 10]⟩, .string ⟨#[10]⟩] w fun e w' => e = .returned (.tuple #[.string ⟨#[119, 114, 105, 116, 101, 32, 49, 32, 48, 32, 51, 32, 48, 48, 102, 102]⟩, .string ⟨#[102, 108, 117, 115, 104, 10]⟩, .bool true]) ∧ Below w.heap.size w w' := by
  have h := Tryd.strings_Cut ⟨#[119, 114, 105, 116, 101, 32, 49, 32, 48, 32, 51, 32, 48, 48, 102, 102, 10, 102, 108, 117, 115, 104, 10]⟩ ⟨#[10]⟩ m w (by decide) hm
  have h1 : (⟨(Lib.cut (⟨#[119, 114, 105, 116, 101, 32, 49, 32, 48, 32, 51, 32, 48, 48, 102, 102, 10, 102, 108, 117, 115, 104, 10]⟩ : ByteArray).data.toList (⟨#[10]⟩ : ByteArray).data.toList).1.toArray⟩ : ByteArray) = ⟨#[119, 114, 105, 116, 101, 32, 49, 32, 48, 32, 51, 32, 48, 48, 102, 102]⟩ := by decide +kernel
  have h2 : (⟨(Lib.cut (⟨#[119, 114, 105, 116, 101, 32, 49, 32, 48, 32, 51, 32, 48, 48, 102, 102, 10, 102, 108, 117, 115, 104, 10]⟩ : ByteArray).data.toList (⟨#[10]⟩ : ByteArray).data.toList).2.1.toArray⟩ : ByteArray) = ⟨#[102, 108, 117, 115, 104, 10]⟩ := by decide +kernel
  have h3 : (Lib.cut (⟨#[119, 114, 105, 116, 101, 32, 49, 32, 48, 32, 51, 32, 48, 48, 102, 102, 10, 102, 108, 117, 115, 104, 10]⟩ : ByteArray).data.toList (⟨#[10]⟩ : ByteArray).data.toList).2.2 = true := by decide +kernel
  rw [h1, h2, h3] at h
  refine h.mono ?_
  rintro e w1 ⟨rfl, n, rfl⟩
  exact ⟨rfl, below_drewN (Below.refl _ _) n⟩
theorem cut_b (w : World) (m : Int) (hm : w.cell? ⟨0, 0, none⟩ = some (.int .i64 m)) :
    Calls Tryd.prog 15 #[.string ⟨#[102, 108, 117, 115, 104, 10]⟩, .string ⟨#[10]⟩] w fun e w' => e = .returned (.tuple #[.string ⟨#[102, 108, 117, 115, 104]⟩, .string ⟨#[]⟩, .bool true]) ∧ Below w.heap.size w w' := by
  have h := Tryd.strings_Cut ⟨#[102, 108, 117, 115, 104, 10]⟩ ⟨#[10]⟩ m w (by decide) hm
  have h1 : (⟨(Lib.cut (⟨#[102, 108, 117, 115, 104, 10]⟩ : ByteArray).data.toList (⟨#[10]⟩ : ByteArray).data.toList).1.toArray⟩ : ByteArray) = ⟨#[102, 108, 117, 115, 104]⟩ := by decide +kernel
  have h2 : (⟨(Lib.cut (⟨#[102, 108, 117, 115, 104, 10]⟩ : ByteArray).data.toList (⟨#[10]⟩ : ByteArray).data.toList).2.1.toArray⟩ : ByteArray) = ⟨#[]⟩ := by decide +kernel
  have h3 : (Lib.cut (⟨#[102, 108, 117, 115, 104, 10]⟩ : ByteArray).data.toList (⟨#[10]⟩ : ByteArray).data.toList).2.2 = true := by decide +kernel
  rw [h1, h2, h3] at h
  refine h.mono ?_
  rintro e w1 ⟨rfl, n, rfl⟩
  exact ⟨rfl, below_drewN (Below.refl _ _) n⟩
theorem cut_c (w : World) (m : Int) (hm : w.cell? ⟨0, 0, none⟩ = some (.int .i64 m)) :
    Calls Tryd.prog 15 #[.string ⟨#[119, 114, 105, 116, 101, 32, 49, 32, 48, 32, 51, 32, 48, 48, 102, 10]⟩, .string ⟨#[10]⟩] w fun e w' => e = .returned (.tuple #[.string ⟨#[119, 114, 105, 116, 101, 32, 49, 32, 48, 32, 51, 32, 48, 48, 102]⟩, .string ⟨#[]⟩, .bool true]) ∧ Below w.heap.size w w' := by
  have h := Tryd.strings_Cut ⟨#[119, 114, 105, 116, 101, 32, 49, 32, 48, 32, 51, 32, 48, 48, 102, 10]⟩ ⟨#[10]⟩ m w (by decide) hm
  have h1 : (⟨(Lib.cut (⟨#[119, 114, 105, 116, 101, 32, 49, 32, 48, 32, 51, 32, 48, 48, 102, 10]⟩ : ByteArray).data.toList (⟨#[10]⟩ : ByteArray).data.toList).1.toArray⟩ : ByteArray) = ⟨#[119, 114, 105, 116, 101, 32, 49, 32, 48, 32, 51, 32, 48, 48, 102]⟩ := by decide +kernel
  have h2 : (⟨(Lib.cut (⟨#[119, 114, 105, 116, 101, 32, 49, 32, 48, 32, 51, 32, 48, 48, 102, 10]⟩ : ByteArray).data.toList (⟨#[10]⟩ : ByteArray).data.toList).2.1.toArray⟩ : ByteArray) = ⟨#[]⟩ := by decide +kernel
  have h3 : (Lib.cut (⟨#[119, 114, 105, 116, 101, 32, 49, 32, 48, 32, 51, 32, 48, 48, 102, 10]⟩ : ByteArray).data.toList (⟨#[10]⟩ : ByteArray).data.toList).2.2 = true := by decide +kernel
  rw [h1, h2, h3] at h
  refine h.mono ?_
  rintro e w1 ⟨rfl, n, rfl⟩
  exact ⟨rfl, below_drewN (Below.refl _ _) n⟩
theorem split_a (w : World) (m : Int) (hm : w.cell? ⟨0, 0, none⟩ = some (.int .i64 m)) :
    Calls Tryd.prog 16 #[.string ⟨#[119, 114, 105, 116, 101, 32, 49, 32, 48, 32, 51, 32, 48, 48, 102, 102]⟩, .string ⟨#[32]⟩] w fun e w' => e = .returned (.slice (some ⟨w.heap.size, 0, none⟩) 5 5) ∧ w' = w.alloc (.cells #[.string ⟨#[119, 114, 105, 116, 101]⟩, .string ⟨#[49]⟩, .string ⟨#[48]⟩, .string ⟨#[51]⟩, .string ⟨#[48, 48, 102, 102]⟩] 9) := by
  have h := Tryd.strings_Split ⟨#[119, 114, 105, 116, 101, 32, 49, 32, 48, 32, 51, 32, 48, 48, 102, 102]⟩ ⟨#[32]⟩ m w (by decide) hm (by decide)
  have h1 : Lib.countB ⟨#[119, 114, 105, 116, 101, 32, 49, 32, 48, 32, 51, 32, 48, 48, 102, 102]⟩ ⟨#[32]⟩ = 4 := by decide +kernel
  rw [h1] at h
  have h2 : Lib.splitB ⟨#[32]⟩ 0 4 ⟨#[119, 114, 105, 116, 101, 32, 49, 32, 48, 32, 51, 32, 48, 48, 102, 102]⟩ = [⟨#[119, 114, 105, 116, 101]⟩, ⟨#[49]⟩, ⟨#[48]⟩, ⟨#[51]⟩, ⟨#[48, 48, 102, 102]⟩] := by decide +kernel
  rw [h2] at h
  exact h
theorem split_b (w : World) (m : Int) (hm : w.cell? ⟨0, 0, none⟩ = some (.int .i64 m)) :
    Calls Tryd.prog 16 #[.string ⟨#[102, 108, 117, 115, 104]⟩, .string ⟨#[32]⟩] w fun e w' => e = .returned (.slice (some ⟨w.heap.size, 0, none⟩) 1 1) ∧ w' = w.alloc (.cells #[.string ⟨#[102, 108, 117, 115, 104]⟩] 9) := by
  have h := Tryd.strings_Split ⟨#[102, 108, 117, 115, 104]⟩ ⟨#[32]⟩ m w (by decide) hm (by decide)
  have h1 : Lib.countB ⟨#[102, 108, 117, 115, 104]⟩ ⟨#[32]⟩ = 0 := by decide +kernel
  rw [h1] at h
  have h2 : Lib.splitB ⟨#[32]⟩ 0 0 ⟨#[102, 108, 117, 115, 104]⟩ = [⟨#[102, 108, 117, 115, 104]⟩] := by decide +kernel
  rw [h2] at h
  exact h
theorem split_c (w : World) (m : Int) (hm : w.cell? ⟨0, 0, none⟩ = some (.int .i64 m)) :
    Calls Tryd.prog 16 #[.string ⟨#[119, 114, 105, 116, 101, 32, 49, 32, 48, 32, 51, 32, 48, 48, 102]⟩, .string ⟨#[32]⟩] w fun e w' => e = .returned (.slice (some ⟨w.heap.size, 0, none⟩) 5 5) ∧ w' = w.alloc (.cells #[.string ⟨#[119, 114, 105, 116, 101]⟩, .string ⟨#[49]⟩, .string ⟨#[48]⟩, .string ⟨#[51]⟩, .string ⟨#[48, 48, 102]⟩] 9) := by
  have h := Tryd.strings_Split ⟨#[119, 114, 105, 116, 101, 32, 49, 32, 48, 32, 51, 32, 48, 48, 102]⟩ ⟨#[32]⟩ m w (by decide) hm (by decide)
  have h1 : Lib.countB ⟨#[119, 114, 105, 116, 101, 32, 49, 32, 48, 32, 51, 32, 48, 48, 102]⟩ ⟨#[32]⟩ = 4 := by decide +kernel
  rw [h1] at h
  have h2 : Lib.splitB ⟨#[32]⟩ 0 4 ⟨#[119, 114, 105, 116, 101, 32, 49, 32, 48, 32, 51, 32, 48, 48, 102]⟩ = [⟨#[119, 114, 105, 116, 101]⟩, ⟨#[49]⟩, ⟨#[48]⟩, ⟨#[51]⟩, ⟨#[48, 48, 102]⟩] := by decide +kernel
  rw [h2] at h
  exact h
theorem atoi_0 (w : World) :
    Calls Tryd.prog 52 #[.string ⟨#[48]⟩] w fun e w' => e = .returned (.tuple #[.int .i64 0, .nilIface]) ∧ Below w.heap.size w w' := by
  refine (Tryd.strconv_Atoi_ok ⟨#[48]⟩ (by decide) 0 (by decide +kernel) w).mono ?_
  rintro e w1 ⟨rfl, h⟩
  refine ⟨rfl, ?_⟩
  rcases h with rfl | ⟨t, rfl⟩
  · exact Below.refl _ _
  · exact Joins.below_bytesWorld _ _ _ _ (Nat.le_refl _)
theorem atoi_1 (w : World) :
    Calls Tryd.prog 52 #[.string ⟨#[49]⟩] w fun e w' => e = .returned (.tuple #[.int .i64 1, .nilIface]) ∧ Below w.heap.size w w' := by
  refine (Tryd.strconv_Atoi_ok ⟨#[49]⟩ (by decide) 1 (by decide +kernel) w).mono ?_
  rintro e w1 ⟨rfl, h⟩
  refine ⟨rfl, ?_⟩
  rcases h with rfl | ⟨t, rfl⟩
  · exact Below.refl _ _
  · exact Joins.below_bytesWorld _ _ _ _ (Nat.le_refl _)
theorem atoi_3 (w : World) :
    Calls Tryd.prog 52 #[.string ⟨#[51]⟩] w fun e w' => e = .returned (.tuple #[.int .i64 3, .nilIface]) ∧ Below w.heap.size w w' := by
  refine (Tryd.strconv_Atoi_ok ⟨#[51]⟩ (by decide) 3 (by decide +kernel) w).mono ?_
  rintro e w1 ⟨rfl, h⟩
  refine ⟨rfl, ?_⟩
  rcases h with rfl | ⟨t, rfl⟩
  · exact Below.refl _ _
  · exact Joins.below_bytesWorld _ _ _ _ (Nat.le_refl _)
set_option maxHeartbeats 4000000 in
/-- a write with half a byte -/
theorem parse_wbad (w : World) (m : Int) (hm : w.cell? ⟨0, 0, none⟩ = some (.int .i64 m)) :
    Calls Tryd.prog 8 #[.int .i64 2, .string ⟨#[119, 114, 105, 116, 101, 32, 49, 32, 48, 32, 51, 32, 48, 48, 102, 10]⟩] w fun e w' => e = .returned (.tuple #[.slice none 0 0, .int .i64 49]) ∧ Below w.heap.size w w' := by
  have HX0 := Lib.hid ((Ox.of (Ow.of (St.refl w))).nilX 37 26)
  go_enter Tryd.func8, Tryd.ntmps8
  go_wp2_with (first | (go_at_call 11; refine (sized_any _ _).mono ?_; rintro e w' ⟨rfl, hw⟩; have hw := hw.symm; subst hw) | (with_reducible refine upon_id ?_; go_simp))
  refine wp_loop_rounds 2 ?_
  rw [rounds_succ]
  go_wp2_with (with_reducible refine upon_id ?_; go_simp)
  refine ((fun W (hW : Below w.heap.size w W) => cut_c W m ((hW.cell (block_lt_of_cell hm)).trans hm)) _ (HX0.out.ow.below)).mono ?_
  rintro e wa0 ⟨rfl, hba⟩
  have HY0 := Lib.hid (HX0.out.go hba)
  clear hba
  go_wp2_with (with_reducible refine upon_id ?_; go_simp)
  refine ((fun W (hW : Below w.heap.size w W) => split_c W m ((hW.cell (block_lt_of_cell hm)).trans hm)) _ (HY0.out.ow.below)).mono ?_
  rintro e wb ⟨rfl, rfl⟩
  have h1 := ((Ow.of (St.refl wa0)).arr #[.string ⟨#[119, 114, 105, 116, 101]⟩, .string ⟨#[49]⟩, .string ⟨#[48]⟩, .string ⟨#[51]⟩, .string ⟨#[48, 48, 102]⟩] 5 rfl (by omega) 9).arr #[.slice (some ⟨wa0.heap.size, 0, none⟩) 5 5, .bool false] 2 rfl (by omega) 62
  simp only [World.size_alloc, List.cons_append, List.nil_append] at h1
  have HR := Lib.hid h1
  clear h1
  go_wp2_with (with_reducible refine upon_id ?_; go_simp)
  refine (event_write (wa0.heap.size + 1) 1 0 3 1 [.int .u8 0] HR.out (O' := [(⟨some ⟨wa0.heap.size, 0, none⟩, 5, 5, 9, [(.string ⟨#[119, 114, 105, 116, 101]⟩), (.string ⟨#[49]⟩), (.string ⟨#[48]⟩), (.string ⟨#[51]⟩), (.string ⟨#[48, 48, 102]⟩)]⟩ : Rw), (⟨some ⟨(wa0.heap.size + 1), 0, none⟩, 2, 2, 62, [.slice (some ⟨wa0.heap.size, 1, none⟩) 4 4, .bool false]⟩ : Rw)]) (O'' := [(⟨some ⟨wa0.heap.size, 0, none⟩, 5, 5, 9, [(.string ⟨#[119, 114, 105, 116, 101]⟩), (.string ⟨#[49]⟩), (.string ⟨#[48]⟩), (.string ⟨#[51]⟩), (.string ⟨#[48, 48, 102]⟩)]⟩ : Rw), (⟨some ⟨(wa0.heap.size + 1), 0, none⟩, 2, 2, 62, [.slice (some ⟨wa0.heap.size, 4, none⟩) 0 0, .bool false]⟩ : Rw)]) (fun w1 r hr => (next_more hr 1 0 (wa0.heap.size + 1) wa0.heap.size 0 3 5 5 _ _ _ rfl rfl rfl (by omega))) (fun w1 R hr => by
    have hop := op_write (O := [(⟨some ⟨wa0.heap.size, 0, none⟩, 5, 5, 9, [(.string ⟨#[119, 114, 105, 116, 101]⟩), (.string ⟨#[49]⟩), (.string ⟨#[48]⟩), (.string ⟨#[51]⟩), (.string ⟨#[48, 48, 102]⟩)]⟩ : Rw), (⟨some ⟨(wa0.heap.size + 1), 0, none⟩, 2, 2, 62, [.slice (some ⟨wa0.heap.size, 1, none⟩) 4 4, .bool false]⟩ : Rw)] ++ R) (O1 := [(⟨some ⟨wa0.heap.size, 0, none⟩, 5, 5, 9, [(.string ⟨#[119, 114, 105, 116, 101]⟩), (.string ⟨#[49]⟩), (.string ⟨#[48]⟩), (.string ⟨#[51]⟩), (.string ⟨#[48, 48, 102]⟩)]⟩ : Rw), (⟨some ⟨(wa0.heap.size + 1), 0, none⟩, 2, 2, 62, [.slice (some ⟨wa0.heap.size, 2, none⟩) 3 3, .bool false]⟩ : Rw)] ++ R) (O2 := [(⟨some ⟨wa0.heap.size, 0, none⟩, 5, 5, 9, [(.string ⟨#[119, 114, 105, 116, 101]⟩), (.string ⟨#[49]⟩), (.string ⟨#[48]⟩), (.string ⟨#[51]⟩), (.string ⟨#[48, 48, 102]⟩)]⟩ : Rw), (⟨some ⟨(wa0.heap.size + 1), 0, none⟩, 2, 2, 62, [.slice (some ⟨wa0.heap.size, 3, none⟩) 2 2, .bool false]⟩ : Rw)] ++ R) (O3 := [(⟨some ⟨wa0.heap.size, 0, none⟩, 5, 5, 9, [(.string ⟨#[119, 114, 105, 116, 101]⟩), (.string ⟨#[49]⟩), (.string ⟨#[48]⟩), (.string ⟨#[51]⟩), (.string ⟨#[48, 48, 102]⟩)]⟩ : Rw), (⟨some ⟨(wa0.heap.size + 1), 0, none⟩, 2, 2, 62, [.slice (some ⟨wa0.heap.size, 4, none⟩) 1 1, .bool false]⟩ : Rw)] ++ R) (O4 := [(⟨some ⟨wa0.heap.size, 0, none⟩, 5, 5, 9, [(.string ⟨#[119, 114, 105, 116, 101]⟩), (.string ⟨#[49]⟩), (.string ⟨#[48]⟩), (.string ⟨#[51]⟩), (.string ⟨#[48, 48, 102]⟩)]⟩ : Rw), (⟨some ⟨(wa0.heap.size + 1), 0, none⟩, 2, 2, 62, [.slice (some ⟨wa0.heap.size, 4, none⟩) 0 0, .bool false]⟩ : Rw)] ++ R) (wa0.heap.size + 1) 1 0 3 1 [.int .u8 0] hr (fun w1 R hr => number_ok (wa0.heap.size + 1) ⟨#[49]⟩ 1 (by omega) (by omega) (next_more hr 1 0 (wa0.heap.size + 1) wa0.heap.size 1 2 5 5 _ _ _ rfl rfl rfl (by omega)) (fun w2 _ => atoi_1 w2) (fun w2 _ => (itoa_1 w2).mono (fun e w3 h => ⟨h.1, by rw [h.2]; exact Below.refl _ _⟩))) (fun w1 R hr => number_ok (wa0.heap.size + 1) ⟨#[48]⟩ 0 (by omega) (by omega) (next_more hr 1 0 (wa0.heap.size + 1) wa0.heap.size 2 1 5 5 _ _ _ rfl rfl rfl (by omega)) (fun w2 _ => atoi_0 w2) (fun w2 _ => (itoa_0 w2).mono (fun e w3 h => ⟨h.1, by rw [h.2]; exact Below.refl _ _⟩))) (fun w1 R hr => number_ok (wa0.heap.size + 1) ⟨#[51]⟩ 3 (by omega) (by omega) (next_more hr 1 0 (wa0.heap.size + 1) wa0.heap.size 3 0 5 5 _ _ _ rfl rfl rfl (by omega)) (fun w2 _ => atoi_3 w2) (fun w2 _ => (itoa_3 w2).mono (fun e w3 h => ⟨h.1, by rw [h.2]; exact Below.refl _ _⟩))) (fun w1 R hr => (bytes_one (wa0.heap.size + 1) (next_last hr 1 0 (wa0.heap.size + 1) wa0.heap.size 4 5 5 _ _ _ rfl rfl rfl)).mono (fun e w3 h => by
      obtain ⟨A, c, h1, h2⟩ := h
      exact ⟨A, c, h1, by simpa only [List.append_assoc, List.cons_append, List.nil_append, List.set_cons_zero, List.set_cons_succ] using h2⟩))
    exact hop.mono (fun e w3 h => by
      obtain ⟨A, c, h1, h2⟩ := h
      exact ⟨A, c, h1, by simpa only [List.append_assoc, List.cons_append, List.nil_append] using h2⟩))).mono ?_
  rintro e wc0 ⟨A, c, rfl, ho⟩
  simp only [List.cons_append, List.nil_append] at ho
  obtain ⟨db, rfl, -, -⟩ := own_form (ho.row 2 rfl) (by omega)
  have h2 := ho.arr #[.int .i64 0, .int .i64 0, .int .i64 0, .int .i64 0, .int .i64 0, .int .i64 0, .int .i64 0, .int .i64 0, .slice none 0 0, .int .i64 0, .int .i64 0, .int .i64 0, .int .i64 0, .int .i64 0, .int .i64 0, .int .i64 0, .int .i64 0, .int .u8 0, .int .u8 0, .bool false, .int .i64 0, .int .i64 0, .int .i64 0, .int .i64 0, .bool false, .bool false] 26 rfl (by omega) 37
  simp only [List.cons_append, List.nil_append] at h2
  have hg := (h2.rowHeap 3 rfl).1
  have h3 := h2.putRow (k := 26) 3 rfl #[.int .i64 1, .int .i64 0, .int .i64 0, .int .i64 2, .int .i64 1, .int .i64 0, .int .i64 3, .int .i64 0, .slice (some ⟨db, 0, none⟩) 1 c, .int .i64 0, .int .i64 0, .int .i64 0, .int .i64 0, .int .i64 0, .int .i64 0, .int .i64 0, .int .i64 0, .int .u8 0, .int .u8 0, .bool false, .int .i64 0, .int .i64 0, .int .i64 0, .int .i64 0, .bool false, .bool false] rfl (by omega)
  simp only [List.set_cons_zero, List.set_cons_succ] at h3
  have hg2 := (h3.rowHeap 3 rfl).1
  have HG := Lib.hid hg
  have HG2 := Lib.hid hg2
  have HE := Lib.hid h3
  clear h2 h3 hg hg2 ho HR
  dsimp only
  repeat (first | refine wpList_store_row rfl 37 (.tmp 11) (.tmp 35) rfl wc0.heap.size #[.int .i64 1, .int .i64 0, .int .i64 0, .int .i64 2, .int .i64 1, .int .i64 0, .int .i64 3, .int .i64 0, .slice (some ⟨db, 0, none⟩) 1 c, .int .i64 0, .int .i64 0, .int .i64 0, .int .i64 0, .int .i64 0, .int .i64 0, .int .i64 0, .int .i64 0, .int .u8 0, .int .u8 0, .bool false, .int .i64 0, .int .i64 0, .int .i64 0, .int .i64 0, .bool false, .bool false] rfl rfl 37 _ HG.out sizeEv rfl (by simp [Value.oneCell']) ?_ | refine wpList_load_row rfl 37 (.tmp 11) rfl wc0.heap.size rfl 37 #[.int .i64 1, .int .i64 0, .int .i64 0, .int .i64 2, .int .i64 1, .int .i64 0, .int .i64 3, .int .i64 0, .slice (some ⟨db, 0, none⟩) 1 c, .int .i64 0, .int .i64 0, .int .i64 0, .int .i64 0, .int .i64 0, .int .i64 0, .int .i64 0, .int .i64 0, .int .u8 0, .int .u8 0, .bool false, .int .i64 0, .int .i64 0, .int .i64 0, .int .i64 0, .bool false, .bool false] (0, 0) _ HG2.out Tryd.underlying37 rfl sizeEv ?_ | go_step)
  clear HG HG2
  refine (format_one _ db c (HE.out.lt (i := 2) rfl rfl).1 ((HE.out.row 2 rfl).cellAt 0 (by decide))).mono ?_
  rintro e wd0 ⟨rfl, hb4⟩
  have HF := Lib.hid (HE.out.go hb4)
  clear hb4 HE
  have yb : wd0.cell? ⟨(wa0.heap.size + 1), 1, none⟩ = some (.bool false) := (HF.out.row 1 rfl).cellAt 1 (by decide)
  go_wp2_with (with_reducible refine upon_id ?_; go_simp)
  refine bodyPost_ret (v := .tuple #[.slice none 0 0, .int .i64 49]) (by simp [results, Tryd.results8]) rfl ?_
  exact ⟨rfl, HY0.out.ow.below.trans (below_less HF.out.below HY0.out.size)⟩
set_option maxHeartbeats 4000000 in
/-- a write and a flush -/
theorem parse_two (w : World) (m : Int) (hm : w.cell? ⟨0, 0, none⟩ = some (.int .i64 m)) :
    Calls Tryd.prog 8 #[.int .i64 2, .string ⟨#[119, 114, 105, 116, 101, 32, 49, 32, 48, 32, 51, 32, 48, 48, 102, 102, 10, 102, 108, 117, 115, 104, 10]⟩] w fun e w' => ∃ (A : Option Addr) (c db dc : Nat), e = .returned (.tuple #[.slice A 2 c, .int .i64 0]) ∧ Ox w w' none [] [] [⟨some ⟨db, 0, none⟩, 2, dc, 5, [.int .u8 0, .int .u8 255]⟩] [⟨A, 2, c, 37, 26, [.int .i64 1, .int .i64 0, .int .i64 0, .int .i64 2, .int .i64 1, .int .i64 0, .int .i64 3, .int .i64 0, .slice (some ⟨db, 0, none⟩) 2 dc, .int .i64 0, .int .i64 0, .int .i64 0, .int .i64 0, .int .i64 0, .int .i64 0, .int .i64 0, .int .i64 0, .int .u8 0, .int .u8 0, .bool false, .int .i64 0, .int .i64 0, .int .i64 0, .int .i64 0, .bool false, .bool false, .int .i64 6, .int .i64 0, .int .i64 0, .int .i64 0, .int .i64 0, .int .i64 0, .int .i64 0, .int .i64 0, .slice none 0 0, .int .i64 0, .int .i64 0, .int .i64 0, .int .i64 0, .int .i64 0, .int .i64 0, .int .i64 0, .int .i64 0, .int .u8 0, .int .u8 0, .bool false, .int .i64 0, .int .i64 0, .int .i64 0, .int .i64 0, .bool false, .bool false]⟩] := by
  have HX0 := Lib.hid ((Ox.of (Ow.of (St.refl w))).nilX 37 26)
  go_enter Tryd.func8, Tryd.ntmps8
  go_wp2_with (first | (go_at_call 11; refine (sized_any _ _).mono ?_; rintro e w' ⟨rfl, hw⟩; have hw := hw.symm; subst hw) | (with_reducible refine upon_id ?_; go_simp))
  refine wp_loop_rounds 3 ?_
  rw [rounds_succ]
  go_wp2_with (with_reducible refine upon_id ?_; go_simp)
  refine ((fun W (hW : Below w.heap.size w W) => cut_a W m ((hW.cell (block_lt_of_cell hm)).trans hm)) _ (HX0.out.ow.below)).mono ?_
  rintro e wa0 ⟨rfl, hba⟩
  have HY0 := Lib.hid (HX0.out.go hba)
  clear hba
  go_wp2_with (with_reducible refine upon_id ?_; go_simp)
  refine ((fun W (hW : Below w.heap.size w W) => split_a W m ((hW.cell (block_lt_of_cell hm)).trans hm)) _ (HY0.out.ow.below)).mono ?_
  rintro e wb ⟨rfl, rfl⟩
  have h1 := ((Ow.of (St.refl wa0)).arr #[.string ⟨#[119, 114, 105, 116, 101]⟩, .string ⟨#[49]⟩, .string ⟨#[48]⟩, .string ⟨#[51]⟩, .string ⟨#[48, 48, 102, 102]⟩] 5 rfl (by omega) 9).arr #[.slice (some ⟨wa0.heap.size, 0, none⟩) 5 5, .bool false] 2 rfl (by omega) 62
  simp only [World.size_alloc, List.cons_append, List.nil_append] at h1
  have HR := Lib.hid h1
  clear h1
  go_wp2_with (with_reducible refine upon_id ?_; go_simp)
  refine (event_write (wa0.heap.size + 1) 1 0 3 2 [.int .u8 0, .int .u8 255] HR.out (O' := [(⟨some ⟨wa0.heap.size, 0, none⟩, 5, 5, 9, [(.string ⟨#[119, 114, 105, 116, 101]⟩), (.string ⟨#[49]⟩), (.string ⟨#[48]⟩), (.string ⟨#[51]⟩), (.string ⟨#[48, 48, 102, 102]⟩)]⟩ : Rw), (⟨some ⟨(wa0.heap.size + 1), 0, none⟩, 2, 2, 62, [.slice (some ⟨wa0.heap.size, 1, none⟩) 4 4, .bool false]⟩ : Rw)]) (O'' := [(⟨some ⟨wa0.heap.size, 0, none⟩, 5, 5, 9, [(.string ⟨#[119, 114, 105, 116, 101]⟩), (.string ⟨#[49]⟩), (.string ⟨#[48]⟩), (.string ⟨#[51]⟩), (.string ⟨#[48, 48, 102, 102]⟩)]⟩ : Rw), (⟨some ⟨(wa0.heap.size + 1), 0, none⟩, 2, 2, 62, [.slice (some ⟨wa0.heap.size, 4, none⟩) 0 0, .bool false]⟩ : Rw)]) (fun w1 r hr => (next_more hr 1 0 (wa0.heap.size + 1) wa0.heap.size 0 3 5 5 _ _ _ rfl rfl rfl (by omega))) (fun w1 R hr => by
    have hop := op_write (O := [(⟨some ⟨wa0.heap.size, 0, none⟩, 5, 5, 9, [(.string ⟨#[119, 114, 105, 116, 101]⟩), (.string ⟨#[49]⟩), (.string ⟨#[48]⟩), (.string ⟨#[51]⟩), (.string ⟨#[48, 48, 102, 102]⟩)]⟩ : Rw), (⟨some ⟨(wa0.heap.size + 1), 0, none⟩, 2, 2, 62, [.slice (some ⟨wa0.heap.size, 1, none⟩) 4 4, .bool false]⟩ : Rw)] ++ R) (O1 := [(⟨some ⟨wa0.heap.size, 0, none⟩, 5, 5, 9, [(.string ⟨#[119, 114, 105, 116, 101]⟩), (.string ⟨#[49]⟩), (.string ⟨#[48]⟩), (.string ⟨#[51]⟩), (.string ⟨#[48, 48, 102, 102]⟩)]⟩ : Rw), (⟨some ⟨(wa0.heap.size + 1), 0, none⟩, 2, 2, 62, [.slice (some ⟨wa0.heap.size, 2, none⟩) 3 3, .bool false]⟩ : Rw)] ++ R) (O2 := [(⟨some ⟨wa0.heap.size, 0, none⟩, 5, 5, 9, [(.string ⟨#[119, 114, 105, 116, 101]⟩), (.string ⟨#[49]⟩), (.string ⟨#[48]⟩), (.string ⟨#[51]⟩), (.string ⟨#[48, 48, 102, 102]⟩)]⟩ : Rw), (⟨some ⟨(wa0.heap.size + 1), 0, none⟩, 2, 2, 62, [.slice (some ⟨wa0.heap.size, 3, none⟩) 2 2, .bool false]⟩ : Rw)] ++ R) (O3 := [(⟨some ⟨wa0.heap.size, 0, none⟩, 5, 5, 9, [(.string ⟨#[119, 114, 105, 116, 101]⟩), (.string ⟨#[49]⟩), (.string ⟨#[48]⟩), (.string ⟨#[51]⟩), (.string ⟨#[48, 48, 102, 102]⟩)]⟩ : Rw), (⟨some ⟨(wa0.heap.size + 1), 0, none⟩, 2, 2, 62, [.slice (some ⟨wa0.heap.size, 4, none⟩) 1 1, .bool false]⟩ : Rw)] ++ R) (O4 := [(⟨some ⟨wa0.heap.size, 0, none⟩, 5, 5, 9, [(.string ⟨#[119, 114, 105, 116, 101]⟩), (.string ⟨#[49]⟩), (.string ⟨#[48]⟩), (.string ⟨#[51]⟩), (.string ⟨#[48, 48, 102, 102]⟩)]⟩ : Rw), (⟨some ⟨(wa0.heap.size + 1), 0, none⟩, 2, 2, 62, [.slice (some ⟨wa0.heap.size, 4, none⟩) 0 0, .bool false]⟩ : Rw)] ++ R) (wa0.heap.size + 1) 1 0 3 2 [.int .u8 0, .int .u8 255] hr (fun w1 R hr => number_ok (wa0.heap.size + 1) ⟨#[49]⟩ 1 (by omega) (by omega) (next_more hr 1 0 (wa0.heap.size + 1) wa0.heap.size 1 2 5 5 _ _ _ rfl rfl rfl (by omega)) (fun w2 _ => atoi_1 w2) (fun w2 _ => (itoa_1 w2).mono (fun e w3 h => ⟨h.1, by rw [h.2]; exact Below.refl _ _⟩))) (fun w1 R hr => number_ok (wa0.heap.size + 1) ⟨#[48]⟩ 0 (by omega) (by omega) (next_more hr 1 0 (wa0.heap.size + 1) wa0.heap.size 2 1 5 5 _ _ _ rfl rfl rfl (by omega)) (fun w2 _ => atoi_0 w2) (fun w2 _ => (itoa_0 w2).mono (fun e w3 h => ⟨h.1, by rw [h.2]; exact Below.refl _ _⟩))) (fun w1 R hr => number_ok (wa0.heap.size + 1) ⟨#[51]⟩ 3 (by omega) (by omega) (next_more hr 1 0 (wa0.heap.size + 1) wa0.heap.size 3 0 5 5 _ _ _ rfl rfl rfl (by omega)) (fun w2 _ => atoi_3 w2) (fun w2 _ => (itoa_3 w2).mono (fun e w3 h => ⟨h.1, by rw [h.2]; exact Below.refl _ _⟩))) (fun w1 R hr => (bytes_two (wa0.heap.size + 1) (next_last hr 1 0 (wa0.heap.size + 1) wa0.heap.size 4 5 5 _ _ _ rfl rfl rfl)).mono (fun e w3 h => by
      obtain ⟨A, c, h1, h2⟩ := h
      exact ⟨A, c, h1, by simpa only [List.append_assoc, List.cons_append, List.nil_append, List.set_cons_zero, List.set_cons_succ] using h2⟩))
    exact hop.mono (fun e w3 h => by
      obtain ⟨A, c, h1, h2⟩ := h
      exact ⟨A, c, h1, by simpa only [List.append_assoc, List.cons_append, List.nil_append] using h2⟩))).mono ?_
  rintro e wc0 ⟨A, c, rfl, ho⟩
  simp only [List.cons_append, List.nil_append] at ho
  obtain ⟨db, rfl, -, -⟩ := own_form (ho.row 2 rfl) (by omega)
  have h2 := ho.arr #[.int .i64 0, .int .i64 0, .int .i64 0, .int .i64 0, .int .i64 0, .int .i64 0, .int .i64 0, .int .i64 0, .slice none 0 0, .int .i64 0, .int .i64 0, .int .i64 0, .int .i64 0, .int .i64 0, .int .i64 0, .int .i64 0, .int .i64 0, .int .u8 0, .int .u8 0, .bool false, .int .i64 0, .int .i64 0, .int .i64 0, .int .i64 0, .bool false, .bool false] 26 rfl (by omega) 37
  simp only [List.cons_append, List.nil_append] at h2
  have hg := (h2.rowHeap 3 rfl).1
  have h3 := h2.putRow (k := 26) 3 rfl #[.int .i64 1, .int .i64 0, .int .i64 0, .int .i64 2, .int .i64 1, .int .i64 0, .int .i64 3, .int .i64 0, .slice (some ⟨db, 0, none⟩) 2 c, .int .i64 0, .int .i64 0, .int .i64 0, .int .i64 0, .int .i64 0, .int .i64 0, .int .i64 0, .int .i64 0, .int .u8 0, .int .u8 0, .bool false, .int .i64 0, .int .i64 0, .int .i64 0, .int .i64 0, .bool false, .bool false] rfl (by omega)
  simp only [List.set_cons_zero, List.set_cons_succ] at h3
  have hg2 := (h3.rowHeap 3 rfl).1
  have HG := Lib.hid hg
  have HG2 := Lib.hid hg2
  have HE := Lib.hid h3
  clear h2 h3 hg hg2 ho HR
  dsimp only
  repeat (first | refine wpList_store_row rfl 37 (.tmp 11) (.tmp 35) rfl wc0.heap.size #[.int .i64 1, .int .i64 0, .int .i64 0, .int .i64 2, .int .i64 1, .int .i64 0, .int .i64 3, .int .i64 0, .slice (some ⟨db, 0, none⟩) 2 c, .int .i64 0, .int .i64 0, .int .i64 0, .int .i64 0, .int .i64 0, .int .i64 0, .int .i64 0, .int .i64 0, .int .u8 0, .int .u8 0, .bool false, .int .i64 0, .int .i64 0, .int .i64 0, .int .i64 0, .bool false, .bool false] rfl rfl 37 _ HG.out sizeEv rfl (by simp [Value.oneCell']) ?_ | refine wpList_load_row rfl 37 (.tmp 11) rfl wc0.heap.size rfl 37 #[.int .i64 1, .int .i64 0, .int .i64 0, .int .i64 2, .int .i64 1, .int .i64 0, .int .i64 3, .int .i64 0, .slice (some ⟨db, 0, none⟩) 2 c, .int .i64 0, .int .i64 0, .int .i64 0, .int .i64 0, .int .i64 0, .int .i64 0, .int .i64 0, .int .i64 0, .int .u8 0, .int .u8 0, .bool false, .int .i64 0, .int .i64 0, .int .i64 0, .int .i64 0, .bool false, .bool false] (0, 0) _ HG2.out Tryd.underlying37 rfl sizeEv ?_ | go_step)
  clear HG HG2
  refine (format_two _ db c (HE.out.lt (i := 2) rfl rfl).1 ((HE.out.row 2 rfl).cellAt 0 (by decide)) ((HE.out.row 2 rfl).cellAt 1 (by decide))).mono ?_
  rintro e wd0 ⟨rfl, hb4⟩
  have HF := Lib.hid (HE.out.go hb4)
  clear hb4 HE
  have yb : wd0.cell? ⟨(wa0.heap.size + 1), 1, none⟩ = some (.bool false) := (HF.out.row 1 rfl).cellAt 1 (by decide)
  have HZ := Lib.hid (HY0.out.addO (HF.out.row 2 rfl) HF.out.below)
  have hg := (HF.out.rowHeap 3 rfl).1
  have HG := Lib.hid hg
  clear hg
  go_upto_region 13 with (with_reducible refine upon_id ?_; go_simp)
  have h5 := HF.out.arr #[.int .i64 1, .int .i64 0, .int .i64 0, .int .i64 2, .int .i64 1, .int .i64 0, .int .i64 3, .int .i64 0, .slice (some ⟨db, 0, none⟩) 2 c, .int .i64 0, .int .i64 0, .int .i64 0, .int .i64 0, .int .i64 0, .int .i64 0, .int .i64 0, .int .i64 0, .int .u8 0, .int .u8 0, .bool false, .int .i64 0, .int .i64 0, .int .i64 0, .int .i64 0, .bool false, .bool false] 26 rfl (by omega) 37
  have hz := HZ.out.go (w' := wd0.alloc (.cells #[.int .i64 1, .int .i64 0, .int .i64 0, .int .i64 2, .int .i64 1, .int .i64 0, .int .i64 3, .int .i64 0, .slice (some ⟨db, 0, none⟩) 2 c, .int .i64 0, .int .i64 0, .int .i64 0, .int .i64 0, .int .i64 0, .int .i64 0, .int .i64 0, .int .i64 0, .int .u8 0, .int .u8 0, .bool false, .int .i64 0, .int .i64 0, .int .i64 0, .int .i64 0, .bool false, .bool false] 37)) (below_allocX (Below.refl _ _) _)
  have H5 := Lib.hid h5
  have H6 := Lib.hid hz
  clear h5 hz
  repeat (first | refine wpList_load_row rfl 37 (.tmp 11) rfl wc0.heap.size rfl 37 #[.int .i64 1, .int .i64 0, .int .i64 0, .int .i64 2, .int .i64 1, .int .i64 0, .int .i64 3, .int .i64 0, .slice (some ⟨db, 0, none⟩) 2 c, .int .i64 0, .int .i64 0, .int .i64 0, .int .i64 0, .int .i64 0, .int .i64 0, .int .i64 0, .int .i64 0, .int .u8 0, .int .u8 0, .bool false, .int .i64 0, .int .i64 0, .int .i64 0, .int .i64 0, .bool false, .bool false] (0, 0) _ HG.out Tryd.underlying37 rfl sizeEv ?_ | refine ox_append elemEv H6.out 0 (.tmp 59) (.tmp 61) (m := 1) (news := [.int .i64 1, .int .i64 0, .int .i64 0, .int .i64 2, .int .i64 1, .int .i64 0, .int .i64 3, .int .i64 0, .slice (some ⟨db, 0, none⟩) 2 c, .int .i64 0, .int .i64 0, .int .i64 0, .int .i64 0, .int .i64 0, .int .i64 0, .int .i64 0, .int .i64 0, .int .u8 0, .int .u8 0, .bool false, .int .i64 0, .int .i64 0, .int .i64 0, .int .i64 0, .bool false, .bool false]) rfl rfl (fun j u hu => (H5.out.row 4 rfl).cells rfl j u hu) (by intro u hu; simp at hu; rcases hu with rfl | rfl | rfl | rfl | rfl | rfl | rfl | rfl | rfl | rfl | rfl | rfl | rfl | rfl | rfl | rfl | rfl | rfl | rfl | rfl | rfl | rfl | rfl | rfl | rfl | rfl <;> rfl) (by unfold maxLen; omega) (by omega) rfl rfl rfl rfl ?_; intro A1 c1 w1 how; have HX1 := Lib.hid how; clear how | go_step)
  rw [rounds_succ]
  go_wp2_with (with_reducible refine upon_id ?_; go_simp)
  refine ((fun W (hW : Below w.heap.size w W) => cut_b W m ((hW.cell (block_lt_of_cell hm)).trans hm)) _ (HX1.out.ow.below)).mono ?_
  rintro e wa1 ⟨rfl, hba⟩
  have HY1 := Lib.hid (HX1.out.go hba)
  clear hba
  go_wp2_with (with_reducible refine upon_id ?_; go_simp)
  refine ((fun W (hW : Below w.heap.size w W) => split_b W m ((hW.cell (block_lt_of_cell hm)).trans hm)) _ (HY1.out.ow.below)).mono ?_
  rintro e wb ⟨rfl, rfl⟩
  have h1 := ((Ow.of (St.refl wa1)).arr #[.string ⟨#[102, 108, 117, 115, 104]⟩] 1 rfl (by omega) 9).arr #[.slice (some ⟨wa1.heap.size, 0, none⟩) 1 1, .bool false] 2 rfl (by omega) 62
  simp only [World.size_alloc, List.cons_append, List.nil_append] at h1
  have HR := Lib.hid h1
  clear h1
  go_wp2_with (with_reducible refine upon_id ?_; go_simp)
  refine (event_flush (wa1.heap.size + 1) HR.out (O' := [(⟨some ⟨wa1.heap.size, 0, none⟩, 1, 1, 9, [(.string ⟨#[102, 108, 117, 115, 104]⟩)]⟩ : Rw), (⟨some ⟨(wa1.heap.size + 1), 0, none⟩, 2, 2, 62, [.slice (some ⟨wa1.heap.size, 0, none⟩) 0 0, .bool false]⟩ : Rw)]) (fun w1 r hr => (next_last hr 1 0 (wa1.heap.size + 1) wa1.heap.size 0 1 1 _ _ _ rfl rfl rfl))).mono ?_
  rintro e wc1 ⟨rfl, ho⟩
  have h2 := ho.arr #[.int .i64 0, .int .i64 0, .int .i64 0, .int .i64 0, .int .i64 0, .int .i64 0, .int .i64 0, .int .i64 0, .slice none 0 0, .int .i64 0, .int .i64 0, .int .i64 0, .int .i64 0, .int .i64 0, .int .i64 0, .int .i64 0, .int .i64 0, .int .u8 0, .int .u8 0, .bool false, .int .i64 0, .int .i64 0, .int .i64 0, .int .i64 0, .bool false, .bool false] 26 rfl (by omega) 37
  simp only [List.cons_append, List.nil_append] at h2
  have hg := (h2.rowHeap 2 rfl).1
  have h3 := h2.putRow (k := 26) 2 rfl #[.int .i64 6, .int .i64 0, .int .i64 0, .int .i64 0, .int .i64 0, .int .i64 0, .int .i64 0, .int .i64 0, .slice none 0 0, .int .i64 0, .int .i64 0, .int .i64 0, .int .i64 0, .int .i64 0, .int .i64 0, .int .i64 0, .int .i64 0, .int .u8 0, .int .u8 0, .bool false, .int .i64 0, .int .i64 0, .int .i64 0, .int .i64 0, .bool false, .bool false] rfl (by omega)
  simp only [List.set_cons_zero, List.set_cons_succ] at h3
  have hg2 := (h3.rowHeap 2 rfl).1
  have HG := Lib.hid hg
  have HG2 := Lib.hid hg2
  have HE := Lib.hid h3
  clear h2 h3 hg hg2 ho HR
  dsimp only
  repeat (first | refine wpList_store_row rfl 37 (.tmp 11) (.tmp 35) rfl wc1.heap.size #[.int .i64 6, .int .i64 0, .int .i64 0, .int .i64 0, .int .i64 0, .int .i64 0, .int .i64 0, .int .i64 0, .slice none 0 0, .int .i64 0, .int .i64 0, .int .i64 0, .int .i64 0, .int .i64 0, .int .i64 0, .int .i64 0, .int .i64 0, .int .u8 0, .int .u8 0, .bool false, .int .i64 0, .int .i64 0, .int .i64 0, .int .i64 0, .bool false, .bool false] rfl rfl 37 _ HG.out sizeEv rfl (by simp [Value.oneCell']) ?_ | refine wpList_load_row rfl 37 (.tmp 11) rfl wc1.heap.size rfl 37 #[.int .i64 6, .int .i64 0, .int .i64 0, .int .i64 0, .int .i64 0, .int .i64 0, .int .i64 0, .int .i64 0, .slice none 0 0, .int .i64 0, .int .i64 0, .int .i64 0, .int .i64 0, .int .i64 0, .int .i64 0, .int .i64 0, .int .i64 0, .int .u8 0, .int .u8 0, .bool false, .int .i64 0, .int .i64 0, .int .i64 0, .int .i64 0, .bool false, .bool false] (0, 0) _ HG2.out Tryd.underlying37 rfl sizeEv ?_ | go_step)
  clear HG HG2
  refine (format_flush 2 _).mono ?_
  rintro e wd1 ⟨rfl, hb4⟩
  have HF := Lib.hid (HE.out.go hb4)
  clear hb4 HE
  have yb : wd1.cell? ⟨(wa1.heap.size + 1), 1, none⟩ = some (.bool false) := (HF.out.row 1 rfl).cellAt 1 (by decide)
  have HZ := Lib.hid ((HY1.out.go HF.out.below))
  have hg := (HF.out.rowHeap 2 rfl).1
  have HG := Lib.hid hg
  clear hg
  go_upto_region 13 with (with_reducible refine upon_id ?_; go_simp)
  have h5 := HF.out.arr #[.int .i64 6, .int .i64 0, .int .i64 0, .int .i64 0, .int .i64 0, .int .i64 0, .int .i64 0, .int .i64 0, .slice none 0 0, .int .i64 0, .int .i64 0, .int .i64 0, .int .i64 0, .int .i64 0, .int .i64 0, .int .i64 0, .int .i64 0, .int .u8 0, .int .u8 0, .bool false, .int .i64 0, .int .i64 0, .int .i64 0, .int .i64 0, .bool false, .bool false] 26 rfl (by omega) 37
  have hz := HZ.out.go (w' := wd1.alloc (.cells #[.int .i64 6, .int .i64 0, .int .i64 0, .int .i64 0, .int .i64 0, .int .i64 0, .int .i64 0, .int .i64 0, .slice none 0 0, .int .i64 0, .int .i64 0, .int .i64 0, .int .i64 0, .int .i64 0, .int .i64 0, .int .i64 0, .int .i64 0, .int .u8 0, .int .u8 0, .bool false, .int .i64 0, .int .i64 0, .int .i64 0, .int .i64 0, .bool false, .bool false] 37)) (below_allocX (Below.refl _ _) _)
  have H5 := Lib.hid h5
  have H6 := Lib.hid hz
  clear h5 hz
  repeat (first | refine wpList_load_row rfl 37 (.tmp 11) rfl wc1.heap.size rfl 37 #[.int .i64 6, .int .i64 0, .int .i64 0, .int .i64 0, .int .i64 0, .int .i64 0, .int .i64 0, .int .i64 0, .slice none 0 0, .int .i64 0, .int .i64 0, .int .i64 0, .int .i64 0, .int .i64 0, .int .i64 0, .int .i64 0, .int .i64 0, .int .u8 0, .int .u8 0, .bool false, .int .i64 0, .int .i64 0, .int .i64 0, .int .i64 0, .bool false, .bool false] (0, 0) _ HG.out Tryd.underlying37 rfl sizeEv ?_ | refine ox_append elemEv H6.out 0 (.tmp 59) (.tmp 61) (m := 1) (news := [.int .i64 6, .int .i64 0, .int .i64 0, .int .i64 0, .int .i64 0, .int .i64 0, .int .i64 0, .int .i64 0, .slice none 0 0, .int .i64 0, .int .i64 0, .int .i64 0, .int .i64 0, .int .i64 0, .int .i64 0, .int .i64 0, .int .i64 0, .int .u8 0, .int .u8 0, .bool false, .int .i64 0, .int .i64 0, .int .i64 0, .int .i64 0, .bool false, .bool false]) rfl rfl (fun j u hu => (H5.out.row 3 rfl).cells rfl j u hu) (by intro u hu; simp at hu; rcases hu with rfl | rfl | rfl | rfl | rfl | rfl | rfl | rfl | rfl | rfl | rfl | rfl | rfl | rfl | rfl | rfl | rfl | rfl | rfl | rfl | rfl | rfl | rfl | rfl | rfl | rfl <;> rfl) (by unfold maxLen; omega) (by omega) rfl rfl rfl rfl ?_; intro A2 c2 w2 how; have HX2 := Lib.hid how; clear how | go_step)
  rw [rounds_succ]
  go_wp2_with (with_reducible refine upon_id ?_; go_simp)
  refine bodyPost_ret (v := .tuple #[.slice A2 2 c2, .int .i64 0]) (by simp [results, Tryd.results8]) rfl ?_
  exact ⟨A2, c2, rfl, db, c, HX2.out⟩
end Go.Proofs.YtpcmbmabmfghkaaDoor

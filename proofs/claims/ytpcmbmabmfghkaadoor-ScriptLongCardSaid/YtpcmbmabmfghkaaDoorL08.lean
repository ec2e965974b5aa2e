/- ScQ ScR ScS ScU ScY ScZ SdA -/
import Derived.Test.YtpcmbmabmfghkaaDoorL01
import Derived.Test.YtpcmbmabmfghkaaDoorL07
import Derived.Lib.SmallJoins
import Derived.Deep.MidRow
import Derived.Lib.AtoiTie
import Derived.Lib.ItoaMem
import Derived.Lib.SplitLaws
import Derived.Lib.CountLaws
import Derived.Lib.AppendIntMem
namespace Go.Proofs.YtpcmbmabmfghkaaDoor
open Go.RowKit
set_option linter.unusedVariables false
set_option maxRecDepth 100000
theorem cut_a (w : World) (m : Int) (hm : w.cell? ⟨0, 0, none⟩ = some (.int .i64 m)) :
    Calls Tryd.prog 15 #[.string ⟨#[119, 114, 105, 116, 101, 32, 49, 32, 48, 32, 51, 32, 48, 48, 102, 102, 10, 102, 108, 117, 115, 104, 10]⟩, .string ⟨#[10]⟩] w fun e w' => e = .returned (.tuple #[.string ⟨#[119, 114, 105, 116, 101, 32, 49, 32, 48, 32, 51, 32, 48, 48, 102, 102]⟩, .string ⟨#[102, 108, 117, 115, 104, 10]⟩, .bool true]) ∧ Below w.heap.size w w' := by
  have h := Tryd.strings_Cut ⟨#[119, 114, 105, 116, 101, 32, 49, 32, 48, 32, 51, 32, 48, 48, 102, 102, 10, 102, 108, 117, 115, 104, 10]⟩ ⟨#[10]⟩ m w (by decide) hm
  have h1 : (⟨(Lib.cut (⟨#[119, 114, 105, 116, 101, 32, 49, 32, 48, 32, 51, 32, 48, 48, 102, 102, 10, 102, 108, 117, 115, 104, 10]⟩ : ByteArray).data.toList (⟨#[10]⟩ : ByteArray).data.toList).1.toArray⟩ : ByteArray) = ⟨#[119, 114, 105, 116, 101, 32, 49, 32, 48, 32, 51, 32, 48, 48, 102, 102]⟩ := by decide +kernel
  have h2 : (⟨(Lib.cut (⟨#[119, 114, 105, 116, 101, 32, 49, 32, 48, 32, 51, 32, 48, 48, 102, 102, 10, 102, 108, 117, 115, 104, 10]⟩ : ByteArray).data.toList (⟨#[10]⟩ : ByteArray).data.toList).2.1.toArray⟩ : ByteArray) = ⟨#[102, 108, 117, 115, 104, 10]⟩ := by decide +kernel
  have h3 : (Lib.cut (⟨#[119, 114, 105, 116, 101, 32, 49, 32, 48, 32, 51, 32, 48, 48, 102, 102, 10, 102, 108, 117, 115, 104, 10]⟩ : ByteArray).data.toList (⟨#[10]⟩ : ByteArray).data.toList).2.2 = true := by decide +kernel
  rw [h1, h2, h3] at h
  refine h.mono ?_
  rintro e w1 ⟨rfl, n, rfl⟩
  exact ⟨rfl, below_drewN (Below.refl _ _) n⟩
theorem cut_b (w : World) (m : Int) (hm : w.cell? ⟨0, 0, none⟩ = some (.int .i64 m)) :
    Calls Tryd.prog 15 #[.string ⟨#[102, 108, 117, 115, 104, 10]⟩, .string ⟨#[10]⟩] w fun e w' => e = .returned (.tuple #[.string ⟨#[102, 108, 117, 115, 104]⟩, .string ⟨#[]⟩, .bool true]) ∧ Below w.heap.size w w' := by
  have h := Tryd.strings_Cut ⟨#[102, 108, 117, 115, 104, 10]⟩ ⟨#[10]⟩ m w (by decide) hm
  have h1 : (⟨(Lib.cut (⟨#[102, 108, 117, 115, 104, 10]⟩ : ByteArray).data.toList (⟨#[10]⟩ : ByteArray).data.toList).1.toArray⟩ : ByteArray) = ⟨#[102, 108, 117, 115, 104]⟩ := by decide +kernel
  have h2 : (⟨(Lib.cut (⟨#[102, 108, 117, 115, 104, 10]⟩ : ByteArray).data.toList (⟨#[10]⟩ : ByteArray).data.toList).2.1.toArray⟩ : ByteArray) = ⟨#[]⟩ := by decide +kernel
  have h3 : (Lib.cut (⟨#[102, 108, 117, 115, 104, 10]⟩ : ByteArray).data.toList (⟨#[10]⟩ : ByteArray).data.toList).2.2 = true := by decide +kernel
  rw [h1, h2, h3] at h
  refine h.mono ?_
  rintro e w1 ⟨rfl, n, rfl⟩
  exact ⟨rfl, below_drewN (Below.refl _ _) n⟩
theorem cut_c (w : World) (m : Int) (hm : w.cell? ⟨0, 0, none⟩ = some (.int .i64 m)) :
    Calls Tryd.prog 15 #[.string ⟨#[119, 114, 105, 116, 101, 32, 49, 32, 48, 32, 51, 32, 48, 48, 102, 10]⟩, .string ⟨#[10]⟩] w fun e w' => e = .returned (.tuple #[.string ⟨#[119, 114, 105, 116, 101, 32, 49, 32, 48, 32, 51, 32, 48, 48, 102]⟩, .string ⟨#[]⟩, .bool true]) ∧ Below w.heap.size w w' := by
  have h := Tryd.strings_Cut ⟨#[119, 114, 105, 116, 101, 32, 49, 32, 48, 32, 51, 32, 48, 48, 102, 10]⟩ ⟨#[10]⟩ m w (by decide) hm
  have h1 : (⟨(Lib.cut (⟨#[119, 114, 105, 116, 101, 32, 49, 32, 48, 32, 51, 32, 48, 48, 102, 10]⟩ : ByteArray).data.toList (⟨#[10]⟩ : ByteArray).data.toList).1.toArray⟩ : ByteArray) = ⟨#[119, 114, 105, 116, 101, 32, 49, 32, 48, 32, 51, 32, 48, 48, 102]⟩ := by decide +kernel
  have h2 : (⟨(Lib.cut (⟨#[119, 114, 105, 116, 101, 32, 49, 32, 48, 32, 51, 32, 48, 48, 102, 10]⟩ : ByteArray).data.toList (⟨#[10]⟩ : ByteArray).data.toList).2.1.toArray⟩ : ByteArray) = ⟨#[]⟩ := by decide +kernel
  have h3 : (Lib.cut (⟨#[119, 114, 105, 116, 101, 32, 49, 32, 48, 32, 51, 32, 48, 48, 102, 10]⟩ : ByteArray).data.toList (⟨#[10]⟩ : ByteArray).data.toList).2.2 = true := by decide +kernel
  rw [h1, h2, h3] at h
  refine h.mono ?_
  rintro e w1 ⟨rfl, n, rfl⟩
  exact ⟨rfl, below_drewN (Below.refl _ _) n⟩
theorem split_a (w : World) (m : Int) (hm : w.cell? ⟨0, 0, none⟩ = some (.int .i64 m)) :
    Calls Tryd.prog 16 #[.string ⟨#[119, 114, 105, 116, 101, 32, 49, 32, 48, 32, 51, 32, 48, 48, 102, 102]⟩, .string ⟨#[32]⟩] w fun e w' => e = .returned (.slice (some ⟨w.heap.size, 0, none⟩) 5 5) ∧ w' = w.alloc (.cells #[.string ⟨#[119, 114, 105, 116, 101]⟩, .string ⟨#[49]⟩, .string ⟨#[48]⟩, .string ⟨#[51]⟩, .string ⟨#[48, 48, 102, 102]⟩] 9) := by
  have h := Tryd.strings_Split ⟨#[119, 114, 105, 116, 101, 32, 49, 32, 48, 32, 51, 32, 48, 48, 102, 102]⟩ ⟨#[32]⟩ m w (by decide) hm (by decide)
  have h1 : Lib.countB ⟨#[119, 114, 105, 116, 101, 32, 49, 32, 48, 32, 51, 32, 48, 48, 102, 102]⟩ ⟨#[32]⟩ = 4 := by decide +kernel
  rw [h1] at h
  have h2 : Lib.splitB ⟨#[32]⟩ 0 4 ⟨#[119, 114, 105, 116, 101, 32, 49, 32, 48, 32, 51, 32, 48, 48, 102, 102]⟩ = [⟨#[119, 114, 105, 116, 101]⟩, ⟨#[49]⟩, ⟨#[48]⟩, ⟨#[51]⟩, ⟨#[48, 48, 102, 102]⟩] := by decide +kernel
  rw [h2] at h
  exact h
theorem split_b (w : World) (m : Int) (hm : w.cell? ⟨0, 0, none⟩ = some (.int .i64 m)) :
    Calls Tryd.prog 16 #[.string ⟨#[102, 108, 117, 115, 104]⟩, .string ⟨#[32]⟩] w fun e w' => e = .returned (.slice (some ⟨w.heap.size, 0, none⟩) 1 1) ∧ w' = w.alloc (.cells #[.string ⟨#[102, 108, 117, 115, 104]⟩] 9) := by
  have h := Tryd.strings_Split ⟨#[102, 108, 117, 115, 104]⟩ ⟨#[32]⟩ m w (by decide) hm (by decide)
  have h1 : Lib.countB ⟨#[102, 108, 117, 115, 104]⟩ ⟨#[32]⟩ = 0 := by decide +kernel
  rw [h1] at h
  have h2 : Lib.splitB ⟨#[32]⟩ 0 0 ⟨#[102, 108, 117, 115, 104]⟩ = [⟨#[102, 108, 117, 115, 104]⟩] := by decide +kernel
  rw [h2] at h
  exact h
theorem split_c (w : World) (m : Int) (hm : w.cell? ⟨0, 0, none⟩ = some (.int .i64 m)) :
    Calls Tryd.prog 16 #[.string ⟨#[119, 114, 105, 116, 101, 32, 49, 32, 48, 32, 51, 32, 48, 48, 102]⟩, .string ⟨#[32]⟩] w fun e w' => e = .returned (.slice (some ⟨w.heap.size, 0, none⟩) 5 5) ∧ w' = w.alloc (.cells #[.string ⟨#[119, 114, 105, 116, 101]⟩, .string ⟨#[49]⟩, .string ⟨#[48]⟩, .string ⟨#[51]⟩, .string ⟨#[48, 48, 102]⟩] 9) := by
  have h := Tryd.strings_Split ⟨#[119, 114, 105, 116, 101, 32, 49, 32, 48, 32, 51, 32, 48, 48, 102]⟩ ⟨#[32]⟩ m w (by decide) hm (by decide)
  have h1 : Lib.countB ⟨#[119, 114, 105, 116, 101, 32, 49, 32, 48, 32, 51, 32, 48, 48, 102]⟩ ⟨#[32]⟩ = 4 := by decide +kernel
  rw [h1] at h
  have h2 : Lib.splitB ⟨#[32]⟩ 0 4 ⟨#[119, 114, 105, 116, 101, 32, 49, 32, 48, 32, 51, 32, 48, 48, 102]⟩ = [⟨#[119, 114, 105, 116, 101]⟩, ⟨#[49]⟩, ⟨#[48]⟩, ⟨#[51]⟩, ⟨#[48, 48, 102]⟩] := by decide +kernel
  rw [h2] at h
  exact h
theorem atoi_0 (w : World) :
    Calls Tryd.prog 52 #[.string ⟨#[48]⟩] w fun e w' => e = .returned (.tuple #[.int .i64 0, .nilIface]) ∧ Below w.heap.size w w' := by
  refine (Tryd.strconv_Atoi_ok ⟨#[48]⟩ (by decide) 0 (by decide +kernel) w).mono ?_
  rintro e w1 ⟨rfl, h⟩
  refine ⟨rfl, ?_⟩
  rcases h with rfl | ⟨t, rfl⟩
  · exact Below.refl _ _
  · exact Joins.below_bytesWorld _ _ _ _ (Nat.le_refl _)
theorem atoi_1 (w : World) :
    Calls Tryd.prog 52 #[.string ⟨#[49]⟩] w fun e w' => e = .returned (.tuple #[.int .i64 1, .nilIface]) ∧ Below w.heap.size w w' := by
  refine (Tryd.strconv_Atoi_ok ⟨#[49]⟩ (by decide) 1 (by decide +kernel) w).mono ?_
  rintro e w1 ⟨rfl, h⟩
  refine ⟨rfl, ?_⟩
  rcases h with rfl | ⟨t, rfl⟩
  · exact Below.refl _ _
  · exact Joins.below_bytesWorld _ _ _ _ (Nat.le_refl _)
theorem atoi_3 (w : World) :
    Calls Tryd.prog 52 #[.string ⟨#[51]⟩] w fun e w' => e = .returned (.tuple #[.int .i64 3, .nilIface]) ∧ Below w.heap.size w w' := by
  refine (Tryd.strconv_Atoi_ok ⟨#[51]⟩ (by decide) 3 (by decide +kernel) w).mono ?_
  rintro e w1 ⟨rfl, h⟩
  refine ⟨rfl, ?_⟩
  rcases h with rfl | ⟨t, rfl⟩
  · exact Below.refl _ _
  · exact Joins.below_bytesWorld _ _ _ _ (Nat.le_refl _)
set_option maxHeartbeats 4000000 in
/-- a write with half a byte -/
theorem parse_wbad (w : World) (m : Int) (hm : w.cell? ⟨0, 0, none⟩ = some (.int .i64 m)) :
    Calls Tryd.prog 8 #[.int .i64 2, .string ⟨#[119, 114, 105, 116, 101, 32, 49, 32, 48, 32, 51, 32, 48, 48, 102, 10]⟩] w fun e w' => e = .returned (.tuple #[.slice none 0 0, .int .i64 49]) ∧ Below w.heap.size w w' := by
  have HX0 := Lib.hid ((Ox.of (Ow.of (St.refl w))).nilX 37 26)
  go_enter Tryd.func8, Tryd.ntmps8
  go_wp2_with (first | (go_at_call 11; refine (sized_any _ _).mono ?_; rintro e w' ⟨rfl, hw⟩; have hw := hw.symm; subst hw) | (with_reducible refine upon_id ?_; go_simp))
  refine wp_loop_rounds 2 ?_
  rw [rounds_succ]
  go_wp2_with (with_reducible refine upon_id ?_; go_simp)
  refine ((fun W (hW : Below w.heap.size w W) => cut_c W m ((hW.cell (block_lt_of_cell hm)).trans hm)) _ (HX0.out.ow.below)).mono ?_
  rintro e wa0 ⟨rfl, hba⟩
  have HY0 := Lib.hid (HX0.out.go hba)
  clear hba
  go_wp2_with (with_reducible refine upon_id ?_; go_simp)
  refine ((fun W (hW : Below w.heap.size w W) => split_c W m ((hW.cell (block_lt_of_cell hm)).trans hm)) _ (HY0.out.ow.below)).mono ?_
  rintro e wb ⟨rfl, rfl⟩
  have h1 := ((Ow.of (St.refl wa0)).arr #[.string ⟨#[119, 114, 105, 116, 101]⟩, .string ⟨#[49]⟩, .string ⟨#[48]⟩, .string ⟨#[51]⟩, .string ⟨#[48, 48, 102]⟩] 5 rfl (by omega) 9).arr #[.slice (some ⟨wa0.heap.size, 0, none⟩) 5 5, .bool false] 2 rfl (by omega) 62
  simp only [World.size_alloc, List.cons_append, List.nil_append] at h1
  have HR := Lib.hid h1
  clear h1
  go_wp2_with (with_reducible refine upon_id ?_; go_simp)
  refine (event_write (wa0.heap.size + 1) 1 0 3 1 [.int .u8 0] HR.out (O' := [(⟨some ⟨wa0.heap.size, 0, none⟩, 5, 5, 9, [(.string ⟨#[119, 114, 105, 116, 101]⟩), (.string ⟨#[49]⟩), (.string ⟨#[48]⟩), (.string ⟨#[51]⟩), (.string ⟨#[48, 48, 102]⟩)]⟩ : Rw), (⟨some ⟨(wa0.heap.size + 1), 0, none⟩, 2, 2, 62, [.slice (some ⟨wa0.heap.size, 1, none⟩) 4 4, .bool false]⟩ : Rw)]) (O'' := [(⟨some ⟨wa0.heap.size, 0, none⟩, 5, 5, 9, [(.string ⟨#[119, 114, 105, 116, 101]⟩), (.string ⟨#[49]⟩), (.string ⟨#[48]⟩), (.string ⟨#[51]⟩), (.string ⟨#[48, 48, 102]⟩)]⟩ : Rw), (⟨some ⟨(wa0.heap.size + 1), 0, none⟩, 2, 2, 62, [.slice (some ⟨wa0.heap.size, 4, none⟩) 0 0, .bool false]⟩ : Rw)]) (fun w1 r hr => (next_more hr 1 0 (wa0.heap.size + 1) wa0.heap.size 0 3 5 5 _ _ _ rfl rfl rfl (by omega))) (fun w1 R hr => by
    have hop := op_write (O := [(⟨some ⟨wa0.heap.size, 0, none⟩, 5, 5, 9, [(.string ⟨#[119, 114, 105, 116, 101]⟩), (.string ⟨#[49]⟩), (.string ⟨#[48]⟩), (.string ⟨#[51]⟩), (.string ⟨#[48, 48, 102]⟩)]⟩ : Rw), (⟨some ⟨(wa0.heap.size + 1), 0, none⟩, 2, 2, 62, [.slice (some ⟨wa0.heap.size, 1, none⟩) 4 4, .bool false]⟩ : Rw)] ++ R) (O1 := [(⟨some ⟨wa0.heap.size, 0, none⟩, 5, 5, 9, [(.string ⟨#[119, 114, 105, 116, 101]⟩), (.string ⟨#[49]⟩), (.string ⟨#[48]⟩), (.string ⟨#[51]⟩), (.string ⟨#[48, 48, 102]⟩)]⟩ : Rw), (⟨some ⟨(wa0.heap.size + 1), 0, none⟩, 2, 2, 62, [.slice (some ⟨wa0.heap.size, 2, none⟩) 3 3, .bool false]⟩ : Rw)] ++ R) (O2 := [(⟨some ⟨wa0.heap.size, 0, none⟩, 5, 5, 9, [(.string ⟨#[119, 114, 105, 116, 101]⟩), (.string ⟨#[49]⟩), (.string ⟨#[48]⟩), (.string ⟨#[51]⟩), (.string ⟨#[48, 48, 102]⟩)]⟩ : Rw), (⟨some ⟨(wa0.heap.size + 1), 0, none⟩, 2, 2, 62, [.slice (some ⟨wa0.heap.size, 3, none⟩) 2 2, .bool false]⟩ : Rw)] ++ R) (O3 := [(⟨some ⟨wa0.heap.size, 0, none⟩, 5, 5, 9, [(.string ⟨#[119, 114, 105, 116, 101]⟩), (.string ⟨#[49]⟩), (.string ⟨#[48]⟩), (.string ⟨#[51]⟩), (.string ⟨#[48, 48, 102]⟩)]⟩ : Rw), (⟨some ⟨(wa0.heap.size + 1), 0, none⟩, 2, 2, 62, [.slice (some ⟨wa0.heap.size, 4, none⟩) 1 1, .bool false]⟩ : Rw)] ++ R) (O4 := [(⟨some ⟨wa0.heap.size, 0, none⟩, 5, 5, 9, [(.string ⟨#[119, 114, 105, 116, 101]⟩), (.string ⟨#[49]⟩), (.string ⟨#[48]⟩), (.string ⟨#[51]⟩), (.string ⟨#[48, 48, 102]⟩)]⟩ : Rw), (⟨some ⟨(wa0.heap.size + 1), 0, none⟩, 2, 2, 62, [.slice (some ⟨wa0.heap.size, 4, none⟩) 0 0, .bool false]⟩ : Rw)] ++ R) (wa0.heap.size + 1) 1 0 3 1 [.int .u8 0] hr (fun w1 R hr => number_ok (wa0.heap.size + 1) ⟨#[49]⟩ 1 (by omega) (by omega) (next_more hr 1 0 (wa0.heap.size + 1) wa0.heap.size 1 2 5 5 _ _ _ rfl rfl rfl (by omega)) (fun w2 _ => atoi_1 w2) (fun w2 _ => (itoa_1 w2).mono (fun e w3 h => ⟨h.1, by rw [h.2]; exact Below.refl _ _⟩))) (fun w1 R hr => number_ok (wa0.heap.size + 1) ⟨#[48]⟩ 0 (by omega) (by omega) (next_more hr 1 0 (wa0.heap.size + 1) wa0.heap.size 2 1 5 5 _ _ _ rfl rfl rfl (by omega)) (fun w2 _ => atoi_0 w2) (fun w2 _ => (itoa_0 w2).mono (fun e w3 h => ⟨h.1, by rw [h.2]; exact Below.refl _ _⟩))) (fun w1 R hr => number_ok (wa0.heap.size + 1) ⟨#[51]⟩ 3 (by omega) (by omega) (next_more hr 1 0 (wa0.heap.size + 1) wa0.heap.size 3 0 5 5 _ _ _ rfl rfl rfl (by omega)) (fun w2 _ => atoi_3 w2) (fun w2 _ => (itoa_3 w2).mono (fun e w3 h => ⟨h.1, by rw [h.2]; exact Below.refl _ _⟩))) (fun w1 R hr => (bytes_one (wa0.heap.size + 1) (next_last hr 1 0 (wa0.heap.size + 1) wa0.heap.size 4 5 5 _ _ _ rfl rfl rfl)).mono (fun e w3 h => by
      obtain ⟨A, c, h1, h2⟩ := h
      exact ⟨A, c, h1, by simpa only [List.append_assoc, List.cons_append, List.nil_append, List.set_cons_zero, List.set_cons_succ] using h2⟩))
    exact hop.mono (fun e w3 h => by
      obtain ⟨A, c, h1, h2⟩ := h
      exact ⟨A, c, h1, by simpa only [List.append_assoc, List.cons_append, List.nil_append] using h2⟩))).mono ?_
  rintro e wc0 ⟨A, c, rfl, ho⟩
  simp only [List.cons_append, List.nil_append] at ho
  obtain ⟨db, rfl, -, -⟩ := own_form (ho.row 2 rfl) (by omega)
  have h2 := ho.arr #[.int .i64 0, .int .i64 0, .int .i64 0, .int .i64 0, .int .i64 0, .int .i64 0, .int .i64 0, .int .i64 0, .slice none 0 0, .int .i64 0, .int .i64 0, .int .i64 0, .int .i64 0, .int .i64 0, .int .i64 0, .int .i64 0, .int .i64 0, .int .u8 0, .int .u8 0, .bool false, .int .i64 0, .int .i64 0, .int .i64 0, .int .i64 0, .bool false, .bool false] 26 rfl (by omega) 37
  simp only [List.cons_append, List.nil_append] at h2
  have hg := (h2.rowHeap 3 rfl).1
  have h3 := h2.putRow (k := 26) 3 rfl #[.int .i64 1, .int .i64 0, .int .i64 0, .int .i64 2, .int .i64 1, .int .i64 0, .int .i64 3, .int .i64 0, .slice (some ⟨db, 0, none⟩) 1 c, .int .i64 0, .int .i64 0, .int .i64 0, .int .i64 0, .int .i64 0, .int .i64 0, .int .i64 0, .int .i64 0, .int .u8 0, .int .u8 0, .bool false, .int .i64 0, .int .i64 0, .int .i64 0, .int .i64 0, .bool false, .bool false] rfl (by omega)
  simp only [List.set_cons_zero, List.set_cons_succ] at h3
  have hg2 := (h3.rowHeap 3 rfl).1
  have HG := Lib.hid hg
  have HG2 := Lib.hid hg2
  have HE := Lib.hid h3
  clear h2 h3 hg hg2 ho HR
  dsimp only
  repeat (first | refine wpList_store_row rfl 37 (.tmp 11) (.tmp 35) rfl wc0.heap.size #[.int .i64 1, .int .i64 0, .int .i64 0, .int .i64 2, .int .i64 1, .int .i64 0, .int .i64 3, .int .i64 0, .slice (some ⟨db, 0, none⟩) 1 c, .int .i64 0, .int .i64 0, .int .i64 0, .int .i64 0, .int .i64 0, .int .i64 0, .int .i64 0, .int .i64 0, .int .u8 0, .int .u8 0, .bool false, .int .i64 0, .int .i64 0, .int .i64 0, .int .i64 0, .bool false, .bool false] rfl rfl 37 _ HG.out sizeEv rfl (by simp [Value.oneCell']) ?_ | refine wpList_load_row rfl 37 (.tmp 11) rfl wc0.heap.size rfl 37 #[.int .i64 1, .int .i64 0, .int .i64 0, .int .i64 2, .int .i64 1, .int .i64 0, .int .i64 3, .int .i64 0, .slice (some ⟨db, 0, none⟩) 1 c, .int .i64 0, .int .i64 0, .int .i64 0, .int .i64 0, .int .i64 0, .int .i64 0, .int .i64 0, .int .i64 0, .int .u8 0, .int .u8 0, .bool false, .int .i64 0, .int .i64 0, .int .i64 0, .int .i64 0, .bool false, .bool false] (0, 0) _ HG2.out Tryd.underlying37 rfl sizeEv ?_ | go_step)
  clear HG HG2
  refine (format_one _ db c (HE.out.lt (i := 2) rfl rfl).1 ((HE.out.row 2 rfl).cellAt 0 (by decide))).mono ?_
  rintro e wd0 ⟨rfl, hb4⟩
  have HF := Lib.hid (HE.out.go hb4)
  clear hb4 HE
  have yb : wd0.cell? ⟨(wa0.heap.size + 1), 1, none⟩ = some (.bool false) := (HF.out.row 1 rfl).cellAt 1 (by decide)
  go_wp2_with (with_reducible refine upon_id ?_; go_simp)
  refine bodyPost_ret (v := .tuple #[.slice none 0 0, .int .i64 49]) (by simp [results, Tryd.results8]) rfl ?_
  exact ⟨rfl, HY0.out.ow.below.trans (below_less HF.out.below HY0.out.size)⟩
set_option maxHeartbeats 4000000 in
/-- a write and a flush -/
theorem parse_two (w : World) (m : Int) (hm : w.cell? ⟨0, 0, none⟩ = some (.int .i64 m)) :
    Calls Tryd.prog 8 #[.int .i64 2, .string ⟨#[119, 114, 105, 116, 101, 32, 49, 32, 48, 32, 51, 32, 48, 48, 102, 102, 10, 102, 108, 117, 115, 104, 10]⟩] w fun e w' => ∃ (A : Option Addr) (c db dc : Nat), e = .returned (.tuple #[.slice A 2 c, .int .i64 0]) ∧ Ox w w' none [] [] [⟨some ⟨db, 0, none⟩, 2, dc, 5, [.int .u8 0, .int .u8 255]⟩] [⟨A, 2, c, 37, 26, [.int .i64 1, .int .i64 0, .int .i64 0, .int .i64 2, .int .i64 1, .int .i64 0, .int .i64 3, .int .i64 0, .slice (some ⟨db, 0, none⟩) 2 dc, .int .i64 0, .int .i64 0, .int .i64 0, .int .i64 0, .int .i64 0, .int .i64 0, .int .i64 0, .int .i64 0, .int .u8 0, .int .u8 0, .bool false, .int .i64 0, .int .i64 0, .int .i64 0, .int .i64 0, .bool false, .bool false, .int .i64 6, .int .i64 0, .int .i64 0, .int .i64 0, .int .i64 0, .int .i64 0, .int .i64 0, .int .i64 0, .slice none 0 0, .int .i64 0, .int .i64 0, .int .i64 0, .int .i64 0, .int .i64 0, .int .i64 0, .int .i64 0, .int .i64 0, .int .u8 0, .int .u8 0, .bool false, .int .i64 0, .int .i64 0, .int .i64 0, .int .i64 0, .bool false, .bool false]⟩] := by
  have HX0 := Lib.hid ((Ox.of (Ow.of (St.refl w))).nilX 37 26)
  go_enter Tryd.func8, Tryd.ntmps8
  go_wp2_with (first | (go_at_call 11; refine (sized_any _ _).mono ?_; rintro e w' ⟨rfl, hw⟩; have hw := hw.symm; subst hw) | (with_reducible refine upon_id ?_; go_simp))
  refine wp_loop_rounds 3 ?_
  rw [rounds_succ]
  go_wp2_with (with_reducible refine upon_id ?_; go_simp)
  refine ((fun W (hW : Below w.heap.size w W) => cut_a W m ((hW.cell (block_lt_of_cell hm)).trans hm)) _ (HX0.out.ow.below)).mono ?_
  rintro e wa0 ⟨rfl, hba⟩
  have HY0 := Lib.hid (HX0.out.go hba)
  clear hba
  go_wp2_with (with_reducible refine upon_id ?_; go_simp)
  refine ((fun W (hW : Below w.heap.size w W) => split_a W m ((hW.cell (block_lt_of_cell hm)).trans hm)) _ (HY0.out.ow.below)).mono ?_
  rintro e wb ⟨rfl, rfl⟩
  have h1 := ((Ow.of (St.refl wa0)).arr #[.string ⟨#[119, 114, 105, 116, 101]⟩, .string ⟨#[49]⟩, .string ⟨#[48]⟩, .string ⟨#[51]⟩, .string ⟨#[48, 48, 102, 102]⟩] 5 rfl (by omega) 9).arr #[.slice (some ⟨wa0.heap.size, 0, none⟩) 5 5, .bool false] 2 rfl (by omega) 62
  simp only [World.size_alloc, List.cons_append, List.nil_append] at h1
  have HR := Lib.hid h1
  clear h1
  go_wp2_with (with_reducible refine upon_id ?_; go_simp)
  refine (event_write (wa0.heap.size + 1) 1 0 3 2 [.int .u8 0, .int .u8 255] HR.out (O' := [(⟨some ⟨wa0.heap.size, 0, none⟩, 5, 5, 9, [(.string ⟨#[119, 114, 105, 116, 101]⟩), (.string ⟨#[49]⟩), (.string ⟨#[48]⟩), (.string ⟨#[51]⟩), (.string ⟨#[48, 48, 102, 102]⟩)]⟩ : Rw), (⟨some ⟨(wa0.heap.size + 1), 0, none⟩, 2, 2, 62, [.slice (some ⟨wa0.heap.size, 1, none⟩) 4 4, .bool false]⟩ : Rw)]) (O'' := [(⟨some ⟨wa0.heap.size, 0, none⟩, 5, 5, 9, [(.string ⟨#[119, 114, 105, 116, 101]⟩), (.string ⟨#[49]⟩), (.string ⟨#[48]⟩), (.string ⟨#[51]⟩), (.string ⟨#[48, 48, 102, 102]⟩)]⟩ : Rw), (⟨some ⟨(wa0.heap.size + 1), 0, none⟩, 2, 2, 62, [.slice (some ⟨wa0.heap.size, 4, none⟩) 0 0, .bool false]⟩ : Rw)]) (fun w1 r hr => (next_more hr 1 0 (wa0.heap.size + 1) wa0.heap.size 0 3 5 5 _ _ _ rfl rfl rfl (by omega))) (fun w1 R hr => by
    have hop := op_write (O := [(⟨some ⟨wa0.heap.size, 0, none⟩, 5, 5, 9, [(.string ⟨#[119, 114, 105, 116, 101]⟩), (.string ⟨#[49]⟩), (.string ⟨#[48]⟩), (.string ⟨#[51]⟩), (.string ⟨#[48, 48, 102, 102]⟩)]⟩ : Rw), (⟨some ⟨(wa0.heap.size + 1), 0, none⟩, 2, 2, 62, [.slice (some ⟨wa0.heap.size, 1, none⟩) 4 4, .bool false]⟩ : Rw)] ++ R) (O1 := [(⟨some ⟨wa0.heap.size, 0, none⟩, 5, 5, 9, [(.string ⟨#[119, 114, 105, 116, 101]⟩), (.string ⟨#[49]⟩), (.string ⟨#[48]⟩), (.string ⟨#[51]⟩), (.string ⟨#[48, 48, 102, 102]⟩)]⟩ : Rw), (⟨some ⟨(wa0.heap.size + 1), 0, none⟩, 2, 2, 62, [.slice (some ⟨wa0.heap.size, 2, none⟩) 3 3, .bool false]⟩ : Rw)] ++ R) (O2 := [(⟨some ⟨wa0.heap.size, 0, none⟩, 5, 5, 9, [(.string ⟨#[119, 114, 105, 116, 101]⟩), (.string ⟨#[49]⟩), (.string ⟨#[48]⟩), (.string ⟨#[51]⟩), (.string ⟨#[48, 48, 102, 102]⟩)]⟩ : Rw), (⟨some ⟨(wa0.heap.size + 1), 0, none⟩, 2, 2, 62, [.slice (some ⟨wa0.heap.size, 3, none⟩) 2 2, .bool false]⟩ : Rw)] ++ R) (O3 := [(⟨some ⟨wa0.heap.size, 0, none⟩, 5, 5, 9, [(.string ⟨#[119, 114, 105, 116, 101]⟩), (.string ⟨#[49]⟩), (.string ⟨#[48]⟩), (.string ⟨#[51]⟩), (.string ⟨#[48, 48, 102, 102]⟩)]⟩ : Rw), (⟨some ⟨(wa0.heap.size + 1), 0, none⟩, 2, 2, 62, [.slice (some ⟨wa0.heap.size, 4, none⟩) 1 1, .bool false]⟩ : Rw)] ++ R) (O4 := [(⟨some ⟨wa0.heap.size, 0, none⟩, 5, 5, 9, [(.string ⟨#[119, 114, 105, 116, 101]⟩), (.string ⟨#[49]⟩), (.string ⟨#[48]⟩), (.string ⟨#[51]⟩), (.string ⟨#[48, 48, 102, 102]⟩)]⟩ : Rw), (⟨some ⟨(wa0.heap.size + 1), 0, none⟩, 2, 2, 62, [.slice (some ⟨wa0.heap.size, 4, none⟩) 0 0, .bool false]⟩ : Rw)] ++ R) (wa0.heap.size + 1) 1 0 3 2 [.int .u8 0, .int .u8 255] hr (fun w1 R hr => number_ok (wa0.heap.size + 1) ⟨#[49]⟩ 1 (by omega) (by omega) (next_more hr 1 0 (wa0.heap.size + 1) wa0.heap.size 1 2 5 5 _ _ _ rfl rfl rfl (by omega)) (fun w2 _ => atoi_1 w2) (fun w2 _ => (itoa_1 w2).mono (fun e w3 h => ⟨h.1, by rw [h.2]; exact Below.refl _ _⟩))) (fun w1 R hr => number_ok (wa0.heap.size + 1) ⟨#[48]⟩ 0 (by omega) (by omega) (next_more hr 1 0 (wa0.heap.size + 1) wa0.heap.size 2 1 5 5 _ _ _ rfl rfl rfl (by omega)) (fun w2 _ => atoi_0 w2) (fun w2 _ => (itoa_0 w2).mono (fun e w3 h => ⟨h.1, by rw [h.2]; exact Below.refl _ _⟩))) (fun w1 R hr => number_ok (wa0.heap.size + 1) ⟨#[51]⟩ 3 (by omega) (by omega) (next_more hr 1 0 (wa0.heap.size + 1) wa0.heap.size 3 0 5 5 _ _ _ rfl rfl rfl (by omega)) (fun w2 _ => atoi_3 w2) (fun w2 _ => (itoa_3 w2).mono (fun e w3 h => ⟨h.1, by rw [h.2]; exact Below.refl _ _⟩))) (fun w1 R hr => (bytes_two (wa0.heap.size + 1) (next_last hr 1 0 (wa0.heap.size + 1) wa0.heap.size 4 5 5 _ _ _ rfl rfl rfl)).mono (fun e w3 h => by
      obtain ⟨A, c, h1, h2⟩ := h
      exact ⟨A, c, h1, by simpa only [List.append_assoc, List.cons_append, List.nil_append, List.set_cons_zero, List.set_cons_succ] using h2⟩))
    exact hop.mono (fun e w3 h => by
      obtain ⟨A, c, h1, h2⟩ := h
      exact ⟨A, c, h1, by simpa only [List.append_assoc, List.cons_append, List.nil_append] using h2⟩))).mono ?_
  rintro e wc0 ⟨A, c, rfl, ho⟩
  simp only [List.cons_append, List.nil_append] at ho
  obtain ⟨db, rfl, -, -⟩ := own_form (ho.row 2 rfl) (by omega)
  have h2 := ho.arr #[.int .i64 0, .int .i64 0, .int .i64 0, .int .i64 0, .int .i64 0, .int .i64 0, .int .i64 0, .int .i64 0, .slice none 0 0, .int .i64 0, .int .i64 0, .int .i64 0, .int .i64 0, .int .i64 0, .int .i64 0, .int .i64 0, .int .i64 0, .int .u8 0, .int .u8 0, .bool false, .int .i64 0, .int .i64 0, .int .i64 0, .int .i64 0, .bool false, .bool false] 26 rfl (by omega) 37
  simp only [List.cons_append, List.nil_append] at h2
  have hg := (h2.rowHeap 3 rfl).1
  have h3 := h2.putRow (k := 26) 3 rfl #[.int .i64 1, .int .i64 0, .int .i64 0, .int .i64 2, .int .i64 1, .int .i64 0, .int .i64 3, .int .i64 0, .slice (some ⟨db, 0, none⟩) 2 c, .int .i64 0, .int .i64 0, .int .i64 0, .int .i64 0, .int .i64 0, .int .i64 0, .int .i64 0, .int .i64 0, .int .u8 0, .int .u8 0, .bool false, .int .i64 0, .int .i64 0, .int .i64 0, .int .i64 0, .bool false, .bool false] rfl (by omega)
  simp only [List.set_cons_zero, List.set_cons_succ] at h3
  have hg2 := (h3.rowHeap 3 rfl).1
  have HG := Lib.hid hg
  have HG2 := Lib.hid hg2
  have HE := Lib.hid h3
  clear h2 h3 hg hg2 ho HR
  dsimp only
  repeat (first | refine wpList_store_row rfl 37 (.tmp 11) (.tmp 35) rfl wc0.heap.size #[.int .i64 1, .int .i64 0, .int .i64 0, .int .i64 2, .int .i64 1, .int .i64 0, .int .i64 3, .int .i64 0, .slice (some ⟨db, 0, none⟩) 2 c, .int .i64 0, .int .i64 0, .int .i64 0, .int .i64 0, .int .i64 0, .int .i64 0, .int .i64 0, .int .i64 0, .int .u8 0, .int .u8 0, .bool false, .int .i64 0, .int .i64 0, .int .i64 0, .int .i64 0, .bool false, .bool false] rfl rfl 37 _ HG.out sizeEv rfl (by simp [Value.oneCell']) ?_ | refine wpList_load_row rfl 37 (.tmp 11) rfl wc0.heap.size rfl 37 #[.int .i64 1, .int .i64 0, .int .i64 0, .int .i64 2, .int .i64 1, .int .i64 0, .int .i64 3, .int .i64 0, .slice (some ⟨db, 0, none⟩) 2 c, .int .i64 0, .int .i64 0, .int .i64 0, .int .i64 0, .int .i64 0, .int .i64 0, .int .i64 0, .int .i64 0, .int .u8 0, .int .u8 0, .bool false, .int .i64 0, .int .i64 0, .int .i64 0, .int .i64 0, .bool false, .bool false] (0, 0) _ HG2.out Tryd.underlying37 rfl sizeEv ?_ | go_step)
  clear HG HG2
  refine (format_two _ db c (HE.out.lt (i := 2) rfl rfl).1 ((HE.out.row 2 rfl).cellAt 0 (by decide)) ((HE.out.row 2 rfl).cellAt 1 (by decide))).mono ?_
  rintro e wd0 ⟨rfl, hb4⟩
  have HF := Lib.hid (HE.out.go hb4)
  clear hb4 HE
  have yb : wd0.cell? ⟨(wa0.heap.size + 1), 1, none⟩ = some (.bool false) := (HF.out.row 1 rfl).cellAt 1 (by decide)
  have HZ := Lib.hid (HY0.out.addO (HF.out.row 2 rfl) HF.out.below)
  have hg := (HF.out.rowHeap 3 rfl).1
  have HG := Lib.hid hg
  clear hg
  go_upto_region 13 with (with_reducible refine upon_id ?_; go_simp)
  have h5 := HF.out.arr #[.int .i64 1, .int .i64 0, .int .i64 0, .int .i64 2, .int .i64 1, .int .i64 0, .int .i64 3, .int .i64 0, .slice (some ⟨db, 0, none⟩) 2 c, .int .i64 0, .int .i64 0, .int .i64 0, .int .i64 0, .int .i64 0, .int .i64 0, .int .i64 0, .int .i64 0, .int .u8 0, .int .u8 0, .bool false, .int .i64 0, .int .i64 0, .int .i64 0, .int .i64 0, .bool false, .bool false] 26 rfl (by omega) 37
  have hz := HZ.out.go (w' := wd0.alloc (.cells #[.int .i64 1, .int .i64 0, .int .i64 0, .int .i64 2, .int .i64 1, .int .i64 0, .int .i64 3, .int .i64 0, .slice (some ⟨db, 0, none⟩) 2 c, .int .i64 0, .int .i64 0, .int .i64 0, .int .i64 0, .int .i64 0, .int .i64 0, .int .i64 0, .int .i64 0, .int .u8 0, .int .u8 0, .bool false, .int .i64 0, .int .i64 0, .int .i64 0, .int .i64 0, .bool false, .bool false] 37)) (below_allocX (Below.refl _ _) _)
  have H5 := Lib.hid h5
  have H6 := Lib.hid hz
  clear h5 hz
  repeat (first | refine wpList_load_row rfl 37 (.tmp 11) rfl wc0.heap.size rfl 37 #[.int .i64 1, .int .i64 0, .int .i64 0, .int .i64 2, .int .i64 1, .int .i64 0, .int .i64 3, .int .i64 0, .slice (some ⟨db, 0, none⟩) 2 c, .int .i64 0, .int .i64 0, .int .i64 0, .int .i64 0, .int .i64 0, .int .i64 0, .int .i64 0, .int .i64 0, .int .u8 0, .int .u8 0, .bool false, .int .i64 0, .int .i64 0, .int .i64 0, .int .i64 0, .bool false, .bool false] (0, 0) _ HG.out Tryd.underlying37 rfl sizeEv ?_ | refine ox_append elemEv H6.out 0 (.tmp 59) (.tmp 61) (m := 1) (news := [.int .i64 1, .int .i64 0, .int .i64 0, .int .i64 2, .int .i64 1, .int .i64 0, .int .i64 3, .int .i64 0, .slice (some ⟨db, 0, none⟩) 2 c, .int .i64 0, .int .i64 0, .int .i64 0, .int .i64 0, .int .i64 0, .int .i64 0, .int .i64 0, .int .i64 0, .int .u8 0, .int .u8 0, .bool false, .int .i64 0, .int .i64 0, .int .i64 0, .int .i64 0, .bool false, .bool false]) rfl rfl (fun j u hu => (H5.out.row 4 rfl).cells rfl j u hu) (by intro u hu; simp at hu; rcases hu with rfl | rfl | rfl | rfl | rfl | rfl | rfl | rfl | rfl | rfl | rfl | rfl | rfl | rfl | rfl | rfl | rfl | rfl | rfl | rfl | rfl | rfl | rfl | rfl | rfl | rfl <;> rfl) (by unfold maxLen; omega) (by omega) rfl rfl rfl rfl ?_; intro A1 c1 w1 how; have HX1 := Lib.hid how; clear how | go_step)
  rw [rounds_succ]
  go_wp2_with (with_reducible refine upon_id ?_; go_simp)
  refine ((fun W (hW : Below w.heap.size w W) => cut_b W m ((hW.cell (block_lt_of_cell hm)).trans hm)) _ (HX1.out.ow.below)).mono ?_
  rintro e wa1 ⟨rfl, hba⟩
  have HY1 := Lib.hid (HX1.out.go hba)
  clear hba
  go_wp2_with (with_reducible refine upon_id ?_; go_simp)
  refine ((fun W (hW : Below w.heap.size w W) => split_b W m ((hW.cell (block_lt_of_cell hm)).trans hm)) _ (HY1.out.ow.below)).mono ?_
  rintro e wb ⟨rfl, rfl⟩
  have h1 := ((Ow.of (St.refl wa1)).arr #[.string ⟨#[102, 108, 117, 115, 104]⟩] 1 rfl (by omega) 9).arr #[.slice (some ⟨wa1.heap.size, 0, none⟩) 1 1, .bool false] 2 rfl (by omega) 62
  simp only [World.size_alloc, List.cons_append, List.nil_append] at h1
  have HR := Lib.hid h1
  clear h1
  go_wp2_with (with_reducible refine upon_id ?_; go_simp)
  refine (event_flush (wa1.heap.size + 1) HR.out (O' := [(⟨some ⟨wa1.heap.size, 0, none⟩, 1, 1, 9, [(.string ⟨#[102, 108, 117, 115, 104]⟩)]⟩ : Rw), (⟨some ⟨(wa1.heap.size + 1), 0, none⟩, 2, 2, 62, [.slice (some ⟨wa1.heap.size, 0, none⟩) 0 0, .bool false]⟩ : Rw)]) (fun w1 r hr => (next_last hr 1 0 (wa1.heap.size + 1) wa1.heap.size 0 1 1 _ _ _ rfl rfl rfl))).mono ?_
  rintro e wc1 ⟨rfl, ho⟩
  have h2 := ho.arr #[.int .i64 0, .int .i64 0, .int .i64 0, .int .i64 0, .int .i64 0, .int .i64 0, .int .i64 0, .int .i64 0, .slice none 0 0, .int .i64 0, .int .i64 0, .int .i64 0, .int .i64 0, .int .i64 0, .int .i64 0, .int .i64 0, .int .i64 0, .int .u8 0, .int .u8 0, .bool false, .int .i64 0, .int .i64 0, .int .i64 0, .int .i64 0, .bool false, .bool false] 26 rfl (by omega) 37
  simp only [List.cons_append, List.nil_append] at h2
  have hg := (h2.rowHeap 2 rfl).1
  have h3 := h2.putRow (k := 26) 2 rfl #[.int .i64 6, .int .i64 0, .int .i64 0, .int .i64 0, .int .i64 0, .int .i64 0, .int .i64 0, .int .i64 0, .slice none 0 0, .int .i64 0, .int .i64 0, .int .i64 0, .int .i64 0, .int .i64 0, .int .i64 0, .int .i64 0, .int .i64 0, .int .u8 0, .int .u8 0, .bool false, .int .i64 0, .int .i64 0, .int .i64 0, .int .i64 0, .bool false, .bool false] rfl (by omega)
  simp only [List.set_cons_zero, List.set_cons_succ] at h3
  have hg2 := (h3.rowHeap 2 rfl).1
  have HG := Lib.hid hg
  have HG2 := Lib.hid hg2
  have HE := Lib.hid h3
  clear h2 h3 hg hg2 ho HR
  dsimp only
  repeat (first | refine wpList_store_row rfl 37 (.tmp 11) (.tmp 35) rfl wc1.heap.size #[.int .i64 6, .int .i64 0, .int .i64 0, .int .i64 0, .int .i64 0, .int .i64 0, .int .i64 0, .int .i64 0, .slice none 0 0, .int .i64 0, .int .i64 0, .int .i64 0, .int .i64 0, .int .i64 0, .int .i64 0, .int .i64 0, .int .i64 0, .int .u8 0, .int .u8 0, .bool false, .int .i64 0, .int .i64 0, .int .i64 0, .int .i64 0, .bool false, .bool false] rfl rfl 37 _ HG.out sizeEv rfl (by simp [Value.oneCell']) ?_ | refine wpList_load_row rfl 37 (.tmp 11) rfl wc1.heap.size rfl 37 #[.int .i64 6, .int .i64 0, .int .i64 0, .int .i64 0, .int .i64 0, .int .i64 0, .int .i64 0, .int .i64 0, .slice none 0 0, .int .i64 0, .int .i64 0, .int .i64 0, .int .i64 0, .int .i64 0, .int .i64 0, .int .i64 0, .int .i64 0, .int .u8 0, .int .u8 0, .bool false, .int .i64 0, .int .i64 0, .int .i64 0, .int .i64 0, .bool false, .bool false] (0, 0) _ HG2.out Tryd.underlying37 rfl sizeEv ?_ | go_step)
  clear HG HG2
  refine (format_flush 2 _).mono ?_
  rintro e wd1 ⟨rfl, hb4⟩
  have HF := Lib.hid (HE.out.go hb4)
  clear hb4 HE
  have yb : wd1.cell? ⟨(wa1.heap.size + 1), 1, none⟩ = some (.bool false) := (HF.out.row 1 rfl).cellAt 1 (by decide)
  have HZ := Lib.hid ((HY1.out.go HF.out.below))
  have hg := (HF.out.rowHeap 2 rfl).1
  have HG := Lib.hid hg
  clear hg
  go_upto_region 13 with (with_reducible refine upon_id ?_; go_simp)
  have h5 := HF.out.arr #[.int .i64 6, .int .i64 0, .int .i64 0, .int .i64 0, .int .i64 0, .int .i64 0, .int .i64 0, .int .i64 0, .slice none 0 0, .int .i64 0, .int .i64 0, .int .i64 0, .int .i64 0, .int .i64 0, .int .i64 0, .int .i64 0, .int .i64 0, .int .u8 0, .int .u8 0, .bool false, .int .i64 0, .int .i64 0, .int .i64 0, .int .i64 0, .bool false, .bool false] 26 rfl (by omega) 37
  have hz := HZ.out.go (w' := wd1.alloc (.cells #[.int .i64 6, .int .i64 0, .int .i64 0, .int .i64 0, .int .i64 0, .int .i64 0, .int .i64 0, .int .i64 0, .slice none 0 0, .int .i64 0, .int .i64 0, .int .i64 0, .int .i64 0, .int .i64 0, .int .i64 0, .int .i64 0, .int .i64 0, .int .u8 0, .int .u8 0, .bool false, .int .i64 0, .int .i64 0, .int .i64 0, .int .i64 0, .bool false, .bool false] 37)) (below_allocX (Below.refl _ _) _)
  have H5 := Lib.hid h5
  have H6 := Lib.hid hz
  clear h5 hz
  repeat (first | refine wpList_load_row rfl 37 (.tmp 11) rfl wc1.heap.size rfl 37 #[.int .i64 6, .int .i64 0, .int .i64 0, .int .i64 0, .int .i64 0, .int .i64 0, .int .i64 0, .int .i64 0, .slice none 0 0, .int .i64 0, .int .i64 0, .int .i64 0, .int .i64 0, .int .i64 0, .int .i64 0, .int .i64 0, .int .i64 0, .int .u8 0, .int .u8 0, .bool false, .int .i64 0, .int .i64 0, .int .i64 0, .int .i64 0, .bool false, .bool false] (0, 0) _ HG.out Tryd.underlying37 rfl sizeEv ?_ | refine ox_append elemEv H6.out 0 (.tmp 59) (.tmp 61) (m := 1) (news := [.int .i64 6, .int .i64 0, .int .i64 0, .int .i64 0, .int .i64 0, .int .i64 0, .int .i64 0, .int .i64 0, .slice none 0 0, .int .i64 0, .int .i64 0, .int .i64 0, .int .i64 0, .int .i64 0, .int .i64 0, .int .i64 0, .int .i64 0, .int .u8 0, .int .u8 0, .bool false, .int .i64 0, .int .i64 0, .int .i64 0, .int .i64 0, .bool false, .bool false]) rfl rfl (fun j u hu => (H5.out.row 3 rfl).cells rfl j u hu) (by intro u hu; simp at hu; rcases hu with rfl | rfl | rfl | rfl | rfl | rfl | rfl | rfl | rfl | rfl | rfl | rfl | rfl | rfl | rfl | rfl | rfl | rfl | rfl | rfl | rfl | rfl | rfl | rfl | rfl | rfl <;> rfl) (by unfold maxLen; omega) (by omega) rfl rfl rfl rfl ?_; intro A2 c2 w2 how; have HX2 := Lib.hid how; clear how | go_step)
  rw [rounds_succ]
  go_wp2_with (with_reducible refine upon_id ?_; go_simp)
  refine bodyPost_ret (v := .tuple #[.slice A2 2 c2, .int .i64 0]) (by simp [results, Tryd.results8]) rfl ?_
  exact ⟨A2, c2, rfl, db, c, HX2.out⟩
end Go.Proofs.YtpcmbmabmfghkaaDoor

namespace Go.Proofs.YtpcmbmabmfghkaaDoor
open Go.RowKit
set_option linter.unusedVariables false
set_option maxRecDepth 100000
theorem builder_go {T e : TypeId} {B b : Nat} {bs : List Value} {w w' : World} (h : Lib.IsBuilder T e B b bs w) (hb : Below w.heap.size w w') : Lib.IsBuilder T e B b bs w' := by
  have key : ∀ p, Lib.BuilderAt T e B b p bs w → Lib.BuilderAt T e B b p bs w' := by
    rintro p ⟨h1, v, h2, h3⟩
    exact ⟨h1, v, (hb.block b (Array.getElem?_eq_some_iff.1 h2).1).trans h2, ⟨h3.1.kept (row := none) ⟨hb.os, hb.tape, hb.output, hb.size, fun k hk _ => hb.block k hk⟩ (by
      by_cases he : v.ownBlock = none
      · exact .inl he
      · exact .inr he), h3.2⟩⟩
  exact h.imp (key _) (key _)
set_option maxHeartbeats 4000000 in
/-- a write and a flush -/
theorem fmt_two (w : World) (db c : Nat) (lb lc : Nat) (hlb : lb < w.heap.size) (hl : ∀ j v, ([.int .i64 1, .int .i64 0, .int .i64 0, .int .i64 2, .int .i64 1, .int .i64 0, .int .i64 3, .int .i64 0, .slice (some ⟨db, 0, none⟩) 2 c, .int .i64 0, .int .i64 0, .int .i64 0, .int .i64 0, .int .i64 0, .int .i64 0, .int .i64 0, .int .i64 0, .int .u8 0, .int .u8 0, .bool false, .int .i64 0, .int .i64 0, .int .i64 0, .int .i64 0, .bool false, .bool false, .int .i64 6, .int .i64 0, .int .i64 0, .int .i64 0, .int .i64 0, .int .i64 0, .int .i64 0, .int .i64 0, .slice none 0 0, .int .i64 0, .int .i64 0, .int .i64 0, .int .i64 0, .int .i64 0, .int .i64 0, .int .i64 0, .int .i64 0, .int .u8 0, .int .u8 0, .bool false, .int .i64 0, .int .i64 0, .int .i64 0, .int .i64 0, .bool false, .bool false] : List Value)[j]? = some v → w.cell? ⟨lb, j, none⟩ = some v) (hdb : db < w.heap.size) (c0 : w.cell? ⟨db, 0, none⟩ = some (.int .u8 0)) (c1 : w.cell? ⟨db, 1, none⟩ = some (.int .u8 255)) :
    Calls Tryd.prog 6 #[.int .i64 2, .slice (some ⟨lb, 0, none⟩) 2 lc] w fun e w' => e = .returned (.tuple #[.string ⟨#[119, 114, 105, 116, 101, 32, 49, 32, 48, 32, 51, 32, 48, 48, 102, 102, 10, 102, 108, 117, 115, 104, 10]⟩, .int .i64 0]) ∧ Below w.heap.size w w' := by
  have HL := Lib.hid (And.intro hlb hl)
  have HB0 := Lib.hid (Lib.fresh_isBuilder 48 5 w)
  have HW0 := Lib.hid (below_allocX (Below.refl w.heap.size w) (.cells #[.pointer none, .slice none 0 0] 48))
  have HD := Lib.hid (And.intro hdb (And.intro c0 c1))
  clear hlb hl hdb c0 c1
  go_enter Tryd.func6, Tryd.ntmps6
  go_wp2_with (first | (go_at_call 11; refine (sized_any _ _).mono ?_; rintro e w' ⟨rfl, hw⟩; have hw := hw.symm; subst hw) | (with_reducible refine upon_id ?_; go_simp))
  generalize hV0 : w.alloc (.cells #[.pointer none, .slice none 0 0] 48) = V0 at *
  clear hV0
  refine wp_loop_rounds 3 ?_
  rw [rounds_succ]
  go_upto_region 8 with (with_reducible refine upon_id ?_; go_simp)
  have hc : World.rangeAt V0 lb 0 [.int .i64 1, .int .i64 0, .int .i64 0, .int .i64 2, .int .i64 1, .int .i64 0, .int .i64 3, .int .i64 0, .slice (some ⟨db, 0, none⟩) 2 c, .int .i64 0, .int .i64 0, .int .i64 0, .int .i64 0, .int .i64 0, .int .i64 0, .int .i64 0, .int .i64 0, .int .u8 0, .int .u8 0, .bool false, .int .i64 0, .int .i64 0, .int .i64 0, .int .i64 0, .bool false, .bool false] := fun j v hj => (HW0.out.cell HL.out.1).trans (HL.out.2 (0 + j) v (by rw [Nat.zero_add]; exact (List.getElem?_append_left (l₂ := ([.int .i64 6, .int .i64 0, .int .i64 0, .int .i64 0, .int .i64 0, .int .i64 0, .int .i64 0, .int .i64 0, .slice none 0 0, .int .i64 0, .int .i64 0, .int .i64 0, .int .i64 0, .int .i64 0, .int .i64 0, .int .i64 0, .int .i64 0, .int .u8 0, .int .u8 0, .bool false, .int .i64 0, .int .i64 0, .int .i64 0, .int .i64 0, .bool false, .bool false] : List Value)) (get_lt hj)).trans hj))
  have h1 := (Ow.of (St.refl V0)).arr #[.int .i64 0, .int .i64 0, .int .i64 0, .int .i64 0, .int .i64 0, .int .i64 0, .int .i64 0, .int .i64 0, .slice none 0 0, .int .i64 0, .int .i64 0, .int .i64 0, .int .i64 0, .int .i64 0, .int .i64 0, .int .i64 0, .int .i64 0, .int .u8 0, .int .u8 0, .bool false, .int .i64 0, .int .i64 0, .int .i64 0, .int .i64 0, .bool false, .bool false] 26 rfl (by omega) 37
  simp only [List.nil_append] at h1
  have hg := (h1.rowHeap 0 rfl).1
  have h3 := h1.putRow (k := 26) 0 rfl #[.int .i64 1, .int .i64 0, .int .i64 0, .int .i64 2, .int .i64 1, .int .i64 0, .int .i64 3, .int .i64 0, .slice (some ⟨db, 0, none⟩) 2 c, .int .i64 0, .int .i64 0, .int .i64 0, .int .i64 0, .int .i64 0, .int .i64 0, .int .i64 0, .int .i64 0, .int .u8 0, .int .u8 0, .bool false, .int .i64 0, .int .i64 0, .int .i64 0, .int .i64 0, .bool false, .bool false] rfl (by omega)
  simp only [List.set_cons_zero] at h3
  have hg2 := (h3.rowHeap 0 rfl).1
  have HC := Lib.hid hc
  have HG := Lib.hid hg
  have HG2 := Lib.hid hg2
  have HE := Lib.hid h3.below
  clear h1 h3 hg hg2 hc
  repeat (first | refine wpList_load_mid rfl 37 (.tmp 23) rfl lb 0 rfl [.int .i64 1, .int .i64 0, .int .i64 0, .int .i64 2, .int .i64 1, .int .i64 0, .int .i64 3, .int .i64 0, .slice (some ⟨db, 0, none⟩) 2 c, .int .i64 0, .int .i64 0, .int .i64 0, .int .i64 0, .int .i64 0, .int .i64 0, .int .i64 0, .int .i64 0, .int .u8 0, .int .u8 0, .bool false, .int .i64 0, .int .i64 0, .int .i64 0, .int .i64 0, .bool false, .bool false] _ HC.out Tryd.underlying37 rfl sizeEv ?_ | refine wpList_store_row rfl 37 (.tmp 8) (.tmp 24) rfl V0.heap.size #[.int .i64 1, .int .i64 0, .int .i64 0, .int .i64 2, .int .i64 1, .int .i64 0, .int .i64 3, .int .i64 0, .slice (some ⟨db, 0, none⟩) 2 c, .int .i64 0, .int .i64 0, .int .i64 0, .int .i64 0, .int .i64 0, .int .i64 0, .int .i64 0, .int .i64 0, .int .u8 0, .int .u8 0, .bool false, .int .i64 0, .int .i64 0, .int .i64 0, .int .i64 0, .bool false, .bool false] rfl rfl 37 _ HG.out sizeEv rfl (by simp [Value.oneCell']) ?_ | refine wpList_load_row rfl 37 (.tmp 8) rfl V0.heap.size rfl 37 #[.int .i64 1, .int .i64 0, .int .i64 0, .int .i64 2, .int .i64 1, .int .i64 0, .int .i64 3, .int .i64 0, .slice (some ⟨db, 0, none⟩) 2 c, .int .i64 0, .int .i64 0, .int .i64 0, .int .i64 0, .int .i64 0, .int .i64 0, .int .i64 0, .int .i64 0, .int .u8 0, .int .u8 0, .bool false, .int .i64 0, .int .i64 0, .int .i64 0, .int .i64 0, .bool false, .bool false] (0, 0) _ HG2.out Tryd.underlying37 rfl sizeEv ?_ | go_step)
  clear HG HG2 HC
  refine (format_two _ db c (Nat.lt_of_lt_of_le HD.out.1 (HW0.out.trans (below_less HE.out HW0.out.size)).size) (((HW0.out.trans (below_less HE.out HW0.out.size)).cell HD.out.1).trans HD.out.2.1) (((HW0.out.trans (below_less HE.out HW0.out.size)).cell HD.out.1).trans HD.out.2.2)).mono ?_
  rintro e wd ⟨rfl, hb4⟩
  have HV := Lib.hid (HE.out.trans (below_less hb4 HE.out.size))
  clear hb4 HE
  have hbb := builder_go HB0.out HV.out
  have HBn := Lib.hid hbb
  clear hbb
  go_wp2_with (with_reducible refine upon_id ?_; go_simp)
  refine (bwrite_any w.heap.size w.heap.size _ _ _ HBn.out (by decide +kernel) (Nat.le_trans HW0.out.size HV.out.size)).mono ?_
  rintro e V1 ⟨rfl, hbn, hwn⟩
  have HB1 := Lib.hid hbn
  have HW1 := Lib.hid ((HW0.out.trans (below_less HV.out HW0.out.size)).trans hwn)
  clear hbn hwn HV HBn
  go_wp2_with (with_reducible refine upon_id ?_; go_simp)
  rw [rounds_succ]
  go_upto_region 8 with (with_reducible refine upon_id ?_; go_simp)
  have hc : World.rangeAt V1 lb 26 [.int .i64 6, .int .i64 0, .int .i64 0, .int .i64 0, .int .i64 0, .int .i64 0, .int .i64 0, .int .i64 0, .slice none 0 0, .int .i64 0, .int .i64 0, .int .i64 0, .int .i64 0, .int .i64 0, .int .i64 0, .int .i64 0, .int .i64 0, .int .u8 0, .int .u8 0, .bool false, .int .i64 0, .int .i64 0, .int .i64 0, .int .i64 0, .bool false, .bool false] := fun j v hj => (HW1.out.cell HL.out.1).trans (HL.out.2 (26 + j) v ((get_r (α := Value) [.int .i64 1, .int .i64 0, .int .i64 0, .int .i64 2, .int .i64 1, .int .i64 0, .int .i64 3, .int .i64 0, .slice (some ⟨db, 0, none⟩) 2 c, .int .i64 0, .int .i64 0, .int .i64 0, .int .i64 0, .int .i64 0, .int .i64 0, .int .i64 0, .int .i64 0, .int .u8 0, .int .u8 0, .bool false, .int .i64 0, .int .i64 0, .int .i64 0, .int .i64 0, .bool false, .bool false] [.int .i64 6, .int .i64 0, .int .i64 0, .int .i64 0, .int .i64 0, .int .i64 0, .int .i64 0, .int .i64 0, .slice none 0 0, .int .i64 0, .int .i64 0, .int .i64 0, .int .i64 0, .int .i64 0, .int .i64 0, .int .i64 0, .int .i64 0, .int .u8 0, .int .u8 0, .bool false, .int .i64 0, .int .i64 0, .int .i64 0, .int .i64 0, .bool false, .bool false] j).trans hj))
  have h1 := (Ow.of (St.refl V1)).arr #[.int .i64 0, .int .i64 0, .int .i64 0, .int .i64 0, .int .i64 0, .int .i64 0, .int .i64 0, .int .i64 0, .slice none 0 0, .int .i64 0, .int .i64 0, .int .i64 0, .int .i64 0, .int .i64 0, .int .i64 0, .int .i64 0, .int .i64 0, .int .u8 0, .int .u8 0, .bool false, .int .i64 0, .int .i64 0, .int .i64 0, .int .i64 0, .bool false, .bool false] 26 rfl (by omega) 37
  simp only [List.nil_append] at h1
  have hg := (h1.rowHeap 0 rfl).1
  have h3 := h1.putRow (k := 26) 0 rfl #[.int .i64 6, .int .i64 0, .int .i64 0, .int .i64 0, .int .i64 0, .int .i64 0, .int .i64 0, .int .i64 0, .slice none 0 0, .int .i64 0, .int .i64 0, .int .i64 0, .int .i64 0, .int .i64 0, .int .i64 0, .int .i64 0, .int .i64 0, .int .u8 0, .int .u8 0, .bool false, .int .i64 0, .int .i64 0, .int .i64 0, .int .i64 0, .bool false, .bool false] rfl (by omega)
  simp only [List.set_cons_zero] at h3
  have hg2 := (h3.rowHeap 0 rfl).1
  have HC := Lib.hid hc
  have HG := Lib.hid hg
  have HG2 := Lib.hid hg2
  have HE := Lib.hid h3.below
  clear h1 h3 hg hg2 hc
  repeat (first | refine wpList_load_mid rfl 37 (.tmp 23) rfl lb 26 rfl [.int .i64 6, .int .i64 0, .int .i64 0, .int .i64 0, .int .i64 0, .int .i64 0, .int .i64 0, .int .i64 0, .slice none 0 0, .int .i64 0, .int .i64 0, .int .i64 0, .int .i64 0, .int .i64 0, .int .i64 0, .int .i64 0, .int .i64 0, .int .u8 0, .int .u8 0, .bool false, .int .i64 0, .int .i64 0, .int .i64 0, .int .i64 0, .bool false, .bool false] _ HC.out Tryd.underlying37 rfl sizeEv ?_ | refine wpList_store_row rfl 37 (.tmp 8) (.tmp 24) rfl V1.heap.size #[.int .i64 6, .int .i64 0, .int .i64 0, .int .i64 0, .int .i64 0, .int .i64 0, .int .i64 0, .int .i64 0, .slice none 0 0, .int .i64 0, .int .i64 0, .int .i64 0, .int .i64 0, .int .i64 0, .int .i64 0, .int .i64 0, .int .i64 0, .int .u8 0, .int .u8 0, .bool false, .int .i64 0, .int .i64 0, .int .i64 0, .int .i64 0, .bool false, .bool false] rfl rfl 37 _ HG.out sizeEv rfl (by simp [Value.oneCell']) ?_ | refine wpList_load_row rfl 37 (.tmp 8) rfl V1.heap.size rfl 37 #[.int .i64 6, .int .i64 0, .int .i64 0, .int .i64 0, .int .i64 0, .int .i64 0, .int .i64 0, .int .i64 0, .slice none 0 0, .int .i64 0, .int .i64 0, .int .i64 0, .int .i64 0, .int .i64 0, .int .i64 0, .int .i64 0, .int .i64 0, .int .u8 0, .int .u8 0, .bool false, .int .i64 0, .int .i64 0, .int .i64 0, .int .i64 0, .bool false, .bool false] (0, 0) _ HG2.out Tryd.underlying37 rfl sizeEv ?_ | go_step)
  clear HG HG2 HC
  refine (format_flush 2 _).mono ?_
  rintro e wd ⟨rfl, hb4⟩
  have HV := Lib.hid (HE.out.trans (below_less hb4 HE.out.size))
  clear hb4 HE
  have hbb := builder_go HB1.out HV.out
  have HBn := Lib.hid hbb
  clear hbb
  go_wp2_with (with_reducible refine upon_id ?_; go_simp)
  refine (bwrite_any w.heap.size w.heap.size _ _ _ HBn.out (by decide +kernel) (Nat.le_trans HW1.out.size HV.out.size)).mono ?_
  rintro e V2 ⟨rfl, hbn, hwn⟩
  have HB2 := Lib.hid hbn
  have HW2 := Lib.hid ((HW1.out.trans (below_less HV.out HW1.out.size)).trans hwn)
  clear hbn hwn HV HBn
  go_wp2_with (with_reducible refine upon_id ?_; go_simp)
  rw [rounds_succ]
  go_wp2_with (with_reducible refine upon_id ?_; go_simp)
  have hst := Tryd.Builder_String_any w.heap.size w.heap.size (⟨#[119, 114, 105, 116, 101, 32, 49, 32, 48, 32, 51, 32, 48, 48, 102, 102, 10, 102, 108, 117, 115, 104, 10]⟩ : ByteArray).data.toList V2 HB2.out HW2.out.size
  refine hst.mono ?_
  rintro e V3 ⟨rfl, hb2⟩
  have HF := Lib.hid (HW2.out.trans hb2)
  clear hb2
  go_wp2_with (with_reducible refine upon_id ?_; go_simp)
  refine bodyPost_ret (v := .tuple #[.string ⟨#[119, 114, 105, 116, 101, 32, 49, 32, 48, 32, 51, 32, 48, 48, 102, 102, 10, 102, 108, 117, 115, 104, 10]⟩, .int .i64 0]) (by simp [results, Tryd.results6]) rfl ?_
  exact ⟨rfl, HF.out⟩
end Go.Proofs.YtpcmbmabmfghkaaDoor

namespace Go.Proofs.YtpcmbmabmfghkaaDoor
open Go.RowKit
set_option linter.unusedVariables false
theorem ib_none {c : UInt8} : ∀ {l : List UInt8}, (∀ b ∈ l, b ≠ c) → Lib.indexByte l c = -1
  | [], _ => rfl
  | b :: l, h => by
    have h1 : (b == c) = false := by simpa using h b (List.mem_cons_self ..)
    simp [Lib.indexByte, h1, ib_none (fun x hx => h x (List.mem_cons_of_mem _ hx))]
theorem ib_at {c : UInt8} {r : List UInt8} : ∀ {l : List UInt8}, (∀ b ∈ l, b ≠ c) → Lib.indexByte (l ++ c :: r) c = l.length
  | [], _ => by simp [Lib.indexByte]
  | b :: l, h => by
    have h1 : (b == c) = false := by simpa using h b (List.mem_cons_self ..)
    have h2 := ib_at (r := r) (fun x hx => h x (List.mem_cons_of_mem _ hx))
    simp only [List.cons_append, Lib.indexByte, h1, h2]
    have h3 : (((l.length : Nat) : Int) == -1) = false := by simp
    simp [h3]
end Go.Proofs.YtpcmbmabmfghkaaDoor

namespace Go.Proofs.YtpcmbmabmfghkaaDoor
open Go.RowKit
set_option linter.unusedVariables false
set_option maxRecDepth 100000
set_option maxHeartbeats 4000000 in
theorem awake45_any (w : World) (m : Int) (hm : w.cell? ⟨0, 0, none⟩ = some (.int .i64 m)) :
    Calls Tryd.prog 7 #[] w fun e w' => e = .returned (.bool true) ∧ Below w.heap.size w w' := by
  have h0 := block_lt_of_cell hm
  have HP := Lib.hid (parse_two w m hm)
  have HM := Lib.hid (And.intro h0 hm)
  clear hm h0
  go_enter Tryd.func7, Tryd.ntmps7
  go_wp2_with (with_reducible refine upon_id ?_; go_simp)
  refine HP.out.mono ?_
  rintro e w1 ⟨A, c, db, dc, rfl, hx⟩
  obtain ⟨lb, cap, hv, -, hlt⟩ := (hx.row 0 rfl).form (by omega)
  have hA : A = some ⟨lb, 0, none⟩ := by
    injection hv with h1 _ _
  clear hv
  subst hA
  have hl : ∀ (j : Nat) (v : Value), ([.int .i64 1, .int .i64 0, .int .i64 0, .int .i64 2, .int .i64 1, .int .i64 0, .int .i64 3, .int .i64 0, .slice (some ⟨db, 0, none⟩) 2 dc, .int .i64 0, .int .i64 0, .int .i64 0, .int .i64 0, .int .i64 0, .int .i64 0, .int .i64 0, .int .i64 0, .int .u8 0, .int .u8 0, .bool false, .int .i64 0, .int .i64 0, .int .i64 0, .int .i64 0, .bool false, .bool false, .int .i64 6, .int .i64 0, .int .i64 0, .int .i64 0, .int .i64 0, .int .i64 0, .int .i64 0, .int .i64 0, .slice none 0 0, .int .i64 0, .int .i64 0, .int .i64 0, .int .i64 0, .int .i64 0, .int .i64 0, .int .i64 0, .int .i64 0, .int .u8 0, .int .u8 0, .bool false, .int .i64 0, .int .i64 0, .int .i64 0, .int .i64 0, .bool false, .bool false] : List Value)[j]? = some v → w1.cell? ⟨lb, j, none⟩ = some v := fun j v hj => by
    have h := (hx.row 0 rfl).cells (g := lb) rfl j v hj
    rw [add_zero] at h
    exact h
  have HF := Lib.hid (fmt_two w1 db dc lb c hlt hl (hx.ow.lt (i := 0) rfl rfl).1 ((hx.ow.row 0 rfl).cellAt 0 (by decide)) ((hx.ow.row 0 rfl).cellAt 1 (by decide)))
  have y6 : w1.cell? ⟨lb, 6, none⟩ = some (.int .i64 3) := hl 6 _ rfl
  have HX := Lib.hid (And.intro hx.ow.below (And.intro hlt y6))
  clear hl hx hlt HP y6
  go_wp2_with (with_reducible refine upon_id ?_; go_simp)
  refine HF.out.mono ?_
  rintro e w2 ⟨rfl, hb2⟩
  have HB2 := Lib.hid (HX.out.1.trans (below_less hb2 HX.out.1.size))
  have Y2 : Hid (w2.cell? ⟨lb, 6, none⟩ = some (.int .i64 3)) := Lib.hid ((hb2.cell (p := ⟨lb, 6, none⟩) HX.out.2.1).trans HX.out.2.2)
  have L2 := Lib.hid (Nat.lt_of_lt_of_le HX.out.2.1 hb2.size)
  clear hb2 HF
  go_wp2_with (with_reducible refine upon_id ?_; go_simp)
  refine (parse_wbad w2 m ((HB2.out.cell (p := ⟨0, 0, none⟩) HM.out.1).trans HM.out.2)).mono ?_
  rintro e w3 ⟨rfl, hb3⟩
  have HB3 := Lib.hid (HB2.out.trans (below_less hb3 HB2.out.size))
  have y6 : w3.cell? ⟨lb, 6, none⟩ = some (.int .i64 3) := (hb3.cell (p := ⟨lb, 6, none⟩) L2.out).trans Y2.out
  clear hb3 HB2 Y2 L2 HX HM
  go_wp2_with (with_reducible refine upon_id ?_; go_simp)
  go_ret
  exact ⟨rfl, HB3.out⟩
end Go.Proofs.YtpcmbmabmfghkaaDoor

namespace Go.Proofs.YtpcmbmabmfghkaaDoor
open Go.RowKit
set_option linter.unusedVariables false
set_option maxRecDepth 100000
/-- n lines -/
def syn : Nat → List UInt8
  | 0 => []
  | n + 1 => 115 :: 121 :: 110 :: 99 :: 10 :: syn n
/-- n events -/
def evs : Nat → List Value
  | 0 => []
  | n + 1 => evs n ++ [.int .i64 8, .int .i64 0, .int .i64 0, .int .i64 0, .int .i64 0, .int .i64 0, .int .i64 0, .int .i64 0, .slice none 0 0, .int .i64 0, .int .i64 0, .int .i64 0, .int .i64 0, .int .i64 0, .int .i64 0, .int .i64 0, .int .i64 0, .int .u8 0, .int .u8 0, .bool false, .int .i64 0, .int .i64 0, .int .i64 0, .int .i64 0, .bool false, .bool false]
def strN : Value → Nat
  | .string s => s.size
  | _ => 0
theorem syn_length : ∀ n, (syn n).length = 5 * n
  | 0 => rfl
  | n + 1 => by
    show (syn n).length + 5 = _
    rw [syn_length n]
    omega
theorem cut_syn {n : Nat} (hn : n ≤ 1000) (w : World) (m : Int) (hm : w.cell? ⟨0, 0, none⟩ = some (.int .i64 m)) :
    Calls Tryd.prog 15 #[.string (str (syn (n + 1))), .string ⟨#[10]⟩] w fun e w' => e = .returned (.tuple #[.string ⟨#[115, 121, 110, 99]⟩, .string (str (syn n)), .bool true]) ∧ Below w.heap.size w w' := by
  have h := Tryd.strings_Cut (str (syn (n + 1))) ⟨#[10]⟩ m w (by show (syn (n + 1)).length < _; rw [syn_length]; omega) hm
  have hi : Lib.index (syn (n + 1)) [10] = ((4 : Nat) : Int) := by
    rw [Lib.index_one]
    exact ib_at (l := [115, 121, 110, 99]) (by decide)
  have hc : Lib.cut (str (syn (n + 1))).data.toList (⟨#[10]⟩ : ByteArray).data.toList = ([115, 121, 110, 99], syn n, true) := by
    show Lib.cut (syn (n + 1)) [10] = _
    unfold Lib.cut
    rw [hi, if_pos (by omega)]
    rfl
  rw [hc] at h
  refine h.mono ?_
  rintro e w1 ⟨rfl, j, rfl⟩
  exact ⟨rfl, below_drewN (Below.refl _ _) j⟩
theorem split_sync (w : World) (m : Int) (hm : w.cell? ⟨0, 0, none⟩ = some (.int .i64 m)) :
    Calls Tryd.prog 16 #[.string ⟨#[115, 121, 110, 99]⟩, .string ⟨#[32]⟩] w fun e w' => e = .returned (.slice (some ⟨w.heap.size, 0, none⟩) 1 1) ∧ w' = w.alloc (.cells #[.string ⟨#[115, 121, 110, 99]⟩] 9) := by
  have h := Tryd.strings_Split ⟨#[115, 121, 110, 99]⟩ ⟨#[32]⟩ m w (by decide) hm (by decide)
  have h1 : Lib.countB ⟨#[115, 121, 110, 99]⟩ ⟨#[32]⟩ = 0 := by decide +kernel
  rw [h1] at h
  have h2 : Lib.splitB ⟨#[32]⟩ 0 0 ⟨#[115, 121, 110, 99]⟩ = [⟨#[115, 121, 110, 99]⟩] := by decide +kernel
  rw [h2] at h
  exact h
def Rsy (w : World) (k : Nat) (x1 x6 : Value) (wr : World) : Prop :=
  ∃ (j : Nat) (A : Option Addr) (c : Nat), j ≤ k ∧ x1 = .string (str (syn (k - j))) ∧ x6 = .slice A j c ∧ Hid (Ox w wr none [] [] [] [⟨A, j, c, 37, 26, evs j⟩])
set_option maxHeartbeats 4000000 in
theorem parse_syn (k : Nat) (hk : k ≤ 200) (w : World) (m : Int) (hm : w.cell? ⟨0, 0, none⟩ = some (.int .i64 m)) :
    Calls Tryd.prog 8 #[.int .i64 1, .string (str (syn k))] w fun e w' => ∃ (A : Option Addr) (c : Nat), e = .returned (.tuple #[.slice A k c, .int .i64 0]) ∧ Ox w w' none [] [] [] [⟨A, k, c, 37, 26, evs k⟩] := by
  have hsz : decide (65536 < ((str (syn k)).size : Int)) = false := by
    have : (str (syn k)).size = 5 * k := syn_length k
    rw [this]
    simp
    omega
  have HM := Lib.hid (And.intro (block_lt_of_cell hm) hm)
  have HX0 := Lib.hid ((Ox.of (Ow.of (St.refl w))).nilX 37 26)
  clear hm
  go_enter Tryd.func8, Tryd.ntmps8
  go_wp2_with (first | (go_at_call 11; refine (sized_any _ _).mono ?_; rintro e w' ⟨rfl, hw⟩; have hw := hw.symm; subst hw) | (with_reducible refine upon_id ?_; go_simp))
  clear hsz
  go_loopw [1, 6] (fun x1 x6 wr => Rsy w k x1 x6 wr) (fun x1 _ _ => strN x1)
  case atStart => exact ⟨0, none, 0, Nat.zero_le _, rfl, rfl, HX0⟩
  case round =>
    clear HX0
    obtain ⟨j, A0, c0, hj, rfl, rfl, HX0⟩ := hrel
    rcases Nat.eq_or_lt_of_le hj with heq | hlt
    · subst heq
      rw [Nat.sub_self]
      have hne : (str (syn 0)).toList.isEmpty = true := by
        rw [str_toList]
        rfl
      have hlen : decide (200 < (j : Int)) = false := by simp; omega
      clear hk hj
      go_wp2_with (with_reducible refine upon_id ?_; go_simp)
      refine bodyPost_ret (v := .tuple #[.slice A0 j c0, .int .i64 0]) (by simp [results, Tryd.results8]) rfl ?_
      exact ⟨A0, c0, rfl, HX0.out⟩
    · obtain ⟨r, hr⟩ : ∃ r, k - j = r + 1 := ⟨k - j - 1, by omega⟩
      have hr2 : k - (j + 1) = r := by omega
      have hr3 : r ≤ 1000 := by omega
      have hj2 : j ≤ 200 := by omega
      rw [hr]
      have hne : (str (syn (r + 1))).toList.isEmpty = false := by
        rw [str_toList]
        rfl
      have HC := fun (V : World) (hV : Below w.heap.size w V) => cut_syn hr3 V m ((hV.cell (p := ⟨0, 0, none⟩) HM.out.1).trans HM.out.2)
      have HS := fun (V : World) (hV : Below w.heap.size w V) => split_sync V m ((hV.cell (p := ⟨0, 0, none⟩) HM.out.1).trans HM.out.2)
      have HC := Lib.hid HC
      have HS := Lib.hid HS
      have HK := Lib.hid (And.intro hk (And.intro hlt hr2))
      clear hk hj hlt hr2 hr hr3
      go_wp2_with (with_reducible refine upon_id ?_; go_simp)
      refine (HC.out _ (HX0.out.ow.below)).mono ?_
      rintro e wa0 ⟨rfl, hba⟩
      have HY0 := Lib.hid (HX0.out.go hba)
      clear hba
      go_wp2_with (with_reducible refine upon_id ?_; go_simp)
      refine (HS.out _ (HY0.out.ow.below)).mono ?_
      rintro e wb ⟨rfl, rfl⟩
      have h1 := ((Ow.of (St.refl wa0)).arr #[.string ⟨#[115, 121, 110, 99]⟩] 1 rfl (by omega) 9).arr #[.slice (some ⟨wa0.heap.size, 0, none⟩) 1 1, .bool false] 2 rfl (by omega) 62
      simp only [World.size_alloc, List.cons_append, List.nil_append] at h1
      have HR := Lib.hid h1
      clear h1
      go_wp2_with (with_reducible refine upon_id ?_; go_simp)
      refine (event_sync (wa0.heap.size + 1) HR.out (O' := [(⟨some ⟨wa0.heap.size, 0, none⟩, 1, 1, 9, [(.string ⟨#[115, 121, 110, 99]⟩)]⟩ : Rw), (⟨some ⟨(wa0.heap.size + 1), 0, none⟩, 2, 2, 62, [.slice (some ⟨wa0.heap.size, 0, none⟩) 0 0, .bool false]⟩ : Rw)]) (fun w1 r hr => (next_last hr 1 0 (wa0.heap.size + 1) wa0.heap.size 0 1 1 _ _ _ rfl rfl rfl))).mono ?_
      rintro e wc0 ⟨rfl, ho⟩
      have h2 := ho.arr #[.int .i64 0, .int .i64 0, .int .i64 0, .int .i64 0, .int .i64 0, .int .i64 0, .int .i64 0, .int .i64 0, .slice none 0 0, .int .i64 0, .int .i64 0, .int .i64 0, .int .i64 0, .int .i64 0, .int .i64 0, .int .i64 0, .int .i64 0, .int .u8 0, .int .u8 0, .bool false, .int .i64 0, .int .i64 0, .int .i64 0, .int .i64 0, .bool false, .bool false] 26 rfl (by omega) 37
      simp only [List.cons_append, List.nil_append] at h2
      have hg := (h2.rowHeap 2 rfl).1
      have h3 := h2.putRow (k := 26) 2 rfl #[.int .i64 8, .int .i64 0, .int .i64 0, .int .i64 0, .int .i64 0, .int .i64 0, .int .i64 0, .int .i64 0, .slice none 0 0, .int .i64 0, .int .i64 0, .int .i64 0, .int .i64 0, .int .i64 0, .int .i64 0, .int .i64 0, .int .i64 0, .int .u8 0, .int .u8 0, .bool false, .int .i64 0, .int .i64 0, .int .i64 0, .int .i64 0, .bool false, .bool false] rfl (by omega)
      simp only [List.set_cons_zero, List.set_cons_succ] at h3
      have hg2 := (h3.rowHeap 2 rfl).1
      have HG := Lib.hid hg
      have HG2 := Lib.hid hg2
      have HE := Lib.hid h3
      clear h2 h3 hg hg2 ho HR
      dsimp only
      repeat (first | refine wpList_store_row rfl 37 (.tmp 11) (.tmp 35) rfl wc0.heap.size #[.int .i64 8, .int .i64 0, .int .i64 0, .int .i64 0, .int .i64 0, .int .i64 0, .int .i64 0, .int .i64 0, .slice none 0 0, .int .i64 0, .int .i64 0, .int .i64 0, .int .i64 0, .int .i64 0, .int .i64 0, .int .i64 0, .int .i64 0, .int .u8 0, .int .u8 0, .bool false, .int .i64 0, .int .i64 0, .int .i64 0, .int .i64 0, .bool false, .bool false] rfl rfl 37 _ HG.out sizeEv rfl (by simp [Value.oneCell']) ?_ | refine wpList_load_row rfl 37 (.tmp 11) rfl wc0.heap.size rfl 37 #[.int .i64 8, .int .i64 0, .int .i64 0, .int .i64 0, .int .i64 0, .int .i64 0, .int .i64 0, .int .i64 0, .slice none 0 0, .int .i64 0, .int .i64 0, .int .i64 0, .int .i64 0, .int .i64 0, .int .i64 0, .int .i64 0, .int .i64 0, .int .u8 0, .int .u8 0, .bool false, .int .i64 0, .int .i64 0, .int .i64 0, .int .i64 0, .bool false, .bool false] (0, 0) _ HG2.out Tryd.underlying37 rfl sizeEv ?_ | go_step)
      clear HG HG2
      refine (format_sync 1 _).mono ?_
      rintro e wd0 ⟨rfl, hb4⟩
      have HF := Lib.hid (HE.out.go hb4)
      clear hb4 HE
      have yb : wd0.cell? ⟨(wa0.heap.size + 1), 1, none⟩ = some (.bool false) := (HF.out.row 1 rfl).cellAt 1 (by decide)
      have HZ := Lib.hid ((HY0.out.go HF.out.below))
      have hg := (HF.out.rowHeap 2 rfl).1
      have HG := Lib.hid hg
      clear hg
      go_upto_region 13 with (with_reducible refine upon_id ?_; go_simp)
      have h5 := HF.out.arr #[.int .i64 8, .int .i64 0, .int .i64 0, .int .i64 0, .int .i64 0, .int .i64 0, .int .i64 0, .int .i64 0, .slice none 0 0, .int .i64 0, .int .i64 0, .int .i64 0, .int .i64 0, .int .i64 0, .int .i64 0, .int .i64 0, .int .i64 0, .int .u8 0, .int .u8 0, .bool false, .int .i64 0, .int .i64 0, .int .i64 0, .int .i64 0, .bool false, .bool false] 26 rfl (by omega) 37
      have hz := HZ.out.go (w' := wd0.alloc (.cells #[.int .i64 8, .int .i64 0, .int .i64 0, .int .i64 0, .int .i64 0, .int .i64 0, .int .i64 0, .int .i64 0, .slice none 0 0, .int .i64 0, .int .i64 0, .int .i64 0, .int .i64 0, .int .i64 0, .int .i64 0, .int .i64 0, .int .i64 0, .int .u8 0, .int .u8 0, .bool false, .int .i64 0, .int .i64 0, .int .i64 0, .int .i64 0, .bool false, .bool false] 37)) (below_allocX (Below.refl _ _) _)
      have H5 := Lib.hid h5
      have H6 := Lib.hid hz
      clear h5 hz
      repeat (first | refine wpList_load_row rfl 37 (.tmp 11) rfl wc0.heap.size rfl 37 #[.int .i64 8, .int .i64 0, .int .i64 0, .int .i64 0, .int .i64 0, .int .i64 0, .int .i64 0, .int .i64 0, .slice none 0 0, .int .i64 0, .int .i64 0, .int .i64 0, .int .i64 0, .int .i64 0, .int .i64 0, .int .i64 0, .int .i64 0, .int .u8 0, .int .u8 0, .bool false, .int .i64 0, .int .i64 0, .int .i64 0, .int .i64 0, .bool false, .bool false] (0, 0) _ HG.out Tryd.underlying37 rfl sizeEv ?_ | refine ox_append elemEv H6.out 0 (.tmp 59) (.tmp 61) (m := 1) (news := [.int .i64 8, .int .i64 0, .int .i64 0, .int .i64 0, .int .i64 0, .int .i64 0, .int .i64 0, .int .i64 0, .slice none 0 0, .int .i64 0, .int .i64 0, .int .i64 0, .int .i64 0, .int .i64 0, .int .i64 0, .int .i64 0, .int .i64 0, .int .u8 0, .int .u8 0, .bool false, .int .i64 0, .int .i64 0, .int .i64 0, .int .i64 0, .bool false, .bool false]) rfl rfl (fun j u hu => (H5.out.row 3 rfl).cells rfl j u hu) (by intro u hu; simp at hu; rcases hu with rfl | rfl | rfl | rfl | rfl | rfl | rfl | rfl | rfl | rfl | rfl | rfl | rfl | rfl | rfl | rfl | rfl | rfl | rfl | rfl | rfl | rfl | rfl | rfl | rfl | rfl <;> rfl) (by unfold maxLen; omega) (by omega) rfl rfl rfl rfl ?_; intro A1 c1 w1 how; have HX1 := Lib.hid how; clear how | go_step)
      go_roundw
      case rel =>
        refine ⟨j + 1, A1, c1, by have := HK.out.2.1; omega, by rw [HK.out.2.2], rfl, ?_⟩
        exact HX1
      case measure =>
        show (syn r).length < (syn (r + 1)).length
        rw [syn_length, syn_length]
        omega
end Go.Proofs.YtpcmbmabmfghkaaDoor

namespace Go.Proofs.YtpcmbmabmfghkaaDoor
open Go.RowKit
set_option linter.unusedVariables false
set_option maxRecDepth 100000
set_option maxHeartbeats 4000000 in
theorem parse_syn_over (k : Nat) (hk : k ≤ 201) (hk2 : 201 ≤ k) (w : World) (m : Int) (hm : w.cell? ⟨0, 0, none⟩ = some (.int .i64 m)) :
    Calls Tryd.prog 8 #[.int .i64 1, .string (str (syn k))] w fun e w' => e = .returned (.tuple #[.slice none 0 0, .int .i64 3]) ∧ Below w.heap.size w w' := by
  have hsz : decide (65536 < ((str (syn k)).size : Int)) = false := by
    have : (str (syn k)).size = 5 * k := syn_length k
    rw [this]
    simp
    omega
  have HM := Lib.hid (And.intro (block_lt_of_cell hm) hm)
  have HX0 := Lib.hid ((Ox.of (Ow.of (St.refl w))).nilX 37 26)
  clear hm
  go_enter Tryd.func8, Tryd.ntmps8
  go_wp2_with (first | (go_at_call 11; refine (sized_any _ _).mono ?_; rintro e w' ⟨rfl, hw⟩; have hw := hw.symm; subst hw) | (with_reducible refine upon_id ?_; go_simp))
  clear hsz
  go_loopw [1, 6] (fun x1 x6 wr => Rsy w k x1 x6 wr) (fun x1 _ _ => strN x1)
  case atStart => exact ⟨0, none, 0, Nat.zero_le _, rfl, rfl, HX0⟩
  case round =>
    clear HX0
    obtain ⟨j, A0, c0, hj, rfl, rfl, HX0⟩ := hrel
    rcases Nat.eq_or_lt_of_le hj with heq | hlt
    · subst heq
      rw [Nat.sub_self]
      have hne : (str (syn 0)).toList.isEmpty = true := by
        rw [str_toList]
        rfl
      have hlen : decide (200 < (j : Int)) = true := by simp; omega
      clear hk hj
      go_wp2_with (with_reducible refine upon_id ?_; go_simp)
      refine bodyPost_ret (v := .tuple #[.slice none 0 0, .int .i64 3]) (by simp [results, Tryd.results8]) rfl ?_
      exact ⟨rfl, HX0.out.ow.below⟩
    · obtain ⟨r, hr⟩ : ∃ r, k - j = r + 1 := ⟨k - j - 1, by omega⟩
      have hr2 : k - (j + 1) = r := by omega
      have hr3 : r ≤ 1000 := by omega
      have hj2 : j ≤ 201 := by omega
      rw [hr]
      have hne : (str (syn (r + 1))).toList.isEmpty = false := by
        rw [str_toList]
        rfl
      have HC := fun (V : World) (hV : Below w.heap.size w V) => cut_syn hr3 V m ((hV.cell (p := ⟨0, 0, none⟩) HM.out.1).trans HM.out.2)
      have HS := fun (V : World) (hV : Below w.heap.size w V) => split_sync V m ((hV.cell (p := ⟨0, 0, none⟩) HM.out.1).trans HM.out.2)
      have HC := Lib.hid HC
      have HS := Lib.hid HS
      have HK := Lib.hid (And.intro hk (And.intro hlt hr2))
      clear hk hj hlt hr2 hr hr3
      go_wp2_with (with_reducible refine upon_id ?_; go_simp)
      refine (HC.out _ (HX0.out.ow.below)).mono ?_
      rintro e wa0 ⟨rfl, hba⟩
      have HY0 := Lib.hid (HX0.out.go hba)
      clear hba
      go_wp2_with (with_reducible refine upon_id ?_; go_simp)
      refine (HS.out _ (HY0.out.ow.below)).mono ?_
      rintro e wb ⟨rfl, rfl⟩
      have h1 := ((Ow.of (St.refl wa0)).arr #[.string ⟨#[115, 121, 110, 99]⟩] 1 rfl (by omega) 9).arr #[.slice (some ⟨wa0.heap.size, 0, none⟩) 1 1, .bool false] 2 rfl (by omega) 62
      simp only [World.size_alloc, List.cons_append, List.nil_append] at h1
      have HR := Lib.hid h1
      clear h1
      go_wp2_with (with_reducible refine upon_id ?_; go_simp)
      refine (event_sync (wa0.heap.size + 1) HR.out (O' := [(⟨some ⟨wa0.heap.size, 0, none⟩, 1, 1, 9, [(.string ⟨#[115, 121, 110, 99]⟩)]⟩ : Rw), (⟨some ⟨(wa0.heap.size + 1), 0, none⟩, 2, 2, 62, [.slice (some ⟨wa0.heap.size, 0, none⟩) 0 0, .bool false]⟩ : Rw)]) (fun w1 r hr => (next_last hr 1 0 (wa0.heap.size + 1) wa0.heap.size 0 1 1 _ _ _ rfl rfl rfl))).mono ?_
      rintro e wc0 ⟨rfl, ho⟩
      have h2 := ho.arr #[.int .i64 0, .int .i64 0, .int .i64 0, .int .i64 0, .int .i64 0, .int .i64 0, .int .i64 0, .int .i64 0, .slice none 0 0, .int .i64 0, .int .i64 0, .int .i64 0, .int .i64 0, .int .i64 0, .int .i64 0, .int .i64 0, .int .i64 0, .int .u8 0, .int .u8 0, .bool false, .int .i64 0, .int .i64 0, .int .i64 0, .int .i64 0, .bool false, .bool false] 26 rfl (by omega) 37
      simp only [List.cons_append, List.nil_append] at h2
      have hg := (h2.rowHeap 2 rfl).1
      have h3 := h2.putRow (k := 26) 2 rfl #[.int .i64 8, .int .i64 0, .int .i64 0, .int .i64 0, .int .i64 0, .int .i64 0, .int .i64 0, .int .i64 0, .slice none 0 0, .int .i64 0, .int .i64 0, .int .i64 0, .int .i64 0, .int .i64 0, .int .i64 0, .int .i64 0, .int .i64 0, .int .u8 0, .int .u8 0, .bool false, .int .i64 0, .int .i64 0, .int .i64 0, .int .i64 0, .bool false, .bool false] rfl (by omega)
      simp only [List.set_cons_zero, List.set_cons_succ] at h3
      have hg2 := (h3.rowHeap 2 rfl).1
      have HG := Lib.hid hg
      have HG2 := Lib.hid hg2
      have HE := Lib.hid h3
      clear h2 h3 hg hg2 ho HR
      dsimp only
      repeat (first | refine wpList_store_row rfl 37 (.tmp 11) (.tmp 35) rfl wc0.heap.size #[.int .i64 8, .int .i64 0, .int .i64 0, .int .i64 0, .int .i64 0, .int .i64 0, .int .i64 0, .int .i64 0, .slice none 0 0, .int .i64 0, .int .i64 0, .int .i64 0, .int .i64 0, .int .i64 0, .int .i64 0, .int .i64 0, .int .i64 0, .int .u8 0, .int .u8 0, .bool false, .int .i64 0, .int .i64 0, .int .i64 0, .int .i64 0, .bool false, .bool false] rfl rfl 37 _ HG.out sizeEv rfl (by simp [Value.oneCell']) ?_ | refine wpList_load_row rfl 37 (.tmp 11) rfl wc0.heap.size rfl 37 #[.int .i64 8, .int .i64 0, .int .i64 0, .int .i64 0, .int .i64 0, .int .i64 0, .int .i64 0, .int .i64 0, .slice none 0 0, .int .i64 0, .int .i64 0, .int .i64 0, .int .i64 0, .int .i64 0, .int .i64 0, .int .i64 0, .int .i64 0, .int .u8 0, .int .u8 0, .bool false, .int .i64 0, .int .i64 0, .int .i64 0, .int .i64 0, .bool false, .bool false] (0, 0) _ HG2.out Tryd.underlying37 rfl sizeEv ?_ | go_step)
      clear HG HG2
      refine (format_sync 1 _).mono ?_
      rintro e wd0 ⟨rfl, hb4⟩
      have HF := Lib.hid (HE.out.go hb4)
      clear hb4 HE
      have yb : wd0.cell? ⟨(wa0.heap.size + 1), 1, none⟩ = some (.bool false) := (HF.out.row 1 rfl).cellAt 1 (by decide)
      have HZ := Lib.hid ((HY0.out.go HF.out.below))
      have hg := (HF.out.rowHeap 2 rfl).1
      have HG := Lib.hid hg
      clear hg
      go_upto_region 13 with (with_reducible refine upon_id ?_; go_simp)
      have h5 := HF.out.arr #[.int .i64 8, .int .i64 0, .int .i64 0, .int .i64 0, .int .i64 0, .int .i64 0, .int .i64 0, .int .i64 0, .slice none 0 0, .int .i64 0, .int .i64 0, .int .i64 0, .int .i64 0, .int .i64 0, .int .i64 0, .int .i64 0, .int .i64 0, .int .u8 0, .int .u8 0, .bool false, .int .i64 0, .int .i64 0, .int .i64 0, .int .i64 0, .bool false, .bool false] 26 rfl (by omega) 37
      have hz := HZ.out.go (w' := wd0.alloc (.cells #[.int .i64 8, .int .i64 0, .int .i64 0, .int .i64 0, .int .i64 0, .int .i64 0, .int .i64 0, .int .i64 0, .slice none 0 0, .int .i64 0, .int .i64 0, .int .i64 0, .int .i64 0, .int .i64 0, .int .i64 0, .int .i64 0, .int .i64 0, .int .u8 0, .int .u8 0, .bool false, .int .i64 0, .int .i64 0, .int .i64 0, .int .i64 0, .bool false, .bool false] 37)) (below_allocX (Below.refl _ _) _)
      have H5 := Lib.hid h5
      have H6 := Lib.hid hz
      clear h5 hz
      repeat (first | refine wpList_load_row rfl 37 (.tmp 11) rfl wc0.heap.size rfl 37 #[.int .i64 8, .int .i64 0, .int .i64 0, .int .i64 0, .int .i64 0, .int .i64 0, .int .i64 0, .int .i64 0, .slice none 0 0, .int .i64 0, .int .i64 0, .int .i64 0, .int .i64 0, .int .i64 0, .int .i64 0, .int .i64 0, .int .i64 0, .int .u8 0, .int .u8 0, .bool false, .int .i64 0, .int .i64 0, .int .i64 0, .int .i64 0, .bool false, .bool false] (0, 0) _ HG.out Tryd.underlying37 rfl sizeEv ?_ | refine ox_append elemEv H6.out 0 (.tmp 59) (.tmp 61) (m := 1) (news := [.int .i64 8, .int .i64 0, .int .i64 0, .int .i64 0, .int .i64 0, .int .i64 0, .int .i64 0, .int .i64 0, .slice none 0 0, .int .i64 0, .int .i64 0, .int .i64 0, .int .i64 0, .int .i64 0, .int .i64 0, .int .i64 0, .int .i64 0, .int .u8 0, .int .u8 0, .bool false, .int .i64 0, .int .i64 0, .int .i64 0, .int .i64 0, .bool false, .bool false]) rfl rfl (fun j u hu => (H5.out.row 3 rfl).cells rfl j u hu) (by intro u hu; simp at hu; rcases hu with rfl | rfl | rfl | rfl | rfl | rfl | rfl | rfl | rfl | rfl | rfl | rfl | rfl | rfl | rfl | rfl | rfl | rfl | rfl | rfl | rfl | rfl | rfl | rfl | rfl | rfl <;> rfl) (by unfold maxLen; omega) (by omega) rfl rfl rfl rfl ?_; intro A1 c1 w1 how; have HX1 := Lib.hid how; clear how | go_step)
      go_roundw
      case rel =>
        refine ⟨j + 1, A1, c1, by have := HK.out.2.1; omega, by rw [HK.out.2.2], rfl, ?_⟩
        exact HX1
      case measure =>
        show (syn r).length < (syn (r + 1)).length
        rw [syn_length, syn_length]
        omega
/-- n spaces -/
def spc (n : Nat) : List UInt8 := List.replicate n 32
theorem index_none {n : Nat} : Lib.index (spc n) [10] = -1 := by
  rw [Lib.index_one]
  exact ib_none (fun b hb => by rw [List.eq_of_mem_replicate hb]; decide)
theorem Ow.arrL {w0 w : World} {g : Option Nat} {M : List (Nat × Value)} {L : List Ob} {O : List Rw} (h : Ow w0 w g M L O) (xs : Array Value) (k : Nat) (hx : xs.size = k) (hk : k ≤ 100000) (T : TypeId) : Ow w0 (w.alloc (.cells xs T)) g M L (O ++ [⟨some ⟨w.heap.size, 0, none⟩, k, k, T, xs.toList⟩]) :=
  h.add (World.ownsRow_lit (base := w.heap.size) (e := T) (size := 1) w xs k (Nat.le_refl _) (by unfold maxLen; omega) (by rw [hx]; omega)) (below_allocX (Below.refl _ _) _)
theorem countB_spc : ∀ n, Lib.countB (str (spc n)) ⟨#[32]⟩ = n
  | 0 => by decide +kernel
  | n + 1 => by
    have hi : Lib.indexB (str (spc (n + 1))) ⟨#[32]⟩ = ((0 : Nat) : Int) := by
      show Lib.index (32 :: spc n) [32] = _
      rw [Lib.index_one]
      exact ib_at (l := []) (by simp)
    have he : (str (spc (n + 1))).extract (0 + (⟨#[32]⟩ : ByteArray).size) (str (spc (n + 1))).size = str (spc n) := by
      apply ByteArray.ext
      apply Array.ext'
      rw [ByteArray.data_extract, Array.toList_extract]
      show ((32 :: spc n).extract 1 (32 :: spc n).length) = spc n
      simp [List.extract]
    rw [Lib.countB_hit _ _ 0 (by decide) hi, he, countB_spc n]
    omega
theorem splitB_spc : ∀ n, Lib.splitB ⟨#[32]⟩ 0 n (str (spc n)) = List.replicate (n + 1) ⟨#[]⟩
  | 0 => rfl
  | n + 1 => by
    have hi : Lib.indexB (str (spc (n + 1))) ⟨#[32]⟩ = ((0 : Nat) : Int) := by
      show Lib.index (32 :: spc n) [32] = _
      rw [Lib.index_one]
      exact ib_at (l := []) (by simp)
    have he : (str (spc (n + 1))).extract (0 + (⟨#[32]⟩ : ByteArray).size) (str (spc (n + 1))).size = str (spc n) := by
      apply ByteArray.ext
      apply Array.ext'
      rw [ByteArray.data_extract, Array.toList_extract]
      show ((32 :: spc n).extract 1 (32 :: spc n).length) = spc n
      simp [List.extract]
    have h0 : (str (spc (n + 1))).extract 0 (0 + 0) = ⟨#[]⟩ := by
      apply ByteArray.ext
      apply Array.ext'
      rw [ByteArray.data_extract, Array.toList_extract]
      simp [List.extract]
    rw [Lib.splitB_hit _ 0 n _ 0 hi, he, h0, splitB_spc n]
    rfl
end Go.Proofs.YtpcmbmabmfghkaaDoor

namespace Go.Proofs.YtpcmbmabmfghkaaDoor
open Go.RowKit
set_option linter.unusedVariables false
set_option maxRecDepth 100000
theorem spc_length (n : Nat) : (spc n).length = n := List.length_replicate
theorem cut_spc {n : Nat} (hn : n ≤ 100000) (w : World) (m : Int) (hm : w.cell? ⟨0, 0, none⟩ = some (.int .i64 m)) :
    Calls Tryd.prog 15 #[.string (str (spc n)), .string ⟨#[10]⟩] w fun e w' => e = .returned (.tuple #[.string (str (spc n)), .string ⟨#[]⟩, .bool false]) ∧ Below w.heap.size w w' := by
  have h := Tryd.strings_Cut (str (spc n)) ⟨#[10]⟩ m w (by show (spc n).length < _; rw [spc_length]; omega) hm
  have hc : Lib.cut (str (spc n)).data.toList (⟨#[10]⟩ : ByteArray).data.toList = (spc n, [], false) := by
    show Lib.cut (spc n) [10] = _
    unfold Lib.cut
    rw [index_none, if_neg (by omega)]
  rw [hc] at h
  refine h.mono ?_
  rintro e w1 ⟨rfl, j, rfl⟩
  exact ⟨rfl, below_drewN (Below.refl _ _) j⟩
theorem split_spc {q : Nat} (hq : q ≤ 100000) (w : World) (m : Int) (hm : w.cell? ⟨0, 0, none⟩ = some (.int .i64 m)) :
    Calls Tryd.prog 16 #[.string (str (spc (q + 1))), .string ⟨#[32]⟩] w fun e w' => e = .returned (.slice (some ⟨w.heap.size, 0, none⟩) (q + 2) (q + 2)) ∧ w' = w.alloc (.cells (List.replicate (q + 2) (Value.string ⟨#[]⟩)).toArray 9) := by
  have h := Tryd.strings_Split (str (spc (q + 1))) ⟨#[32]⟩ m w (by show (spc (q + 1)).length < _; rw [spc_length]; omega) hm (by decide)
  rw [countB_spc, splitB_spc, List.map_replicate] at h
  exact h
set_option maxHeartbeats 4000000 in
/-- too many spaces -/
theorem parse_spc_long (n : Nat) (hn : 65537 ≤ n) (w : World) :
    Calls Tryd.prog 8 #[.int .i64 1, .string (str (spc n))] w fun e w' => e = .returned (.tuple #[.slice none 0 0, .int .i64 3]) ∧ Below w.heap.size w w' := by
  have hsz : decide (65536 < ((str (spc n)).size : Int)) = true := by
    have : (str (spc n)).size = n := spc_length n
    rw [this]
    simp
    omega
  go_enter Tryd.func8, Tryd.ntmps8
  go_wp2_with (first | (go_at_call 11; refine (sized_any _ _).mono ?_; rintro e w' ⟨rfl, hw⟩; have hw := hw.symm; subst hw) | (with_reducible refine upon_id ?_; go_simp))
  refine bodyPost_ret (v := .tuple #[.slice none 0 0, .int .i64 3]) (by simp [results, Tryd.results8]) rfl ?_
  exact ⟨rfl, Below.refl _ _⟩
set_option maxHeartbeats 4000000 in
/-- a line of spaces without an end -/
theorem parse_spc (q : Nat) (hq : q ≤ 65535) (w : World) (m : Int) (hm : w.cell? ⟨0, 0, none⟩ = some (.int .i64 m)) :
    Calls Tryd.prog 8 #[.int .i64 1, .string (str (spc (q + 1)))] w fun e w' => e = .returned (.tuple #[.slice none 0 0, .int .i64 49]) ∧ Below w.heap.size w w' := by
  have hsz : decide (65536 < ((str (spc (q + 1))).size : Int)) = false := by
    have : (str (spc (q + 1))).size = q + 1 := spc_length (q + 1)
    rw [this]
    simp
    omega
  have hne : (str (spc (q + 1))).toList.isEmpty = false := by
    rw [str_toList]
    rfl
  have HC := Lib.hid (fun (V : World) (hV : Below w.heap.size w V) => cut_spc (n := q + 1) (by omega) V m ((hV.cell (p := ⟨0, 0, none⟩) (block_lt_of_cell hm)).trans hm))
  have HS := Lib.hid (fun (V : World) (hV : Below w.heap.size w V) => split_spc (q := q) (by omega) V m ((hV.cell (p := ⟨0, 0, none⟩) (block_lt_of_cell hm)).trans hm))
  clear hm
  go_enter Tryd.func8, Tryd.ntmps8
  go_wp2_with (first | (go_at_call 11; refine (sized_any _ _).mono ?_; rintro e w' ⟨rfl, hw⟩; have hw := hw.symm; subst hw) | (with_reducible refine upon_id ?_; go_simp))
  clear hsz
  refine wp_loop_rounds 1 ?_
  rw [rounds_succ]
  go_wp2_with (with_reducible refine upon_id ?_; go_simp)
  refine (HC.out _ (Below.refl _ _)).mono ?_
  rintro e wa0 ⟨rfl, hba⟩
  have HY0 := Lib.hid hba
  clear hba hne
  go_wp2_with (with_reducible refine upon_id ?_; go_simp)
  refine (HS.out _ HY0.out).mono ?_
  rintro e wb ⟨rfl, rfl⟩
  have h1 := ((Ow.of (St.refl wa0)).arrL (List.replicate (q + 2) (Value.string ⟨#[]⟩)).toArray (q + 2) (by simp) (by omega) 9).arr #[.slice (some ⟨wa0.heap.size, 0, none⟩) (q + 2) (q + 2), .bool false] 2 rfl (by omega) 62
  simp only [World.size_alloc, List.cons_append, List.nil_append] at h1
  have HR := Lib.hid h1
  clear h1 HC HS
  go_wp2_with (with_reducible refine upon_id ?_; go_simp)
  have hqq : q < 100000 := by omega
  have hl : (List.replicate (q + 2) (Value.string ⟨#[]⟩))[0]? = some (.string ⟨#[]⟩) := rfl
  refine (event_none (wa0.heap.size + 1) 1 (.slice (some ⟨wa0.heap.size, 1, none⟩) (q + 1) (q + 1)) (.bool false) (O' := [(⟨some ⟨wa0.heap.size, 0, none⟩, q + 2, q + 2, 9, (List.replicate (q + 2) (Value.string ⟨#[]⟩))⟩ : Rw), (⟨some ⟨(wa0.heap.size + 1), 0, none⟩, 2, 2, 62, [.slice (some ⟨wa0.heap.size, 1, none⟩) (q + 1) (q + 1), .bool false]⟩ : Rw)]) HR.out (fun w1 r hr => next_more hr 1 0 (wa0.heap.size + 1) wa0.heap.size 0 q (q + 2) (q + 2) (.bool false) (List.replicate (q + 2) (Value.string ⟨#[]⟩)) ⟨#[]⟩ rfl rfl hl hqq) rfl).mono ?_
  rintro e wc0 ⟨rfl, ho⟩
  have h2 := ho.arr #[.int .i64 0, .int .i64 0, .int .i64 0, .int .i64 0, .int .i64 0, .int .i64 0, .int .i64 0, .int .i64 0, .slice none 0 0, .int .i64 0, .int .i64 0, .int .i64 0, .int .i64 0, .int .i64 0, .int .i64 0, .int .i64 0, .int .i64 0, .int .u8 0, .int .u8 0, .bool false, .int .i64 0, .int .i64 0, .int .i64 0, .int .i64 0, .bool false, .bool false] 26 rfl (by omega) 37
  simp only [List.cons_append, List.nil_append, List.set_cons_zero, List.set_cons_succ] at h2
  have hg := (h2.rowHeap 2 rfl).1
  have h3 := h2.putRow (k := 26) 2 rfl #[.int .i64 0, .int .i64 0, .int .i64 0, .int .i64 0, .int .i64 0, .int .i64 0, .int .i64 0, .int .i64 0, .slice none 0 0, .int .i64 0, .int .i64 0, .int .i64 0, .int .i64 0, .int .i64 0, .int .i64 0, .int .i64 0, .int .i64 0, .int .u8 0, .int .u8 0, .bool false, .int .i64 0, .int .i64 0, .int .i64 0, .int .i64 0, .bool false, .bool false] rfl (by omega)
  simp only [List.set_cons_zero, List.set_cons_succ] at h3
  have hg2 := (h3.rowHeap 2 rfl).1
  have HG := Lib.hid hg
  have HG2 := Lib.hid hg2
  have HE := Lib.hid h3
  clear h2 h3 hg hg2 ho HR hl hqq hq
  dsimp only
  repeat (first | refine wpList_store_row rfl 37 (.tmp 11) (.tmp 35) rfl wc0.heap.size #[.int .i64 0, .int .i64 0, .int .i64 0, .int .i64 0, .int .i64 0, .int .i64 0, .int .i64 0, .int .i64 0, .slice none 0 0, .int .i64 0, .int .i64 0, .int .i64 0, .int .i64 0, .int .i64 0, .int .i64 0, .int .i64 0, .int .i64 0, .int .u8 0, .int .u8 0, .bool false, .int .i64 0, .int .i64 0, .int .i64 0, .int .i64 0, .bool false, .bool false] rfl rfl 37 _ HG.out sizeEv rfl (by simp [Value.oneCell']) ?_ | refine wpList_load_row rfl 37 (.tmp 11) rfl wc0.heap.size rfl 37 #[.int .i64 0, .int .i64 0, .int .i64 0, .int .i64 0, .int .i64 0, .int .i64 0, .int .i64 0, .int .i64 0, .slice none 0 0, .int .i64 0, .int .i64 0, .int .i64 0, .int .i64 0, .int .i64 0, .int .i64 0, .int .i64 0, .int .i64 0, .int .u8 0, .int .u8 0, .bool false, .int .i64 0, .int .i64 0, .int .i64 0, .int .i64 0, .bool false, .bool false] (0, 0) _ HG2.out Tryd.underlying37 rfl sizeEv ?_ | go_step)
  clear HG HG2
  refine (format_zero 1 _).mono ?_
  rintro e wd0 ⟨rfl, hb4⟩
  have HF := Lib.hid (HE.out.go hb4)
  clear hb4 HE
  have yb : wd0.cell? ⟨(wa0.heap.size + 1), 1, none⟩ = some (.bool true) := (HF.out.row 1 rfl).cellAt 1 (by decide)
  go_wp2_with (with_reducible refine upon_id ?_; go_simp)
  refine bodyPost_ret (v := .tuple #[.slice none 0 0, .int .i64 49]) (by simp [results, Tryd.results8]) rfl ?_
  exact ⟨rfl, HY0.out.trans (below_less HF.out.below HY0.out.size)⟩
end Go.Proofs.YtpcmbmabmfghkaaDoor

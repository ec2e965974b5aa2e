/- script.format at a write. -/
import Derived.Test.YtpcmbmabmfghkaaDoorScN
import Derived.Test.YtpcmbmabmfghkaaDoorScJ
namespace Go.Proofs.YtpcmbmabmfghkaaDoor
open Go.RowKit
set_option linter.unusedVariables false
set_option maxRecDepth 100000
theorem itoa_0 (w : World) :
    Calls Tryd.prog 24 #[.int .i64 0] w fun e w' => e = .returned (.string ⟨#[48]⟩) ∧ w' = w := by
  have h := Tryd.strconv_Itoa_small 0 (by omega) w
  have hv : (⟨(Lib.decDigits 0).toArray⟩ : ByteArray) = ⟨#[48]⟩ := by decide +kernel
  rw [hv] at h
  exact h
theorem itoa_1 (w : World) :
    Calls Tryd.prog 24 #[.int .i64 1] w fun e w' => e = .returned (.string ⟨#[49]⟩) ∧ w' = w := by
  have h := Tryd.strconv_Itoa_small 1 (by omega) w
  have hv : (⟨(Lib.decDigits 1).toArray⟩ : ByteArray) = ⟨#[49]⟩ := by decide +kernel
  rw [hv] at h
  exact h
theorem itoa_3 (w : World) :
    Calls Tryd.prog 24 #[.int .i64 3] w fun e w' => e = .returned (.string ⟨#[51]⟩) ∧ w' = w := by
  have h := Tryd.strconv_Itoa_small 3 (by omega) w
  have hv : (⟨(Lib.decDigits 3).toArray⟩ : ByteArray) = ⟨#[51]⟩ := by decide +kernel
  rw [hv] at h
  exact h
set_option maxHeartbeats 4000000 in
theorem format_two (w : World) (db c : Nat) (hdb : db < w.heap.size) (c0 : w.cell? ⟨db, 0, none⟩ = some (.int .u8 0)) (c1 : w.cell? ⟨db, 1, none⟩ = some (.int .u8 255)) :
    Calls Tryd.prog 12 #[.int .i64 2, .agg #[.int .i64 1, .int .i64 0, .int .i64 0, .int .i64 2, .int .i64 1, .int .i64 0, .int .i64 3, .int .i64 0, .slice (some ⟨db, 0, none⟩) 2 c, .int .i64 0, .int .i64 0, .int .i64 0, .int .i64 0, .int .i64 0, .int .i64 0, .int .i64 0, .int .i64 0, .int .u8 0, .int .u8 0, .bool false, .int .i64 0, .int .i64 0, .int .i64 0, .int .i64 0, .bool false, .bool false]] w fun e w' => e = .returned (.tuple #[.string ⟨#[119, 114, 105, 116, 101, 32, 49, 32, 48, 32, 51, 32, 48, 48, 102, 102]⟩, .bool true]) ∧ Below w.heap.size w w' := by
  have H0 := (Ow.of (St.refl w)).arr #[.int .i64 1, .int .i64 0, .int .i64 0, .int .i64 2, .int .i64 1, .int .i64 0, .int .i64 3, .int .i64 0, .slice (some ⟨db, 0, none⟩) 2 c, .int .i64 0, .int .i64 0, .int .i64 0, .int .i64 0, .int .i64 0, .int .i64 0, .int .i64 0, .int .i64 0, .int .u8 0, .int .u8 0, .bool false, .int .i64 0, .int .i64 0, .int .i64 0, .int .i64 0, .bool false, .bool false] 26 rfl (by omega) 37
  simp only [List.nil_append] at H0
  have HO0 := Lib.hid H0
  have HD := Lib.hid hdb
  clear H0
  go_enter Tryd.func12, Tryd.ntmps12
  have hg0 := Lib.hid ((HO0.out.rowHeap 0 rfl).1)
  go_upto_region 1 with fail
  repeat (first | refine wpList_load_row rfl 37 (.tmp 3) rfl w.heap.size rfl 37 #[.int .i64 1, .int .i64 0, .int .i64 0, .int .i64 2, .int .i64 1, .int .i64 0, .int .i64 3, .int .i64 0, .slice (some ⟨db, 0, none⟩) 2 c, .int .i64 0, .int .i64 0, .int .i64 0, .int .i64 0, .int .i64 0, .int .i64 0, .int .i64 0, .int .i64 0, .int .u8 0, .int .u8 0, .bool false, .int .i64 0, .int .i64 0, .int .i64 0, .int .i64 0, .bool false, .bool false] (0, 0) _ hg0.out Tryd.underlying37 rfl sizeEv ?_ | go_step)
  refine (line_two (w.alloc (.cells #[.int .i64 1, .int .i64 0, .int .i64 0, .int .i64 2, .int .i64 1, .int .i64 0, .int .i64 3, .int .i64 0, .slice (some ⟨db, 0, none⟩) 2 c, .int .i64 0, .int .i64 0, .int .i64 0, .int .i64 0, .int .i64 0, .int .i64 0, .int .i64 0, .int .i64 0, .int .u8 0, .int .u8 0, .bool false, .int .i64 0, .int .i64 0, .int .i64 0, .int .i64 0, .bool false, .bool false] 37)) db c (by rw [World.size_alloc]; omega) (((Below.refl w.heap.size w).alloc (Nat.le_refl _) _).cell hdb |>.trans c0) (((Below.refl w.heap.size w).alloc (Nat.le_refl _) _).cell hdb |>.trans c1)).mono ?_
  rintro e w1 ⟨A2, c2, rfl, hb, hown⟩
  have H1 := (HO0.out.add hown hb).arr #[.string ⟨#[]⟩, .slice none 0 0, .string ⟨#[]⟩] 3 rfl (by omega) 69
  have H2 := H1.arr #[.int .i64 0, .int .i64 0, .int .i64 0, .int .i64 0, .int .i64 0, .int .i64 0, .int .i64 0, .int .i64 0, .slice none 0 0, .int .i64 0, .int .i64 0, .int .i64 0, .int .i64 0, .int .i64 0, .int .i64 0, .int .i64 0, .int .i64 0, .int .u8 0, .int .u8 0, .bool false, .int .i64 0, .int .i64 0, .int .i64 0, .int .i64 0, .bool false, .bool false] 26 rfl (by omega) 37
  simp only [World.size_alloc, List.cons_append, List.nil_append] at H2
  have hg1 := (H2.rowHeap 2 rfl).1
  have hp1 := H2.putRow (k := 3) 2 rfl #[.string ⟨#[119, 114, 105, 116, 101]⟩, .slice A2 3 c2, .string ⟨#[48, 48, 102, 102]⟩] rfl (by omega)
  simp only [List.set_cons_zero, List.set_cons_succ] at hp1
  have hg2 := (hp1.rowHeap 3 rfl).1
  have hp2 := hp1.putRow (k := 26) 3 rfl #[.int .i64 1, .int .i64 0, .int .i64 0, .int .i64 2, .int .i64 1, .int .i64 0, .int .i64 3, .int .i64 0, .slice (some ⟨db, 0, none⟩) 2 c, .int .i64 0, .int .i64 0, .int .i64 0, .int .i64 0, .int .i64 0, .int .i64 0, .int .i64 0, .int .i64 0, .int .u8 0, .int .u8 0, .bool false, .int .i64 0, .int .i64 0, .int .i64 0, .int .i64 0, .bool false, .bool false] rfl (by omega)
  simp only [List.set_cons_zero, List.set_cons_succ] at hp2
  have HG1 := Lib.hid hg1
  have HG2 := Lib.hid hg2
  have HE := Lib.hid hp2
  clear hg1 hp1 hg2 hp2 H1 H2 HO0 hg0
  dsimp only
  repeat (first | refine wpList_store_row rfl 69 (.tmp 6) (.tmp 14) rfl w1.heap.size #[.string ⟨#[119, 114, 105, 116, 101]⟩, .slice A2 3 c2, .string ⟨#[48, 48, 102, 102]⟩] rfl rfl 69 _ HG1.out sizeWd rfl (by simp [Value.oneCell']) ?_ | refine wpList_store_row rfl 37 (.tmp 7) (.tmp 15) rfl (w1.heap.size + 1) #[.int .i64 1, .int .i64 0, .int .i64 0, .int .i64 2, .int .i64 1, .int .i64 0, .int .i64 3, .int .i64 0, .slice (some ⟨db, 0, none⟩) 2 c, .int .i64 0, .int .i64 0, .int .i64 0, .int .i64 0, .int .i64 0, .int .i64 0, .int .i64 0, .int .i64 0, .int .u8 0, .int .u8 0, .bool false, .int .i64 0, .int .i64 0, .int .i64 0, .int .i64 0, .bool false, .bool false] rfl rfl 37 _ HG2.out sizeEv rfl (by simp [Value.oneCell']) ?_ | go_step)
  generalize hWW : (World.setRow (World.setRow _ _ _) _ _) = WW at *
  clear hWW HG1 HG2
  have y0 : WW.cell? ⟨w.heap.size, 0, none⟩ = some (.int .i64 1) := (HE.out.row 0 rfl).cellAt 0 (by decide)
  have y1 : WW.cell? ⟨w.heap.size, 1, none⟩ = some (.int .i64 0) := (HE.out.row 0 rfl).cellAt 1 (by decide)
  have y2 : WW.cell? ⟨w.heap.size, 2, none⟩ = some (.int .i64 0) := (HE.out.row 0 rfl).cellAt 2 (by decide)
  have y3 : WW.cell? ⟨w.heap.size, 3, none⟩ = some (.int .i64 2) := (HE.out.row 0 rfl).cellAt 3 (by decide)
  have y4 : WW.cell? ⟨w.heap.size, 4, none⟩ = some (.int .i64 1) := (HE.out.row 0 rfl).cellAt 4 (by decide)
  have y5 : WW.cell? ⟨w.heap.size, 5, none⟩ = some (.int .i64 0) := (HE.out.row 0 rfl).cellAt 5 (by decide)
  have y6 : WW.cell? ⟨w.heap.size, 6, none⟩ = some (.int .i64 3) := (HE.out.row 0 rfl).cellAt 6 (by decide)
  have y7 : WW.cell? ⟨w.heap.size, 7, none⟩ = some (.int .i64 0) := (HE.out.row 0 rfl).cellAt 7 (by decide)
  have y8 : WW.cell? ⟨w.heap.size, 8, none⟩ = some (.slice (some ⟨db, 0, none⟩) 2 c) := (HE.out.row 0 rfl).cellAt 8 (by decide)
  have y9 : WW.cell? ⟨w.heap.size, 9, none⟩ = some (.int .i64 0) := (HE.out.row 0 rfl).cellAt 9 (by decide)
  have y10 : WW.cell? ⟨w.heap.size, 10, none⟩ = some (.int .i64 0) := (HE.out.row 0 rfl).cellAt 10 (by decide)
  have y11 : WW.cell? ⟨w.heap.size, 11, none⟩ = some (.int .i64 0) := (HE.out.row 0 rfl).cellAt 11 (by decide)
  have y12 : WW.cell? ⟨w.heap.size, 12, none⟩ = some (.int .i64 0) := (HE.out.row 0 rfl).cellAt 12 (by decide)
  have y13 : WW.cell? ⟨w.heap.size, 13, none⟩ = some (.int .i64 0) := (HE.out.row 0 rfl).cellAt 13 (by decide)
  have y14 : WW.cell? ⟨w.heap.size, 14, none⟩ = some (.int .i64 0) := (HE.out.row 0 rfl).cellAt 14 (by decide)
  have y15 : WW.cell? ⟨w.heap.size, 15, none⟩ = some (.int .i64 0) := (HE.out.row 0 rfl).cellAt 15 (by decide)
  have y16 : WW.cell? ⟨w.heap.size, 16, none⟩ = some (.int .i64 0) := (HE.out.row 0 rfl).cellAt 16 (by decide)
  have y17 : WW.cell? ⟨w.heap.size, 17, none⟩ = some (.int .u8 0) := (HE.out.row 0 rfl).cellAt 17 (by decide)
  have y18 : WW.cell? ⟨w.heap.size, 18, none⟩ = some (.int .u8 0) := (HE.out.row 0 rfl).cellAt 18 (by decide)
  have y19 : WW.cell? ⟨w.heap.size, 19, none⟩ = some (.bool false) := (HE.out.row 0 rfl).cellAt 19 (by decide)
  have y20 : WW.cell? ⟨w.heap.size, 20, none⟩ = some (.int .i64 0) := (HE.out.row 0 rfl).cellAt 20 (by decide)
  have y21 : WW.cell? ⟨w.heap.size, 21, none⟩ = some (.int .i64 0) := (HE.out.row 0 rfl).cellAt 21 (by decide)
  have y22 : WW.cell? ⟨w.heap.size, 22, none⟩ = some (.int .i64 0) := (HE.out.row 0 rfl).cellAt 22 (by decide)
  have y23 : WW.cell? ⟨w.heap.size, 23, none⟩ = some (.int .i64 0) := (HE.out.row 0 rfl).cellAt 23 (by decide)
  have y24 : WW.cell? ⟨w.heap.size, 24, none⟩ = some (.bool false) := (HE.out.row 0 rfl).cellAt 24 (by decide)
  have y25 : WW.cell? ⟨w.heap.size, 25, none⟩ = some (.bool false) := (HE.out.row 0 rfl).cellAt 25 (by decide)
  have x0 : WW.cell? ⟨w1.heap.size, 0, none⟩ = some (.string ⟨#[119, 114, 105, 116, 101]⟩) := (HE.out.row 2 rfl).cellAt 0 (by decide)
  have x1 : WW.cell? ⟨w1.heap.size, 1, none⟩ = some (.slice A2 3 c2) := (HE.out.row 2 rfl).cellAt 1 (by decide)
  have x2 : WW.cell? ⟨w1.heap.size, 2, none⟩ = some (.string ⟨#[48, 48, 102, 102]⟩) := (HE.out.row 2 rfl).cellAt 2 (by decide)
  have z1 : WW.cell? ⟨(w1.heap.size + 1), 1, none⟩ = some (.int .i64 0) := (HE.out.row 3 rfl).cellAt 1 (by decide)
  have z2 : WW.cell? ⟨(w1.heap.size + 1), 2, none⟩ = some (.int .i64 0) := (HE.out.row 3 rfl).cellAt 2 (by decide)
  have z9 : WW.cell? ⟨(w1.heap.size + 1), 9, none⟩ = some (.int .i64 0) := (HE.out.row 3 rfl).cellAt 9 (by decide)
  have z10 : WW.cell? ⟨(w1.heap.size + 1), 10, none⟩ = some (.int .i64 0) := (HE.out.row 3 rfl).cellAt 10 (by decide)
  have z11 : WW.cell? ⟨(w1.heap.size + 1), 11, none⟩ = some (.int .i64 0) := (HE.out.row 3 rfl).cellAt 11 (by decide)
  have z12 : WW.cell? ⟨(w1.heap.size + 1), 12, none⟩ = some (.int .i64 0) := (HE.out.row 3 rfl).cellAt 12 (by decide)
  have z13 : WW.cell? ⟨(w1.heap.size + 1), 13, none⟩ = some (.int .i64 0) := (HE.out.row 3 rfl).cellAt 13 (by decide)
  have z14 : WW.cell? ⟨(w1.heap.size + 1), 14, none⟩ = some (.int .i64 0) := (HE.out.row 3 rfl).cellAt 14 (by decide)
  have z15 : WW.cell? ⟨(w1.heap.size + 1), 15, none⟩ = some (.int .i64 0) := (HE.out.row 3 rfl).cellAt 15 (by decide)
  have z16 : WW.cell? ⟨(w1.heap.size + 1), 16, none⟩ = some (.int .i64 0) := (HE.out.row 3 rfl).cellAt 16 (by decide)
  have z17 : WW.cell? ⟨(w1.heap.size + 1), 17, none⟩ = some (.int .u8 0) := (HE.out.row 3 rfl).cellAt 17 (by decide)
  have z18 : WW.cell? ⟨(w1.heap.size + 1), 18, none⟩ = some (.int .u8 0) := (HE.out.row 3 rfl).cellAt 18 (by decide)
  have z19 : WW.cell? ⟨(w1.heap.size + 1), 19, none⟩ = some (.bool false) := (HE.out.row 3 rfl).cellAt 19 (by decide)
  have z20 : WW.cell? ⟨(w1.heap.size + 1), 20, none⟩ = some (.int .i64 0) := (HE.out.row 3 rfl).cellAt 20 (by decide)
  have z21 : WW.cell? ⟨(w1.heap.size + 1), 21, none⟩ = some (.int .i64 0) := (HE.out.row 3 rfl).cellAt 21 (by decide)
  have z22 : WW.cell? ⟨(w1.heap.size + 1), 22, none⟩ = some (.int .i64 0) := (HE.out.row 3 rfl).cellAt 22 (by decide)
  have z23 : WW.cell? ⟨(w1.heap.size + 1), 23, none⟩ = some (.int .i64 0) := (HE.out.row 3 rfl).cellAt 23 (by decide)
  have z24 : WW.cell? ⟨(w1.heap.size + 1), 24, none⟩ = some (.bool false) := (HE.out.row 3 rfl).cellAt 24 (by decide)
  have z25 : WW.cell? ⟨(w1.heap.size + 1), 25, none⟩ = some (.bool false) := (HE.out.row 3 rfl).cellAt 25 (by decide)
  go_wp2_with (with_reducible refine upon_id ?_; go_simp)
  refine (valid_two 2 c (some ⟨db, 0, none⟩) true (by decide) _).mono ?_
  rintro e w3 ⟨rfl, hb3⟩
  have HE3 := Lib.hid (HE.out.go hb3)
  obtain ⟨gn, rfl, -, -⟩ := own_form (HE3.out.row 1 rfl) (by omega)
  have v0 : w3.cell? ⟨w1.heap.size, 0, none⟩ = some (.string ⟨#[119, 114, 105, 116, 101]⟩) := (HE3.out.row 2 rfl).cellAt 0 (by decide)
  have v1 : w3.cell? ⟨w1.heap.size, 1, none⟩ = some (.slice (some ⟨gn, 0, none⟩) 3 c2) := (HE3.out.row 2 rfl).cellAt 1 (by decide)
  have v2 : w3.cell? ⟨w1.heap.size, 2, none⟩ = some (.string ⟨#[48, 48, 102, 102]⟩) := (HE3.out.row 2 rfl).cellAt 2 (by decide)
  have n0 : w3.cell? ⟨gn, 0, none⟩ = some (.int .i64 1) := (HE3.out.row 1 rfl).cellAt 0 (by decide)
  have n1 : w3.cell? ⟨gn, 1, none⟩ = some (.int .i64 0) := (HE3.out.row 1 rfl).cellAt 1 (by decide)
  have n2 : w3.cell? ⟨gn, 2, none⟩ = some (.int .i64 3) := (HE3.out.row 1 rfl).cellAt 2 (by decide)
  have k0 : w3.cell? ⟨w.heap.size, 0, none⟩ = some (.int .i64 1) := (HE3.out.row 0 rfl).cellAt 0 (by decide)
  clear hb3
  go_wp2_with (with_reducible refine upon_id ?_; go_simp)
  refine wp_loop_rounds 4 ?_
  rw [rounds_succ]
  go_wp2_with (with_reducible refine upon_id ?_; go_simp)
  refine (itoa_1 _).mono ?_
  rintro e w4 ⟨rfl, rfl⟩
  go_wp2_with (with_reducible refine upon_id ?_; go_simp)
  rw [rounds_succ]
  go_wp2_with (with_reducible refine upon_id ?_; go_simp)
  refine (itoa_0 _).mono ?_
  rintro e w4 ⟨rfl, rfl⟩
  go_wp2_with (with_reducible refine upon_id ?_; go_simp)
  rw [rounds_succ]
  go_wp2_with (with_reducible refine upon_id ?_; go_simp)
  refine (itoa_3 _).mono ?_
  rintro e w4 ⟨rfl, rfl⟩
  go_wp2_with (with_reducible refine upon_id ?_; go_simp)
  rw [rounds_succ]
  go_wp2_with (with_reducible refine upon_id ?_; go_simp)
  refine bodyPost_ret (v := .tuple #[.string ⟨#[119, 114, 105, 116, 101, 32, 49, 32, 48, 32, 51, 32, 48, 48, 102, 102]⟩, .bool true]) (by simp [results, Tryd.results12]; decide +kernel) rfl ?_
  exact ⟨rfl, HE3.out.below⟩
set_option maxHeartbeats 4000000 in
theorem format_one (w : World) (db c : Nat) (hdb : db < w.heap.size) (c0 : w.cell? ⟨db, 0, none⟩ = some (.int .u8 0)) :
    Calls Tryd.prog 12 #[.int .i64 2, .agg #[.int .i64 1, .int .i64 0, .int .i64 0, .int .i64 2, .int .i64 1, .int .i64 0, .int .i64 3, .int .i64 0, .slice (some ⟨db, 0, none⟩) 1 c, .int .i64 0, .int .i64 0, .int .i64 0, .int .i64 0, .int .i64 0, .int .i64 0, .int .i64 0, .int .i64 0, .int .u8 0, .int .u8 0, .bool false, .int .i64 0, .int .i64 0, .int .i64 0, .int .i64 0, .bool false, .bool false]] w fun e w' => e = .returned (.tuple #[.string ⟨#[]⟩, .bool false]) ∧ Below w.heap.size w w' := by
  have H0 := (Ow.of (St.refl w)).arr #[.int .i64 1, .int .i64 0, .int .i64 0, .int .i64 2, .int .i64 1, .int .i64 0, .int .i64 3, .int .i64 0, .slice (some ⟨db, 0, none⟩) 1 c, .int .i64 0, .int .i64 0, .int .i64 0, .int .i64 0, .int .i64 0, .int .i64 0, .int .i64 0, .int .i64 0, .int .u8 0, .int .u8 0, .bool false, .int .i64 0, .int .i64 0, .int .i64 0, .int .i64 0, .bool false, .bool false] 26 rfl (by omega) 37
  simp only [List.nil_append] at H0
  have HO0 := Lib.hid H0
  have HD := Lib.hid hdb
  clear H0
  go_enter Tryd.func12, Tryd.ntmps12
  have hg0 := Lib.hid ((HO0.out.rowHeap 0 rfl).1)
  go_upto_region 1 with fail
  repeat (first | refine wpList_load_row rfl 37 (.tmp 3) rfl w.heap.size rfl 37 #[.int .i64 1, .int .i64 0, .int .i64 0, .int .i64 2, .int .i64 1, .int .i64 0, .int .i64 3, .int .i64 0, .slice (some ⟨db, 0, none⟩) 1 c, .int .i64 0, .int .i64 0, .int .i64 0, .int .i64 0, .int .i64 0, .int .i64 0, .int .i64 0, .int .i64 0, .int .u8 0, .int .u8 0, .bool false, .int .i64 0, .int .i64 0, .int .i64 0, .int .i64 0, .bool false, .bool false] (0, 0) _ hg0.out Tryd.underlying37 rfl sizeEv ?_ | go_step)
  refine (line_one (w.alloc (.cells #[.int .i64 1, .int .i64 0, .int .i64 0, .int .i64 2, .int .i64 1, .int .i64 0, .int .i64 3, .int .i64 0, .slice (some ⟨db, 0, none⟩) 1 c, .int .i64 0, .int .i64 0, .int .i64 0, .int .i64 0, .int .i64 0, .int .i64 0, .int .i64 0, .int .i64 0, .int .u8 0, .int .u8 0, .bool false, .int .i64 0, .int .i64 0, .int .i64 0, .int .i64 0, .bool false, .bool false] 37)) db c (by rw [World.size_alloc]; omega) (((Below.refl w.heap.size w).alloc (Nat.le_refl _) _).cell hdb |>.trans c0)).mono ?_
  rintro e w1 ⟨A2, c2, rfl, hb, hown⟩
  have H1 := (HO0.out.add hown hb).arr #[.string ⟨#[]⟩, .slice none 0 0, .string ⟨#[]⟩] 3 rfl (by omega) 69
  have H2 := H1.arr #[.int .i64 0, .int .i64 0, .int .i64 0, .int .i64 0, .int .i64 0, .int .i64 0, .int .i64 0, .int .i64 0, .slice none 0 0, .int .i64 0, .int .i64 0, .int .i64 0, .int .i64 0, .int .i64 0, .int .i64 0, .int .i64 0, .int .i64 0, .int .u8 0, .int .u8 0, .bool false, .int .i64 0, .int .i64 0, .int .i64 0, .int .i64 0, .bool false, .bool false] 26 rfl (by omega) 37
  simp only [World.size_alloc, List.cons_append, List.nil_append] at H2
  have hg1 := (H2.rowHeap 2 rfl).1
  have hp1 := H2.putRow (k := 3) 2 rfl #[.string ⟨#[119, 114, 105, 116, 101]⟩, .slice A2 3 c2, .string ⟨#[48, 48]⟩] rfl (by omega)
  simp only [List.set_cons_zero, List.set_cons_succ] at hp1
  have hg2 := (hp1.rowHeap 3 rfl).1
  have hp2 := hp1.putRow (k := 26) 3 rfl #[.int .i64 1, .int .i64 0, .int .i64 0, .int .i64 2, .int .i64 1, .int .i64 0, .int .i64 3, .int .i64 0, .slice (some ⟨db, 0, none⟩) 1 c, .int .i64 0, .int .i64 0, .int .i64 0, .int .i64 0, .int .i64 0, .int .i64 0, .int .i64 0, .int .i64 0, .int .u8 0, .int .u8 0, .bool false, .int .i64 0, .int .i64 0, .int .i64 0, .int .i64 0, .bool false, .bool false] rfl (by omega)
  simp only [List.set_cons_zero, List.set_cons_succ] at hp2
  have HG1 := Lib.hid hg1
  have HG2 := Lib.hid hg2
  have HE := Lib.hid hp2
  clear hg1 hp1 hg2 hp2 H1 H2 HO0 hg0
  dsimp only
  repeat (first | refine wpList_store_row rfl 69 (.tmp 6) (.tmp 14) rfl w1.heap.size #[.string ⟨#[119, 114, 105, 116, 101]⟩, .slice A2 3 c2, .string ⟨#[48, 48]⟩] rfl rfl 69 _ HG1.out sizeWd rfl (by simp [Value.oneCell']) ?_ | refine wpList_store_row rfl 37 (.tmp 7) (.tmp 15) rfl (w1.heap.size + 1) #[.int .i64 1, .int .i64 0, .int .i64 0, .int .i64 2, .int .i64 1, .int .i64 0, .int .i64 3, .int .i64 0, .slice (some ⟨db, 0, none⟩) 1 c, .int .i64 0, .int .i64 0, .int .i64 0, .int .i64 0, .int .i64 0, .int .i64 0, .int .i64 0, .int .i64 0, .int .u8 0, .int .u8 0, .bool false, .int .i64 0, .int .i64 0, .int .i64 0, .int .i64 0, .bool false, .bool false] rfl rfl 37 _ HG2.out sizeEv rfl (by simp [Value.oneCell']) ?_ | go_step)
  generalize hWW : (World.setRow (World.setRow _ _ _) _ _) = WW at *
  clear hWW HG1 HG2
  have y0 : WW.cell? ⟨w.heap.size, 0, none⟩ = some (.int .i64 1) := (HE.out.row 0 rfl).cellAt 0 (by decide)
  have y1 : WW.cell? ⟨w.heap.size, 1, none⟩ = some (.int .i64 0) := (HE.out.row 0 rfl).cellAt 1 (by decide)
  have y2 : WW.cell? ⟨w.heap.size, 2, none⟩ = some (.int .i64 0) := (HE.out.row 0 rfl).cellAt 2 (by decide)
  have y3 : WW.cell? ⟨w.heap.size, 3, none⟩ = some (.int .i64 2) := (HE.out.row 0 rfl).cellAt 3 (by decide)
  have y4 : WW.cell? ⟨w.heap.size, 4, none⟩ = some (.int .i64 1) := (HE.out.row 0 rfl).cellAt 4 (by decide)
  have y5 : WW.cell? ⟨w.heap.size, 5, none⟩ = some (.int .i64 0) := (HE.out.row 0 rfl).cellAt 5 (by decide)
  have y6 : WW.cell? ⟨w.heap.size, 6, none⟩ = some (.int .i64 3) := (HE.out.row 0 rfl).cellAt 6 (by decide)
  have y7 : WW.cell? ⟨w.heap.size, 7, none⟩ = some (.int .i64 0) := (HE.out.row 0 rfl).cellAt 7 (by decide)
  have y8 : WW.cell? ⟨w.heap.size, 8, none⟩ = some (.slice (some ⟨db, 0, none⟩) 1 c) := (HE.out.row 0 rfl).cellAt 8 (by decide)
  have y9 : WW.cell? ⟨w.heap.size, 9, none⟩ = some (.int .i64 0) := (HE.out.row 0 rfl).cellAt 9 (by decide)
  have y10 : WW.cell? ⟨w.heap.size, 10, none⟩ = some (.int .i64 0) := (HE.out.row 0 rfl).cellAt 10 (by decide)
  have y11 : WW.cell? ⟨w.heap.size, 11, none⟩ = some (.int .i64 0) := (HE.out.row 0 rfl).cellAt 11 (by decide)
  have y12 : WW.cell? ⟨w.heap.size, 12, none⟩ = some (.int .i64 0) := (HE.out.row 0 rfl).cellAt 12 (by decide)
  have y13 : WW.cell? ⟨w.heap.size, 13, none⟩ = some (.int .i64 0) := (HE.out.row 0 rfl).cellAt 13 (by decide)
  have y14 : WW.cell? ⟨w.heap.size, 14, none⟩ = some (.int .i64 0) := (HE.out.row 0 rfl).cellAt 14 (by decide)
  have y15 : WW.cell? ⟨w.heap.size, 15, none⟩ = some (.int .i64 0) := (HE.out.row 0 rfl).cellAt 15 (by decide)
  have y16 : WW.cell? ⟨w.heap.size, 16, none⟩ = some (.int .i64 0) := (HE.out.row 0 rfl).cellAt 16 (by decide)
  have y17 : WW.cell? ⟨w.heap.size, 17, none⟩ = some (.int .u8 0) := (HE.out.row 0 rfl).cellAt 17 (by decide)
  have y18 : WW.cell? ⟨w.heap.size, 18, none⟩ = some (.int .u8 0) := (HE.out.row 0 rfl).cellAt 18 (by decide)
  have y19 : WW.cell? ⟨w.heap.size, 19, none⟩ = some (.bool false) := (HE.out.row 0 rfl).cellAt 19 (by decide)
  have y20 : WW.cell? ⟨w.heap.size, 20, none⟩ = some (.int .i64 0) := (HE.out.row 0 rfl).cellAt 20 (by decide)
  have y21 : WW.cell? ⟨w.heap.size, 21, none⟩ = some (.int .i64 0) := (HE.out.row 0 rfl).cellAt 21 (by decide)
  have y22 : WW.cell? ⟨w.heap.size, 22, none⟩ = some (.int .i64 0) := (HE.out.row 0 rfl).cellAt 22 (by decide)
  have y23 : WW.cell? ⟨w.heap.size, 23, none⟩ = some (.int .i64 0) := (HE.out.row 0 rfl).cellAt 23 (by decide)
  have y24 : WW.cell? ⟨w.heap.size, 24, none⟩ = some (.bool false) := (HE.out.row 0 rfl).cellAt 24 (by decide)
  have y25 : WW.cell? ⟨w.heap.size, 25, none⟩ = some (.bool false) := (HE.out.row 0 rfl).cellAt 25 (by decide)
  have x0 : WW.cell? ⟨w1.heap.size, 0, none⟩ = some (.string ⟨#[119, 114, 105, 116, 101]⟩) := (HE.out.row 2 rfl).cellAt 0 (by decide)
  have x1 : WW.cell? ⟨w1.heap.size, 1, none⟩ = some (.slice A2 3 c2) := (HE.out.row 2 rfl).cellAt 1 (by decide)
  have x2 : WW.cell? ⟨w1.heap.size, 2, none⟩ = some (.string ⟨#[48, 48]⟩) := (HE.out.row 2 rfl).cellAt 2 (by decide)
  have z1 : WW.cell? ⟨(w1.heap.size + 1), 1, none⟩ = some (.int .i64 0) := (HE.out.row 3 rfl).cellAt 1 (by decide)
  have z2 : WW.cell? ⟨(w1.heap.size + 1), 2, none⟩ = some (.int .i64 0) := (HE.out.row 3 rfl).cellAt 2 (by decide)
  have z9 : WW.cell? ⟨(w1.heap.size + 1), 9, none⟩ = some (.int .i64 0) := (HE.out.row 3 rfl).cellAt 9 (by decide)
  have z10 : WW.cell? ⟨(w1.heap.size + 1), 10, none⟩ = some (.int .i64 0) := (HE.out.row 3 rfl).cellAt 10 (by decide)
  have z11 : WW.cell? ⟨(w1.heap.size + 1), 11, none⟩ = some (.int .i64 0) := (HE.out.row 3 rfl).cellAt 11 (by decide)
  have z12 : WW.cell? ⟨(w1.heap.size + 1), 12, none⟩ = some (.int .i64 0) := (HE.out.row 3 rfl).cellAt 12 (by decide)
  have z13 : WW.cell? ⟨(w1.heap.size + 1), 13, none⟩ = some (.int .i64 0) := (HE.out.row 3 rfl).cellAt 13 (by decide)
  have z14 : WW.cell? ⟨(w1.heap.size + 1), 14, none⟩ = some (.int .i64 0) := (HE.out.row 3 rfl).cellAt 14 (by decide)
  have z15 : WW.cell? ⟨(w1.heap.size + 1), 15, none⟩ = some (.int .i64 0) := (HE.out.row 3 rfl).cellAt 15 (by decide)
  have z16 : WW.cell? ⟨(w1.heap.size + 1), 16, none⟩ = some (.int .i64 0) := (HE.out.row 3 rfl).cellAt 16 (by decide)
  have z17 : WW.cell? ⟨(w1.heap.size + 1), 17, none⟩ = some (.int .u8 0) := (HE.out.row 3 rfl).cellAt 17 (by decide)
  have z18 : WW.cell? ⟨(w1.heap.size + 1), 18, none⟩ = some (.int .u8 0) := (HE.out.row 3 rfl).cellAt 18 (by decide)
  have z19 : WW.cell? ⟨(w1.heap.size + 1), 19, none⟩ = some (.bool false) := (HE.out.row 3 rfl).cellAt 19 (by decide)
  have z20 : WW.cell? ⟨(w1.heap.size + 1), 20, none⟩ = some (.int .i64 0) := (HE.out.row 3 rfl).cellAt 20 (by decide)
  have z21 : WW.cell? ⟨(w1.heap.size + 1), 21, none⟩ = some (.int .i64 0) := (HE.out.row 3 rfl).cellAt 21 (by decide)
  have z22 : WW.cell? ⟨(w1.heap.size + 1), 22, none⟩ = some (.int .i64 0) := (HE.out.row 3 rfl).cellAt 22 (by decide)
  have z23 : WW.cell? ⟨(w1.heap.size + 1), 23, none⟩ = some (.int .i64 0) := (HE.out.row 3 rfl).cellAt 23 (by decide)
  have z24 : WW.cell? ⟨(w1.heap.size + 1), 24, none⟩ = some (.bool false) := (HE.out.row 3 rfl).cellAt 24 (by decide)
  have z25 : WW.cell? ⟨(w1.heap.size + 1), 25, none⟩ = some (.bool false) := (HE.out.row 3 rfl).cellAt 25 (by decide)
  go_wp2_with (with_reducible refine upon_id ?_; go_simp)
  refine (valid_two 1 c (some ⟨db, 0, none⟩) false (by decide) _).mono ?_
  rintro e w3 ⟨rfl, hb3⟩
  have HE3 := Lib.hid (HE.out.go hb3)
  go_wp2_with (with_reducible refine upon_id ?_; go_simp)
  refine bodyPost_ret (v := .tuple #[.string ⟨#[]⟩, .bool false]) (by simp [results, Tryd.results12]) rfl ?_
  exact ⟨rfl, HE3.out.below⟩
end Go.Proofs.YtpcmbmabmfghkaaDoor

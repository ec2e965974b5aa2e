/- ScJ ScV ScW Shelf -/
import Derived.Test.YtpcmbmabmfghkaaDoorL03
import Derived.LoopN
import Derived.Laws.Rows
import Derived.BigQuiet
import Derived.Shelf.Strings.Builder1
import Derived.Shelf.Small.Strs
import Derived.Shelf.Strings.BuilderF
import Derived.Shelf.Strings.BuilderK
import Derived.Shelf.Utf8.RuneCount
import Derived.Shelf.Strconv.Atoi
import Derived.Shelf.Strconv.Itoa0
import Derived.Shelf.Strconv.Itoa1
import Derived.Shelf.LaysM
import Derived.Shelf.Strconv.Itoa2
import Derived.Shelf.Strconv.Itoa3
import Derived.Shelf.Strconv.AtoiErrFast
import Derived.Shelf.Strconv.ParseIntEmpty
import Derived.Shelf.Strconv.AtoiFail
import Derived.Shelf.Strconv.Clone
import Derived.Shelf.Strconv.SyntaxError
import Derived.Shelf.LaysC
import Derived.Shelf.Strconv.ToError
import Derived.Shelf.Strconv.Lower
import Derived.Shelf.Strconv.ParseUint10
import Derived.Shelf.Strconv.ParseUint10Empty
import Derived.Shelf.Strconv.ParseUint10Any
import Derived.Shelf.Strconv.ParseInt10
import Derived.Shelf.Strconv.AtoiLong
import Derived.Shelf.Strconv.AtoiInnerAll
import Derived.Shelf.Strconv.RangeError
import Derived.Shelf.Strconv.ToErrorRange
import Derived.Shelf.Strconv.AtoiAll
import Derived.Shelf.Strings.Search1
import Derived.Shelf.Strings.Search2
import Derived.Shelf.Strings.Search3
import Derived.Shelf.Strings.Cut
import Derived.Shelf.Strings.Count
import Derived.Shelf.Strings.Shaped
import Derived.Shelf.Strings.Prefix
import Derived.Shelf.Strings.Split
import Derived.Shelf.Strings.SplitShaped
import Derived.Shelf.Unicode.Decode
import Derived.Shelf.Strings.RuneCount
import Derived.Shelf.Strings.Explode
import Derived.Shelf.Unicode.DecodeSlow
import Derived.Shelf.Unicode.DecodeAny
import Derived.Shelf.Strings.BuilderCap
import Derived.Test.YtpcmbmabmfghkaaDoorProg
namespace Go.Proofs.YtpcmbmabmfghkaaDoor
open Go.RowKit
set_option linter.unusedVariables false
set_option maxRecDepth 100000
theorem upon_id {P : Program} {o : Oper} {a : Act} {K : Act → World → Prop} {Q : Exit → Act → World → Prop} {r : Result Next} (h : o.upon P a K Q r) : o.upon P a K Q r := h
set_option maxHeartbeats 4000000 in
theorem format_sync (size : Int) (w : World) :
    Calls Tryd.prog 12 #[.int .i64 size, .agg #[.int .i64 8, .int .i64 0, .int .i64 0, .int .i64 0, .int .i64 0, .int .i64 0, .int .i64 0, .int .i64 0, .slice none 0 0, .int .i64 0, .int .i64 0, .int .i64 0, .int .i64 0, .int .i64 0, .int .i64 0, .int .i64 0, .int .i64 0, .int .u8 0, .int .u8 0, .bool false, .int .i64 0, .int .i64 0, .int .i64 0, .int .i64 0, .bool false, .bool false]] w fun e w' => e = .returned (.tuple #[.string ⟨#[115, 121, 110, 99]⟩, .bool true]) ∧ Below w.heap.size w w' := by
  have H0 := (Ow.of (St.refl w)).arr #[.int .i64 8, .int .i64 0, .int .i64 0, .int .i64 0, .int .i64 0, .int .i64 0, .int .i64 0, .int .i64 0, .slice none 0 0, .int .i64 0, .int .i64 0, .int .i64 0, .int .i64 0, .int .i64 0, .int .i64 0, .int .i64 0, .int .i64 0, .int .u8 0, .int .u8 0, .bool false, .int .i64 0, .int .i64 0, .int .i64 0, .int .i64 0, .bool false, .bool false] 26 rfl (by omega) 37
  simp only [List.nil_append] at H0
  have HO0 := Lib.hid H0
  clear H0
  go_enter Tryd.func12, Tryd.ntmps12
  have hg0 := Lib.hid ((HO0.out.rowHeap 0 rfl).1)
  go_upto_region 1 with fail
  repeat (first | refine wpList_load_row rfl 37 (.tmp 3) rfl w.heap.size rfl 37 #[.int .i64 8, .int .i64 0, .int .i64 0, .int .i64 0, .int .i64 0, .int .i64 0, .int .i64 0, .int .i64 0, .slice none 0 0, .int .i64 0, .int .i64 0, .int .i64 0, .int .i64 0, .int .i64 0, .int .i64 0, .int .i64 0, .int .i64 0, .int .u8 0, .int .u8 0, .bool false, .int .i64 0, .int .i64 0, .int .i64 0, .int .i64 0, .bool false, .bool false] (0, 0) _ hg0.out Tryd.underlying37 rfl sizeEv ?_ | go_step)
  refine (line_sync _).mono ?_
  rintro e w1 ⟨rfl, hb⟩
  have H1 := (HO0.out.go hb).arr #[.string ⟨#[]⟩, .slice none 0 0, .string ⟨#[]⟩] 3 rfl (by omega) 69
  have H2 := H1.arr #[.int .i64 0, .int .i64 0, .int .i64 0, .int .i64 0, .int .i64 0, .int .i64 0, .int .i64 0, .int .i64 0, .slice none 0 0, .int .i64 0, .int .i64 0, .int .i64 0, .int .i64 0, .int .i64 0, .int .i64 0, .int .i64 0, .int .i64 0, .int .u8 0, .int .u8 0, .bool false, .int .i64 0, .int .i64 0, .int .i64 0, .int .i64 0, .bool false, .bool false] 26 rfl (by omega) 37
  simp only [World.size_alloc, List.cons_append, List.nil_append] at H2
  have hg1 := (H2.rowHeap 1 rfl).1
  have hp1 := H2.putRow (k := 3) 1 rfl #[.string ⟨#[115, 121, 110, 99]⟩, .slice none 0 0, .string ⟨#[]⟩] rfl (by omega)
  simp only [List.set_cons_zero, List.set_cons_succ] at hp1
  have hg2 := (hp1.rowHeap 2 rfl).1
  have hp2 := hp1.putRow (k := 26) 2 rfl #[.int .i64 8, .int .i64 0, .int .i64 0, .int .i64 0, .int .i64 0, .int .i64 0, .int .i64 0, .int .i64 0, .slice none 0 0, .int .i64 0, .int .i64 0, .int .i64 0, .int .i64 0, .int .i64 0, .int .i64 0, .int .i64 0, .int .i64 0, .int .u8 0, .int .u8 0, .bool false, .int .i64 0, .int .i64 0, .int .i64 0, .int .i64 0, .bool false, .bool false] rfl (by omega)
  simp only [List.set_cons_zero, List.set_cons_succ] at hp2
  have HG1 := Lib.hid hg1
  have HG2 := Lib.hid hg2
  have HE := Lib.hid hp2
  clear hg1 hp1 hg2 hp2 H1 H2 HO0 hg0
  dsimp only
  repeat (first | refine wpList_store_row rfl 69 (.tmp 6) (.tmp 14) rfl w1.heap.size #[.string ⟨#[115, 121, 110, 99]⟩, .slice none 0 0, .string ⟨#[]⟩] rfl rfl 69 _ HG1.out sizeWd rfl (by simp [Value.oneCell']) ?_ | refine wpList_store_row rfl 37 (.tmp 7) (.tmp 15) rfl (w1.heap.size + 1) #[.int .i64 8, .int .i64 0, .int .i64 0, .int .i64 0, .int .i64 0, .int .i64 0, .int .i64 0, .int .i64 0, .slice none 0 0, .int .i64 0, .int .i64 0, .int .i64 0, .int .i64 0, .int .i64 0, .int .i64 0, .int .i64 0, .int .i64 0, .int .u8 0, .int .u8 0, .bool false, .int .i64 0, .int .i64 0, .int .i64 0, .int .i64 0, .bool false, .bool false] rfl rfl 37 _ HG2.out sizeEv rfl (by simp [Value.oneCell']) ?_ | go_step)
  generalize hWW : (World.setRow (World.setRow _ _ _) _ _) = WW at *
  clear hWW HG1 HG2
  have y0 : WW.cell? ⟨w.heap.size, 0, none⟩ = some (.int .i64 8) := (HE.out.row 0 rfl).cellAt 0 (by decide)
  have y1 : WW.cell? ⟨w.heap.size, 1, none⟩ = some (.int .i64 0) := (HE.out.row 0 rfl).cellAt 1 (by decide)
  have y2 : WW.cell? ⟨w.heap.size, 2, none⟩ = some (.int .i64 0) := (HE.out.row 0 rfl).cellAt 2 (by decide)
  have y3 : WW.cell? ⟨w.heap.size, 3, none⟩ = some (.int .i64 0) := (HE.out.row 0 rfl).cellAt 3 (by decide)
  have y4 : WW.cell? ⟨w.heap.size, 4, none⟩ = some (.int .i64 0) := (HE.out.row 0 rfl).cellAt 4 (by decide)
  have y5 : WW.cell? ⟨w.heap.size, 5, none⟩ = some (.int .i64 0) := (HE.out.row 0 rfl).cellAt 5 (by decide)
  have y6 : WW.cell? ⟨w.heap.size, 6, none⟩ = some (.int .i64 0) := (HE.out.row 0 rfl).cellAt 6 (by decide)
  have y7 : WW.cell? ⟨w.heap.size, 7, none⟩ = some (.int .i64 0) := (HE.out.row 0 rfl).cellAt 7 (by decide)
  have y8 : WW.cell? ⟨w.heap.size, 8, none⟩ = some (.slice none 0 0) := (HE.out.row 0 rfl).cellAt 8 (by decide)
  have y9 : WW.cell? ⟨w.heap.size, 9, none⟩ = some (.int .i64 0) := (HE.out.row 0 rfl).cellAt 9 (by decide)
  have y10 : WW.cell? ⟨w.heap.size, 10, none⟩ = some (.int .i64 0) := (HE.out.row 0 rfl).cellAt 10 (by decide)
  have y11 : WW.cell? ⟨w.heap.size, 11, none⟩ = some (.int .i64 0) := (HE.out.row 0 rfl).cellAt 11 (by decide)
  have y12 : WW.cell? ⟨w.heap.size, 12, none⟩ = some (.int .i64 0) := (HE.out.row 0 rfl).cellAt 12 (by decide)
  have y13 : WW.cell? ⟨w.heap.size, 13, none⟩ = some (.int .i64 0) := (HE.out.row 0 rfl).cellAt 13 (by decide)
  have y14 : WW.cell? ⟨w.heap.size, 14, none⟩ = some (.int .i64 0) := (HE.out.row 0 rfl).cellAt 14 (by decide)
  have y15 : WW.cell? ⟨w.heap.size, 15, none⟩ = some (.int .i64 0) := (HE.out.row 0 rfl).cellAt 15 (by decide)
  have y16 : WW.cell? ⟨w.heap.size, 16, none⟩ = some (.int .i64 0) := (HE.out.row 0 rfl).cellAt 16 (by decide)
  have y17 : WW.cell? ⟨w.heap.size, 17, none⟩ = some (.int .u8 0) := (HE.out.row 0 rfl).cellAt 17 (by decide)
  have y18 : WW.cell? ⟨w.heap.size, 18, none⟩ = some (.int .u8 0) := (HE.out.row 0 rfl).cellAt 18 (by decide)
  have y19 : WW.cell? ⟨w.heap.size, 19, none⟩ = some (.bool false) := (HE.out.row 0 rfl).cellAt 19 (by decide)
  have y20 : WW.cell? ⟨w.heap.size, 20, none⟩ = some (.int .i64 0) := (HE.out.row 0 rfl).cellAt 20 (by decide)
  have y21 : WW.cell? ⟨w.heap.size, 21, none⟩ = some (.int .i64 0) := (HE.out.row 0 rfl).cellAt 21 (by decide)
  have y22 : WW.cell? ⟨w.heap.size, 22, none⟩ = some (.int .i64 0) := (HE.out.row 0 rfl).cellAt 22 (by decide)
  have y23 : WW.cell? ⟨w.heap.size, 23, none⟩ = some (.int .i64 0) := (HE.out.row 0 rfl).cellAt 23 (by decide)
  have y24 : WW.cell? ⟨w.heap.size, 24, none⟩ = some (.bool false) := (HE.out.row 0 rfl).cellAt 24 (by decide)
  have y25 : WW.cell? ⟨w.heap.size, 25, none⟩ = some (.bool false) := (HE.out.row 0 rfl).cellAt 25 (by decide)
  have x0 : WW.cell? ⟨w1.heap.size, 0, none⟩ = some (.string ⟨#[115, 121, 110, 99]⟩) := (HE.out.row 1 rfl).cellAt 0 (by decide)
  have x1 : WW.cell? ⟨w1.heap.size, 1, none⟩ = some (.slice none 0 0) := (HE.out.row 1 rfl).cellAt 1 (by decide)
  have x2 : WW.cell? ⟨w1.heap.size, 2, none⟩ = some (.string ⟨#[]⟩) := (HE.out.row 1 rfl).cellAt 2 (by decide)
  have z1 : WW.cell? ⟨(w1.heap.size + 1), 1, none⟩ = some (.int .i64 0) := (HE.out.row 2 rfl).cellAt 1 (by decide)
  have z2 : WW.cell? ⟨(w1.heap.size + 1), 2, none⟩ = some (.int .i64 0) := (HE.out.row 2 rfl).cellAt 2 (by decide)
  have z9 : WW.cell? ⟨(w1.heap.size + 1), 9, none⟩ = some (.int .i64 0) := (HE.out.row 2 rfl).cellAt 9 (by decide)
  have z10 : WW.cell? ⟨(w1.heap.size + 1), 10, none⟩ = some (.int .i64 0) := (HE.out.row 2 rfl).cellAt 10 (by decide)
  have z11 : WW.cell? ⟨(w1.heap.size + 1), 11, none⟩ = some (.int .i64 0) := (HE.out.row 2 rfl).cellAt 11 (by decide)
  have z12 : WW.cell? ⟨(w1.heap.size + 1), 12, none⟩ = some (.int .i64 0) := (HE.out.row 2 rfl).cellAt 12 (by decide)
  have z13 : WW.cell? ⟨(w1.heap.size + 1), 13, none⟩ = some (.int .i64 0) := (HE.out.row 2 rfl).cellAt 13 (by decide)
  have z14 : WW.cell? ⟨(w1.heap.size + 1), 14, none⟩ = some (.int .i64 0) := (HE.out.row 2 rfl).cellAt 14 (by decide)
  have z15 : WW.cell? ⟨(w1.heap.size + 1), 15, none⟩ = some (.int .i64 0) := (HE.out.row 2 rfl).cellAt 15 (by decide)
  have z16 : WW.cell? ⟨(w1.heap.size + 1), 16, none⟩ = some (.int .i64 0) := (HE.out.row 2 rfl).cellAt 16 (by decide)
  have z17 : WW.cell? ⟨(w1.heap.size + 1), 17, none⟩ = some (.int .u8 0) := (HE.out.row 2 rfl).cellAt 17 (by decide)
  have z18 : WW.cell? ⟨(w1.heap.size + 1), 18, none⟩ = some (.int .u8 0) := (HE.out.row 2 rfl).cellAt 18 (by decide)
  have z19 : WW.cell? ⟨(w1.heap.size + 1), 19, none⟩ = some (.bool false) := (HE.out.row 2 rfl).cellAt 19 (by decide)
  have z20 : WW.cell? ⟨(w1.heap.size + 1), 20, none⟩ = some (.int .i64 0) := (HE.out.row 2 rfl).cellAt 20 (by decide)
  have z21 : WW.cell? ⟨(w1.heap.size + 1), 21, none⟩ = some (.int .i64 0) := (HE.out.row 2 rfl).cellAt 21 (by decide)
  have z22 : WW.cell? ⟨(w1.heap.size + 1), 22, none⟩ = some (.int .i64 0) := (HE.out.row 2 rfl).cellAt 22 (by decide)
  have z23 : WW.cell? ⟨(w1.heap.size + 1), 23, none⟩ = some (.int .i64 0) := (HE.out.row 2 rfl).cellAt 23 (by decide)
  have z24 : WW.cell? ⟨(w1.heap.size + 1), 24, none⟩ = some (.bool false) := (HE.out.row 2 rfl).cellAt 24 (by decide)
  have z25 : WW.cell? ⟨(w1.heap.size + 1), 25, none⟩ = some (.bool false) := (HE.out.row 2 rfl).cellAt 25 (by decide)
  go_wp2_with (with_reducible refine upon_id ?_; go_simp)
  refine (empty_zero HE.out 0 none).mono ?_
  rintro e w3 ⟨rfl, h3⟩
  have HE3 := Lib.hid h3
  have v0 : w3.cell? ⟨w1.heap.size, 0, none⟩ = some (.string ⟨#[115, 121, 110, 99]⟩) := (HE3.out.row 1 rfl).cellAt 0 (by decide)
  have v1 : w3.cell? ⟨w1.heap.size, 1, none⟩ = some (.slice none 0 0) := (HE3.out.row 1 rfl).cellAt 1 (by decide)
  have v2 : w3.cell? ⟨w1.heap.size, 2, none⟩ = some (.string ⟨#[]⟩) := (HE3.out.row 1 rfl).cellAt 2 (by decide)
  clear h3
  go_wp2_with (with_reducible refine upon_id ?_; go_simp)
  refine wp_loop_rounds 1 ?_
  rw [rounds_succ]
  go_wp2_with (with_reducible refine upon_id ?_; go_simp)
  refine bodyPost_ret (v := .tuple #[.string ⟨#[115, 121, 110, 99]⟩, .bool true]) (by simp [results, Tryd.results12]) rfl ?_
  exact ⟨rfl, HE3.out.below⟩
set_option maxHeartbeats 4000000 in
theorem format_flush (size : Int) (w : World) :
    Calls Tryd.prog 12 #[.int .i64 size, .agg #[.int .i64 6, .int .i64 0, .int .i64 0, .int .i64 0, .int .i64 0, .int .i64 0, .int .i64 0, .int .i64 0, .slice none 0 0, .int .i64 0, .int .i64 0, .int .i64 0, .int .i64 0, .int .i64 0, .int .i64 0, .int .i64 0, .int .i64 0, .int .u8 0, .int .u8 0, .bool false, .int .i64 0, .int .i64 0, .int .i64 0, .int .i64 0, .bool false, .bool false]] w fun e w' => e = .returned (.tuple #[.string ⟨#[102, 108, 117, 115, 104]⟩, .bool true]) ∧ Below w.heap.size w w' := by
  have H0 := (Ow.of (St.refl w)).arr #[.int .i64 6, .int .i64 0, .int .i64 0, .int .i64 0, .int .i64 0, .int .i64 0, .int .i64 0, .int .i64 0, .slice none 0 0, .int .i64 0, .int .i64 0, .int .i64 0, .int .i64 0, .int .i64 0, .int .i64 0, .int .i64 0, .int .i64 0, .int .u8 0, .int .u8 0, .bool false, .int .i64 0, .int .i64 0, .int .i64 0, .int .i64 0, .bool false, .bool false] 26 rfl (by omega) 37
  simp only [List.nil_append] at H0
  have HO0 := Lib.hid H0
  clear H0
  go_enter Tryd.func12, Tryd.ntmps12
  have hg0 := Lib.hid ((HO0.out.rowHeap 0 rfl).1)
  go_upto_region 1 with fail
  repeat (first | refine wpList_load_row rfl 37 (.tmp 3) rfl w.heap.size rfl 37 #[.int .i64 6, .int .i64 0, .int .i64 0, .int .i64 0, .int .i64 0, .int .i64 0, .int .i64 0, .int .i64 0, .slice none 0 0, .int .i64 0, .int .i64 0, .int .i64 0, .int .i64 0, .int .i64 0, .int .i64 0, .int .i64 0, .int .i64 0, .int .u8 0, .int .u8 0, .bool false, .int .i64 0, .int .i64 0, .int .i64 0, .int .i64 0, .bool false, .bool false] (0, 0) _ hg0.out Tryd.underlying37 rfl sizeEv ?_ | go_step)
  refine (line_flush _).mono ?_
  rintro e w1 ⟨rfl, hb⟩
  have H1 := (HO0.out.go hb).arr #[.string ⟨#[]⟩, .slice none 0 0, .string ⟨#[]⟩] 3 rfl (by omega) 69
  have H2 := H1.arr #[.int .i64 0, .int .i64 0, .int .i64 0, .int .i64 0, .int .i64 0, .int .i64 0, .int .i64 0, .int .i64 0, .slice none 0 0, .int .i64 0, .int .i64 0, .int .i64 0, .int .i64 0, .int .i64 0, .int .i64 0, .int .i64 0, .int .i64 0, .int .u8 0, .int .u8 0, .bool false, .int .i64 0, .int .i64 0, .int .i64 0, .int .i64 0, .bool false, .bool false] 26 rfl (by omega) 37
  simp only [World.size_alloc, List.cons_append, List.nil_append] at H2
  have hg1 := (H2.rowHeap 1 rfl).1
  have hp1 := H2.putRow (k := 3) 1 rfl #[.string ⟨#[102, 108, 117, 115, 104]⟩, .slice none 0 0, .string ⟨#[]⟩] rfl (by omega)
  simp only [List.set_cons_zero, List.set_cons_succ] at hp1
  have hg2 := (hp1.rowHeap 2 rfl).1
  have hp2 := hp1.putRow (k := 26) 2 rfl #[.int .i64 6, .int .i64 0, .int .i64 0, .int .i64 0, .int .i64 0, .int .i64 0, .int .i64 0, .int .i64 0, .slice none 0 0, .int .i64 0, .int .i64 0, .int .i64 0, .int .i64 0, .int .i64 0, .int .i64 0, .int .i64 0, .int .i64 0, .int .u8 0, .int .u8 0, .bool false, .int .i64 0, .int .i64 0, .int .i64 0, .int .i64 0, .bool false, .bool false] rfl (by omega)
  simp only [List.set_cons_zero, List.set_cons_succ] at hp2
  have HG1 := Lib.hid hg1
  have HG2 := Lib.hid hg2
  have HE := Lib.hid hp2
  clear hg1 hp1 hg2 hp2 H1 H2 HO0 hg0
  dsimp only
  repeat (first | refine wpList_store_row rfl 69 (.tmp 6) (.tmp 14) rfl w1.heap.size #[.string ⟨#[102, 108, 117, 115, 104]⟩, .slice none 0 0, .string ⟨#[]⟩] rfl rfl 69 _ HG1.out sizeWd rfl (by simp [Value.oneCell']) ?_ | refine wpList_store_row rfl 37 (.tmp 7) (.tmp 15) rfl (w1.heap.size + 1) #[.int .i64 6, .int .i64 0, .int .i64 0, .int .i64 0, .int .i64 0, .int .i64 0, .int .i64 0, .int .i64 0, .slice none 0 0, .int .i64 0, .int .i64 0, .int .i64 0, .int .i64 0, .int .i64 0, .int .i64 0, .int .i64 0, .int .i64 0, .int .u8 0, .int .u8 0, .bool false, .int .i64 0, .int .i64 0, .int .i64 0, .int .i64 0, .bool false, .bool false] rfl rfl 37 _ HG2.out sizeEv rfl (by simp [Value.oneCell']) ?_ | go_step)
  generalize hWW : (World.setRow (World.setRow _ _ _) _ _) = WW at *
  clear hWW HG1 HG2
  have y0 : WW.cell? ⟨w.heap.size, 0, none⟩ = some (.int .i64 6) := (HE.out.row 0 rfl).cellAt 0 (by decide)
  have y1 : WW.cell? ⟨w.heap.size, 1, none⟩ = some (.int .i64 0) := (HE.out.row 0 rfl).cellAt 1 (by decide)
  have y2 : WW.cell? ⟨w.heap.size, 2, none⟩ = some (.int .i64 0) := (HE.out.row 0 rfl).cellAt 2 (by decide)
  have y3 : WW.cell? ⟨w.heap.size, 3, none⟩ = some (.int .i64 0) := (HE.out.row 0 rfl).cellAt 3 (by decide)
  have y4 : WW.cell? ⟨w.heap.size, 4, none⟩ = some (.int .i64 0) := (HE.out.row 0 rfl).cellAt 4 (by decide)
  have y5 : WW.cell? ⟨w.heap.size, 5, none⟩ = some (.int .i64 0) := (HE.out.row 0 rfl).cellAt 5 (by decide)
  have y6 : WW.cell? ⟨w.heap.size, 6, none⟩ = some (.int .i64 0) := (HE.out.row 0 rfl).cellAt 6 (by decide)
  have y7 : WW.cell? ⟨w.heap.size, 7, none⟩ = some (.int .i64 0) := (HE.out.row 0 rfl).cellAt 7 (by decide)
  have y8 : WW.cell? ⟨w.heap.size, 8, none⟩ = some (.slice none 0 0) := (HE.out.row 0 rfl).cellAt 8 (by decide)
  have y9 : WW.cell? ⟨w.heap.size, 9, none⟩ = some (.int .i64 0) := (HE.out.row 0 rfl).cellAt 9 (by decide)
  have y10 : WW.cell? ⟨w.heap.size, 10, none⟩ = some (.int .i64 0) := (HE.out.row 0 rfl).cellAt 10 (by decide)
  have y11 : WW.cell? ⟨w.heap.size, 11, none⟩ = some (.int .i64 0) := (HE.out.row 0 rfl).cellAt 11 (by decide)
  have y12 : WW.cell? ⟨w.heap.size, 12, none⟩ = some (.int .i64 0) := (HE.out.row 0 rfl).cellAt 12 (by decide)
  have y13 : WW.cell? ⟨w.heap.size, 13, none⟩ = some (.int .i64 0) := (HE.out.row 0 rfl).cellAt 13 (by decide)
  have y14 : WW.cell? ⟨w.heap.size, 14, none⟩ = some (.int .i64 0) := (HE.out.row 0 rfl).cellAt 14 (by decide)
  have y15 : WW.cell? ⟨w.heap.size, 15, none⟩ = some (.int .i64 0) := (HE.out.row 0 rfl).cellAt 15 (by decide)
  have y16 : WW.cell? ⟨w.heap.size, 16, none⟩ = some (.int .i64 0) := (HE.out.row 0 rfl).cellAt 16 (by decide)
  have y17 : WW.cell? ⟨w.heap.size, 17, none⟩ = some (.int .u8 0) := (HE.out.row 0 rfl).cellAt 17 (by decide)
  have y18 : WW.cell? ⟨w.heap.size, 18, none⟩ = some (.int .u8 0) := (HE.out.row 0 rfl).cellAt 18 (by decide)
  have y19 : WW.cell? ⟨w.heap.size, 19, none⟩ = some (.bool false) := (HE.out.row 0 rfl).cellAt 19 (by decide)
  have y20 : WW.cell? ⟨w.heap.size, 20, none⟩ = some (.int .i64 0) := (HE.out.row 0 rfl).cellAt 20 (by decide)
  have y21 : WW.cell? ⟨w.heap.size, 21, none⟩ = some (.int .i64 0) := (HE.out.row 0 rfl).cellAt 21 (by decide)
  have y22 : WW.cell? ⟨w.heap.size, 22, none⟩ = some (.int .i64 0) := (HE.out.row 0 rfl).cellAt 22 (by decide)
  have y23 : WW.cell? ⟨w.heap.size, 23, none⟩ = some (.int .i64 0) := (HE.out.row 0 rfl).cellAt 23 (by decide)
  have y24 : WW.cell? ⟨w.heap.size, 24, none⟩ = some (.bool false) := (HE.out.row 0 rfl).cellAt 24 (by decide)
  have y25 : WW.cell? ⟨w.heap.size, 25, none⟩ = some (.bool false) := (HE.out.row 0 rfl).cellAt 25 (by decide)
  have x0 : WW.cell? ⟨w1.heap.size, 0, none⟩ = some (.string ⟨#[102, 108, 117, 115, 104]⟩) := (HE.out.row 1 rfl).cellAt 0 (by decide)
  have x1 : WW.cell? ⟨w1.heap.size, 1, none⟩ = some (.slice none 0 0) := (HE.out.row 1 rfl).cellAt 1 (by decide)
  have x2 : WW.cell? ⟨w1.heap.size, 2, none⟩ = some (.string ⟨#[]⟩) := (HE.out.row 1 rfl).cellAt 2 (by decide)
  have z1 : WW.cell? ⟨(w1.heap.size + 1), 1, none⟩ = some (.int .i64 0) := (HE.out.row 2 rfl).cellAt 1 (by decide)
  have z2 : WW.cell? ⟨(w1.heap.size + 1), 2, none⟩ = some (.int .i64 0) := (HE.out.row 2 rfl).cellAt 2 (by decide)
  have z9 : WW.cell? ⟨(w1.heap.size + 1), 9, none⟩ = some (.int .i64 0) := (HE.out.row 2 rfl).cellAt 9 (by decide)
  have z10 : WW.cell? ⟨(w1.heap.size + 1), 10, none⟩ = some (.int .i64 0) := (HE.out.row 2 rfl).cellAt 10 (by decide)
  have z11 : WW.cell? ⟨(w1.heap.size + 1), 11, none⟩ = some (.int .i64 0) := (HE.out.row 2 rfl).cellAt 11 (by decide)
  have z12 : WW.cell? ⟨(w1.heap.size + 1), 12, none⟩ = some (.int .i64 0) := (HE.out.row 2 rfl).cellAt 12 (by decide)
  have z13 : WW.cell? ⟨(w1.heap.size + 1), 13, none⟩ = some (.int .i64 0) := (HE.out.row 2 rfl).cellAt 13 (by decide)
  have z14 : WW.cell? ⟨(w1.heap.size + 1), 14, none⟩ = some (.int .i64 0) := (HE.out.row 2 rfl).cellAt 14 (by decide)
  have z15 : WW.cell? ⟨(w1.heap.size + 1), 15, none⟩ = some (.int .i64 0) := (HE.out.row 2 rfl).cellAt 15 (by decide)
  have z16 : WW.cell? ⟨(w1.heap.size + 1), 16, none⟩ = some (.int .i64 0) := (HE.out.row 2 rfl).cellAt 16 (by decide)
  have z17 : WW.cell? ⟨(w1.heap.size + 1), 17, none⟩ = some (.int .u8 0) := (HE.out.row 2 rfl).cellAt 17 (by decide)
  have z18 : WW.cell? ⟨(w1.heap.size + 1), 18, none⟩ = some (.int .u8 0) := (HE.out.row 2 rfl).cellAt 18 (by decide)
  have z19 : WW.cell? ⟨(w1.heap.size + 1), 19, none⟩ = some (.bool false) := (HE.out.row 2 rfl).cellAt 19 (by decide)
  have z20 : WW.cell? ⟨(w1.heap.size + 1), 20, none⟩ = some (.int .i64 0) := (HE.out.row 2 rfl).cellAt 20 (by decide)
  have z21 : WW.cell? ⟨(w1.heap.size + 1), 21, none⟩ = some (.int .i64 0) := (HE.out.row 2 rfl).cellAt 21 (by decide)
  have z22 : WW.cell? ⟨(w1.heap.size + 1), 22, none⟩ = some (.int .i64 0) := (HE.out.row 2 rfl).cellAt 22 (by decide)
  have z23 : WW.cell? ⟨(w1.heap.size + 1), 23, none⟩ = some (.int .i64 0) := (HE.out.row 2 rfl).cellAt 23 (by decide)
  have z24 : WW.cell? ⟨(w1.heap.size + 1), 24, none⟩ = some (.bool false) := (HE.out.row 2 rfl).cellAt 24 (by decide)
  have z25 : WW.cell? ⟨(w1.heap.size + 1), 25, none⟩ = some (.bool false) := (HE.out.row 2 rfl).cellAt 25 (by decide)
  go_wp2_with (with_reducible refine upon_id ?_; go_simp)
  refine (empty_zero HE.out 0 none).mono ?_
  rintro e w3 ⟨rfl, h3⟩
  have HE3 := Lib.hid h3
  have v0 : w3.cell? ⟨w1.heap.size, 0, none⟩ = some (.string ⟨#[102, 108, 117, 115, 104]⟩) := (HE3.out.row 1 rfl).cellAt 0 (by decide)
  have v1 : w3.cell? ⟨w1.heap.size, 1, none⟩ = some (.slice none 0 0) := (HE3.out.row 1 rfl).cellAt 1 (by decide)
  have v2 : w3.cell? ⟨w1.heap.size, 2, none⟩ = some (.string ⟨#[]⟩) := (HE3.out.row 1 rfl).cellAt 2 (by decide)
  clear h3
  go_wp2_with (with_reducible refine upon_id ?_; go_simp)
  refine wp_loop_rounds 1 ?_
  rw [rounds_succ]
  go_wp2_with (with_reducible refine upon_id ?_; go_simp)
  refine bodyPost_ret (v := .tuple #[.string ⟨#[102, 108, 117, 115, 104]⟩, .bool true]) (by simp [results, Tryd.results12]) rfl ?_
  exact ⟨rfl, HE3.out.below⟩
set_option maxHeartbeats 4000000 in
theorem format_zero (size : Int) (w : World) :
    Calls Tryd.prog 12 #[.int .i64 size, .agg #[.int .i64 0, .int .i64 0, .int .i64 0, .int .i64 0, .int .i64 0, .int .i64 0, .int .i64 0, .int .i64 0, .slice none 0 0, .int .i64 0, .int .i64 0, .int .i64 0, .int .i64 0, .int .i64 0, .int .i64 0, .int .i64 0, .int .i64 0, .int .u8 0, .int .u8 0, .bool false, .int .i64 0, .int .i64 0, .int .i64 0, .int .i64 0, .bool false, .bool false]] w fun e w' => e = .returned (.tuple #[.string ⟨#[]⟩, .bool false]) ∧ Below w.heap.size w w' := by
  have H0 := (Ow.of (St.refl w)).arr #[.int .i64 0, .int .i64 0, .int .i64 0, .int .i64 0, .int .i64 0, .int .i64 0, .int .i64 0, .int .i64 0, .slice none 0 0, .int .i64 0, .int .i64 0, .int .i64 0, .int .i64 0, .int .i64 0, .int .i64 0, .int .i64 0, .int .i64 0, .int .u8 0, .int .u8 0, .bool false, .int .i64 0, .int .i64 0, .int .i64 0, .int .i64 0, .bool false, .bool false] 26 rfl (by omega) 37
  simp only [List.nil_append] at H0
  have HO0 := Lib.hid H0
  clear H0
  go_enter Tryd.func12, Tryd.ntmps12
  have hg0 := Lib.hid ((HO0.out.rowHeap 0 rfl).1)
  go_upto_region 1 with fail
  repeat (first | refine wpList_load_row rfl 37 (.tmp 3) rfl w.heap.size rfl 37 #[.int .i64 0, .int .i64 0, .int .i64 0, .int .i64 0, .int .i64 0, .int .i64 0, .int .i64 0, .int .i64 0, .slice none 0 0, .int .i64 0, .int .i64 0, .int .i64 0, .int .i64 0, .int .i64 0, .int .i64 0, .int .i64 0, .int .i64 0, .int .u8 0, .int .u8 0, .bool false, .int .i64 0, .int .i64 0, .int .i64 0, .int .i64 0, .bool false, .bool false] (0, 0) _ hg0.out Tryd.underlying37 rfl sizeEv ?_ | go_step)
  refine (line_zero _).mono ?_
  rintro e w1 ⟨rfl, hb⟩
  have H1 := (HO0.out.go hb).arr #[.string ⟨#[]⟩, .slice none 0 0, .string ⟨#[]⟩] 3 rfl (by omega) 69
  have H2 := H1.arr #[.int .i64 0, .int .i64 0, .int .i64 0, .int .i64 0, .int .i64 0, .int .i64 0, .int .i64 0, .int .i64 0, .slice none 0 0, .int .i64 0, .int .i64 0, .int .i64 0, .int .i64 0, .int .i64 0, .int .i64 0, .int .i64 0, .int .i64 0, .int .u8 0, .int .u8 0, .bool false, .int .i64 0, .int .i64 0, .int .i64 0, .int .i64 0, .bool false, .bool false] 26 rfl (by omega) 37
  simp only [World.size_alloc, List.cons_append, List.nil_append] at H2
  have hg1 := (H2.rowHeap 1 rfl).1
  have hp1 := H2.putRow (k := 3) 1 rfl #[.string ⟨#[]⟩, .slice none 0 0, .string ⟨#[]⟩] rfl (by omega)
  simp only [List.set_cons_zero, List.set_cons_succ] at hp1
  have hg2 := (hp1.rowHeap 2 rfl).1
  have hp2 := hp1.putRow (k := 26) 2 rfl #[.int .i64 0, .int .i64 0, .int .i64 0, .int .i64 0, .int .i64 0, .int .i64 0, .int .i64 0, .int .i64 0, .slice none 0 0, .int .i64 0, .int .i64 0, .int .i64 0, .int .i64 0, .int .i64 0, .int .i64 0, .int .i64 0, .int .i64 0, .int .u8 0, .int .u8 0, .bool false, .int .i64 0, .int .i64 0, .int .i64 0, .int .i64 0, .bool false, .bool false] rfl (by omega)
  simp only [List.set_cons_zero, List.set_cons_succ] at hp2
  have HG1 := Lib.hid hg1
  have HG2 := Lib.hid hg2
  have HE := Lib.hid hp2
  clear hg1 hp1 hg2 hp2 H1 H2 HO0 hg0
  dsimp only
  repeat (first | refine wpList_store_row rfl 69 (.tmp 6) (.tmp 14) rfl w1.heap.size #[.string ⟨#[]⟩, .slice none 0 0, .string ⟨#[]⟩] rfl rfl 69 _ HG1.out sizeWd rfl (by simp [Value.oneCell']) ?_ | refine wpList_store_row rfl 37 (.tmp 7) (.tmp 15) rfl (w1.heap.size + 1) #[.int .i64 0, .int .i64 0, .int .i64 0, .int .i64 0, .int .i64 0, .int .i64 0, .int .i64 0, .int .i64 0, .slice none 0 0, .int .i64 0, .int .i64 0, .int .i64 0, .int .i64 0, .int .i64 0, .int .i64 0, .int .i64 0, .int .i64 0, .int .u8 0, .int .u8 0, .bool false, .int .i64 0, .int .i64 0, .int .i64 0, .int .i64 0, .bool false, .bool false] rfl rfl 37 _ HG2.out sizeEv rfl (by simp [Value.oneCell']) ?_ | go_step)
  generalize hWW : (World.setRow (World.setRow _ _ _) _ _) = WW at *
  clear hWW HG1 HG2
  have y0 : WW.cell? ⟨w.heap.size, 0, none⟩ = some (.int .i64 0) := (HE.out.row 0 rfl).cellAt 0 (by decide)
  have y1 : WW.cell? ⟨w.heap.size, 1, none⟩ = some (.int .i64 0) := (HE.out.row 0 rfl).cellAt 1 (by decide)
  have y2 : WW.cell? ⟨w.heap.size, 2, none⟩ = some (.int .i64 0) := (HE.out.row 0 rfl).cellAt 2 (by decide)
  have y3 : WW.cell? ⟨w.heap.size, 3, none⟩ = some (.int .i64 0) := (HE.out.row 0 rfl).cellAt 3 (by decide)
  have y4 : WW.cell? ⟨w.heap.size, 4, none⟩ = some (.int .i64 0) := (HE.out.row 0 rfl).cellAt 4 (by decide)
  have y5 : WW.cell? ⟨w.heap.size, 5, none⟩ = some (.int .i64 0) := (HE.out.row 0 rfl).cellAt 5 (by decide)
  have y6 : WW.cell? ⟨w.heap.size, 6, none⟩ = some (.int .i64 0) := (HE.out.row 0 rfl).cellAt 6 (by decide)
  have y7 : WW.cell? ⟨w.heap.size, 7, none⟩ = some (.int .i64 0) := (HE.out.row 0 rfl).cellAt 7 (by decide)
  have y8 : WW.cell? ⟨w.heap.size, 8, none⟩ = some (.slice none 0 0) := (HE.out.row 0 rfl).cellAt 8 (by decide)
  have y9 : WW.cell? ⟨w.heap.size, 9, none⟩ = some (.int .i64 0) := (HE.out.row 0 rfl).cellAt 9 (by decide)
  have y10 : WW.cell? ⟨w.heap.size, 10, none⟩ = some (.int .i64 0) := (HE.out.row 0 rfl).cellAt 10 (by decide)
  have y11 : WW.cell? ⟨w.heap.size, 11, none⟩ = some (.int .i64 0) := (HE.out.row 0 rfl).cellAt 11 (by decide)
  have y12 : WW.cell? ⟨w.heap.size, 12, none⟩ = some (.int .i64 0) := (HE.out.row 0 rfl).cellAt 12 (by decide)
  have y13 : WW.cell? ⟨w.heap.size, 13, none⟩ = some (.int .i64 0) := (HE.out.row 0 rfl).cellAt 13 (by decide)
  have y14 : WW.cell? ⟨w.heap.size, 14, none⟩ = some (.int .i64 0) := (HE.out.row 0 rfl).cellAt 14 (by decide)
  have y15 : WW.cell? ⟨w.heap.size, 15, none⟩ = some (.int .i64 0) := (HE.out.row 0 rfl).cellAt 15 (by decide)
  have y16 : WW.cell? ⟨w.heap.size, 16, none⟩ = some (.int .i64 0) := (HE.out.row 0 rfl).cellAt 16 (by decide)
  have y17 : WW.cell? ⟨w.heap.size, 17, none⟩ = some (.int .u8 0) := (HE.out.row 0 rfl).cellAt 17 (by decide)
  have y18 : WW.cell? ⟨w.heap.size, 18, none⟩ = some (.int .u8 0) := (HE.out.row 0 rfl).cellAt 18 (by decide)
  have y19 : WW.cell? ⟨w.heap.size, 19, none⟩ = some (.bool false) := (HE.out.row 0 rfl).cellAt 19 (by decide)
  have y20 : WW.cell? ⟨w.heap.size, 20, none⟩ = some (.int .i64 0) := (HE.out.row 0 rfl).cellAt 20 (by decide)
  have y21 : WW.cell? ⟨w.heap.size, 21, none⟩ = some (.int .i64 0) := (HE.out.row 0 rfl).cellAt 21 (by decide)
  have y22 : WW.cell? ⟨w.heap.size, 22, none⟩ = some (.int .i64 0) := (HE.out.row 0 rfl).cellAt 22 (by decide)
  have y23 : WW.cell? ⟨w.heap.size, 23, none⟩ = some (.int .i64 0) := (HE.out.row 0 rfl).cellAt 23 (by decide)
  have y24 : WW.cell? ⟨w.heap.size, 24, none⟩ = some (.bool false) := (HE.out.row 0 rfl).cellAt 24 (by decide)
  have y25 : WW.cell? ⟨w.heap.size, 25, none⟩ = some (.bool false) := (HE.out.row 0 rfl).cellAt 25 (by decide)
  have x0 : WW.cell? ⟨w1.heap.size, 0, none⟩ = some (.string ⟨#[]⟩) := (HE.out.row 1 rfl).cellAt 0 (by decide)
  have x1 : WW.cell? ⟨w1.heap.size, 1, none⟩ = some (.slice none 0 0) := (HE.out.row 1 rfl).cellAt 1 (by decide)
  have x2 : WW.cell? ⟨w1.heap.size, 2, none⟩ = some (.string ⟨#[]⟩) := (HE.out.row 1 rfl).cellAt 2 (by decide)
  have z1 : WW.cell? ⟨(w1.heap.size + 1), 1, none⟩ = some (.int .i64 0) := (HE.out.row 2 rfl).cellAt 1 (by decide)
  have z2 : WW.cell? ⟨(w1.heap.size + 1), 2, none⟩ = some (.int .i64 0) := (HE.out.row 2 rfl).cellAt 2 (by decide)
  have z9 : WW.cell? ⟨(w1.heap.size + 1), 9, none⟩ = some (.int .i64 0) := (HE.out.row 2 rfl).cellAt 9 (by decide)
  have z10 : WW.cell? ⟨(w1.heap.size + 1), 10, none⟩ = some (.int .i64 0) := (HE.out.row 2 rfl).cellAt 10 (by decide)
  have z11 : WW.cell? ⟨(w1.heap.size + 1), 11, none⟩ = some (.int .i64 0) := (HE.out.row 2 rfl).cellAt 11 (by decide)
  have z12 : WW.cell? ⟨(w1.heap.size + 1), 12, none⟩ = some (.int .i64 0) := (HE.out.row 2 rfl).cellAt 12 (by decide)
  have z13 : WW.cell? ⟨(w1.heap.size + 1), 13, none⟩ = some (.int .i64 0) := (HE.out.row 2 rfl).cellAt 13 (by decide)
  have z14 : WW.cell? ⟨(w1.heap.size + 1), 14, none⟩ = some (.int .i64 0) := (HE.out.row 2 rfl).cellAt 14 (by decide)
  have z15 : WW.cell? ⟨(w1.heap.size + 1), 15, none⟩ = some (.int .i64 0) := (HE.out.row 2 rfl).cellAt 15 (by decide)
  have z16 : WW.cell? ⟨(w1.heap.size + 1), 16, none⟩ = some (.int .i64 0) := (HE.out.row 2 rfl).cellAt 16 (by decide)
  have z17 : WW.cell? ⟨(w1.heap.size + 1), 17, none⟩ = some (.int .u8 0) := (HE.out.row 2 rfl).cellAt 17 (by decide)
  have z18 : WW.cell? ⟨(w1.heap.size + 1), 18, none⟩ = some (.int .u8 0) := (HE.out.row 2 rfl).cellAt 18 (by decide)
  have z19 : WW.cell? ⟨(w1.heap.size + 1), 19, none⟩ = some (.bool false) := (HE.out.row 2 rfl).cellAt 19 (by decide)
  have z20 : WW.cell? ⟨(w1.heap.size + 1), 20, none⟩ = some (.int .i64 0) := (HE.out.row 2 rfl).cellAt 20 (by decide)
  have z21 : WW.cell? ⟨(w1.heap.size + 1), 21, none⟩ = some (.int .i64 0) := (HE.out.row 2 rfl).cellAt 21 (by decide)
  have z22 : WW.cell? ⟨(w1.heap.size + 1), 22, none⟩ = some (.int .i64 0) := (HE.out.row 2 rfl).cellAt 22 (by decide)
  have z23 : WW.cell? ⟨(w1.heap.size + 1), 23, none⟩ = some (.int .i64 0) := (HE.out.row 2 rfl).cellAt 23 (by decide)
  have z24 : WW.cell? ⟨(w1.heap.size + 1), 24, none⟩ = some (.bool false) := (HE.out.row 2 rfl).cellAt 24 (by decide)
  have z25 : WW.cell? ⟨(w1.heap.size + 1), 25, none⟩ = some (.bool false) := (HE.out.row 2 rfl).cellAt 25 (by decide)
  go_wp2_with (with_reducible refine upon_id ?_; go_simp)
  refine bodyPost_ret (v := .tuple #[.string ⟨#[]⟩, .bool false]) (by simp [results, Tryd.results12]) rfl ?_
  exact ⟨rfl, HE.out.below⟩
end Go.Proofs.YtpcmbmabmfghkaaDoor

namespace Go.Proofs.YtpcmbmabmfghkaaDoor
open Go.RowKit
set_option linter.unusedVariables false
set_option maxRecDepth 100000
theorem within_any (n a b : Int) (w : World) :
    Calls Tryd.prog 43 #[.int .i64 n, .int .i64 a, .int .i64 b] w fun e w' => e = .returned (.bool (decide (a ≤ n) && decide (n ≤ b))) ∧ w' = w := by
  by_cases h1 : a ≤ n
  · have d1 : decide (a ≤ n) = true := by simp; omega
    by_cases h2 : n ≤ b
    · have d2 : decide (n ≤ b) = true := by simp; omega
      clear h1 h2
      rw [d1, d2]
      go_enter Tryd.func43, Tryd.ntmps43
      go_wp2_with fail
      go_ret
      exact ⟨rfl, rfl⟩
    · have d2 : decide (n ≤ b) = false := by simp; omega
      clear h1 h2
      rw [d1, d2]
      go_enter Tryd.func43, Tryd.ntmps43
      go_wp2_with fail
      go_ret
      exact ⟨rfl, rfl⟩
  · have d1 : decide (a ≤ n) = false := by simp; omega
    clear h1
    rw [d1, Bool.false_and]
    go_enter Tryd.func43, Tryd.ntmps43
    go_wp2_with fail
    go_ret
    exact ⟨rfl, rfl⟩
set_option maxHeartbeats 1000000 in
theorem valid_two (k c : Nat) (A : Option Addr) (r : Bool) (hr : ((k : Int) == 2) = r) (w : World) :
    Calls Tryd.prog 22 #[.int .i64 2, .agg #[.int .i64 2, .int .i64 1, .int .i64 0, .int .i64 3, .int .i64 0, .slice A k c]] w fun e w' => e = .returned (.bool r) ∧ Below w.heap.size w w' := by
  have H0 := (Ow.of (St.refl w)).arr #[.int .i64 2, .int .i64 1, .int .i64 0, .int .i64 3, .int .i64 0, .slice A k c] 6 rfl (by omega) 29
  have HB := Lib.hid H0.below
  clear H0
  go_enter Tryd.func22, Tryd.ntmps22
  go_wp2_with (first | (go_at_call 43; refine (within_any _ _ _ _).mono ?_; rintro e w' ⟨rfl, rfl⟩) | (with_reducible refine upon_id ?_; go_simp))
  all_goals
    go_ret
    exact ⟨by simp_all, HB.out⟩
end Go.Proofs.YtpcmbmabmfghkaaDoor

namespace Go.Proofs.YtpcmbmabmfghkaaDoor
open Go.RowKit
set_option linter.unusedVariables false
set_option maxRecDepth 100000
theorem elemU8 : Elem Tryd.prog 27 5 (.int .u8 0) 1 := by
  obtain ⟨i0, hi, hz0, hz1, hz2⟩ := info_parts infoB'
  exact ⟨Tryd.underlying27, rfl, i0, hi, hz0, hz1, hz2⟩
structure Tx0K (w0 : World) (A : Option Addr) (c : Nat) (Ld : Nat → Bool) (u0 u1 u2 u3 u4 u5 u6 u7 u8 u9 : Value) (W : World) : Prop where
  ow : ∃ l : List Rw, Ow w0 W none [] [] (l) ∧ (Ld 7 = false → l = [(⟨none, 0, 0, 5, []⟩ : Rw)]) ∧ (Ld 7 = true → Ld 8 = false → ∃ lb : Nat, u7 = .slice (some ⟨lb, 0, none⟩) 2 2 ∧ l = [(⟨none, 0, 0, 5, []⟩ : Rw), (⟨some ⟨lb, 0, none⟩, 2, 2, 5, [.int .u8 48, .int .u8 48]⟩ : Rw)]) ∧ (Ld 8 = true → ∃ (A2 : Option Addr) (c2 : Nat), u8 = .slice A2 2 c2 ∧ l = [(⟨A2, 2, c2, 5, [.int .u8 48, .int .u8 48]⟩ : Rw)])
  n9 : Ld 9 = false → u9 = .slice none 0 0
  h0 : Ld 0 = true → u0 = .slice none 0 0
  h1 : Ld 1 = true → u1 = .int .u8 0
  h2 : Ld 2 = true → u2 = .int .u8 0
  h3 : Ld 3 = true → u3 = .int .u8 48
  h4 : Ld 4 = true → u4 = .int .u8 0
  h5 : Ld 5 = true → u5 = .int .u8 0
  h6 : Ld 6 = true → u6 = .int .u8 48
  h9 : Ld 9 = true → u9 = u8
def Tx0I (w0 : World) (A : Option Addr) (c : Nat) (A0 : Act) (Ld : Nat → Bool) (a : Act) (W : World) : Prop :=
  ∃ (u0 u1 u2 u3 u4 u5 u6 u7 u8 u9 : Value), a = ((((((((((A0.put (some 12) u0).put (some 13) u1).put (some 14) u2).put (some 15) u3).put (some 16) u4).put (some 17) u5).put (some 18) u6).put (some 19) u7).put (some 20) u8).put (some 3) u9) ∧ Tx0K w0 A c Ld u0 u1 u2 u3 u4 u5 u6 u7 u8 u9 W
structure Tx1K (w0 : World) (A : Option Addr) (c : Nat) (Ld : Nat → Bool) (u0 u1 u2 u3 u4 u5 u6 u7 u8 u9 : Value) (W : World) : Prop where
  ow : ∃ l : List Rw, Ow w0 W none [] [] (l) ∧ (Ld 7 = false → l = [(⟨A, 2, c, 5, [.int .u8 48, .int .u8 48]⟩ : Rw)]) ∧ (Ld 7 = true → Ld 8 = false → ∃ lb : Nat, u7 = .slice (some ⟨lb, 0, none⟩) 2 2 ∧ l = [(⟨A, 2, c, 5, [.int .u8 48, .int .u8 48]⟩ : Rw), (⟨some ⟨lb, 0, none⟩, 2, 2, 5, [.int .u8 102, .int .u8 102]⟩ : Rw)]) ∧ (Ld 8 = true → ∃ (A2 : Option Addr) (c2 : Nat), u8 = .slice A2 4 c2 ∧ l = [(⟨A2, 4, c2, 5, [.int .u8 48, .int .u8 48, .int .u8 102, .int .u8 102]⟩ : Rw)])
  n9 : Ld 9 = false → u9 = .slice A 2 c
  h0 : Ld 0 = true → u0 = .slice A 2 c
  h1 : Ld 1 = true → u1 = .int .u8 255
  h2 : Ld 2 = true → u2 = .int .u8 15
  h3 : Ld 3 = true → u3 = .int .u8 102
  h4 : Ld 4 = true → u4 = .int .u8 255
  h5 : Ld 5 = true → u5 = .int .u8 15
  h6 : Ld 6 = true → u6 = .int .u8 102
  h9 : Ld 9 = true → u9 = u8
def Tx1I (w0 : World) (A : Option Addr) (c : Nat) (A0 : Act) (Ld : Nat → Bool) (a : Act) (W : World) : Prop :=
  ∃ (u0 u1 u2 u3 u4 u5 u6 u7 u8 u9 : Value), a = ((((((((((A0.put (some 12) u0).put (some 13) u1).put (some 14) u2).put (some 15) u3).put (some 16) u4).put (some 17) u5).put (some 18) u6).put (some 19) u7).put (some 20) u8).put (some 3) u9) ∧ Tx1K w0 A c Ld u0 u1 u2 u3 u4 u5 u6 u7 u8 u9 W
set_option maxHeartbeats 2000000 in
theorem text_two (w : World) (db c : Nat) (hdb : db < w.heap.size) (c0 : w.cell? ⟨db, 0, none⟩ = some (.int .u8 0)) (c1 : w.cell? ⟨db, 1, none⟩ = some (.int .u8 255)) :
    Calls Tryd.prog 58 #[.slice (some ⟨db, 0, none⟩) 2 c] w fun e w' => e = .returned (.string ⟨#[48, 48, 102, 102]⟩) ∧ Below w.heap.size w w' := by
  have HO0 := Lib.hid ((Ow.of (St.refl w)).nil 5)
  have HD := Lib.hid hdb
  clear hdb
  go_enter Tryd.func58, Tryd.ntmps58
  go_wp2_with fail
  refine wp_loop_rounds 3 ?_
  rw [rounds_succ]
  go_upto_region 5 with (with_reducible refine upon_id ?_; go_simp)
  refine reg_inv34 (Tx0I w none 0) (by kernel_rfl) (by kernel_rfl) ?_ ?_ ?_
  · refine ⟨undef, undef, undef, undef, undef, undef, undef, undef, undef, .slice none 0 0, ?_, ⟨⟨_, HO0.out.drew, (fun _ => rfl), (fun h => by cases h), (fun h => by cases h)⟩, (fun _ => rfl), ?_, ?_, ?_, ?_, ?_, ?_, ?_, ?_⟩⟩
    · simp only [Act.put, List.setIfInBounds_toArray, List.set_cons_zero, List.set_cons_succ]
    all_goals (intro h; cases h)
  · rintro jj Ld b W hj hf hcl hd ⟨u0, u1, u2, u3, u4, u5, u6, u7, u8, u9, rfl, hC⟩
    have hj' : jj < 10 := hj
    have hcase : jj = 0 ∨ jj = 1 ∨ jj = 2 ∨ jj = 3 ∨ jj = 4 ∨ jj = 5 ∨ jj = 6 ∨ jj = 7 ∨ jj = 8 ∨ jj = 9 := by omega
    clear hj hj'
    simp only [Act.put, List.setIfInBounds_toArray, List.set_cons_zero, List.set_cons_succ]
    rcases hcase with rfl | rfl | rfl | rfl | rfl | rfl | rfl | rfl | rfl | rfl
    · obtain rfl := hC.n9 (cl_no hcl hf (by kernel_rfl))
      clear hd hcl
      refine wpOp_step rfl (fun K hK => ?_)
      go_simp
      refine hK _ _ ⟨_, u1, u2, u3, u4, u5, u6, u7, u8, _, ?_, ⟨hC.ow, hC.n9, fun _ => rfl, hC.h1, hC.h2, hC.h3, hC.h4, hC.h5, hC.h6, hC.h9⟩⟩
      (simp only [Act.put, List.setIfInBounds_toArray, List.set_cons_zero, List.set_cons_succ]) <;> rfl
    · clear hd hcl
      refine wpOp_step rfl (fun K hK => ?_)
      go_simp
      refine hK _ _ ⟨u0, _, u2, u3, u4, u5, u6, u7, u8, u9, ?_, ⟨hC.ow, hC.n9, hC.h0, fun _ => rfl, hC.h2, hC.h3, hC.h4, hC.h5, hC.h6, hC.h9⟩⟩
      (simp only [Act.put, List.setIfInBounds_toArray, List.set_cons_zero, List.set_cons_succ]) <;> rfl
    · obtain rfl := hC.h1 (hd 1 (by kernel_rfl))
      clear hd hcl
      refine wpOp_step rfl (fun K hK => ?_)
      go_simp
      refine hK _ _ ⟨u0, _, _, u3, u4, u5, u6, u7, u8, u9, ?_, ⟨hC.ow, hC.n9, hC.h0, hC.h1, fun _ => rfl, hC.h3, hC.h4, hC.h5, hC.h6, hC.h9⟩⟩
      (simp only [Act.put, List.setIfInBounds_toArray, List.set_cons_zero, List.set_cons_succ]) <;> rfl
    · obtain rfl := hC.h2 (hd 2 (by kernel_rfl))
      clear hd hcl
      refine wpOp_step rfl (fun K hK => ?_)
      go_simp
      refine hK _ _ ⟨u0, u1, _, _, u4, u5, u6, u7, u8, u9, ?_, ⟨hC.ow, hC.n9, hC.h0, hC.h1, hC.h2, fun _ => rfl, hC.h4, hC.h5, hC.h6, hC.h9⟩⟩
      (simp only [Act.put, List.setIfInBounds_toArray, List.set_cons_zero, List.set_cons_succ]) <;> rfl
    · clear hd hcl
      refine wpOp_step rfl (fun K hK => ?_)
      go_simp
      refine hK _ _ ⟨u0, u1, u2, u3, _, u5, u6, u7, u8, u9, ?_, ⟨hC.ow, hC.n9, hC.h0, hC.h1, hC.h2, hC.h3, fun _ => rfl, hC.h5, hC.h6, hC.h9⟩⟩
      (simp only [Act.put, List.setIfInBounds_toArray, List.set_cons_zero, List.set_cons_succ]) <;> rfl
    · obtain rfl := hC.h4 (hd 4 (by kernel_rfl))
      clear hd hcl
      refine wpOp_step rfl (fun K hK => ?_)
      go_simp
      refine hK _ _ ⟨u0, u1, u2, u3, _, _, u6, u7, u8, u9, ?_, ⟨hC.ow, hC.n9, hC.h0, hC.h1, hC.h2, hC.h3, hC.h4, fun _ => rfl, hC.h6, hC.h9⟩⟩
      (simp only [Act.put, List.setIfInBounds_toArray, List.set_cons_zero, List.set_cons_succ]) <;> rfl
    · obtain rfl := hC.h5 (hd 5 (by kernel_rfl))
      clear hd hcl
      refine wpOp_step rfl (fun K hK => ?_)
      go_simp
      refine hK _ _ ⟨u0, u1, u2, u3, u4, _, _, u7, u8, u9, ?_, ⟨hC.ow, hC.n9, hC.h0, hC.h1, hC.h2, hC.h3, hC.h4, hC.h5, fun _ => rfl, hC.h9⟩⟩
      (simp only [Act.put, List.setIfInBounds_toArray, List.set_cons_zero, List.set_cons_succ]) <;> rfl
    · obtain rfl := hC.h3 (hd 3 (by kernel_rfl))
      obtain rfl := hC.h6 (hd 6 (by kernel_rfl))
      obtain ⟨l, how, h0, h1, h2⟩ := hC.ow
      obtain rfl := h0 hf
      have h8 : Ld 8 = false := cl_no hcl hf (by kernel_rfl)
      have ho := how.arr #[.int .u8 48, .int .u8 48] 2 rfl (by omega) 5
      simp only [List.cons_append, List.nil_append] at ho
      clear hd hcl
      refine wpOp_step rfl (fun K hK => ?_)
      go_simp
      refine hK _ _ ⟨u0, u1, u2, _, u4, u5, _, _, u8, u9, ?_, ⟨⟨_, ho, (fun h => by cases h), (fun _ _ => ⟨_, rfl, rfl⟩), (fun h => absurd (h8.symm.trans h) (by decide))⟩, hC.n9, hC.h0, hC.h1, hC.h2, hC.h3, hC.h4, hC.h5, hC.h6, hC.h9⟩⟩
      (simp only [Act.put, List.setIfInBounds_toArray, List.set_cons_zero, List.set_cons_succ]) <;> rfl
    · obtain rfl := hC.h0 (hd 0 (by kernel_rfl))
      obtain ⟨l, how, h0, h1, h2⟩ := hC.ow
      have hl7 := hd 7 (by kernel_rfl)
      obtain ⟨lb, rfl, rfl⟩ := h1 hl7 hf
      have hsl := Sl.of_own (how.row 1 rfl)
      have hz9 : Ld 9 = false := cl_no hcl hf (by kernel_rfl)
      clear hd hcl
      refine wpOp_step rfl (fun K hK => ?_)
      rw [if_pos (by rfl)]
      refine owp_append elemU8 how 0 (.tmp 12) (.tmp 19) (m := 2) rfl rfl hsl (by intro u hu; simp at hu; rcases hu with rfl | rfl <;> rfl) (by unfold maxLen; omega) (by omega) rfl rfl rfl ?_
      intro A2 c2 W2 hv
      have hv2 := hv.few 1
      refine hK _ _ ⟨(.slice none 0 0), u1, u2, u3, u4, u5, u6, (.slice (some ⟨lb, 0, none⟩) 2 2), (.slice A2 2 c2), u9, ?_, ⟨⟨_, hv2, (fun h => absurd (hl7.symm.trans h) (by decide)), (fun _ h => by cases h), (fun _ => ⟨A2, c2, rfl, rfl⟩)⟩, hC.n9, hC.h0, hC.h1, hC.h2, hC.h3, hC.h4, hC.h5, hC.h6, (fun h => absurd (hz9.symm.trans h) (by decide))⟩⟩
      (simp only [Act.put, List.setIfInBounds_toArray, List.set_cons_zero, List.set_cons_succ]) <;> rfl
    · obtain ⟨l, how, h0, h1, h2⟩ := hC.ow
      have ha := hd 8 (by kernel_rfl)
      obtain ⟨A2, c2, rfl, rfl⟩ := h2 ha
      have hl7 := hcl 8 7 ha (by kernel_rfl)
      clear hd hcl
      refine wpOp_step rfl (fun K hK => ?_)
      go_simp
      refine hK _ _ ⟨u0, u1, u2, u3, u4, u5, u6, u7, _, _, ?_, ⟨⟨_, how, (fun h => absurd (hl7.symm.trans h) (by decide)), (fun _ h => absurd (ha.symm.trans h) (by decide)), (fun _ => ⟨A2, c2, rfl, rfl⟩)⟩, (fun h => by cases h), hC.h0, hC.h1, hC.h2, hC.h3, hC.h4, hC.h5, hC.h6, fun _ => rfl⟩⟩
      (simp only [Act.put, List.setIfInBounds_toArray, List.set_cons_zero, List.set_cons_succ]) <;> rfl
  · rintro Ld b W hL ⟨u0, u1, u2, u3, u4, u5, u6, u7, u8, u9, rfl, hC⟩
    obtain ⟨l, how, -, -, h2⟩ := hC.ow
    obtain ⟨A1, q1, rfl, rfl⟩ := h2 (hL 8 (by show 8 < 10; decide))
    obtain rfl := hC.h9 (hL 9 (by show 9 < 10; decide))
    have HO1 := Lib.hid how
    have d1_0 : W.cell? ⟨db, 1, none⟩ = some (.int .u8 255) := (HO1.out.below.cell HD.out).trans c1
    clear hC hL how h2
    simp only [Act.put, List.setIfInBounds_toArray, List.set_cons_zero, List.set_cons_succ]
    skip
    go_wp2_with (with_reducible refine upon_id ?_; go_simp)
    rw [rounds_succ]
    go_upto_region 5 with (with_reducible refine upon_id ?_; go_simp)
    refine reg_inv34 (Tx1I w A1 q1) (by kernel_rfl) (by kernel_rfl) ?_ ?_ ?_
    · refine ⟨u0, u1, u2, u3, u4, u5, u6, u7, .slice A1 2 q1, .slice A1 2 q1, ?_, ⟨⟨_, HO1.out.drew, (fun _ => rfl), (fun h => by cases h), (fun h => by cases h)⟩, (fun _ => rfl), ?_, ?_, ?_, ?_, ?_, ?_, ?_, ?_⟩⟩
      · simp only [Act.put, List.setIfInBounds_toArray, List.set_cons_zero, List.set_cons_succ]
      all_goals (intro h; cases h)
    · rintro jj Ld b W hj hf hcl hd ⟨u0, u1, u2, u3, u4, u5, u6, u7, u8, u9, rfl, hC⟩
      have hj' : jj < 10 := hj
      have hcase : jj = 0 ∨ jj = 1 ∨ jj = 2 ∨ jj = 3 ∨ jj = 4 ∨ jj = 5 ∨ jj = 6 ∨ jj = 7 ∨ jj = 8 ∨ jj = 9 := by omega
      clear hj hj'
      simp only [Act.put, List.setIfInBounds_toArray, List.set_cons_zero, List.set_cons_succ]
      rcases hcase with rfl | rfl | rfl | rfl | rfl | rfl | rfl | rfl | rfl | rfl
      · obtain rfl := hC.n9 (cl_no hcl hf (by kernel_rfl))
        clear hd hcl
        refine wpOp_step rfl (fun K hK => ?_)
        go_simp
        refine hK _ _ ⟨_, u1, u2, u3, u4, u5, u6, u7, u8, _, ?_, ⟨hC.ow, hC.n9, fun _ => rfl, hC.h1, hC.h2, hC.h3, hC.h4, hC.h5, hC.h6, hC.h9⟩⟩
        (simp only [Act.put, List.setIfInBounds_toArray, List.set_cons_zero, List.set_cons_succ]) <;> rfl
      · clear hd hcl
        refine wpOp_step rfl (fun K hK => ?_)
        go_simp
        refine hK _ _ ⟨u0, _, u2, u3, u4, u5, u6, u7, u8, u9, ?_, ⟨hC.ow, hC.n9, hC.h0, fun _ => rfl, hC.h2, hC.h3, hC.h4, hC.h5, hC.h6, hC.h9⟩⟩
        (simp only [Act.put, List.setIfInBounds_toArray, List.set_cons_zero, List.set_cons_succ]) <;> rfl
      · obtain rfl := hC.h1 (hd 1 (by kernel_rfl))
        clear hd hcl
        refine wpOp_step rfl (fun K hK => ?_)
        go_simp
        refine hK _ _ ⟨u0, _, _, u3, u4, u5, u6, u7, u8, u9, ?_, ⟨hC.ow, hC.n9, hC.h0, hC.h1, fun _ => rfl, hC.h3, hC.h4, hC.h5, hC.h6, hC.h9⟩⟩
        (simp only [Act.put, List.setIfInBounds_toArray, List.set_cons_zero, List.set_cons_succ]) <;> rfl
      · obtain rfl := hC.h2 (hd 2 (by kernel_rfl))
        clear hd hcl
        refine wpOp_step rfl (fun K hK => ?_)
        go_simp
        refine hK _ _ ⟨u0, u1, _, _, u4, u5, u6, u7, u8, u9, ?_, ⟨hC.ow, hC.n9, hC.h0, hC.h1, hC.h2, fun _ => rfl, hC.h4, hC.h5, hC.h6, hC.h9⟩⟩
        (simp only [Act.put, List.setIfInBounds_toArray, List.set_cons_zero, List.set_cons_succ]) <;> rfl
      · clear hd hcl
        refine wpOp_step rfl (fun K hK => ?_)
        go_simp
        refine hK _ _ ⟨u0, u1, u2, u3, _, u5, u6, u7, u8, u9, ?_, ⟨hC.ow, hC.n9, hC.h0, hC.h1, hC.h2, hC.h3, fun _ => rfl, hC.h5, hC.h6, hC.h9⟩⟩
        (simp only [Act.put, List.setIfInBounds_toArray, List.set_cons_zero, List.set_cons_succ]) <;> rfl
      · obtain rfl := hC.h4 (hd 4 (by kernel_rfl))
        clear hd hcl
        refine wpOp_step rfl (fun K hK => ?_)
        go_simp
        refine hK _ _ ⟨u0, u1, u2, u3, _, _, u6, u7, u8, u9, ?_, ⟨hC.ow, hC.n9, hC.h0, hC.h1, hC.h2, hC.h3, hC.h4, fun _ => rfl, hC.h6, hC.h9⟩⟩
        (simp only [Act.put, List.setIfInBounds_toArray, List.set_cons_zero, List.set_cons_succ]) <;> rfl
      · obtain rfl := hC.h5 (hd 5 (by kernel_rfl))
        clear hd hcl
        refine wpOp_step rfl (fun K hK => ?_)
        go_simp
        refine hK _ _ ⟨u0, u1, u2, u3, u4, _, _, u7, u8, u9, ?_, ⟨hC.ow, hC.n9, hC.h0, hC.h1, hC.h2, hC.h3, hC.h4, hC.h5, fun _ => rfl, hC.h9⟩⟩
        (simp only [Act.put, List.setIfInBounds_toArray, List.set_cons_zero, List.set_cons_succ]) <;> rfl
      · obtain rfl := hC.h3 (hd 3 (by kernel_rfl))
        obtain rfl := hC.h6 (hd 6 (by kernel_rfl))
        obtain ⟨l, how, h0, h1, h2⟩ := hC.ow
        obtain rfl := h0 hf
        have h8 : Ld 8 = false := cl_no hcl hf (by kernel_rfl)
        have ho := how.arr #[.int .u8 102, .int .u8 102] 2 rfl (by omega) 5
        simp only [List.cons_append, List.nil_append] at ho
        clear hd hcl
        refine wpOp_step rfl (fun K hK => ?_)
        go_simp
        refine hK _ _ ⟨u0, u1, u2, _, u4, u5, _, _, u8, u9, ?_, ⟨⟨_, ho, (fun h => by cases h), (fun _ _ => ⟨_, rfl, rfl⟩), (fun h => absurd (h8.symm.trans h) (by decide))⟩, hC.n9, hC.h0, hC.h1, hC.h2, hC.h3, hC.h4, hC.h5, hC.h6, hC.h9⟩⟩
        (simp only [Act.put, List.setIfInBounds_toArray, List.set_cons_zero, List.set_cons_succ]) <;> rfl
      · obtain rfl := hC.h0 (hd 0 (by kernel_rfl))
        obtain ⟨l, how, h0, h1, h2⟩ := hC.ow
        have hl7 := hd 7 (by kernel_rfl)
        obtain ⟨lb, rfl, rfl⟩ := h1 hl7 hf
        have hsl := Sl.of_own (how.row 1 rfl)
        have hz9 : Ld 9 = false := cl_no hcl hf (by kernel_rfl)
        clear hd hcl
        refine wpOp_step rfl (fun K hK => ?_)
        rw [if_pos (by rfl)]
        refine owp_append elemU8 how 0 (.tmp 12) (.tmp 19) (m := 2) rfl rfl hsl (by intro u hu; simp at hu; rcases hu with rfl | rfl <;> rfl) (by unfold maxLen; omega) (by omega) rfl rfl rfl ?_
        intro A2 c2 W2 hv
        have hv2 := hv.few 1
        refine hK _ _ ⟨(.slice A1 2 q1), u1, u2, u3, u4, u5, u6, (.slice (some ⟨lb, 0, none⟩) 2 2), (.slice A2 4 c2), u9, ?_, ⟨⟨_, hv2, (fun h => absurd (hl7.symm.trans h) (by decide)), (fun _ h => by cases h), (fun _ => ⟨A2, c2, rfl, rfl⟩)⟩, hC.n9, hC.h0, hC.h1, hC.h2, hC.h3, hC.h4, hC.h5, hC.h6, (fun h => absurd (hz9.symm.trans h) (by decide))⟩⟩
        (simp only [Act.put, List.setIfInBounds_toArray, List.set_cons_zero, List.set_cons_succ]) <;> rfl
      · obtain ⟨l, how, h0, h1, h2⟩ := hC.ow
        have ha := hd 8 (by kernel_rfl)
        obtain ⟨A2, c2, rfl, rfl⟩ := h2 ha
        have hl7 := hcl 8 7 ha (by kernel_rfl)
        clear hd hcl
        refine wpOp_step rfl (fun K hK => ?_)
        go_simp
        refine hK _ _ ⟨u0, u1, u2, u3, u4, u5, u6, u7, _, _, ?_, ⟨⟨_, how, (fun h => absurd (hl7.symm.trans h) (by decide)), (fun _ h => absurd (ha.symm.trans h) (by decide)), (fun _ => ⟨A2, c2, rfl, rfl⟩)⟩, (fun h => by cases h), hC.h0, hC.h1, hC.h2, hC.h3, hC.h4, hC.h5, hC.h6, fun _ => rfl⟩⟩
        (simp only [Act.put, List.setIfInBounds_toArray, List.set_cons_zero, List.set_cons_succ]) <;> rfl
    · rintro Ld b W hL ⟨u0, u1, u2, u3, u4, u5, u6, u7, u8, u9, rfl, hC⟩
      obtain ⟨l, how, -, -, h2⟩ := hC.ow
      obtain ⟨A2, q2, rfl, rfl⟩ := h2 (hL 8 (by show 8 < 10; decide))
      obtain rfl := hC.h9 (hL 9 (by show 9 < 10; decide))
      have HO2 := Lib.hid how
      clear hC hL how h2
      simp only [Act.put, List.setIfInBounds_toArray, List.set_cons_zero, List.set_cons_succ]
      skip
      go_wp2_with (with_reducible refine upon_id ?_; go_simp)
      rw [rounds_succ]
      obtain ⟨gb, rfl, -, -⟩ := own_form (HO2.out.row 0 rfl) (by omega)
      have z0 : W.cell? ⟨gb, 0, none⟩ = some (.int .u8 48) := (HO2.out.row 0 rfl).cellAt 0 (by decide)
      have z1 : W.cell? ⟨gb, 1, none⟩ = some (.int .u8 48) := (HO2.out.row 0 rfl).cellAt 1 (by decide)
      have z2 : W.cell? ⟨gb, 2, none⟩ = some (.int .u8 102) := (HO2.out.row 0 rfl).cellAt 2 (by decide)
      have z3 : W.cell? ⟨gb, 3, none⟩ = some (.int .u8 102) := (HO2.out.row 0 rfl).cellAt 3 (by decide)
      have hconv : (convert 27 9 (.slice (some ⟨gb, 0, none⟩) 4 q2)).run Tryd.prog W = .ok (.string ⟨#[48, 48, 102, 102]⟩) W := run_convert_bytes_back W 27 9 5 ⟨gb, 0, none⟩ q2 [48, 48, 102, 102] Tryd.underlying27 Tryd.underlying5 Tryd.underlying9 (fun j hj => by
        rw [add_zero]
        rcases j with _ | _ | _ | _ | j
        · exact z0
        · exact z1
        · exact z2
        · exact z3
        · exact absurd hj (by simp))
      go_wp2_with (with_reducible refine upon_id ?_; go_simp)
      go_ret
      exact ⟨rfl, HO2.out.below⟩
set_option maxHeartbeats 2000000 in
theorem text_one (w : World) (db c : Nat) (hdb : db < w.heap.size) (c0 : w.cell? ⟨db, 0, none⟩ = some (.int .u8 0)) :
    Calls Tryd.prog 58 #[.slice (some ⟨db, 0, none⟩) 1 c] w fun e w' => e = .returned (.string ⟨#[48, 48]⟩) ∧ Below w.heap.size w w' := by
  have HO0 := Lib.hid ((Ow.of (St.refl w)).nil 5)
  have HD := Lib.hid hdb
  clear hdb
  go_enter Tryd.func58, Tryd.ntmps58
  go_wp2_with fail
  refine wp_loop_rounds 2 ?_
  rw [rounds_succ]
  go_upto_region 5 with (with_reducible refine upon_id ?_; go_simp)
  refine reg_inv34 (Tx0I w none 0) (by kernel_rfl) (by kernel_rfl) ?_ ?_ ?_
  · refine ⟨undef, undef, undef, undef, undef, undef, undef, undef, undef, .slice none 0 0, ?_, ⟨⟨_, HO0.out.drew, (fun _ => rfl), (fun h => by cases h), (fun h => by cases h)⟩, (fun _ => rfl), ?_, ?_, ?_, ?_, ?_, ?_, ?_, ?_⟩⟩
    · simp only [Act.put, List.setIfInBounds_toArray, List.set_cons_zero, List.set_cons_succ]
    all_goals (intro h; cases h)
  · rintro jj Ld b W hj hf hcl hd ⟨u0, u1, u2, u3, u4, u5, u6, u7, u8, u9, rfl, hC⟩
    have hj' : jj < 10 := hj
    have hcase : jj = 0 ∨ jj = 1 ∨ jj = 2 ∨ jj = 3 ∨ jj = 4 ∨ jj = 5 ∨ jj = 6 ∨ jj = 7 ∨ jj = 8 ∨ jj = 9 := by omega
    clear hj hj'
    simp only [Act.put, List.setIfInBounds_toArray, List.set_cons_zero, List.set_cons_succ]
    rcases hcase with rfl | rfl | rfl | rfl | rfl | rfl | rfl | rfl | rfl | rfl
    · obtain rfl := hC.n9 (cl_no hcl hf (by kernel_rfl))
      clear hd hcl
      refine wpOp_step rfl (fun K hK => ?_)
      go_simp
      refine hK _ _ ⟨_, u1, u2, u3, u4, u5, u6, u7, u8, _, ?_, ⟨hC.ow, hC.n9, fun _ => rfl, hC.h1, hC.h2, hC.h3, hC.h4, hC.h5, hC.h6, hC.h9⟩⟩
      (simp only [Act.put, List.setIfInBounds_toArray, List.set_cons_zero, List.set_cons_succ]) <;> rfl
    · clear hd hcl
      refine wpOp_step rfl (fun K hK => ?_)
      go_simp
      refine hK _ _ ⟨u0, _, u2, u3, u4, u5, u6, u7, u8, u9, ?_, ⟨hC.ow, hC.n9, hC.h0, fun _ => rfl, hC.h2, hC.h3, hC.h4, hC.h5, hC.h6, hC.h9⟩⟩
      (simp only [Act.put, List.setIfInBounds_toArray, List.set_cons_zero, List.set_cons_succ]) <;> rfl
    · obtain rfl := hC.h1 (hd 1 (by kernel_rfl))
      clear hd hcl
      refine wpOp_step rfl (fun K hK => ?_)
      go_simp
      refine hK _ _ ⟨u0, _, _, u3, u4, u5, u6, u7, u8, u9, ?_, ⟨hC.ow, hC.n9, hC.h0, hC.h1, fun _ => rfl, hC.h3, hC.h4, hC.h5, hC.h6, hC.h9⟩⟩
      (simp only [Act.put, List.setIfInBounds_toArray, List.set_cons_zero, List.set_cons_succ]) <;> rfl
    · obtain rfl := hC.h2 (hd 2 (by kernel_rfl))
      clear hd hcl
      refine wpOp_step rfl (fun K hK => ?_)
      go_simp
      refine hK _ _ ⟨u0, u1, _, _, u4, u5, u6, u7, u8, u9, ?_, ⟨hC.ow, hC.n9, hC.h0, hC.h1, hC.h2, fun _ => rfl, hC.h4, hC.h5, hC.h6, hC.h9⟩⟩
      (simp only [Act.put, List.setIfInBounds_toArray, List.set_cons_zero, List.set_cons_succ]) <;> rfl
    · clear hd hcl
      refine wpOp_step rfl (fun K hK => ?_)
      go_simp
      refine hK _ _ ⟨u0, u1, u2, u3, _, u5, u6, u7, u8, u9, ?_, ⟨hC.ow, hC.n9, hC.h0, hC.h1, hC.h2, hC.h3, fun _ => rfl, hC.h5, hC.h6, hC.h9⟩⟩
      (simp only [Act.put, List.setIfInBounds_toArray, List.set_cons_zero, List.set_cons_succ]) <;> rfl
    · obtain rfl := hC.h4 (hd 4 (by kernel_rfl))
      clear hd hcl
      refine wpOp_step rfl (fun K hK => ?_)
      go_simp
      refine hK _ _ ⟨u0, u1, u2, u3, _, _, u6, u7, u8, u9, ?_, ⟨hC.ow, hC.n9, hC.h0, hC.h1, hC.h2, hC.h3, hC.h4, fun _ => rfl, hC.h6, hC.h9⟩⟩
      (simp only [Act.put, List.setIfInBounds_toArray, List.set_cons_zero, List.set_cons_succ]) <;> rfl
    · obtain rfl := hC.h5 (hd 5 (by kernel_rfl))
      clear hd hcl
      refine wpOp_step rfl (fun K hK => ?_)
      go_simp
      refine hK _ _ ⟨u0, u1, u2, u3, u4, _, _, u7, u8, u9, ?_, ⟨hC.ow, hC.n9, hC.h0, hC.h1, hC.h2, hC.h3, hC.h4, hC.h5, fun _ => rfl, hC.h9⟩⟩
      (simp only [Act.put, List.setIfInBounds_toArray, List.set_cons_zero, List.set_cons_succ]) <;> rfl
    · obtain rfl := hC.h3 (hd 3 (by kernel_rfl))
      obtain rfl := hC.h6 (hd 6 (by kernel_rfl))
      obtain ⟨l, how, h0, h1, h2⟩ := hC.ow
      obtain rfl := h0 hf
      have h8 : Ld 8 = false := cl_no hcl hf (by kernel_rfl)
      have ho := how.arr #[.int .u8 48, .int .u8 48] 2 rfl (by omega) 5
      simp only [List.cons_append, List.nil_append] at ho
      clear hd hcl
      refine wpOp_step rfl (fun K hK => ?_)
      go_simp
      refine hK _ _ ⟨u0, u1, u2, _, u4, u5, _, _, u8, u9, ?_, ⟨⟨_, ho, (fun h => by cases h), (fun _ _ => ⟨_, rfl, rfl⟩), (fun h => absurd (h8.symm.trans h) (by decide))⟩, hC.n9, hC.h0, hC.h1, hC.h2, hC.h3, hC.h4, hC.h5, hC.h6, hC.h9⟩⟩
      (simp only [Act.put, List.setIfInBounds_toArray, List.set_cons_zero, List.set_cons_succ]) <;> rfl
    · obtain rfl := hC.h0 (hd 0 (by kernel_rfl))
      obtain ⟨l, how, h0, h1, h2⟩ := hC.ow
      have hl7 := hd 7 (by kernel_rfl)
      obtain ⟨lb, rfl, rfl⟩ := h1 hl7 hf
      have hsl := Sl.of_own (how.row 1 rfl)
      have hz9 : Ld 9 = false := cl_no hcl hf (by kernel_rfl)
      clear hd hcl
      refine wpOp_step rfl (fun K hK => ?_)
      rw [if_pos (by rfl)]
      refine owp_append elemU8 how 0 (.tmp 12) (.tmp 19) (m := 2) rfl rfl hsl (by intro u hu; simp at hu; rcases hu with rfl | rfl <;> rfl) (by unfold maxLen; omega) (by omega) rfl rfl rfl ?_
      intro A2 c2 W2 hv
      have hv2 := hv.few 1
      refine hK _ _ ⟨(.slice none 0 0), u1, u2, u3, u4, u5, u6, (.slice (some ⟨lb, 0, none⟩) 2 2), (.slice A2 2 c2), u9, ?_, ⟨⟨_, hv2, (fun h => absurd (hl7.symm.trans h) (by decide)), (fun _ h => by cases h), (fun _ => ⟨A2, c2, rfl, rfl⟩)⟩, hC.n9, hC.h0, hC.h1, hC.h2, hC.h3, hC.h4, hC.h5, hC.h6, (fun h => absurd (hz9.symm.trans h) (by decide))⟩⟩
      (simp only [Act.put, List.setIfInBounds_toArray, List.set_cons_zero, List.set_cons_succ]) <;> rfl
    · obtain ⟨l, how, h0, h1, h2⟩ := hC.ow
      have ha := hd 8 (by kernel_rfl)
      obtain ⟨A2, c2, rfl, rfl⟩ := h2 ha
      have hl7 := hcl 8 7 ha (by kernel_rfl)
      clear hd hcl
      refine wpOp_step rfl (fun K hK => ?_)
      go_simp
      refine hK _ _ ⟨u0, u1, u2, u3, u4, u5, u6, u7, _, _, ?_, ⟨⟨_, how, (fun h => absurd (hl7.symm.trans h) (by decide)), (fun _ h => absurd (ha.symm.trans h) (by decide)), (fun _ => ⟨A2, c2, rfl, rfl⟩)⟩, (fun h => by cases h), hC.h0, hC.h1, hC.h2, hC.h3, hC.h4, hC.h5, hC.h6, fun _ => rfl⟩⟩
      (simp only [Act.put, List.setIfInBounds_toArray, List.set_cons_zero, List.set_cons_succ]) <;> rfl
  · rintro Ld b W hL ⟨u0, u1, u2, u3, u4, u5, u6, u7, u8, u9, rfl, hC⟩
    obtain ⟨l, how, -, -, h2⟩ := hC.ow
    obtain ⟨A1, q1, rfl, rfl⟩ := h2 (hL 8 (by show 8 < 10; decide))
    obtain rfl := hC.h9 (hL 9 (by show 9 < 10; decide))
    have HO1 := Lib.hid how
    clear hC hL how h2
    simp only [Act.put, List.setIfInBounds_toArray, List.set_cons_zero, List.set_cons_succ]
    skip
    go_wp2_with (with_reducible refine upon_id ?_; go_simp)
    rw [rounds_succ]
    obtain ⟨gb, rfl, -, -⟩ := own_form (HO1.out.row 0 rfl) (by omega)
    have z0 : W.cell? ⟨gb, 0, none⟩ = some (.int .u8 48) := (HO1.out.row 0 rfl).cellAt 0 (by decide)
    have z1 : W.cell? ⟨gb, 1, none⟩ = some (.int .u8 48) := (HO1.out.row 0 rfl).cellAt 1 (by decide)
    have hconv : (convert 27 9 (.slice (some ⟨gb, 0, none⟩) 2 q1)).run Tryd.prog W = .ok (.string ⟨#[48, 48]⟩) W := run_convert_bytes_back W 27 9 5 ⟨gb, 0, none⟩ q1 [48, 48] Tryd.underlying27 Tryd.underlying5 Tryd.underlying9 (fun j hj => by
      rw [add_zero]
      rcases j with _ | _ | j
      · exact z0
      · exact z1
      · exact absurd hj (by simp))
    go_wp2_with (with_reducible refine upon_id ?_; go_simp)
    go_ret
    exact ⟨rfl, HO1.out.below⟩
end Go.Proofs.YtpcmbmabmfghkaaDoor

namespace Go.Proofs
open Go.Shelf
def Tryd.lays169_ren : Go.Shelf.Ren := ⟨fun | 169 => 14 | n => n, fun | 70 => 46 | 9 => 9 | 0 => 0 | 72 => 48 | 37 => 27 | 127 => 75 | 3 => 3 | 5 => 5 | n => n, fun | n => n⟩
theorem Tryd.lays169 : Go.Proofs.Lays.n169 Tryd.prog Tryd.lays169_ren := {
  mixed := by kernel_rfl
  f169 := Tryd.func14.trans (congrArg some (by kernel_rfl))
  t0 := Tryd.underlying0
  a0 := Tryd.isAgg0
  z0 := Tryd.sizeOf0
  v0 := Tryd.zeroValue0
  t3 := Tryd.underlying3
  a3 := Tryd.isAgg3
  z3 := Tryd.sizeOf3
  v3 := Tryd.zeroValue3
  t9 := Tryd.underlying9
  a9 := Tryd.isAgg9
  z9 := Tryd.sizeOf9
  v9 := Tryd.zeroValue9
  t37 := Tryd.underlying27
  a37 := Tryd.isAgg27
  z37 := Tryd.sizeOf27
  v37 := Tryd.zeroValue27
  t70 := Tryd.underlying46
  a70 := Tryd.isAgg46
  z70 := Tryd.sizeOf46
  v70 := Tryd.zeroValue46
  t72 := Tryd.underlying48
  a72 := Tryd.isAgg48
  z72 := Tryd.sizeOf48
  v72 := Tryd.zeroValue48
  t127 := Tryd.underlying75
  a127 := Tryd.isAgg75
  z127 := Tryd.sizeOf75
  v127 := Tryd.zeroValue75 }
theorem Tryd.Builder_Extra_169 : Builder.Extra Tryd.prog Tryd.lays169_ren := {
  sizeBuilder := by kernel_rfl
  liesBuilder := by kernel_rfl
  t5 := Tryd.underlying5
  a5 := Tryd.isAgg5
  z5 := Tryd.sizeOf5
  v5 := Tryd.zeroValue5
  infoByte := by kernel_rfl
  cellsByte := by kernel_rfl
  sizeByte := by kernel_rfl
  neB5 := by decide }
open Go.RowKit in
theorem Tryd.Builder_String_any (B b : Nat) (l : List UInt8) (w : World) (h : Lib.IsBuilder 48 5 B b (Lib.byteCells l) w) (hBw : B ≤ w.heap.size) :
    Calls Tryd.prog 14 #[.pointer (some ⟨b, 0, none⟩)] w fun e w' => e = .returned (.string ⟨l.toArray⟩) ∧ Below B w w' := Any.Builder_String_any Tryd.lays169 Tryd.Builder_Extra_169 B b l w h hBw
def Tryd.lays137_ren : Go.Shelf.Ren := ⟨fun | 137 => 67 | 217 => 60 | 266 => 75 | n => n, fun | 9 => 9 | 5 => 5 | 3 => 3 | n => n, fun | n => n⟩
theorem Tryd.lays137 : Go.Proofs.Lays.n137 Tryd.prog Tryd.lays137_ren := {
  mixed := by kernel_rfl
  f137 := Tryd.func67.trans (congrArg some (by kernel_rfl))
  f217 := Tryd.func60.trans (congrArg some (by kernel_rfl))
  f266 := Tryd.func75.trans (congrArg some (by kernel_rfl))
  t3 := Tryd.underlying3
  a3 := Tryd.isAgg3
  z3 := Tryd.sizeOf3
  v3 := Tryd.zeroValue3
  t5 := Tryd.underlying5
  a5 := Tryd.isAgg5
  z5 := Tryd.sizeOf5
  v5 := Tryd.zeroValue5
  t9 := Tryd.underlying9
  a9 := Tryd.isAgg9
  z9 := Tryd.sizeOf9
  v9 := Tryd.zeroValue9 }
open Go.RowKit in
theorem Tryd.strings_IndexByte (s : ByteArray) (c : Int) (w : World) :
    Calls Tryd.prog 67 #[.string s, .int .u8 c] w fun e w' => e = .returned (.int .i64 (Lib.indexByte s.data.toList c.toNat.toUInt8)) ∧ w' = w := Any.strings_IndexByte Tryd.lays137 s c w
open Go.RowKit Go.Sort Go.Lib in
open Go.RowKit Go.Sort Go.Lib in
def Tryd.lays171_ren : Go.Shelf.Ren := ⟨fun | 171 => 24 | 243 => 44 | 246 => 59 | 283 => 71 | 284 => 72 | 285 => 73 | 286 => 74 | 129 => 84 | 317 => 83 | 318 => 85 | 319 => 86 | 320 => 87 | 337 => 91 | 338 => 92 | n => n, fun | 3 => 3 | 9 => 9 | 2 => 2 | 4 => 4 | 171 => 111 | 0 => 0 | 53 => 112 | 37 => 27 | 5 => 5 | 173 => 115 | 212 => 126 | 51 => 117 | 20 => 20 | 213 => 127 | 46 => 106 | 232 => 145 | 233 => 146 | n => n, fun | 17 => 1 | 18 => 6 | 19 => 7 | n => n⟩
theorem Tryd.lays171 : Go.Proofs.Lays.n171 Tryd.prog Tryd.lays171_ren := {
  mixed := by kernel_rfl
  f129 := Tryd.func84.trans (congrArg some (by kernel_rfl))
  f171 := Tryd.func24.trans (congrArg some (by kernel_rfl))
  f243 := Tryd.func44.trans (congrArg some (by kernel_rfl))
  f246 := Tryd.func59.trans (congrArg some (by kernel_rfl))
  f283 := Tryd.func71.trans (congrArg some (by kernel_rfl))
  f284 := Tryd.func72.trans (congrArg some (by kernel_rfl))
  f285 := Tryd.func73.trans (congrArg some (by kernel_rfl))
  f286 := Tryd.func74.trans (congrArg some (by kernel_rfl))
  f317 := Tryd.func83.trans (congrArg some (by kernel_rfl))
  f318 := Tryd.func85.trans (congrArg some (by kernel_rfl))
  f319 := Tryd.func86.trans (congrArg some (by kernel_rfl))
  f320 := Tryd.func87.trans (congrArg some (by kernel_rfl))
  f337 := Tryd.func91.trans (congrArg some (by kernel_rfl))
  f338 := Tryd.func92.trans (congrArg some (by kernel_rfl))
  t0 := Tryd.underlying0
  a0 := Tryd.isAgg0
  z0 := Tryd.sizeOf0
  v0 := Tryd.zeroValue0
  t2 := Tryd.underlying2
  a2 := Tryd.isAgg2
  z2 := Tryd.sizeOf2
  v2 := Tryd.zeroValue2
  t3 := Tryd.underlying3
  a3 := Tryd.isAgg3
  z3 := Tryd.sizeOf3
  v3 := Tryd.zeroValue3
  t4 := Tryd.underlying4
  a4 := Tryd.isAgg4
  z4 := Tryd.sizeOf4
  v4 := Tryd.zeroValue4
  t5 := Tryd.underlying5
  a5 := Tryd.isAgg5
  z5 := Tryd.sizeOf5
  v5 := Tryd.zeroValue5
  t9 := Tryd.underlying9
  a9 := Tryd.isAgg9
  z9 := Tryd.sizeOf9
  v9 := Tryd.zeroValue9
  t20 := Tryd.underlying20
  a20 := Tryd.isAgg20
  z20 := Tryd.sizeOf20
  v20 := Tryd.zeroValue20
  t37 := Tryd.underlying27
  a37 := Tryd.isAgg27
  z37 := Tryd.sizeOf27
  v37 := Tryd.zeroValue27
  t46 := Tryd.underlying106
  a46 := Tryd.isAgg106
  z46 := Tryd.sizeOf106
  v46 := Tryd.zeroValue106
  t51 := Tryd.underlying117
  a51 := Tryd.isAgg117
  z51 := Tryd.sizeOf117
  v51 := Tryd.zeroValue117
  t53 := Tryd.underlying112
  a53 := Tryd.isAgg112
  z53 := Tryd.sizeOf112
  v53 := Tryd.zeroValue112
  t171 := Tryd.underlying111
  a171 := Tryd.isAgg111
  z171 := Tryd.sizeOf111
  v171 := Tryd.zeroValue111
  t173 := Tryd.underlying115
  a173 := Tryd.isAgg115
  z173 := Tryd.sizeOf115
  v173 := Tryd.zeroValue115
  t212 := Tryd.underlying126
  a212 := Tryd.isAgg126
  z212 := Tryd.sizeOf126
  v212 := Tryd.zeroValue126
  t213 := Tryd.underlying127
  a213 := Tryd.isAgg127
  z213 := Tryd.sizeOf127
  t232 := Tryd.underlying145
  a232 := Tryd.isAgg145
  z232 := Tryd.sizeOf145
  v232 := Tryd.zeroValue145
  t233 := Tryd.underlying146
  a233 := Tryd.isAgg146
  z233 := Tryd.sizeOf146
  v233 := Tryd.zeroValue146
  g17 := by kernel_rfl
  g18 := by kernel_rfl
  g19 := by kernel_rfl }
open Go.RowKit Go.Sort Go.Lib in
theorem Tryd.strconv_Itoa_small (i : Nat) (hi : i < 100) (w : World) :
    Calls Tryd.prog 24 #[.int .i64 i] w fun e w' => e = .returned (.string ⟨(Lib.decDigits i).toArray⟩) ∧ w' = w := Any.strconv_Itoa_small Tryd.lays171 i hi w
open Go.RowKit in
def Tryd.laysC172_ren : Go.Shelf.Ren := ⟨fun | 172 => 52 | 244 => 68 | 245 => 69 | 247 => 78 | 279 => 79 | 280 => 80 | 281 => 81 | 282 => 82 | 287 => 88 | 316 => 89 | 171 => 24 | 205 => 90 | 321 => 93 | 322 => 94 | 243 => 44 | 246 => 59 | 283 => 71 | 284 => 72 | 285 => 73 | 286 => 74 | 129 => 84 | 317 => 83 | 318 => 85 | 319 => 86 | 320 => 87 | 337 => 91 | 338 => 92 | n => n, fun | 9 => 9 | 3 => 3 | 75 => 52 | 76 => 53 | 4 => 4 | 5 => 5 | 167 => 120 | 37 => 27 | 0 => 0 | 85 => 121 | 2 => 2 | 168 => 123 | 53 => 112 | 175 => 133 | 46 => 106 | 210 => 137 | 127 => 75 | 145 => 144 | 143 => 142 | 21 => 21 | 171 => 111 | 173 => 115 | 212 => 126 | 51 => 117 | 20 => 20 | 213 => 127 | 232 => 145 | 233 => 146 | 80 => 55 | n => n, fun | 15 => 4 | 16 => 5 | 17 => 1 | 18 => 6 | 19 => 7 | n => n⟩
theorem Tryd.laysC172 : Go.Proofs.LaysC.n172 Tryd.prog Tryd.laysC172_ren := {
  mixed := by kernel_rfl
  f129 := Tryd.func84.trans (congrArg some (by kernel_rfl))
  f171 := Tryd.func24.trans (congrArg some (by kernel_rfl))
  f172 := Tryd.func52.trans (congrArg some (by kernel_rfl))
  f205 := Tryd.func90.trans (congrArg some (by kernel_rfl))
  f243 := Tryd.func44.trans (congrArg some (by kernel_rfl))
  f244 := Tryd.func68.trans (congrArg some (by kernel_rfl))
  f245 := Tryd.func69.trans (congrArg some (by kernel_rfl))
  f246 := Tryd.func59.trans (congrArg some (by kernel_rfl))
  f247 := Tryd.func78.trans (congrArg some (by kernel_rfl))
  f279 := Tryd.func79.trans (congrArg some (by kernel_rfl))
  f280 := Tryd.func80.trans (congrArg some (by kernel_rfl))
  f281 := Tryd.func81.trans (congrArg some (by kernel_rfl))
  f282 := Tryd.func82.trans (congrArg some (by kernel_rfl))
  f283 := Tryd.func71.trans (congrArg some (by kernel_rfl))
  f284 := Tryd.func72.trans (congrArg some (by kernel_rfl))
  f285 := Tryd.func73.trans (congrArg some (by kernel_rfl))
  f286 := Tryd.func74.trans (congrArg some (by kernel_rfl))
  f287 := Tryd.func88.trans (congrArg some (by kernel_rfl))
  f316 := Tryd.func89.trans (congrArg some (by kernel_rfl))
  f317 := Tryd.func83.trans (congrArg some (by kernel_rfl))
  f318 := Tryd.func85.trans (congrArg some (by kernel_rfl))
  f319 := Tryd.func86.trans (congrArg some (by kernel_rfl))
  f320 := Tryd.func87.trans (congrArg some (by kernel_rfl))
  f321 := Tryd.func93.trans (congrArg some (by kernel_rfl))
  f322 := Tryd.func94.trans (congrArg some (by kernel_rfl))
  f337 := Tryd.func91.trans (congrArg some (by kernel_rfl))
  f338 := Tryd.func92.trans (congrArg some (by kernel_rfl))
  t0 := Tryd.underlying0
  a0 := Tryd.isAgg0
  z0 := Tryd.sizeOf0
  v0 := Tryd.zeroValue0
  t2 := Tryd.underlying2
  a2 := Tryd.isAgg2
  z2 := Tryd.sizeOf2
  v2 := Tryd.zeroValue2
  t3 := Tryd.underlying3
  a3 := Tryd.isAgg3
  z3 := Tryd.sizeOf3
  v3 := Tryd.zeroValue3
  t4 := Tryd.underlying4
  a4 := Tryd.isAgg4
  z4 := Tryd.sizeOf4
  v4 := Tryd.zeroValue4
  t5 := Tryd.underlying5
  a5 := Tryd.isAgg5
  z5 := Tryd.sizeOf5
  v5 := Tryd.zeroValue5
  t9 := Tryd.underlying9
  a9 := Tryd.isAgg9
  z9 := Tryd.sizeOf9
  v9 := Tryd.zeroValue9
  t20 := Tryd.underlying20
  a20 := Tryd.isAgg20
  z20 := Tryd.sizeOf20
  v20 := Tryd.zeroValue20
  t21 := Tryd.underlying21
  a21 := Tryd.isAgg21
  z21 := Tryd.sizeOf21
  v21 := Tryd.zeroValue21
  t37 := Tryd.underlying27
  a37 := Tryd.isAgg27
  z37 := Tryd.sizeOf27
  v37 := Tryd.zeroValue27
  t46 := Tryd.underlying106
  a46 := Tryd.isAgg106
  z46 := Tryd.sizeOf106
  v46 := Tryd.zeroValue106
  t51 := Tryd.underlying117
  a51 := Tryd.isAgg117
  z51 := Tryd.sizeOf117
  v51 := Tryd.zeroValue117
  t53 := Tryd.underlying112
  a53 := Tryd.isAgg112
  z53 := Tryd.sizeOf112
  v53 := Tryd.zeroValue112
  t75 := Tryd.underlying52
  a75 := Tryd.isAgg52
  z75 := Tryd.sizeOf52
  v75 := Tryd.zeroValue52
  t76 := Tryd.underlying53
  a76 := Tryd.isAgg53
  z76 := Tryd.sizeOf53
  v76 := Tryd.zeroValue53
  t85 := Tryd.underlying121
  a85 := Tryd.isAgg121
  z85 := Tryd.sizeOf121
  v85 := Tryd.zeroValue121
  t127 := Tryd.underlying75
  a127 := Tryd.isAgg75
  z127 := Tryd.sizeOf75
  v127 := Tryd.zeroValue75
  t143 := Tryd.underlying142
  a143 := Tryd.isAgg142
  z143 := Tryd.sizeOf142
  v143 := Tryd.zeroValue142
  t145 := Tryd.underlying144
  a145 := Tryd.isAgg144
  z145 := Tryd.sizeOf144
  v145 := Tryd.zeroValue144
  t167 := Tryd.underlying120
  a167 := Tryd.isAgg120
  z167 := Tryd.sizeOf120
  v167 := Tryd.zeroValue120
  t168 := Tryd.underlying123
  a168 := Tryd.isAgg123
  z168 := Tryd.sizeOf123
  v168 := Tryd.zeroValue123
  t171 := Tryd.underlying111
  a171 := Tryd.isAgg111
  z171 := Tryd.sizeOf111
  v171 := Tryd.zeroValue111
  t173 := Tryd.underlying115
  a173 := Tryd.isAgg115
  z173 := Tryd.sizeOf115
  v173 := Tryd.zeroValue115
  t175 := Tryd.underlying133
  a175 := Tryd.isAgg133
  z175 := Tryd.sizeOf133
  v175 := Tryd.zeroValue133
  t210 := Tryd.underlying137
  a210 := Tryd.isAgg137
  z210 := Tryd.sizeOf137
  v210 := Tryd.zeroValue137
  t212 := Tryd.underlying126
  a212 := Tryd.isAgg126
  z212 := Tryd.sizeOf126
  v212 := Tryd.zeroValue126
  t213 := Tryd.underlying127
  a213 := Tryd.isAgg127
  z213 := Tryd.sizeOf127
  t232 := Tryd.underlying145
  a232 := Tryd.isAgg145
  z232 := Tryd.sizeOf145
  v232 := Tryd.zeroValue145
  t233 := Tryd.underlying146
  a233 := Tryd.isAgg146
  z233 := Tryd.sizeOf146
  v233 := Tryd.zeroValue146
  g15 := by kernel_rfl
  g16 := by kernel_rfl
  g17 := by kernel_rfl
  g18 := by kernel_rfl
  g19 := by kernel_rfl
  t80 := Tryd.underlying55
  a80 := Tryd.isAgg55
  z80 := Tryd.sizeOf55
  v80 := Tryd.zeroValue55
  i0 := by kernel_rfl
  i2 := by kernel_rfl
  i3 := by kernel_rfl
  i4 := by kernel_rfl
  i5 := by kernel_rfl
  i9 := by kernel_rfl
  i20 := by kernel_rfl
  i21 := by kernel_rfl
  i37 := by kernel_rfl
  i46 := by kernel_rfl
  i51 := by kernel_rfl
  i53 := by kernel_rfl
  i75 := by kernel_rfl
  i76 := by kernel_rfl
  i80 := by kernel_rfl
  i85 := by kernel_rfl
  i127 := by kernel_rfl
  i143 := by kernel_rfl
  i145 := by kernel_rfl
  i167 := by kernel_rfl
  i168 := by kernel_rfl
  i171 := by kernel_rfl
  i173 := by kernel_rfl
  i175 := by kernel_rfl
  i210 := by kernel_rfl
  i212 := by kernel_rfl
  i232 := by kernel_rfl
  i233 := by kernel_rfl
  m15 := by kernel_rfl
  m16 := by kernel_rfl
  m17 := by kernel_rfl
  m18 := by kernel_rfl
  m19 := by kernel_rfl
  c0 := by kernel_rfl
  c2 := by kernel_rfl
  c3 := by kernel_rfl
  c4 := by kernel_rfl
  c5 := by kernel_rfl
  c9 := by kernel_rfl
  c20 := by kernel_rfl
  c21 := by kernel_rfl
  c37 := by kernel_rfl
  c46 := by kernel_rfl
  c51 := by kernel_rfl
  c53 := by kernel_rfl
  c75 := by kernel_rfl
  c76 := by kernel_rfl
  c80 := by kernel_rfl
  c85 := by kernel_rfl
  c127 := by kernel_rfl
  c143 := by kernel_rfl
  c145 := by kernel_rfl
  c167 := by kernel_rfl
  c168 := by kernel_rfl
  c171 := by kernel_rfl
  c173 := by kernel_rfl
  c175 := by kernel_rfl
  c210 := by kernel_rfl
  c212 := by kernel_rfl
  c213 := by kernel_rfl
  c232 := by kernel_rfl
  c233 := by kernel_rfl }
open Go.RowKit in
theorem Tryd.strconv_Atoi_ok (s : ByteArray) (hmax : s.size ≤ 9223372036854775806) (v : Int) (h : Lib.atoiAll s.data.toList = .ok v) (w : World) :
    Calls Tryd.prog 52 #[.string s] w fun e w' => e = .returned (.tuple #[.int .i64 v, .nilIface]) ∧ (w' = w ∨ ∃ t, w' = Lib.bytesWorld w 5 t) := Any.strconv_Atoi_ok Tryd.laysC172 s hmax v h w
open Go.RowKit Go.Lib in
def Tryd.lays145_ren : Go.Shelf.Ren := ⟨fun | 145 => 15 | 220 => 26 | 219 => 46 | 217 => 60 | 225 => 61 | 224 => 62 | 267 => 63 | 266 => 75 | 314 => 76 | n => n, fun | 9 => 9 | 4 => 4 | 59 => 56 | 3 => 3 | 5 => 5 | 46 => 106 | 146 => 118 | 51 => 117 | n => n, fun | 1 => 0 | n => n⟩
theorem Tryd.lays145 : Go.Proofs.Lays.n145 Tryd.prog Tryd.lays145_ren := {
  mixed := by kernel_rfl
  f145 := Tryd.func15.trans (congrArg some (by kernel_rfl))
  f217 := Tryd.func60.trans (congrArg some (by kernel_rfl))
  f219 := Tryd.func46.trans (congrArg some (by kernel_rfl))
  f220 := Tryd.func26.trans (congrArg some (by kernel_rfl))
  f224 := Tryd.func62.trans (congrArg some (by kernel_rfl))
  f225 := Tryd.func61.trans (congrArg some (by kernel_rfl))
  f266 := Tryd.func75.trans (congrArg some (by kernel_rfl))
  f267 := Tryd.func63.trans (congrArg some (by kernel_rfl))
  f314 := Tryd.func76.trans (congrArg some (by kernel_rfl))
  t3 := Tryd.underlying3
  a3 := Tryd.isAgg3
  z3 := Tryd.sizeOf3
  v3 := Tryd.zeroValue3
  t4 := Tryd.underlying4
  a4 := Tryd.isAgg4
  z4 := Tryd.sizeOf4
  v4 := Tryd.zeroValue4
  t5 := Tryd.underlying5
  a5 := Tryd.isAgg5
  z5 := Tryd.sizeOf5
  v5 := Tryd.zeroValue5
  t9 := Tryd.underlying9
  a9 := Tryd.isAgg9
  z9 := Tryd.sizeOf9
  v9 := Tryd.zeroValue9
  t46 := Tryd.underlying106
  a46 := Tryd.isAgg106
  z46 := Tryd.sizeOf106
  v46 := Tryd.zeroValue106
  t51 := Tryd.underlying117
  a51 := Tryd.isAgg117
  z51 := Tryd.sizeOf117
  v51 := Tryd.zeroValue117
  t59 := Tryd.underlying56
  a59 := Tryd.isAgg56
  z59 := Tryd.sizeOf56
  v59 := Tryd.zeroValue56
  t146 := Tryd.underlying118
  a146 := Tryd.isAgg118
  z146 := Tryd.sizeOf118
  v146 := Tryd.zeroValue118
  g1 := by kernel_rfl }
open Go.RowKit Go.Lib in
theorem Tryd.strings_Cut (s sep : ByteArray) (m : Int) (w : World) (hs : s.size < 4294967281) (hm : w.cell? ⟨0, 0, none⟩ = some (.int .i64 m)) :
    Calls Tryd.prog 15 #[.string s, .string sep] w fun e w' => e = .returned (.tuple #[.string ⟨(Lib.cut s.data.toList sep.data.toList).1.toArray⟩, .string ⟨(Lib.cut s.data.toList sep.data.toList).2.1.toArray⟩, .bool (Lib.cut s.data.toList sep.data.toList).2.2]) ∧ ∃ n, w' = w.drewN n := Any.strings_Cut Tryd.lays145 s sep m w hs hm
open Go.RowKit Go.Lib in
def Tryd.laysM145_ren : Go.Shelf.Ren := ⟨fun | 145 => 15 | 220 => 26 | 219 => 46 | 217 => 60 | 225 => 61 | 224 => 62 | 267 => 63 | 266 => 75 | 314 => 76 | n => n, fun | 9 => 9 | 4 => 4 | 59 => 56 | 3 => 3 | 5 => 5 | 46 => 106 | 146 => 118 | 51 => 117 | n => n, fun | 1 => 0 | n => n⟩
theorem Tryd.laysM145 : Go.Proofs.LaysM.n145 Tryd.prog Tryd.laysM145_ren := {
  mixed := by kernel_rfl
  f145 := Tryd.func15.trans (congrArg some (by kernel_rfl))
  f217 := Tryd.func60.trans (congrArg some (by kernel_rfl))
  f219 := Tryd.func46.trans (congrArg some (by kernel_rfl))
  f220 := Tryd.func26.trans (congrArg some (by kernel_rfl))
  f224 := Tryd.func62.trans (congrArg some (by kernel_rfl))
  f225 := Tryd.func61.trans (congrArg some (by kernel_rfl))
  f266 := Tryd.func75.trans (congrArg some (by kernel_rfl))
  f267 := Tryd.func63.trans (congrArg some (by kernel_rfl))
  f314 := Tryd.func76.trans (congrArg some (by kernel_rfl))
  t3 := Tryd.underlying3
  a3 := Tryd.isAgg3
  z3 := Tryd.sizeOf3
  v3 := Tryd.zeroValue3
  t4 := Tryd.underlying4
  a4 := Tryd.isAgg4
  z4 := Tryd.sizeOf4
  v4 := Tryd.zeroValue4
  t5 := Tryd.underlying5
  a5 := Tryd.isAgg5
  z5 := Tryd.sizeOf5
  v5 := Tryd.zeroValue5
  t9 := Tryd.underlying9
  a9 := Tryd.isAgg9
  z9 := Tryd.sizeOf9
  v9 := Tryd.zeroValue9
  t46 := Tryd.underlying106
  a46 := Tryd.isAgg106
  z46 := Tryd.sizeOf106
  v46 := Tryd.zeroValue106
  t51 := Tryd.underlying117
  a51 := Tryd.isAgg117
  z51 := Tryd.sizeOf117
  v51 := Tryd.zeroValue117
  t59 := Tryd.underlying56
  a59 := Tryd.isAgg56
  z59 := Tryd.sizeOf56
  v59 := Tryd.zeroValue56
  t146 := Tryd.underlying118
  a146 := Tryd.isAgg118
  z146 := Tryd.sizeOf118
  v146 := Tryd.zeroValue118
  g1 := by kernel_rfl
  i3 := by kernel_rfl
  i4 := by kernel_rfl
  i5 := by kernel_rfl
  i9 := by kernel_rfl
  i46 := by kernel_rfl
  i51 := by kernel_rfl
  i59 := by kernel_rfl
  i146 := by kernel_rfl
  m1 := by kernel_rfl
  s1_3 := fun w h => Go.Proofs.cell_of_shapedOpen_int (zero := #[.int .i64 0]) (t := 3) h (of_decide_eq_true (by kernel_rfl)) (by kernel_rfl) rfl (by kernel_rfl) (by kernel_rfl) Tryd.underlying3 }
open Go.RowKit Go.Lib in
def Tryd.lays100_ren : Go.Shelf.Ren := ⟨fun | 100 => 18 | 207 => 34 | n => n, fun | 9 => 9 | 4 => 4 | 3 => 3 | n => n, fun | n => n⟩
theorem Tryd.lays100 : Go.Proofs.Lays.n100 Tryd.prog Tryd.lays100_ren := {
  mixed := by kernel_rfl
  f100 := Tryd.func18.trans (congrArg some (by kernel_rfl))
  f207 := Tryd.func34.trans (congrArg some (by kernel_rfl))
  t3 := Tryd.underlying3
  a3 := Tryd.isAgg3
  z3 := Tryd.sizeOf3
  v3 := Tryd.zeroValue3
  t4 := Tryd.underlying4
  a4 := Tryd.isAgg4
  z4 := Tryd.sizeOf4
  v4 := Tryd.zeroValue4
  t9 := Tryd.underlying9
  a9 := Tryd.isAgg9
  z9 := Tryd.sizeOf9
  v9 := Tryd.zeroValue9 }
open Go.RowKit Go.Lib in
theorem Tryd.strings_HasSuffix (s p : ByteArray) (w : World) (hs : s.size ≤ 9223372036854775807) :
    Calls Tryd.prog 18 #[.string s, .string p] w fun e w' => e = .returned (.bool (Lib.hasSuffix s.data.toList p.data.toList)) ∧ w' = w := Any.strings_HasSuffix Tryd.lays100 s p w hs
open Go.RowKit Go.Lib in
def Tryd.lays146_ren : Go.Shelf.Ren := ⟨fun | 146 => 16 | 221 => 27 | 268 => 47 | 138 => 48 | 143 => 49 | 195 => 64 | 197 => 65 | 218 => 66 | 219 => 46 | 260 => 77 | 217 => 60 | 225 => 61 | 224 => 62 | 267 => 63 | 266 => 75 | 314 => 76 | n => n, fun | 9 => 9 | 31 => 59 | 3 => 3 | 4 => 4 | 0 => 0 | 105 => 108 | 21 => 21 | 5 => 5 | 46 => 106 | 119 => 129 | 139 => 132 | 138 => 131 | 146 => 118 | 51 => 117 | n => n, fun | 1 => 0 | 3 => 2 | 4 => 3 | n => n⟩
theorem Tryd.lays146 : Go.Proofs.Lays.n146 Tryd.prog Tryd.lays146_ren := {
  mixed := by kernel_rfl
  f138 := Tryd.func48.trans (congrArg some (by kernel_rfl))
  f143 := Tryd.func49.trans (congrArg some (by kernel_rfl))
  f146 := Tryd.func16.trans (congrArg some (by kernel_rfl))
  f195 := Tryd.func64.trans (congrArg some (by kernel_rfl))
  f197 := Tryd.func65.trans (congrArg some (by kernel_rfl))
  f217 := Tryd.func60.trans (congrArg some (by kernel_rfl))
  f218 := Tryd.func66.trans (congrArg some (by kernel_rfl))
  f219 := Tryd.func46.trans (congrArg some (by kernel_rfl))
  f221 := Tryd.func27.trans (congrArg some (by kernel_rfl))
  f224 := Tryd.func62.trans (congrArg some (by kernel_rfl))
  f225 := Tryd.func61.trans (congrArg some (by kernel_rfl))
  f260 := Tryd.func77.trans (congrArg some (by kernel_rfl))
  f266 := Tryd.func75.trans (congrArg some (by kernel_rfl))
  f267 := Tryd.func63.trans (congrArg some (by kernel_rfl))
  f268 := Tryd.func47.trans (congrArg some (by kernel_rfl))
  f314 := Tryd.func76.trans (congrArg some (by kernel_rfl))
  t0 := Tryd.underlying0
  a0 := Tryd.isAgg0
  z0 := Tryd.sizeOf0
  v0 := Tryd.zeroValue0
  t3 := Tryd.underlying3
  a3 := Tryd.isAgg3
  z3 := Tryd.sizeOf3
  v3 := Tryd.zeroValue3
  t4 := Tryd.underlying4
  a4 := Tryd.isAgg4
  z4 := Tryd.sizeOf4
  v4 := Tryd.zeroValue4
  t5 := Tryd.underlying5
  a5 := Tryd.isAgg5
  z5 := Tryd.sizeOf5
  v5 := Tryd.zeroValue5
  t9 := Tryd.underlying9
  a9 := Tryd.isAgg9
  z9 := Tryd.sizeOf9
  v9 := Tryd.zeroValue9
  t21 := Tryd.underlying21
  a21 := Tryd.isAgg21
  z21 := Tryd.sizeOf21
  v21 := Tryd.zeroValue21
  t31 := Tryd.underlying59
  a31 := Tryd.isAgg59
  z31 := Tryd.sizeOf59
  v31 := Tryd.zeroValue59
  t46 := Tryd.underlying106
  a46 := Tryd.isAgg106
  z46 := Tryd.sizeOf106
  v46 := Tryd.zeroValue106
  t51 := Tryd.underlying117
  a51 := Tryd.isAgg117
  z51 := Tryd.sizeOf117
  v51 := Tryd.zeroValue117
  t105 := Tryd.underlying108
  a105 := Tryd.isAgg108
  z105 := Tryd.sizeOf108
  v105 := Tryd.zeroValue108
  t119 := Tryd.underlying129
  a119 := Tryd.isAgg129
  z119 := Tryd.sizeOf129
  t138 := Tryd.underlying131
  a138 := Tryd.isAgg131
  z138 := Tryd.sizeOf131
  v138 := Tryd.zeroValue131
  t139 := Tryd.underlying132
  a139 := Tryd.isAgg132
  z139 := Tryd.sizeOf132
  v139 := Tryd.zeroValue132
  t146 := Tryd.underlying118
  a146 := Tryd.isAgg118
  z146 := Tryd.sizeOf118
  v146 := Tryd.zeroValue118
  g1 := by kernel_rfl
  g3 := by kernel_rfl
  g4 := by kernel_rfl }
open Go.RowKit Go.Lib in
theorem Tryd.strings_Split (s sep : ByteArray) (m : Int) (w : World) (hs : s.size < 4294967281) (hm : w.cell? ⟨0, 0, none⟩ = some (.int .i64 m)) (h1 : 1 ≤ sep.size) :
    Calls Tryd.prog 16 #[.string s, .string sep] w fun e w' =>
      e = .returned (.slice (some ⟨w.heap.size, 0, none⟩) (Lib.countB s sep + 1) (Lib.countB s sep + 1)) ∧ w' = w.alloc (.cells ((Lib.splitB sep 0 (Lib.countB s sep) s).map Value.string).toArray 9) := Any.strings_Split Tryd.lays146 (by kernel_rfl) s sep m w hs hm h1
end Go.Proofs

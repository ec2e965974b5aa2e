/- SdB SdC SdD SdE SdF SdG -/
import Derived.Test.YtpcmbmabmfghkaaDoorL08
namespace Go.Proofs.YtpcmbmabmfghkaaDoor
open Go.RowKit
set_option linter.unusedVariables false
set_option maxRecDepth 100000
set_option maxHeartbeats 2000000 in
theorem same40_zero (w : World) :
    Calls Tryd.prog 39 #[.agg #[.int .i64 0, .int .i64 0, .int .i64 0, .int .i64 0, .int .i64 0, .slice none 0 0], .agg #[.int .i64 0, .int .i64 0, .int .i64 0, .int .i64 0, .int .i64 0, .slice none 0 0]] w fun e w' => e = .returned (.bool true) ∧ Below w.heap.size w w' := by
  have H0 := ((Ow.of (St.refl w)).arr #[.int .i64 0, .int .i64 0, .int .i64 0, .int .i64 0, .int .i64 0, .slice none 0 0] 6 rfl (by omega) 29).arr #[.int .i64 0, .int .i64 0, .int .i64 0, .int .i64 0, .int .i64 0, .slice none 0 0] 6 rfl (by omega) 29
  simp only [World.size_alloc, List.cons_append, List.nil_append] at H0
  have HO := Lib.hid H0
  clear H0
  go_enter Tryd.func39, Tryd.ntmps39
  go_upto_region 1 with (with_reducible refine upon_id ?_; go_simp)
  generalize hWW : (World.alloc (World.alloc _ _) _) = WW at *
  clear hWW
  have y0 : WW.cell? ⟨w.heap.size, 0, none⟩ = some (.int .i64 0) := (HO.out.row 0 rfl).cellAt 0 (by decide)
  have y1 : WW.cell? ⟨w.heap.size, 1, none⟩ = some (.int .i64 0) := (HO.out.row 0 rfl).cellAt 1 (by decide)
  have y2 : WW.cell? ⟨w.heap.size, 2, none⟩ = some (.int .i64 0) := (HO.out.row 0 rfl).cellAt 2 (by decide)
  have y3 : WW.cell? ⟨w.heap.size, 3, none⟩ = some (.int .i64 0) := (HO.out.row 0 rfl).cellAt 3 (by decide)
  have y4 : WW.cell? ⟨w.heap.size, 4, none⟩ = some (.int .i64 0) := (HO.out.row 0 rfl).cellAt 4 (by decide)
  have y5 : WW.cell? ⟨w.heap.size, 5, none⟩ = some (.slice none 0 0) := (HO.out.row 0 rfl).cellAt 5 (by decide)
  have z0 : WW.cell? ⟨(w.heap.size + 1), 0, none⟩ = some (.int .i64 0) := (HO.out.row 1 rfl).cellAt 0 (by decide)
  have z1 : WW.cell? ⟨(w.heap.size + 1), 1, none⟩ = some (.int .i64 0) := (HO.out.row 1 rfl).cellAt 1 (by decide)
  have z2 : WW.cell? ⟨(w.heap.size + 1), 2, none⟩ = some (.int .i64 0) := (HO.out.row 1 rfl).cellAt 2 (by decide)
  have z3 : WW.cell? ⟨(w.heap.size + 1), 3, none⟩ = some (.int .i64 0) := (HO.out.row 1 rfl).cellAt 3 (by decide)
  have z4 : WW.cell? ⟨(w.heap.size + 1), 4, none⟩ = some (.int .i64 0) := (HO.out.row 1 rfl).cellAt 4 (by decide)
  have z5 : WW.cell? ⟨(w.heap.size + 1), 5, none⟩ = some (.slice none 0 0) := (HO.out.row 1 rfl).cellAt 5 (by decide)
  have hconv := Lib.run_convert_nil_bytes (P := Tryd.prog) WW 27 9 5 0 Tryd.underlying27 Tryd.underlying5 Tryd.underlying9
  go_wp2_with (with_reducible refine upon_id ?_; go_simp)
  go_ret
  exact ⟨rfl, HO.out.below⟩
set_option maxHeartbeats 4000000 in
theorem same45_plain (kk : Int) (w : World) :
    Calls Tryd.prog 20 #[.agg #[.int .i64 kk, .int .i64 0, .int .i64 0, .int .i64 0, .int .i64 0, .int .i64 0, .int .i64 0, .int .i64 0, .slice none 0 0, .int .i64 0, .int .i64 0, .int .i64 0, .int .i64 0, .int .i64 0, .int .i64 0, .int .i64 0, .int .i64 0, .int .u8 0, .int .u8 0, .bool false, .int .i64 0, .int .i64 0, .int .i64 0, .int .i64 0, .bool false, .bool false], .agg #[.int .i64 kk, .int .i64 0, .int .i64 0, .int .i64 0, .int .i64 0, .int .i64 0, .int .i64 0, .int .i64 0, .slice none 0 0, .int .i64 0, .int .i64 0, .int .i64 0, .int .i64 0, .int .i64 0, .int .i64 0, .int .i64 0, .int .i64 0, .int .u8 0, .int .u8 0, .bool false, .int .i64 0, .int .i64 0, .int .i64 0, .int .i64 0, .bool false, .bool false]] w fun e w' => e = .returned (.bool true) ∧ Below w.heap.size w w' := by
  have H0 := ((Ow.of (St.refl w)).arr #[.int .i64 kk, .int .i64 0, .int .i64 0, .int .i64 0, .int .i64 0, .int .i64 0, .int .i64 0, .int .i64 0, .slice none 0 0, .int .i64 0, .int .i64 0, .int .i64 0, .int .i64 0, .int .i64 0, .int .i64 0, .int .i64 0, .int .i64 0, .int .u8 0, .int .u8 0, .bool false, .int .i64 0, .int .i64 0, .int .i64 0, .int .i64 0, .bool false, .bool false] 26 rfl (by omega) 37).arr #[.int .i64 kk, .int .i64 0, .int .i64 0, .int .i64 0, .int .i64 0, .int .i64 0, .int .i64 0, .int .i64 0, .slice none 0 0, .int .i64 0, .int .i64 0, .int .i64 0, .int .i64 0, .int .i64 0, .int .i64 0, .int .i64 0, .int .i64 0, .int .u8 0, .int .u8 0, .bool false, .int .i64 0, .int .i64 0, .int .i64 0, .int .i64 0, .bool false, .bool false] 26 rfl (by omega) 37
  simp only [World.size_alloc, List.cons_append, List.nil_append] at H0
  have HO := Lib.hid H0
  clear H0
  go_enter Tryd.func20, Tryd.ntmps20
  go_upto_region 1 with (with_reducible refine upon_id ?_; go_simp)
  generalize hWW : (World.alloc (World.alloc _ _) _) = WW at *
  clear hWW
  have y0 : WW.cell? ⟨w.heap.size, 0, none⟩ = some (.int .i64 kk) := (HO.out.row 0 rfl).cellAt 0 (by decide)
  have y1 : WW.cell? ⟨w.heap.size, 1, none⟩ = some (.int .i64 0) := (HO.out.row 0 rfl).cellAt 1 (by decide)
  have y2 : WW.cell? ⟨w.heap.size, 2, none⟩ = some (.int .i64 0) := (HO.out.row 0 rfl).cellAt 2 (by decide)
  have y3 : WW.cell? ⟨w.heap.size, 3, none⟩ = some (.int .i64 0) := (HO.out.row 0 rfl).cellAt 3 (by decide)
  have y4 : WW.cell? ⟨w.heap.size, 4, none⟩ = some (.int .i64 0) := (HO.out.row 0 rfl).cellAt 4 (by decide)
  have y5 : WW.cell? ⟨w.heap.size, 5, none⟩ = some (.int .i64 0) := (HO.out.row 0 rfl).cellAt 5 (by decide)
  have y6 : WW.cell? ⟨w.heap.size, 6, none⟩ = some (.int .i64 0) := (HO.out.row 0 rfl).cellAt 6 (by decide)
  have y7 : WW.cell? ⟨w.heap.size, 7, none⟩ = some (.int .i64 0) := (HO.out.row 0 rfl).cellAt 7 (by decide)
  have y8 : WW.cell? ⟨w.heap.size, 8, none⟩ = some (.slice none 0 0) := (HO.out.row 0 rfl).cellAt 8 (by decide)
  have z0 : WW.cell? ⟨(w.heap.size + 1), 0, none⟩ = some (.int .i64 kk) := (HO.out.row 1 rfl).cellAt 0 (by decide)
  have z1 : WW.cell? ⟨(w.heap.size + 1), 1, none⟩ = some (.int .i64 0) := (HO.out.row 1 rfl).cellAt 1 (by decide)
  have z2 : WW.cell? ⟨(w.heap.size + 1), 2, none⟩ = some (.int .i64 0) := (HO.out.row 1 rfl).cellAt 2 (by decide)
  have z3 : WW.cell? ⟨(w.heap.size + 1), 3, none⟩ = some (.int .i64 0) := (HO.out.row 1 rfl).cellAt 3 (by decide)
  have z4 : WW.cell? ⟨(w.heap.size + 1), 4, none⟩ = some (.int .i64 0) := (HO.out.row 1 rfl).cellAt 4 (by decide)
  have z5 : WW.cell? ⟨(w.heap.size + 1), 5, none⟩ = some (.int .i64 0) := (HO.out.row 1 rfl).cellAt 5 (by decide)
  have z6 : WW.cell? ⟨(w.heap.size + 1), 6, none⟩ = some (.int .i64 0) := (HO.out.row 1 rfl).cellAt 6 (by decide)
  have z7 : WW.cell? ⟨(w.heap.size + 1), 7, none⟩ = some (.int .i64 0) := (HO.out.row 1 rfl).cellAt 7 (by decide)
  have z8 : WW.cell? ⟨(w.heap.size + 1), 8, none⟩ = some (.slice none 0 0) := (HO.out.row 1 rfl).cellAt 8 (by decide)
  go_wp2_with (with_reducible refine upon_id ?_; go_simp)
  refine (same40_zero WW).mono ?_
  rintro e w3 ⟨rfl, hb⟩
  have HP := Lib.hid (HO.out.go hb)
  clear hb
  have u9 : w3.cell? ⟨w.heap.size, 9, none⟩ = some (.int .i64 0) := (HP.out.row 0 rfl).cellAt 9 (by decide)
  have u10 : w3.cell? ⟨w.heap.size, 10, none⟩ = some (.int .i64 0) := (HP.out.row 0 rfl).cellAt 10 (by decide)
  have u11 : w3.cell? ⟨w.heap.size, 11, none⟩ = some (.int .i64 0) := (HP.out.row 0 rfl).cellAt 11 (by decide)
  have u12 : w3.cell? ⟨w.heap.size, 12, none⟩ = some (.int .i64 0) := (HP.out.row 0 rfl).cellAt 12 (by decide)
  have u13 : w3.cell? ⟨w.heap.size, 13, none⟩ = some (.int .i64 0) := (HP.out.row 0 rfl).cellAt 13 (by decide)
  have u14 : w3.cell? ⟨w.heap.size, 14, none⟩ = some (.int .i64 0) := (HP.out.row 0 rfl).cellAt 14 (by decide)
  have u15 : w3.cell? ⟨w.heap.size, 15, none⟩ = some (.int .i64 0) := (HP.out.row 0 rfl).cellAt 15 (by decide)
  have u16 : w3.cell? ⟨w.heap.size, 16, none⟩ = some (.int .i64 0) := (HP.out.row 0 rfl).cellAt 16 (by decide)
  have u17 : w3.cell? ⟨w.heap.size, 17, none⟩ = some (.int .u8 0) := (HP.out.row 0 rfl).cellAt 17 (by decide)
  have u18 : w3.cell? ⟨w.heap.size, 18, none⟩ = some (.int .u8 0) := (HP.out.row 0 rfl).cellAt 18 (by decide)
  have u19 : w3.cell? ⟨w.heap.size, 19, none⟩ = some (.bool false) := (HP.out.row 0 rfl).cellAt 19 (by decide)
  have u20 : w3.cell? ⟨w.heap.size, 20, none⟩ = some (.int .i64 0) := (HP.out.row 0 rfl).cellAt 20 (by decide)
  have u21 : w3.cell? ⟨w.heap.size, 21, none⟩ = some (.int .i64 0) := (HP.out.row 0 rfl).cellAt 21 (by decide)
  have u22 : w3.cell? ⟨w.heap.size, 22, none⟩ = some (.int .i64 0) := (HP.out.row 0 rfl).cellAt 22 (by decide)
  have u23 : w3.cell? ⟨w.heap.size, 23, none⟩ = some (.int .i64 0) := (HP.out.row 0 rfl).cellAt 23 (by decide)
  have u24 : w3.cell? ⟨w.heap.size, 24, none⟩ = some (.bool false) := (HP.out.row 0 rfl).cellAt 24 (by decide)
  have u25 : w3.cell? ⟨w.heap.size, 25, none⟩ = some (.bool false) := (HP.out.row 0 rfl).cellAt 25 (by decide)
  have v9 : w3.cell? ⟨(w.heap.size + 1), 9, none⟩ = some (.int .i64 0) := (HP.out.row 1 rfl).cellAt 9 (by decide)
  have v10 : w3.cell? ⟨(w.heap.size + 1), 10, none⟩ = some (.int .i64 0) := (HP.out.row 1 rfl).cellAt 10 (by decide)
  have v11 : w3.cell? ⟨(w.heap.size + 1), 11, none⟩ = some (.int .i64 0) := (HP.out.row 1 rfl).cellAt 11 (by decide)
  have v12 : w3.cell? ⟨(w.heap.size + 1), 12, none⟩ = some (.int .i64 0) := (HP.out.row 1 rfl).cellAt 12 (by decide)
  have v13 : w3.cell? ⟨(w.heap.size + 1), 13, none⟩ = some (.int .i64 0) := (HP.out.row 1 rfl).cellAt 13 (by decide)
  have v14 : w3.cell? ⟨(w.heap.size + 1), 14, none⟩ = some (.int .i64 0) := (HP.out.row 1 rfl).cellAt 14 (by decide)
  have v15 : w3.cell? ⟨(w.heap.size + 1), 15, none⟩ = some (.int .i64 0) := (HP.out.row 1 rfl).cellAt 15 (by decide)
  have v16 : w3.cell? ⟨(w.heap.size + 1), 16, none⟩ = some (.int .i64 0) := (HP.out.row 1 rfl).cellAt 16 (by decide)
  have v17 : w3.cell? ⟨(w.heap.size + 1), 17, none⟩ = some (.int .u8 0) := (HP.out.row 1 rfl).cellAt 17 (by decide)
  have v18 : w3.cell? ⟨(w.heap.size + 1), 18, none⟩ = some (.int .u8 0) := (HP.out.row 1 rfl).cellAt 18 (by decide)
  have v19 : w3.cell? ⟨(w.heap.size + 1), 19, none⟩ = some (.bool false) := (HP.out.row 1 rfl).cellAt 19 (by decide)
  have v20 : w3.cell? ⟨(w.heap.size + 1), 20, none⟩ = some (.int .i64 0) := (HP.out.row 1 rfl).cellAt 20 (by decide)
  have v21 : w3.cell? ⟨(w.heap.size + 1), 21, none⟩ = some (.int .i64 0) := (HP.out.row 1 rfl).cellAt 21 (by decide)
  have v22 : w3.cell? ⟨(w.heap.size + 1), 22, none⟩ = some (.int .i64 0) := (HP.out.row 1 rfl).cellAt 22 (by decide)
  have v23 : w3.cell? ⟨(w.heap.size + 1), 23, none⟩ = some (.int .i64 0) := (HP.out.row 1 rfl).cellAt 23 (by decide)
  have v24 : w3.cell? ⟨(w.heap.size + 1), 24, none⟩ = some (.bool false) := (HP.out.row 1 rfl).cellAt 24 (by decide)
  have v25 : w3.cell? ⟨(w.heap.size + 1), 25, none⟩ = some (.bool false) := (HP.out.row 1 rfl).cellAt 25 (by decide)
  go_wp2_with (with_reducible refine upon_id ?_; go_simp)
  go_ret
  exact ⟨rfl, HP.out.below⟩
theorem opWord_1 (w : World) :
    Calls Tryd.prog 54 #[.int .i64 1] w fun e w' => e = .returned (.string ⟨#[114, 101, 97, 100]⟩) ∧ w' = w := by
  go_enter Tryd.func54, Tryd.ntmps54
  go_wp2_with fail
  go_ret
  exact ⟨rfl, rfl⟩
theorem opWord_2 (w : World) :
    Calls Tryd.prog 54 #[.int .i64 2] w fun e w' => e = .returned (.string ⟨#[119, 114, 105, 116, 101]⟩) ∧ w' = w := by
  go_enter Tryd.func54, Tryd.ntmps54
  go_wp2_with fail
  go_ret
  exact ⟨rfl, rfl⟩
theorem opWord_3 (w : World) :
    Calls Tryd.prog 54 #[.int .i64 3] w fun e w' => e = .returned (.string ⟨#[109, 97, 112]⟩) ∧ w' = w := by
  go_enter Tryd.func54, Tryd.ntmps54
  go_wp2_with fail
  go_ret
  exact ⟨rfl, rfl⟩
theorem opWord_4 (w : World) :
    Calls Tryd.prog 54 #[.int .i64 4] w fun e w' => e = .returned (.string ⟨#[102, 111, 114, 107]⟩) ∧ w' = w := by
  go_enter Tryd.func54, Tryd.ntmps54
  go_wp2_with fail
  go_ret
  exact ⟨rfl, rfl⟩
theorem opWord_5 (w : World) :
    Calls Tryd.prog 54 #[.int .i64 5] w fun e w' => e = .returned (.string ⟨#[100, 114, 111, 112]⟩) ∧ w' = w := by
  go_enter Tryd.func54, Tryd.ntmps54
  go_wp2_with fail
  go_ret
  exact ⟨rfl, rfl⟩
theorem opWord_6 (w : World) :
    Calls Tryd.prog 54 #[.int .i64 6] w fun e w' => e = .returned (.string ⟨#[115, 97, 118, 101]⟩) ∧ w' = w := by
  go_enter Tryd.func54, Tryd.ntmps54
  go_wp2_with fail
  go_ret
  exact ⟨rfl, rfl⟩
end Go.Proofs.YtpcmbmabmfghkaaDoor

namespace Go.Proofs.YtpcmbmabmfghkaaDoor
open Go.RowKit
set_option linter.unusedVariables false
set_option maxRecDepth 100000
structure NuK (base : World) (eb : Nat) (Ld : Nat → Bool) (u0 u1 u2 u3 u4 u5 u6 u7 u8 : Value) (W : World) : Prop where
  bw : Below base.heap.size base W
  h0 : Ld 0 = true → u0 = .pointer (some ⟨eb, 3, none⟩)
  h1 : Ld 1 = true → u1 = .agg #[.int .i64 0, .int .i64 0, .int .i64 0, .int .i64 0, .int .i64 0, .slice none 0 0]
  h2 : Ld 2 = true → u2 = .pointer (some ⟨eb, 9, none⟩)
  h3 : Ld 3 = true → u3 = .agg #[.int .i64 0, .int .i64 0, .int .i64 0, .int .i64 0, .int .i64 0, .int .i64 0, .int .i64 0, .int .i64 0, .int .u8 0, .int .u8 0, .bool false]
  h4 : Ld 4 = true → u4 = .pointer (some ⟨eb, 20, none⟩)
  h5 : Ld 5 = true → u5 = .agg #[.int .i64 0, .int .i64 0, .int .i64 0, .int .i64 0, .bool false, .bool false]
  h6 : Ld 6 = true → ∃ b : Nat, (base.heap.size ≤ b ∧ Cel W b 29 6) ∧ u6 = .pointer (some ⟨b, 0, none⟩)
  h7 : Ld 7 = true → ∃ b : Nat, (base.heap.size ≤ b ∧ Cel W b 33 11) ∧ u7 = .pointer (some ⟨b, 0, none⟩)
  h8 : Ld 8 = true → ∃ b : Nat, (base.heap.size ≤ b ∧ Cel W b 35 6) ∧ u8 = .pointer (some ⟨b, 0, none⟩)
def NuI (base : World) (eb : Nat) (A0 : Act) (Ld : Nat → Bool) (a : Act) (W : World) : Prop :=
  ∃ (u0 u1 u2 u3 u4 u5 u6 u7 u8 : Value), a = (((((((((A0.put (some 8) u0).put (some 9) u1).put (some 10) u2).put (some 11) u3).put (some 12) u4).put (some 13) u5).put (some 4) u6).put (some 5) u7).put (some 6) u8) ∧ NuK base eb Ld u0 u1 u2 u3 u4 u5 u6 u7 u8 W
set_option maxHeartbeats 2000000 in
theorem numbers_sync (w : World) :
    Calls Tryd.prog 55 #[.agg #[.int .i64 8, .int .i64 0, .int .i64 0, .int .i64 0, .int .i64 0, .int .i64 0, .int .i64 0, .int .i64 0, .slice none 0 0, .int .i64 0, .int .i64 0, .int .i64 0, .int .i64 0, .int .i64 0, .int .i64 0, .int .i64 0, .int .i64 0, .int .u8 0, .int .u8 0, .bool false, .int .i64 0, .int .i64 0, .int .i64 0, .int .i64 0, .bool false, .bool false]] w fun e w' => e = .returned (.tuple #[.string ⟨#[115, 121, 110, 99]⟩, .slice none 0 0]) ∧ Below w.heap.size w w' := by
  have HO0 := Lib.hid ((Ow.of (St.refl w)).arr #[.int .i64 8, .int .i64 0, .int .i64 0, .int .i64 0, .int .i64 0, .int .i64 0, .int .i64 0, .int .i64 0, .slice none 0 0, .int .i64 0, .int .i64 0, .int .i64 0, .int .i64 0, .int .i64 0, .int .i64 0, .int .i64 0, .int .i64 0, .int .u8 0, .int .u8 0, .bool false, .int .i64 0, .int .i64 0, .int .i64 0, .int .i64 0, .bool false, .bool false] 26 rfl (by omega) 37)
  go_enter Tryd.func55, Tryd.ntmps55
  go_wp2_with fail
  refine reg_inv34 (NuI (w.alloc (.cells #[.int .i64 8, .int .i64 0, .int .i64 0, .int .i64 0, .int .i64 0, .int .i64 0, .int .i64 0, .int .i64 0, .slice none 0 0, .int .i64 0, .int .i64 0, .int .i64 0, .int .i64 0, .int .i64 0, .int .i64 0, .int .i64 0, .int .i64 0, .int .u8 0, .int .u8 0, .bool false, .int .i64 0, .int .i64 0, .int .i64 0, .int .i64 0, .bool false, .bool false] 37)) w.heap.size) (by kernel_rfl) (by kernel_rfl) ?_ ?_ ?_
  · refine ⟨undef, undef, undef, undef, undef, undef, undef, undef, undef, ?_, ⟨(Below.refl _ _).drew, ?_, ?_, ?_, ?_, ?_, ?_, ?_, ?_, ?_⟩⟩
    · simp only [Act.put, List.setIfInBounds_toArray, List.set_cons_zero, List.set_cons_succ]
    all_goals (intro h; cases h)
  · rintro jj Ld b W hj hf hcl hd ⟨u0, u1, u2, u3, u4, u5, u6, u7, u8, rfl, hC⟩
    have hj' : jj < 12 := hj
    have hcase : jj = 0 ∨ jj = 1 ∨ jj = 2 ∨ jj = 3 ∨ jj = 4 ∨ jj = 5 ∨ jj = 6 ∨ jj = 7 ∨ jj = 8 ∨ jj = 9 ∨ jj = 10 ∨ jj = 11 := by omega
    clear hj hj'
    simp only [Act.put, List.setIfInBounds_toArray, List.set_cons_zero, List.set_cons_succ]
    rcases hcase with rfl | rfl | rfl | rfl | rfl | rfl | rfl | rfl | rfl | rfl | rfl | rfl
    · clear hd hcl
      refine wpOp_step rfl (fun K hK => ?_)
      go_simp
      refine hK _ _ ⟨_, u1, u2, u3, u4, u5, u6, u7, u8, ?_, ⟨hC.bw, fun _ => rfl, hC.h1, hC.h2, hC.h3, hC.h4, hC.h5, hC.h6, hC.h7, hC.h8⟩⟩
      simp only [Act.put, List.setIfInBounds_toArray, List.set_cons_zero, List.set_cons_succ]
    · obtain rfl := hC.h0 (hd 0 (by kernel_rfl))
      have her := (HO0.out.go hC.bw).row 0 rfl
      have y3 := her.cellAt 3 (by decide)
      have y4 := her.cellAt 4 (by decide)
      have y5 := her.cellAt 5 (by decide)
      have y6 := her.cellAt 6 (by decide)
      have y7 := her.cellAt 7 (by decide)
      have y8 := her.cellAt 8 (by decide)
      clear hd hcl
      refine wpOp_step rfl (fun K hK => ?_)
      go_simp
      refine hK _ _ ⟨_, _, u2, u3, u4, u5, u6, u7, u8, ?_, ⟨hC.bw, hC.h0, fun _ => rfl, hC.h2, hC.h3, hC.h4, hC.h5, hC.h6, hC.h7, hC.h8⟩⟩
      simp only [Act.put, List.setIfInBounds_toArray, List.set_cons_zero, List.set_cons_succ]
    · clear hd hcl
      refine wpOp_step rfl (fun K hK => ?_)
      go_simp
      refine hK _ _ ⟨u0, u1, _, u3, u4, u5, u6, u7, u8, ?_, ⟨hC.bw, hC.h0, hC.h1, fun _ => rfl, hC.h3, hC.h4, hC.h5, hC.h6, hC.h7, hC.h8⟩⟩
      simp only [Act.put, List.setIfInBounds_toArray, List.set_cons_zero, List.set_cons_succ]
    · obtain rfl := hC.h2 (hd 2 (by kernel_rfl))
      have her := (HO0.out.go hC.bw).row 0 rfl
      have y9 := her.cellAt 9 (by decide)
      have y10 := her.cellAt 10 (by decide)
      have y11 := her.cellAt 11 (by decide)
      have y12 := her.cellAt 12 (by decide)
      have y13 := her.cellAt 13 (by decide)
      have y14 := her.cellAt 14 (by decide)
      have y15 := her.cellAt 15 (by decide)
      have y16 := her.cellAt 16 (by decide)
      have y17 := her.cellAt 17 (by decide)
      have y18 := her.cellAt 18 (by decide)
      have y19 := her.cellAt 19 (by decide)
      clear hd hcl
      refine wpOp_step rfl (fun K hK => ?_)
      go_simp
      refine hK _ _ ⟨u0, u1, _, _, u4, u5, u6, u7, u8, ?_, ⟨hC.bw, hC.h0, hC.h1, hC.h2, fun _ => rfl, hC.h4, hC.h5, hC.h6, hC.h7, hC.h8⟩⟩
      simp only [Act.put, List.setIfInBounds_toArray, List.set_cons_zero, List.set_cons_succ]
    · clear hd hcl
      refine wpOp_step rfl (fun K hK => ?_)
      go_simp
      refine hK _ _ ⟨u0, u1, u2, u3, _, u5, u6, u7, u8, ?_, ⟨hC.bw, hC.h0, hC.h1, hC.h2, hC.h3, fun _ => rfl, hC.h5, hC.h6, hC.h7, hC.h8⟩⟩
      simp only [Act.put, List.setIfInBounds_toArray, List.set_cons_zero, List.set_cons_succ]
    · obtain rfl := hC.h4 (hd 4 (by kernel_rfl))
      have her := (HO0.out.go hC.bw).row 0 rfl
      have y20 := her.cellAt 20 (by decide)
      have y21 := her.cellAt 21 (by decide)
      have y22 := her.cellAt 22 (by decide)
      have y23 := her.cellAt 23 (by decide)
      have y24 := her.cellAt 24 (by decide)
      have y25 := her.cellAt 25 (by decide)
      clear hd hcl
      refine wpOp_step rfl (fun K hK => ?_)
      go_simp
      refine hK _ _ ⟨u0, u1, u2, u3, _, _, u6, u7, u8, ?_, ⟨hC.bw, hC.h0, hC.h1, hC.h2, hC.h3, hC.h4, fun _ => rfl, hC.h6, hC.h7, hC.h8⟩⟩
      simp only [Act.put, List.setIfInBounds_toArray, List.set_cons_zero, List.set_cons_succ]
    · clear hd hcl
      refine wpOp_step rfl (fun K hK => ?_)
      go_simp
      refine hK _ _ ⟨u0, u1, u2, u3, u4, u5, _, u7, u8, ?_, ⟨(below_allocX hC.bw _), hC.h0, hC.h1, hC.h2, hC.h3, hC.h4, hC.h5, fun _ => ⟨_, ⟨hC.bw.size, Cel.new _ _ _⟩, rfl⟩, fun h => by obtain ⟨b, hb, e⟩ := hC.h7 h; exact ⟨b, ⟨hb.1, hb.2.alloc _⟩, e⟩, fun h => by obtain ⟨b, hb, e⟩ := hC.h8 h; exact ⟨b, ⟨hb.1, hb.2.alloc _⟩, e⟩⟩⟩
      simp only [Act.put, List.setIfInBounds_toArray, List.set_cons_zero, List.set_cons_succ]
    · clear hd hcl
      refine wpOp_step rfl (fun K hK => ?_)
      go_simp
      refine hK _ _ ⟨u0, u1, u2, u3, u4, u5, u6, _, u8, ?_, ⟨(below_allocX hC.bw _), hC.h0, hC.h1, hC.h2, hC.h3, hC.h4, hC.h5, fun h => by obtain ⟨b, hb, e⟩ := hC.h6 h; exact ⟨b, ⟨hb.1, hb.2.alloc _⟩, e⟩, fun _ => ⟨_, ⟨hC.bw.size, Cel.new _ _ _⟩, rfl⟩, fun h => by obtain ⟨b, hb, e⟩ := hC.h8 h; exact ⟨b, ⟨hb.1, hb.2.alloc _⟩, e⟩⟩⟩
      simp only [Act.put, List.setIfInBounds_toArray, List.set_cons_zero, List.set_cons_succ]
    · clear hd hcl
      refine wpOp_step rfl (fun K hK => ?_)
      go_simp
      refine hK _ _ ⟨u0, u1, u2, u3, u4, u5, u6, u7, _, ?_, ⟨(below_allocX hC.bw _), hC.h0, hC.h1, hC.h2, hC.h3, hC.h4, hC.h5, fun h => by obtain ⟨b, hb, e⟩ := hC.h6 h; exact ⟨b, ⟨hb.1, hb.2.alloc _⟩, e⟩, fun h => by obtain ⟨b, hb, e⟩ := hC.h7 h; exact ⟨b, ⟨hb.1, hb.2.alloc _⟩, e⟩, fun _ => ⟨_, ⟨hC.bw.size, Cel.new _ _ _⟩, rfl⟩⟩⟩
      simp only [Act.put, List.setIfInBounds_toArray, List.set_cons_zero, List.set_cons_succ]
    · obtain ⟨z, ⟨hzB, hzC⟩, rfl⟩ := hC.h6 (hd 6 (by kernel_rfl))
      obtain rfl := hC.h1 (hd 1 (by kernel_rfl))
      have hzC2 := hzC
      obtain ⟨old, hg, ho⟩ := hzC
      clear hd hcl
      refine wpOp_step rfl (fun K hK => ?_)
      rw [if_pos (by rfl)]
      refine wp_store_row 29 (.tmp 4) (.tmp 9) rfl z #[.int .i64 0, .int .i64 0, .int .i64 0, .int .i64 0, .int .i64 0, .slice none 0 0] rfl rfl 29 _ hg sizeOp ho (by simp [Value.oneCell']) ?_
      refine hK _ _ ⟨u0, (.agg #[.int .i64 0, .int .i64 0, .int .i64 0, .int .i64 0, .int .i64 0, .slice none 0 0]), u2, u3, u4, u5, (.pointer (some ⟨z, 0, none⟩)), u7, u8, ?_, ⟨(below_setRow hC.bw hzB _), hC.h0, hC.h1, hC.h2, hC.h3, hC.h4, hC.h5, fun h => by obtain ⟨b, hb, e⟩ := hC.h6 h; exact ⟨b, ⟨hb.1, hb.2.row hzC2⟩, e⟩, fun h => by obtain ⟨b, hb, e⟩ := hC.h7 h; exact ⟨b, ⟨hb.1, hb.2.row hzC2⟩, e⟩, fun h => by obtain ⟨b, hb, e⟩ := hC.h8 h; exact ⟨b, ⟨hb.1, hb.2.row hzC2⟩, e⟩⟩⟩
      simp only [Act.put, List.setIfInBounds_toArray, List.set_cons_zero, List.set_cons_succ]
      rfl
    · obtain ⟨z, ⟨hzB, hzC⟩, rfl⟩ := hC.h7 (hd 7 (by kernel_rfl))
      obtain rfl := hC.h3 (hd 3 (by kernel_rfl))
      have hzC2 := hzC
      obtain ⟨old, hg, ho⟩ := hzC
      clear hd hcl
      refine wpOp_step rfl (fun K hK => ?_)
      rw [if_pos (by rfl)]
      refine wp_store_row 33 (.tmp 5) (.tmp 11) rfl z #[.int .i64 0, .int .i64 0, .int .i64 0, .int .i64 0, .int .i64 0, .int .i64 0, .int .i64 0, .int .i64 0, .int .u8 0, .int .u8 0, .bool false] rfl rfl 33 _ hg sizeFa ho (by simp [Value.oneCell']) ?_
      refine hK _ _ ⟨u0, u1, u2, (.agg #[.int .i64 0, .int .i64 0, .int .i64 0, .int .i64 0, .int .i64 0, .int .i64 0, .int .i64 0, .int .i64 0, .int .u8 0, .int .u8 0, .bool false]), u4, u5, u6, (.pointer (some ⟨z, 0, none⟩)), u8, ?_, ⟨(below_setRow hC.bw hzB _), hC.h0, hC.h1, hC.h2, hC.h3, hC.h4, hC.h5, fun h => by obtain ⟨b, hb, e⟩ := hC.h6 h; exact ⟨b, ⟨hb.1, hb.2.row hzC2⟩, e⟩, fun h => by obtain ⟨b, hb, e⟩ := hC.h7 h; exact ⟨b, ⟨hb.1, hb.2.row hzC2⟩, e⟩, fun h => by obtain ⟨b, hb, e⟩ := hC.h8 h; exact ⟨b, ⟨hb.1, hb.2.row hzC2⟩, e⟩⟩⟩
      simp only [Act.put, List.setIfInBounds_toArray, List.set_cons_zero, List.set_cons_succ]
      rfl
    · obtain ⟨z, ⟨hzB, hzC⟩, rfl⟩ := hC.h8 (hd 8 (by kernel_rfl))
      obtain rfl := hC.h5 (hd 5 (by kernel_rfl))
      have hzC2 := hzC
      obtain ⟨old, hg, ho⟩ := hzC
      clear hd hcl
      refine wpOp_step rfl (fun K hK => ?_)
      rw [if_pos (by rfl)]
      refine wp_store_row 35 (.tmp 6) (.tmp 13) rfl z #[.int .i64 0, .int .i64 0, .int .i64 0, .int .i64 0, .bool false, .bool false] rfl rfl 35 _ hg sizeTr ho (by simp [Value.oneCell']) ?_
      refine hK _ _ ⟨u0, u1, u2, u3, u4, (.agg #[.int .i64 0, .int .i64 0, .int .i64 0, .int .i64 0, .bool false, .bool false]), u6, u7, (.pointer (some ⟨z, 0, none⟩)), ?_, ⟨(below_setRow hC.bw hzB _), hC.h0, hC.h1, hC.h2, hC.h3, hC.h4, hC.h5, fun h => by obtain ⟨b, hb, e⟩ := hC.h6 h; exact ⟨b, ⟨hb.1, hb.2.row hzC2⟩, e⟩, fun h => by obtain ⟨b, hb, e⟩ := hC.h7 h; exact ⟨b, ⟨hb.1, hb.2.row hzC2⟩, e⟩, fun h => by obtain ⟨b, hb, e⟩ := hC.h8 h; exact ⟨b, ⟨hb.1, hb.2.row hzC2⟩, e⟩⟩⟩
      simp only [Act.put, List.setIfInBounds_toArray, List.set_cons_zero, List.set_cons_succ]
      rfl
  · rintro Ld b W hL ⟨u0, u1, u2, u3, u4, u5, u6, u7, u8, rfl, hC⟩
    obtain ⟨fb, -, rfl⟩ := hC.h6 (hL 6 (by show 6 < 12; decide))
    obtain ⟨tb, -, rfl⟩ := hC.h7 (hL 7 (by show 7 < 12; decide))
    obtain ⟨pb, -, rfl⟩ := hC.h8 (hL 8 (by show 8 < 12; decide))
    have HO1 := Lib.hid (HO0.out.go hC.bw)
    have y0 := (HO1.out.row 0 rfl).cellAt 0 (by decide)
    clear hC hL HO0
    simp only [Act.put, List.setIfInBounds_toArray, List.set_cons_zero, List.set_cons_succ]
    go_wp2_with fail
    refine bodyPost_ret (v := .tuple #[.string ⟨#[115, 121, 110, 99]⟩, .slice none 0 0]) (by simp [results, Tryd.results55]) rfl ?_
    exact ⟨rfl, HO1.out.below⟩
end Go.Proofs.YtpcmbmabmfghkaaDoor

namespace Go.Proofs.YtpcmbmabmfghkaaDoor
open Go.RowKit
set_option linter.unusedVariables false
set_option maxRecDepth 100000
/-- a map whose keys are among ks -/
def SMap (ks : List ByteArray) (b : Nat) (W : World) : Prop :=
  ∃ es clock, W.heap[b]? = some (.map es clock) ∧ MapKept.Stamped es clock ∧ ∀ x ∈ es.toList, ∃ k ∈ ks, x.key = .string k
theorem underSM : ∃ kt et d, Tryd.prog.underlying 99 = some (.map kt et) ∧ Tryd.prog.underlying kt = some d ∧ d = .string := ⟨_, _, _, rfl, rfl, rfl⟩
theorem sput {W : World} {ks : List ByteArray} {b B : Nat} {k : ByteArray} {v : Int} (h : SMap ks b W) (hk : k ∉ ks) (hB : B ≤ b) :
    ∃ W', (Instr.mapUpdate 99 (.map (some b)) (.string k) (.int .i64 v)).run Tryd.prog W = .ok () W' ∧ SMap (k :: ks) b W' ∧ Below B W W' := by
  obtain ⟨es, clock, hb, hs, hx⟩ := h
  obtain ⟨kt, et, d, hm, hd, rfl⟩ := underSM
  have hkey : MapKept.IsKey .string (.string k) := trivial
  have hks : ∀ x ∈ es.toList, MapKept.IsKey .string x.key := fun x h => by
    obtain ⟨j, _, e⟩ := hx x h
    rw [e]; trivial
  have hno : ∀ x ∈ es.toList, x.key ≠ .string k := fun x h e => by
    obtain ⟨j, hj, e2⟩ := hx x h
    rw [e2] at e
    injection e with e3
    exact hk (e3 ▸ hj)
  rcases MapKept.findNow_spec hkey es.toList 0 hks with ⟨h1, h2⟩ | ⟨j, e, h1, h2, h3⟩
  · refine ⟨_, by simp [Instr.mapUpdate, run_underlying hm, MapKept.run_getObj_map hb, MapKept.run_checkKey hd hkey, MapKept.run_findKey hd h1, MapKept.run_setObj_map _ hb, Result.andThen]; rfl, ⟨_, _, (MapKept.heap_set hb).1, MapKept.stamped_push hs h2, ?_⟩, ?_⟩
    · intro x hx'
      simp only [Array.toList_push, List.mem_append, List.mem_singleton] at hx'
      rcases hx' with h | rfl
      · obtain ⟨j, hj, e1⟩ := hx x h
        exact ⟨j, List.mem_cons_of_mem _ hj, e1⟩
      · exact ⟨k, List.mem_cons_self .., rfl⟩
    · exact ⟨rfl, rfl, rfl, by simp, fun k hk => (MapKept.heap_set hb).2 k (by omega)⟩
  · exact absurd h3 (hno e (List.mem_of_getElem? h2))
theorem slook {W : World} {ks : List ByteArray} {b : Nat} {k : ByteArray} (h : SMap ks b W) (hk : k ∉ ks) :
    (Instr.lookup 99 (.map (some b)) (.string k) true).run Tryd.prog W = .ok (.tuple #[.int .i64 0, .bool false]) W := by
  obtain ⟨es, clock, hb, hs, hx⟩ := h
  obtain ⟨kt, et, d, hm, hd, rfl⟩ := underSM
  have hkey : MapKept.IsKey .string (.string k) := trivial
  have hks : ∀ x ∈ es.toList, MapKept.IsKey .string x.key := fun x h => by
    obtain ⟨j, _, e⟩ := hx x h
    rw [e]; trivial
  rcases MapKept.findNow_spec hkey es.toList 0 hks with ⟨h1, h2⟩ | ⟨j, e, h1, h2, h3⟩
  · obtain rfl : et = 3 := by
      have h9 : Tryd.prog.underlying 99 = some (.map 9 3) := by kernel_rfl
      rw [h9] at hm
      injection hm with hm
      injection hm with _ h10
      exact h10.symm
    simp [Instr.lookup, run_underlying hm, MapKept.run_getObj_map hb, MapKept.run_checkKey hd hkey, MapKept.run_findKey hd h1, Result.andThen]
  · obtain ⟨j2, hj2, e2⟩ := hx e (List.mem_of_getElem? h2)
    rw [e2] at h3
    injection h3 with e3
    exact absurd (e3 ▸ hj2) hk
end Go.Proofs.YtpcmbmabmfghkaaDoor

namespace Go.Proofs.YtpcmbmabmfghkaaDoor
open Go.RowKit
set_option linter.unusedVariables false
set_option maxRecDepth 100000
theorem makeSM (w : World) : (Instr.makeMap 99 none).run Tryd.prog w = .ok (.map (some w.heap.size)) (w.alloc (.map #[] 0)) := by
  simp [Instr.makeMap, Result.andThen]
set_option maxHeartbeats 2000000 in
theorem event45_sync (w : World) :
    Calls Tryd.prog 37 #[.string ⟨#[115, 121, 110, 99]⟩, .slice none 0 0, .slice none 0 0] w fun e w' => e = .returned (.tuple #[.agg #[.int .i64 8, .int .i64 0, .int .i64 0, .int .i64 0, .int .i64 0, .int .i64 0, .int .i64 0, .int .i64 0, .slice none 0 0, .int .i64 0, .int .i64 0, .int .i64 0, .int .i64 0, .int .i64 0, .int .i64 0, .int .i64 0, .int .i64 0, .int .u8 0, .int .u8 0, .bool false, .int .i64 0, .int .i64 0, .int .i64 0, .int .i64 0, .bool false, .bool false], .bool true]) ∧ Below w.heap.size w w' := by
  have HO0 := Lib.hid ((Ow.of (St.refl w)).arr #[.int .i64 0, .int .i64 0, .int .i64 0, .int .i64 0, .int .i64 0, .int .i64 0, .int .i64 0, .int .i64 0, .slice none 0 0, .int .i64 0, .int .i64 0, .int .i64 0, .int .i64 0, .int .i64 0, .int .i64 0, .int .i64 0, .int .i64 0, .int .u8 0, .int .u8 0, .bool false, .int .i64 0, .int .i64 0, .int .i64 0, .int .i64 0, .bool false, .bool false] 26 rfl (by omega) 37)
  go_enter Tryd.func37, Tryd.ntmps37
  go_upto_region 1 with (with_reducible refine upon_id ?_; go_simp)
  generalize hWW : w.alloc (.cells #[.int .i64 0, .int .i64 0, .int .i64 0, .int .i64 0, .int .i64 0, .int .i64 0, .int .i64 0, .int .i64 0, .slice none 0 0, .int .i64 0, .int .i64 0, .int .i64 0, .int .i64 0, .int .i64 0, .int .i64 0, .int .i64 0, .int .i64 0, .int .u8 0, .int .u8 0, .bool false, .int .i64 0, .int .i64 0, .int .i64 0, .int .i64 0, .bool false, .bool false] 37) = WW at *
  clear hWW
  go_wp2_with (with_reducible refine upon_id ?_; go_simp)
  refine wp_loop_rounds 7 ?_
  rw [rounds_succ]
  go_wp2_with (with_reducible refine upon_id ?_; go_simp)
  refine (opWord_1 _).mono ?_
  rintro e w2 ⟨rfl, hw⟩
  have hw := hw.symm
  subst hw
  go_wp2_with (with_reducible refine upon_id ?_; go_simp)
  rw [rounds_succ]
  go_wp2_with (with_reducible refine upon_id ?_; go_simp)
  refine (opWord_2 _).mono ?_
  rintro e w2 ⟨rfl, hw⟩
  have hw := hw.symm
  subst hw
  go_wp2_with (with_reducible refine upon_id ?_; go_simp)
  rw [rounds_succ]
  go_wp2_with (with_reducible refine upon_id ?_; go_simp)
  refine (opWord_3 _).mono ?_
  rintro e w2 ⟨rfl, hw⟩
  have hw := hw.symm
  subst hw
  go_wp2_with (with_reducible refine upon_id ?_; go_simp)
  rw [rounds_succ]
  go_wp2_with (with_reducible refine upon_id ?_; go_simp)
  refine (opWord_4 _).mono ?_
  rintro e w2 ⟨rfl, hw⟩
  have hw := hw.symm
  subst hw
  go_wp2_with (with_reducible refine upon_id ?_; go_simp)
  rw [rounds_succ]
  go_wp2_with (with_reducible refine upon_id ?_; go_simp)
  refine (opWord_5 _).mono ?_
  rintro e w2 ⟨rfl, hw⟩
  have hw := hw.symm
  subst hw
  go_wp2_with (with_reducible refine upon_id ?_; go_simp)
  rw [rounds_succ]
  go_wp2_with (with_reducible refine upon_id ?_; go_simp)
  refine (opWord_6 _).mono ?_
  rintro e w2 ⟨rfl, hw⟩
  have hw := hw.symm
  subst hw
  go_wp2_with (with_reducible refine upon_id ?_; go_simp)
  rw [rounds_succ]
  have H0 : SMap [] WW.heap.size (WW.alloc (.map #[] 0)) := ⟨_, _, (MapKept.heap_alloc WW _).1, MapKept.stamped_empty 0, fun x hx => by simp at hx⟩
  obtain ⟨w1, r1, H1, b1⟩ := sput (k := ⟨#[116, 105, 109, 101]⟩) (v := 3) H0 (by simp) (Nat.le_refl _)
  obtain ⟨w2, r2, H2, b2⟩ := sput (k := ⟨#[112, 97, 116, 114, 111, 108]⟩) (v := 4) H1 (by simp) (Nat.le_refl _)
  obtain ⟨w3, r3, H3, b3⟩ := sput (k := ⟨#[115, 119, 97, 112]⟩) (v := 9) H2 (by simp) (Nat.le_refl _)
  obtain ⟨w4, r4, H4, b4⟩ := sput (k := ⟨#[114, 101, 116, 105, 114, 101]⟩) (v := 10) H3 (by simp) (Nat.le_refl _)
  have hlk := slook (k := ⟨#[115, 121, 110, 99]⟩) H4 (by simp)
  have HB := Lib.hid (((((Below.mk rfl rfl rfl (by rw [World.size_alloc]; omega) (fun k hk => (MapKept.heap_alloc WW _).2 k hk) : Below WW.heap.size WW (WW.alloc (.map #[] 0))).trans b1).trans b2).trans b3).trans b4)
  have HO1 := Lib.hid (HO0.out.go HB.out)
  have hg := (HO1.out.rowHeap 0 rfl).1
  have hp := HO1.out.putRow (k := 26) 0 rfl #[.int .i64 8, .int .i64 0, .int .i64 0, .int .i64 0, .int .i64 0, .int .i64 0, .int .i64 0, .int .i64 0, .slice none 0 0, .int .i64 0, .int .i64 0, .int .i64 0, .int .i64 0, .int .i64 0, .int .i64 0, .int .i64 0, .int .i64 0, .int .u8 0, .int .u8 0, .bool false, .int .i64 0, .int .i64 0, .int .i64 0, .int .i64 0, .bool false, .bool false] rfl (by omega)
  have l26 := run_loadVar_row (P := Tryd.prog) _ w.heap.size 37 37 #[.int .i64 8, .int .i64 0, .int .i64 0, .int .i64 0, .int .i64 0, .int .i64 0, .int .i64 0, .int .i64 0, .slice none 0 0, .int .i64 0, .int .i64 0, .int .i64 0, .int .i64 0, .int .i64 0, .int .i64 0, .int .i64 0, .int .i64 0, .int .u8 0, .int .u8 0, .bool false, .int .i64 0, .int .i64 0, .int .i64 0, .int .i64 0, .bool false, .bool false] (0, 0) _ (hp.rowHeap 0 rfl).1 Tryd.underlying37 rfl sizeEv
  have HG := Lib.hid hg
  have HP := Lib.hid hp
  have R1 := Lib.hid r1
  have R2 := Lib.hid r2
  have R3 := Lib.hid r3
  have R4 := Lib.hid r4
  clear H0 H1 H2 H3 H4 b1 b2 b3 b4 r1 r2 r3 r4 hg hp HO0
  go_wp2_with fail
  rw [makeSM]
  simp only [Result.andThen]
  rw [Oper.upon_value]
  go_wp2_with fail
  rw [R1.out]
  simp only [Result.andThen]
  rw [Oper.upon_skip]
  go_wp2_with fail
  rw [R2.out]
  simp only [Result.andThen]
  rw [Oper.upon_skip]
  go_wp2_with fail
  rw [R3.out]
  simp only [Result.andThen]
  rw [Oper.upon_skip]
  go_wp2_with fail
  rw [R4.out]
  simp only [Result.andThen]
  rw [Oper.upon_skip]
  go_upto_region 33 with fail
  have has : ∀ (ad : Addr) (W : World), (asAddr (.pointer (some ad))).run Tryd.prog W = .ok ad W := fun _ _ => rfl
  repeat (first | refine wpList_store_row rfl 37 (.tmp 6) (.tmp 240) rfl w.heap.size #[.int .i64 8, .int .i64 0, .int .i64 0, .int .i64 0, .int .i64 0, .int .i64 0, .int .i64 0, .int .i64 0, .slice none 0 0, .int .i64 0, .int .i64 0, .int .i64 0, .int .i64 0, .int .i64 0, .int .i64 0, .int .i64 0, .int .i64 0, .int .u8 0, .int .u8 0, .bool false, .int .i64 0, .int .i64 0, .int .i64 0, .int .i64 0, .bool false, .bool false] rfl rfl 37 _ HG.out sizeEv rfl (by simp [Value.oneCell']) ?_ | go_step)
  go_wp2_with fail
  refine bodyPost_ret (v := .tuple #[.agg #[.int .i64 8, .int .i64 0, .int .i64 0, .int .i64 0, .int .i64 0, .int .i64 0, .int .i64 0, .int .i64 0, .slice none 0 0, .int .i64 0, .int .i64 0, .int .i64 0, .int .i64 0, .int .i64 0, .int .i64 0, .int .i64 0, .int .i64 0, .int .u8 0, .int .u8 0, .bool false, .int .i64 0, .int .i64 0, .int .i64 0, .int .i64 0, .bool false, .bool false], .bool true]) (by simp [results, Tryd.results37, asAddr, l26]) rfl ?_
  exact ⟨rfl, HP.out.below⟩
end Go.Proofs.YtpcmbmabmfghkaaDoor

namespace Go.Proofs.YtpcmbmabmfghkaaDoor
open Go.RowKit
set_option linter.unusedVariables false
set_option linter.unusedSimpArgs false
set_option maxRecDepth 100000
theorem wpList_load_row_g {P : Program} {ops : Array Oper} {rest : List Oper} {o : Oper} {a : Act} {w : World} {Q : Exit → Act → World → Prop} (hw : Region.wanted o (yielded ops a.tmps) = true) (ty : TypeId) (x : Operand) (ho : o.op = .load ty x)
    (g : Nat) (hx : a.eval x = .pointer (some ⟨g, 0, none⟩)) (t : TypeId) (cs : Array Value) (fr : Nat × Nat) (d : TypeDesc) (hg : w.heap[g]? = some (.cells cs t fr))
    (hu : P.underlying ty = some d) (hd : (match d with | .struct _ | .array _ _ => true | _ => false) = true) (hi : (P.info? ty).map (·.size) = some cs.size)
    (h : wpList P ops Q rest (a.put o.dst (.agg cs)) w) : wpList P ops Q (o :: rest) a w := by
  unfold wpList
  rw [if_pos hw]
  exact .inl (wp_load_row ty x ho g hx t cs fr d hg hu hd hi h)
set_option maxHeartbeats 2000000 in
theorem line45_sync (w : World) :
    Calls Tryd.prog 38 #[.int .i64 1, .agg #[.int .i64 8, .int .i64 0, .int .i64 0, .int .i64 0, .int .i64 0, .int .i64 0, .int .i64 0, .int .i64 0, .slice none 0 0, .int .i64 0, .int .i64 0, .int .i64 0, .int .i64 0, .int .i64 0, .int .i64 0, .int .i64 0, .int .i64 0, .int .u8 0, .int .u8 0, .bool false, .int .i64 0, .int .i64 0, .int .i64 0, .int .i64 0, .bool false, .bool false]] w fun e w' => e = .returned (.tuple #[.string ⟨#[115, 121, 110, 99, 10]⟩, .bool true]) ∧ Below w.heap.size w w' := by
  have HO0 := Lib.hid ((Ow.of (St.refl w)).arr #[.int .i64 8, .int .i64 0, .int .i64 0, .int .i64 0, .int .i64 0, .int .i64 0, .int .i64 0, .int .i64 0, .slice none 0 0, .int .i64 0, .int .i64 0, .int .i64 0, .int .i64 0, .int .i64 0, .int .i64 0, .int .i64 0, .int .i64 0, .int .u8 0, .int .u8 0, .bool false, .int .i64 0, .int .i64 0, .int .i64 0, .int .i64 0, .bool false, .bool false] 26 rfl (by omega) 37)
  go_enter Tryd.func38, Tryd.ntmps38
  go_upto_region 1 with (with_reducible refine upon_id ?_; go_simp)
  generalize hWW : w.alloc (.cells #[.int .i64 8, .int .i64 0, .int .i64 0, .int .i64 0, .int .i64 0, .int .i64 0, .int .i64 0, .int .i64 0, .slice none 0 0, .int .i64 0, .int .i64 0, .int .i64 0, .int .i64 0, .int .i64 0, .int .i64 0, .int .i64 0, .int .i64 0, .int .u8 0, .int .u8 0, .bool false, .int .i64 0, .int .i64 0, .int .i64 0, .int .i64 0, .bool false, .bool false] 37) = WW at *
  clear hWW
  have hg := (HO0.out.rowHeap 0 rfl).1
  have HG := Lib.hid hg
  clear hg
  repeat (first | refine wpList_load_row rfl 37 (.tmp 3) rfl w.heap.size rfl 37 #[.int .i64 8, .int .i64 0, .int .i64 0, .int .i64 0, .int .i64 0, .int .i64 0, .int .i64 0, .int .i64 0, .slice none 0 0, .int .i64 0, .int .i64 0, .int .i64 0, .int .i64 0, .int .i64 0, .int .i64 0, .int .i64 0, .int .i64 0, .int .u8 0, .int .u8 0, .bool false, .int .i64 0, .int .i64 0, .int .i64 0, .int .i64 0, .bool false, .bool false] (0, 0) _ HG.out Tryd.underlying37 rfl sizeEv ?_ | go_step)
  refine (numbers_sync WW).mono ?_
  rintro e w1 ⟨rfl, hb⟩
  have HO1 := Lib.hid (HO0.out.go hb)
  clear hb HG HO0
  have y8 : w1.cell? ⟨w.heap.size, 8, none⟩ = some (.slice none 0 0) := (HO1.out.row 0 rfl).cellAt 8 (by decide)
  go_wp2_with (with_reducible refine upon_id ?_; go_simp)
  refine wp_loop_rounds 1 ?_
  rw [rounds_succ]
  go_wp2_with (with_reducible refine upon_id ?_; go_simp)
  refine (event45_sync w1).mono ?_
  rintro e w2 ⟨rfl, hb⟩
  have h2 := (HO1.out.go hb).arr #[.int .i64 0, .int .i64 0, .int .i64 0, .int .i64 0, .int .i64 0, .int .i64 0, .int .i64 0, .int .i64 0, .slice none 0 0, .int .i64 0, .int .i64 0, .int .i64 0, .int .i64 0, .int .i64 0, .int .i64 0, .int .i64 0, .int .i64 0, .int .u8 0, .int .u8 0, .bool false, .int .i64 0, .int .i64 0, .int .i64 0, .int .i64 0, .bool false, .bool false] 26 rfl (by omega) 37
  simp only [List.cons_append, List.nil_append, List.set_cons_zero, List.set_cons_succ] at h2
  have hg := (h2.rowHeap 1 rfl).1
  have h3 := h2.putRow (k := 26) 1 rfl #[.int .i64 8, .int .i64 0, .int .i64 0, .int .i64 0, .int .i64 0, .int .i64 0, .int .i64 0, .int .i64 0, .slice none 0 0, .int .i64 0, .int .i64 0, .int .i64 0, .int .i64 0, .int .i64 0, .int .i64 0, .int .i64 0, .int .i64 0, .int .u8 0, .int .u8 0, .bool false, .int .i64 0, .int .i64 0, .int .i64 0, .int .i64 0, .bool false, .bool false] rfl (by omega)
  simp only [List.cons_append, List.nil_append, List.set_cons_zero, List.set_cons_succ] at h3
  have HG := Lib.hid hg
  have HO2 := Lib.hid h3
  clear h2 h3 hg hb HO1 y8
  dsimp only
  repeat (first | refine wpList_store_row rfl 37 (.tmp 10) (.tmp 40) rfl w2.heap.size #[.int .i64 8, .int .i64 0, .int .i64 0, .int .i64 0, .int .i64 0, .int .i64 0, .int .i64 0, .int .i64 0, .slice none 0 0, .int .i64 0, .int .i64 0, .int .i64 0, .int .i64 0, .int .i64 0, .int .i64 0, .int .i64 0, .int .i64 0, .int .u8 0, .int .u8 0, .bool false, .int .i64 0, .int .i64 0, .int .i64 0, .int .i64 0, .bool false, .bool false] rfl rfl 37 _ HG.out sizeEv rfl (by simp [Value.oneCell']) ?_ | go_step)
  clear HG
  generalize hw3 : (World.setRow _ w2.heap.size #[.int .i64 8, .int .i64 0, .int .i64 0, .int .i64 0, .int .i64 0, .int .i64 0, .int .i64 0, .int .i64 0, .slice none 0 0, .int .i64 0, .int .i64 0, .int .i64 0, .int .i64 0, .int .i64 0, .int .i64 0, .int .i64 0, .int .i64 0, .int .u8 0, .int .u8 0, .bool false, .int .i64 0, .int .i64 0, .int .i64 0, .int .i64 0, .bool false, .bool false]) = w3 at *
  clear hw3
  have y0 : w3.cell? ⟨w.heap.size, 0, none⟩ = some (.int .i64 8) := (HO2.out.row 0 rfl).cellAt 0 (by decide)
  go_wp2_with (with_reducible refine upon_id ?_; go_simp)
  refine (event45_sync w3).mono ?_
  rintro e w4 ⟨rfl, hb⟩
  have h2 := HO2.out.go hb
  have hg := (h2.rowHeap 1 rfl).1
  have h3 := h2.putRow (k := 26) 1 rfl #[.int .i64 8, .int .i64 0, .int .i64 0, .int .i64 0, .int .i64 0, .int .i64 0, .int .i64 0, .int .i64 0, .slice none 0 0, .int .i64 0, .int .i64 0, .int .i64 0, .int .i64 0, .int .i64 0, .int .i64 0, .int .i64 0, .int .i64 0, .int .u8 0, .int .u8 0, .bool false, .int .i64 0, .int .i64 0, .int .i64 0, .int .i64 0, .bool false, .bool false] rfl (by omega)
  simp only [List.cons_append, List.nil_append, List.set_cons_zero, List.set_cons_succ] at h3
  have HG := Lib.hid hg
  have hg2 := (h3.rowHeap 1 rfl).1
  have hg3 := (h3.rowHeap 0 rfl).1
  have HG2 := Lib.hid hg2
  have HG3 := Lib.hid hg3
  have HO3 := Lib.hid h3
  clear h2 h3 hg hg2 hg3 hb HO2 y0
  dsimp only
  repeat (first | refine wpList_store_row rfl 37 (.tmp 10) (.tmp 49) rfl w2.heap.size #[.int .i64 8, .int .i64 0, .int .i64 0, .int .i64 0, .int .i64 0, .int .i64 0, .int .i64 0, .int .i64 0, .slice none 0 0, .int .i64 0, .int .i64 0, .int .i64 0, .int .i64 0, .int .i64 0, .int .i64 0, .int .i64 0, .int .i64 0, .int .u8 0, .int .u8 0, .bool false, .int .i64 0, .int .i64 0, .int .i64 0, .int .i64 0, .bool false, .bool false] rfl rfl 37 _ HG.out sizeEv rfl (by simp [Value.oneCell']) ?_ | refine wpList_load_row_g rfl 37 (.tmp 10) rfl w2.heap.size rfl 37 #[.int .i64 8, .int .i64 0, .int .i64 0, .int .i64 0, .int .i64 0, .int .i64 0, .int .i64 0, .int .i64 0, .slice none 0 0, .int .i64 0, .int .i64 0, .int .i64 0, .int .i64 0, .int .i64 0, .int .i64 0, .int .i64 0, .int .i64 0, .int .u8 0, .int .u8 0, .bool false, .int .i64 0, .int .i64 0, .int .i64 0, .int .i64 0, .bool false, .bool false] (0, 0) _ HG2.out Tryd.underlying37 rfl sizeEv ?_ | refine wpList_load_row_g rfl 37 (.tmp 3) rfl w.heap.size rfl 37 #[.int .i64 8, .int .i64 0, .int .i64 0, .int .i64 0, .int .i64 0, .int .i64 0, .int .i64 0, .int .i64 0, .slice none 0 0, .int .i64 0, .int .i64 0, .int .i64 0, .int .i64 0, .int .i64 0, .int .i64 0, .int .i64 0, .int .i64 0, .int .u8 0, .int .u8 0, .bool false, .int .i64 0, .int .i64 0, .int .i64 0, .int .i64 0, .bool false, .bool false] (0, 0) _ HG3.out Tryd.underlying37 rfl sizeEv ?_ | go_step)
  refine (same45_plain 8 _).mono ?_
  rintro e w5 ⟨rfl, hb⟩
  have HO4 := Lib.hid (HO3.out.go hb)
  clear hb HG HG2 HG3 HO3
  have y0 : w5.cell? ⟨w.heap.size, 0, none⟩ = some (.int .i64 8) := (HO4.out.row 0 rfl).cellAt 0 (by decide)
  go_wp2_with (with_reducible refine upon_id ?_; go_simp)
  refine wp_loop_rounds 1 ?_
  rw [rounds_succ]
  go_wp2_with (with_reducible refine upon_id ?_; go_simp)
  refine bodyPost_ret (v := .tuple #[.string ⟨#[115, 121, 110, 99, 10]⟩, .bool true]) (by simp [results, Tryd.results38]; rfl) rfl ?_
  exact ⟨rfl, HO4.out.below⟩
set_option maxHeartbeats 2000000 in
theorem read45_sync (w : World) (m : Int) (hm : w.cell? ⟨0, 0, none⟩ = some (.int .i64 m)) :
    Calls Tryd.prog 19 #[.int .i64 1, .string ⟨#[115, 121, 110, 99]⟩] w fun e w' => e = .returned (.tuple #[.agg #[.int .i64 8, .int .i64 0, .int .i64 0, .int .i64 0, .int .i64 0, .int .i64 0, .int .i64 0, .int .i64 0, .slice none 0 0, .int .i64 0, .int .i64 0, .int .i64 0, .int .i64 0, .int .i64 0, .int .i64 0, .int .i64 0, .int .i64 0, .int .u8 0, .int .u8 0, .bool false, .int .i64 0, .int .i64 0, .int .i64 0, .int .i64 0, .bool false, .bool false], .bool true]) ∧ Below w.heap.size w w' := by
  have HM := Lib.hid (And.intro (block_lt_of_cell hm) hm)
  have HO0 := Lib.hid ((Ow.of (St.refl w)).arr #[.int .i64 0, .int .i64 0, .int .i64 0, .int .i64 0, .int .i64 0, .int .i64 0, .int .i64 0, .int .i64 0, .slice none 0 0, .int .i64 0, .int .i64 0, .int .i64 0, .int .i64 0, .int .i64 0, .int .i64 0, .int .i64 0, .int .i64 0, .int .u8 0, .int .u8 0, .bool false, .int .i64 0, .int .i64 0, .int .i64 0, .int .i64 0, .bool false, .bool false] 26 rfl (by omega) 37)
  clear hm
  go_enter Tryd.func19, Tryd.ntmps19
  go_upto_region 1 with (with_reducible refine upon_id ?_; go_simp)
  generalize hWW : w.alloc (.cells #[.int .i64 0, .int .i64 0, .int .i64 0, .int .i64 0, .int .i64 0, .int .i64 0, .int .i64 0, .int .i64 0, .slice none 0 0, .int .i64 0, .int .i64 0, .int .i64 0, .int .i64 0, .int .i64 0, .int .i64 0, .int .i64 0, .int .i64 0, .int .u8 0, .int .u8 0, .bool false, .int .i64 0, .int .i64 0, .int .i64 0, .int .i64 0, .bool false, .bool false] 37) = WW at *
  clear hWW
  go_wp2_with (with_reducible refine upon_id ?_; go_simp)
  refine (split_sync WW m ((HO0.out.below.cell (p := ⟨0, 0, none⟩) HM.out.1).trans HM.out.2)).mono ?_
  rintro e w1 ⟨rfl, hw⟩
  have h1 := HO0.out.arr #[.string ⟨#[115, 121, 110, 99]⟩] 1 rfl (by omega) 9
  rw [← hw] at h1
  simp only [List.cons_append, List.nil_append, List.set_cons_zero, List.set_cons_succ] at h1
  have HO1 := Lib.hid h1
  clear h1 hw
  have y0 : w1.cell? ⟨WW.heap.size, 0, none⟩ = some (.string ⟨#[115, 121, 110, 99]⟩) := (HO1.out.row 1 rfl).cellAt 0 (by decide)
  go_wp2_with (with_reducible refine upon_id ?_; go_simp)
  refine wp_loop_rounds 1 ?_
  rw [rounds_succ]
  go_wp2_with (with_reducible refine upon_id ?_; go_simp)
  refine (event45_sync w1).mono ?_
  rintro e w2 ⟨rfl, hb⟩
  have h2 := (HO1.out.go hb).arr #[.int .i64 0, .int .i64 0, .int .i64 0, .int .i64 0, .int .i64 0, .int .i64 0, .int .i64 0, .int .i64 0, .slice none 0 0, .int .i64 0, .int .i64 0, .int .i64 0, .int .i64 0, .int .i64 0, .int .i64 0, .int .i64 0, .int .i64 0, .int .u8 0, .int .u8 0, .bool false, .int .i64 0, .int .i64 0, .int .i64 0, .int .i64 0, .bool false, .bool false] 26 rfl (by omega) 37
  simp only [List.cons_append, List.nil_append, List.set_cons_zero, List.set_cons_succ] at h2
  have hg := (h2.rowHeap 2 rfl).1
  have h3 := h2.putRow (k := 26) 2 rfl #[.int .i64 8, .int .i64 0, .int .i64 0, .int .i64 0, .int .i64 0, .int .i64 0, .int .i64 0, .int .i64 0, .slice none 0 0, .int .i64 0, .int .i64 0, .int .i64 0, .int .i64 0, .int .i64 0, .int .i64 0, .int .i64 0, .int .i64 0, .int .u8 0, .int .u8 0, .bool false, .int .i64 0, .int .i64 0, .int .i64 0, .int .i64 0, .bool false, .bool false] rfl (by omega)
  simp only [List.cons_append, List.nil_append, List.set_cons_zero, List.set_cons_succ] at h3
  have hg2 := (h3.rowHeap 2 rfl).1
  have HG := Lib.hid hg
  have HG2 := Lib.hid hg2
  have HO2 := Lib.hid h3
  clear h2 h3 hg hg2 hb HO1 y0 HO0
  dsimp only
  repeat (first | refine wpList_store_row rfl 37 (.tmp 16) (.tmp 72) rfl w2.heap.size #[.int .i64 8, .int .i64 0, .int .i64 0, .int .i64 0, .int .i64 0, .int .i64 0, .int .i64 0, .int .i64 0, .slice none 0 0, .int .i64 0, .int .i64 0, .int .i64 0, .int .i64 0, .int .i64 0, .int .i64 0, .int .i64 0, .int .i64 0, .int .u8 0, .int .u8 0, .bool false, .int .i64 0, .int .i64 0, .int .i64 0, .int .i64 0, .bool false, .bool false] rfl rfl 37 _ HG.out sizeEv rfl (by simp [Value.oneCell']) ?_ | refine wpList_load_row rfl 37 (.tmp 16) rfl w2.heap.size rfl 37 #[.int .i64 8, .int .i64 0, .int .i64 0, .int .i64 0, .int .i64 0, .int .i64 0, .int .i64 0, .int .i64 0, .slice none 0 0, .int .i64 0, .int .i64 0, .int .i64 0, .int .i64 0, .int .i64 0, .int .i64 0, .int .i64 0, .int .i64 0, .int .u8 0, .int .u8 0, .bool false, .int .i64 0, .int .i64 0, .int .i64 0, .int .i64 0, .bool false, .bool false] (0, 0) _ HG2.out Tryd.underlying37 rfl sizeEv ?_ | go_step)
  refine (line45_sync _).mono ?_
  rintro e w3 ⟨rfl, hb⟩
  have h2 := HO2.out.go hb
  have hg := (h2.rowHeap 2 rfl).1
  have hg2 := (h2.rowHeap 0 rfl).1
  have h3 := h2.putRow (k := 26) 0 rfl #[.int .i64 8, .int .i64 0, .int .i64 0, .int .i64 0, .int .i64 0, .int .i64 0, .int .i64 0, .int .i64 0, .slice none 0 0, .int .i64 0, .int .i64 0, .int .i64 0, .int .i64 0, .int .i64 0, .int .i64 0, .int .i64 0, .int .i64 0, .int .u8 0, .int .u8 0, .bool false, .int .i64 0, .int .i64 0, .int .i64 0, .int .i64 0, .bool false, .bool false] rfl (by omega)
  simp only [List.cons_append, List.nil_append, List.set_cons_zero, List.set_cons_succ] at h3
  have l26 := run_loadVar_row (P := Tryd.prog) _ w.heap.size 37 37 #[.int .i64 8, .int .i64 0, .int .i64 0, .int .i64 0, .int .i64 0, .int .i64 0, .int .i64 0, .int .i64 0, .slice none 0 0, .int .i64 0, .int .i64 0, .int .i64 0, .int .i64 0, .int .i64 0, .int .i64 0, .int .i64 0, .int .i64 0, .int .u8 0, .int .u8 0, .bool false, .int .i64 0, .int .i64 0, .int .i64 0, .int .i64 0, .bool false, .bool false] (0, 0) _ (h3.rowHeap 0 rfl).1 Tryd.underlying37 rfl sizeEv
  have HG3 := Lib.hid hg
  have HG4 := Lib.hid hg2
  have HO3 := Lib.hid h3
  clear h2 h3 hg hg2 hb HO2 HG HG2
  dsimp only
  repeat (first | refine wpList_load_row rfl 37 (.tmp 16) rfl w2.heap.size rfl 37 #[.int .i64 8, .int .i64 0, .int .i64 0, .int .i64 0, .int .i64 0, .int .i64 0, .int .i64 0, .int .i64 0, .slice none 0 0, .int .i64 0, .int .i64 0, .int .i64 0, .int .i64 0, .int .i64 0, .int .i64 0, .int .i64 0, .int .i64 0, .int .u8 0, .int .u8 0, .bool false, .int .i64 0, .int .i64 0, .int .i64 0, .int .i64 0, .bool false, .bool false] (0, 0) _ HG3.out Tryd.underlying37 rfl sizeEv ?_ | refine wpList_store_row rfl 37 (.tmp 4) (.tmp 83) rfl w.heap.size #[.int .i64 8, .int .i64 0, .int .i64 0, .int .i64 0, .int .i64 0, .int .i64 0, .int .i64 0, .int .i64 0, .slice none 0 0, .int .i64 0, .int .i64 0, .int .i64 0, .int .i64 0, .int .i64 0, .int .i64 0, .int .i64 0, .int .i64 0, .int .u8 0, .int .u8 0, .bool false, .int .i64 0, .int .i64 0, .int .i64 0, .int .i64 0, .bool false, .bool false] rfl rfl 37 _ HG4.out sizeEv rfl (by simp [Value.oneCell']) ?_ | go_step)
  refine bodyPost_ret (v := .tuple #[.agg #[.int .i64 8, .int .i64 0, .int .i64 0, .int .i64 0, .int .i64 0, .int .i64 0, .int .i64 0, .int .i64 0, .slice none 0 0, .int .i64 0, .int .i64 0, .int .i64 0, .int .i64 0, .int .i64 0, .int .i64 0, .int .i64 0, .int .i64 0, .int .u8 0, .int .u8 0, .bool false, .int .i64 0, .int .i64 0, .int .i64 0, .int .i64 0, .bool false, .bool false], .bool true]) (by simp [results, Tryd.results19, asAddr, l26]; decide +kernel) rfl ?_
  exact ⟨rfl, HO3.out.below⟩
end Go.Proofs.YtpcmbmabmfghkaaDoor

namespace Go.Proofs.YtpcmbmabmfghkaaDoor
open Go.RowKit
set_option linter.unusedVariables false
set_option linter.unusedSimpArgs false
set_option maxRecDepth 100000
/-- n lines and one without its end -/
def syb : Nat → List UInt8
  | 0 => [115, 121, 110, 99]
  | n + 1 => 115 :: 121 :: 110 :: 99 :: 10 :: syb n
theorem syb_length : ∀ n, (syb n).length = 5 * n + 4
  | 0 => rfl
  | n + 1 => by
    show (syb n).length + 5 = _
    rw [syb_length n]
    omega
theorem syn_syb : ∀ n, syn (n + 1) = syb n ++ [10]
  | 0 => rfl
  | n + 1 => by
    show 115 :: 121 :: 110 :: 99 :: 10 :: syn (n + 1) = 115 :: 121 :: 110 :: 99 :: 10 :: (syb n ++ [10])
    rw [syn_syb n]
theorem ext_syb (n : Nat) : (str (syb (n + 1))).extract (4 + (⟨#[10]⟩ : ByteArray).size) (str (syb (n + 1))).size = str (syb n) := by
  apply ByteArray.ext
  apply Array.ext'
  rw [ByteArray.data_extract, Array.toList_extract]
  show ((115 :: 121 :: 110 :: 99 :: 10 :: syb n).extract 5 (115 :: 121 :: 110 :: 99 :: 10 :: syb n).length) = syb n
  simp [List.extract]
theorem ind_syb (n : Nat) : Lib.indexB (str (syb (n + 1))) ⟨#[10]⟩ = ((4 : Nat) : Int) := by
  show Lib.index (syb (n + 1)) [10] = _
  rw [Lib.index_one]
  exact ib_at (l := [115, 121, 110, 99]) (by decide)
theorem countB_syb : ∀ n, Lib.countB (str (syb n)) ⟨#[10]⟩ = n
  | 0 => by decide +kernel
  | n + 1 => by
    rw [Lib.countB_hit _ _ 4 (by decide) (ind_syb n), ext_syb, countB_syb n]
    omega
theorem splitB_syb : ∀ n, Lib.splitB ⟨#[10]⟩ 0 n (str (syb n)) = List.replicate (n + 1) ⟨#[115, 121, 110, 99]⟩
  | 0 => rfl
  | n + 1 => by
    have h0 : (str (syb (n + 1))).extract 0 (4 + 0) = ⟨#[115, 121, 110, 99]⟩ := by
      apply ByteArray.ext
      apply Array.ext'
      rw [ByteArray.data_extract, Array.toList_extract]
      show ((115 :: 121 :: 110 :: 99 :: 10 :: syb n).extract 0 4) = _
      simp [List.extract]
    rw [Lib.splitB_hit _ 0 n _ 4 (ind_syb n), ext_syb, h0, splitB_syb n]
    rfl
theorem cut_syb (k : Nat) : (str (syn (k + 1))).extract 0 (5 * k + 4) = str (syb k) := by
  apply ByteArray.ext
  apply Array.ext'
  rw [ByteArray.data_extract, Array.toList_extract]
  show (syn (k + 1)).extract 0 (5 * k + 4) = syb k
  rw [syn_syb]
  have := syb_length k
  simp [List.extract, ← this]
theorem split_syb {k : Nat} (hk : k ≤ 300) (w : World) (m : Int) (hm : w.cell? ⟨0, 0, none⟩ = some (.int .i64 m)) :
    Calls Tryd.prog 16 #[.string (str (syb k)), .string ⟨#[10]⟩] w fun e w' => e = .returned (.slice (some ⟨w.heap.size, 0, none⟩) (k + 1) (k + 1)) ∧ w' = w.alloc (.cells (List.replicate (k + 1) (Value.string ⟨#[115, 121, 110, 99]⟩)).toArray 9) := by
  have h := Tryd.strings_Split (str (syb k)) ⟨#[10]⟩ m w (by show (syb k).length < _; rw [syb_length]; omega) hm (by decide)
  rw [countB_syb, splitB_syb, List.map_replicate] at h
  exact h
theorem suffix_syn {k : Nat} (hk : k ≤ 300) (w : World) :
    Calls Tryd.prog 18 #[.string (str (syn (k + 1))), .string ⟨#[10]⟩] w fun e w' => e = .returned (.bool true) ∧ w' = w := by
  have h := Tryd.strings_HasSuffix (str (syn (k + 1))) ⟨#[10]⟩ w (by show (syn (k + 1)).length ≤ _; rw [syn_length]; omega)
  have h2 : Lib.hasSuffix (str (syn (k + 1))).data.toList (⟨#[10]⟩ : ByteArray).data.toList = true := by
    show Lib.hasSuffix (syn (k + 1)) [10] = true
    rw [syn_syb]
    simp [Lib.hasSuffix]
  rw [h2] at h
  exact h
theorem Ox.lessO {w0 w : World} {r : Rw} {X : List Rx} (h : Ox w0 w none [] [] [r] X) : Ox w0 w none [] [] [] X :=
  ⟨h.ow.tail, h.own, fun i q hi b hb => by
    obtain ⟨a1, a2, a3, a4⟩ := h.ap i q hi b hb
    exact ⟨a1, a2, a3, fun j q hj => by simp at hj⟩, h.two⟩
theorem size_syn {j : Nat} : (str (syn j)).size = 5 * j := syn_length j
theorem split_syz {j : Nat} (h0 : 0 < j) (hj : j ≤ 300) (w : World) (m : Int) (hm : w.cell? ⟨0, 0, none⟩ = some (.int .i64 m)) :
    Calls Tryd.prog 16 #[.string (str (syb (j - 1))), .string ⟨#[10]⟩] w fun e w' => e = .returned (.slice (some ⟨w.heap.size, 0, none⟩) j j) ∧ w' = w.alloc (.cells (List.replicate j (Value.string ⟨#[115, 121, 110, 99]⟩)).toArray 9) := by
  obtain ⟨k, rfl⟩ : ∃ k, j = k + 1 := ⟨j - 1, by omega⟩
  exact split_syb (by omega) w m hm
theorem suffix_syz {j : Nat} (h0 : 0 < j) (hj : j ≤ 300) (w : World) :
    Calls Tryd.prog 18 #[.string (str (syn j)), .string ⟨#[10]⟩] w fun e w' => e = .returned (.bool true) ∧ w' = w := by
  obtain ⟨k, rfl⟩ : ∃ k, j = k + 1 := ⟨j - 1, by omega⟩
  exact suffix_syn (by omega) w
theorem cut_syz {j : Nat} (h0 : 0 < j) : (str (syn j)).extract 0 (5 * j - 1) = str (syb (j - 1)) := by
  obtain ⟨k, rfl⟩ : ∃ k, j = k + 1 := ⟨j - 1, by omega⟩
  exact cut_syb k
theorem ne_syz {j : Nat} (h0 : 0 < j) : ((str (syn j)).toList == ([] : List UInt8)) = false := by
  obtain ⟨k, rfl⟩ : ∃ k, j = k + 1 := ⟨j - 1, by omega⟩
  rw [str_toList]
  rfl
theorem suffix_spc {n : Nat} (hn : n ≤ 100000) (w : World) :
    Calls Tryd.prog 18 #[.string (str (spc n)), .string ⟨#[10]⟩] w fun e w' => e = .returned (.bool false) ∧ w' = w := by
  have h := Tryd.strings_HasSuffix (str (spc n)) ⟨#[10]⟩ w (by show (spc n).length ≤ _; rw [spc_length]; omega)
  have h2 : Lib.hasSuffix (str (spc n)).data.toList (⟨#[10]⟩ : ByteArray).data.toList = false := by
    show Lib.hasSuffix (spc n) [10] = false
    cases e : Lib.hasSuffix (spc n) [10] with
    | false => rfl
    | true =>
      obtain ⟨t, ht⟩ := List.isSuffixOf_iff_suffix.1 e
      have h10 : (10 : UInt8) ∈ spc n := by
        rw [← ht]
        simp
      have := List.eq_of_mem_replicate h10
      exact absurd this (by decide)
  rw [h2] at h
  exact h
set_option maxHeartbeats 4000000 in
theorem parse45_syn (j : Nat) (h0 : 0 < j) (hk : j ≤ 200) (w : World) (m : Int) (hm : w.cell? ⟨0, 0, none⟩ = some (.int .i64 m)) :
    Calls Tryd.prog 9 #[.int .i64 1, .string (str (syn j))] w fun e w' => ∃ (A : Option Addr) (c : Nat), e = .returned (.tuple #[.slice A j c, .int .i64 0]) ∧ Ox w w' none [] [] [] [⟨A, j, c, 37, 26, evs j⟩] := by
  have hsz : decide (65536 < ((str (syn j)).size : Int)) = false := by
    rw [size_syn]
    simp
    omega
  have hne := ne_syz (j := j) (by omega)
  have HSL := Lib.hid (show ((str (syn j)).size : Int) - 1 = ((5 * j - 1 : Nat) : Int) by
    rw [size_syn]
    omega)
  have HCU := Lib.hid (cut_syz (j := j) (by omega))
  have HM := Lib.hid (And.intro (block_lt_of_cell hm) hm)
  have HSX := Lib.hid (fun (V : World) (hV : Below w.heap.size w V) => split_syz (j := j) (by omega) (by omega) V m ((hV.cell (p := ⟨0, 0, none⟩) (block_lt_of_cell hm)).trans hm))
  have HSU := Lib.hid (suffix_syz (j := j) (by omega) (by omega) w)
  have HRD := Lib.hid (fun (V : World) (hV : Below w.heap.size w V) => read45_sync V m ((hV.cell (p := ⟨0, 0, none⟩) (block_lt_of_cell hm)).trans hm))
  have HX0 := Lib.hid ((Ox.of (Ow.of (St.refl w))).nilX 37 26)
  clear hm
  go_enter Tryd.func9, Tryd.ntmps9
  go_wp2_with (with_reducible refine upon_id ?_; go_simp)
  refine HSU.out.mono ?_
  rintro e w1 ⟨rfl, hw⟩
  have hw := hw.symm
  subst hw
  clear hsz hne HSU
  obtain ⟨s, hs⟩ : ∃ s, str (syn j) = s := ⟨_, rfl⟩
  have hs1 : s.size = 5 * j := hs ▸ size_syn
  have hcu := hs ▸ HCU.out
  rw [hs]
  obtain ⟨z, hz⟩ : ∃ z : Nat, z + 1 = s.size := ⟨5 * j - 1, by omega⟩
  have hz0 : z ≤ 2000 := by omega
  have q1 : (s.size : Int) - 1 = (z : Int) := by omega
  have q2 : s.size ≤ 2001 := by omega
  have hz5 : 5 * j - 1 = z := by omega
  rw [hz5] at hcu
  have HCU2 := Lib.hid hcu
  have q3 : z ≤ s.size := by omega
  clear hs1 hs hz HSL HCU hcu hz5
  go_upto_region 10 with (with_reducible refine upon_id ?_; go_simp)
  go_wp2_with (with_reducible refine upon_id ?_; go_simp)
  rw [HCU2.out]
  refine (HSX.out _ (Below.refl _ _)).mono ?_
  rintro e wb ⟨rfl, hwb⟩
  have h1 := HX0.out.ow.arrL (List.replicate j (Value.string ⟨#[115, 121, 110, 99]⟩)).toArray j (by simp) (by omega) 9
  rw [← hwb] at h1
  simp only [List.nil_append] at h1
  have hx := (Ox.of h1).nilX 37 26
  simp only [List.nil_append] at hx
  have HX := Lib.hid hx
  clear h1 hx hwb HX0 HSX HCU2 q1 q2 q3 hz0
  go_wp2_with (with_reducible refine upon_id ?_; go_simp)
  go_loopw [6, 34] (fun x6 x34 wr => ∃ (i : Nat) (A : Option Addr) (c : Nat), i ≤ j ∧ x6 = .slice A i c ∧ x34 = .int .i64 (i : Int) ∧ Hid (Ox w wr none [] [] [⟨some ⟨w.heap.size, 0, none⟩, j, j, 9, (List.replicate j (Value.string ⟨#[115, 121, 110, 99]⟩))⟩] [⟨A, i, c, 37, 26, evs i⟩])) (fun _ x34 _ => match x34 with | .int _ i => (1000 - i).toNat | _ => 0)
  case atStart => exact ⟨0, none, 0, Nat.zero_le _, rfl, rfl, HX⟩
  case round =>
    clear HX
    obtain ⟨i, A, c, hi, rfl, rfl, HX⟩ := hrel
    rcases Nat.eq_or_lt_of_le hi with heq | hlt
    · subst heq
      have hlen : decide (200 < (i : Int)) = false := by simp; omega
      clear hk hi h0
      go_wp2_with (with_reducible refine upon_id ?_; go_simp)
      refine bodyPost_ret (v := .tuple #[.slice A i c, .int .i64 0]) (by simp [results, Tryd.results9]) rfl ?_
      exact ⟨A, c, rfl, Ox.lessO HX.out⟩
    · have HK := Lib.hid (And.intro hk (And.intro hlt h0))
      have y0 : wr.cell? ⟨w.heap.size, i, none⟩ = some (.string ⟨#[115, 121, 110, 99]⟩) := by
        have h := (HX.out.ow.row 0 rfl).cells (g := w.heap.size) rfl i (.string ⟨#[115, 121, 110, 99]⟩) (by rw [List.getElem?_replicate, if_pos hlt])
        rw [add_zero] at h
        exact h
      have hi2 : i ≤ 300 := by omega
      clear hk hi h0
      go_wp2_with (with_reducible refine upon_id ?_; go_simp)
      refine (HRD.out _ HX.out.ow.below).mono ?_
      rintro e w1 ⟨rfl, hb⟩
      have hx1 := HX.out.go hb
      have h2 := (Ow.of (St.refl w1)).arr #[.int .i64 0, .int .i64 0, .int .i64 0, .int .i64 0, .int .i64 0, .int .i64 0, .int .i64 0, .int .i64 0, .slice none 0 0, .int .i64 0, .int .i64 0, .int .i64 0, .int .i64 0, .int .i64 0, .int .i64 0, .int .i64 0, .int .i64 0, .int .u8 0, .int .u8 0, .bool false, .int .i64 0, .int .i64 0, .int .i64 0, .int .i64 0, .bool false, .bool false] 26 rfl (by omega) 37
      simp only [List.nil_append] at h2
      have hg := (h2.rowHeap 0 rfl).1
      have h3 := h2.putRow (k := 26) 0 rfl #[.int .i64 8, .int .i64 0, .int .i64 0, .int .i64 0, .int .i64 0, .int .i64 0, .int .i64 0, .int .i64 0, .slice none 0 0, .int .i64 0, .int .i64 0, .int .i64 0, .int .i64 0, .int .i64 0, .int .i64 0, .int .i64 0, .int .i64 0, .int .u8 0, .int .u8 0, .bool false, .int .i64 0, .int .i64 0, .int .i64 0, .int .i64 0, .bool false, .bool false] rfl (by omega)
      simp only [List.set_cons_zero] at h3
      have hg2 := (h3.rowHeap 0 rfl).1
      have HG := Lib.hid hg
      have HG2 := Lib.hid hg2
      have HE := Lib.hid h3
      have HX1 := Lib.hid hx1
      clear h2 h3 hg hg2 hx1 hb HX y0 hlt
      dsimp only
      iterate 17 (first | refine wpList_store_row rfl 37 (.tmp 9) (.tmp 42) rfl w1.heap.size #[.int .i64 8, .int .i64 0, .int .i64 0, .int .i64 0, .int .i64 0, .int .i64 0, .int .i64 0, .int .i64 0, .slice none 0 0, .int .i64 0, .int .i64 0, .int .i64 0, .int .i64 0, .int .i64 0, .int .i64 0, .int .i64 0, .int .i64 0, .int .u8 0, .int .u8 0, .bool false, .int .i64 0, .int .i64 0, .int .i64 0, .int .i64 0, .bool false, .bool false] rfl rfl 37 _ HG.out sizeEv rfl (by simp [Value.oneCell']) ?_ | go_step)
      clear HG
      generalize hw3 : (World.setRow _ w1.heap.size #[.int .i64 8, .int .i64 0, .int .i64 0, .int .i64 0, .int .i64 0, .int .i64 0, .int .i64 0, .int .i64 0, .slice none 0 0, .int .i64 0, .int .i64 0, .int .i64 0, .int .i64 0, .int .i64 0, .int .i64 0, .int .i64 0, .int .i64 0, .int .u8 0, .int .u8 0, .bool false, .int .i64 0, .int .i64 0, .int .i64 0, .int .i64 0, .bool false, .bool false]) = w3 at *
      clear hw3
      go_upto_region 16 with (with_reducible refine upon_id ?_; go_simp)
      have h5 := HE.out.arr #[.int .i64 8, .int .i64 0, .int .i64 0, .int .i64 0, .int .i64 0, .int .i64 0, .int .i64 0, .int .i64 0, .slice none 0 0, .int .i64 0, .int .i64 0, .int .i64 0, .int .i64 0, .int .i64 0, .int .i64 0, .int .i64 0, .int .i64 0, .int .u8 0, .int .u8 0, .bool false, .int .i64 0, .int .i64 0, .int .i64 0, .int .i64 0, .bool false, .bool false] 26 rfl (by omega) 37
      have H6 := Lib.hid (HX1.out.go h5.below)
      have H5 := Lib.hid h5
      clear h5 HX1
      repeat (first | refine wpList_load_row rfl 37 (.tmp 9) rfl w1.heap.size rfl 37 #[.int .i64 8, .int .i64 0, .int .i64 0, .int .i64 0, .int .i64 0, .int .i64 0, .int .i64 0, .int .i64 0, .slice none 0 0, .int .i64 0, .int .i64 0, .int .i64 0, .int .i64 0, .int .i64 0, .int .i64 0, .int .i64 0, .int .i64 0, .int .u8 0, .int .u8 0, .bool false, .int .i64 0, .int .i64 0, .int .i64 0, .int .i64 0, .bool false, .bool false] (0, 0) _ HG2.out Tryd.underlying37 rfl sizeEv ?_ | refine ox_append elemEv H6.out 0 (.tmp 46) (.tmp 48) (m := 1) (news := [.int .i64 8, .int .i64 0, .int .i64 0, .int .i64 0, .int .i64 0, .int .i64 0, .int .i64 0, .int .i64 0, .slice none 0 0, .int .i64 0, .int .i64 0, .int .i64 0, .int .i64 0, .int .i64 0, .int .i64 0, .int .i64 0, .int .i64 0, .int .u8 0, .int .u8 0, .bool false, .int .i64 0, .int .i64 0, .int .i64 0, .int .i64 0, .bool false, .bool false]) rfl rfl (fun j u hu => (H5.out.row 1 rfl).cells rfl j u hu) (by intro u hu; simp at hu; rcases hu with rfl | rfl | rfl | rfl | rfl | rfl | rfl | rfl | rfl | rfl | rfl | rfl | rfl | rfl | rfl | rfl | rfl | rfl | rfl | rfl | rfl | rfl | rfl | rfl | rfl | rfl <;> rfl) (by unfold maxLen; omega) (by omega) rfl rfl rfl rfl ?_; intro A1 c1 w5 how; have HX5 := Lib.hid how; clear how | go_step)
      clear H5 H6 HE HG2
      go_roundw
      case rel => exact ⟨i + 1, A1, c1, HK.out.2.1, rfl, rfl, HX5⟩
      case measure =>
        show (1000 - ((i : Int) + 1)).toNat < (1000 - (i : Int)).toNat
        omega
set_option maxHeartbeats 4000000 in
theorem parse45_over (j : Nat) (h0 : 201 ≤ j) (hk : j ≤ 201) (w : World) (m : Int) (hm : w.cell? ⟨0, 0, none⟩ = some (.int .i64 m)) :
    Calls Tryd.prog 9 #[.int .i64 1, .string (str (syn j))] w fun e w' => e = .returned (.tuple #[.slice none 0 0, .int .i64 3]) ∧ Below w.heap.size w w' := by
  have hsz : decide (65536 < ((str (syn j)).size : Int)) = false := by
    rw [size_syn]
    simp
    omega
  have hne := ne_syz (j := j) (by omega)
  have HSL := Lib.hid (show ((str (syn j)).size : Int) - 1 = ((5 * j - 1 : Nat) : Int) by
    rw [size_syn]
    omega)
  have HCU := Lib.hid (cut_syz (j := j) (by omega))
  have HM := Lib.hid (And.intro (block_lt_of_cell hm) hm)
  have HSX := Lib.hid (fun (V : World) (hV : Below w.heap.size w V) => split_syz (j := j) (by omega) (by omega) V m ((hV.cell (p := ⟨0, 0, none⟩) (block_lt_of_cell hm)).trans hm))
  have HSU := Lib.hid (suffix_syz (j := j) (by omega) (by omega) w)
  have HRD := Lib.hid (fun (V : World) (hV : Below w.heap.size w V) => read45_sync V m ((hV.cell (p := ⟨0, 0, none⟩) (block_lt_of_cell hm)).trans hm))
  have HX0 := Lib.hid ((Ox.of (Ow.of (St.refl w))).nilX 37 26)
  clear hm
  go_enter Tryd.func9, Tryd.ntmps9
  go_wp2_with (with_reducible refine upon_id ?_; go_simp)
  refine HSU.out.mono ?_
  rintro e w1 ⟨rfl, hw⟩
  have hw := hw.symm
  subst hw
  clear hsz hne HSU
  obtain ⟨s, hs⟩ : ∃ s, str (syn j) = s := ⟨_, rfl⟩
  have hs1 : s.size = 5 * j := hs ▸ size_syn
  have hcu := hs ▸ HCU.out
  rw [hs]
  obtain ⟨z, hz⟩ : ∃ z : Nat, z + 1 = s.size := ⟨5 * j - 1, by omega⟩
  have hz0 : z ≤ 2000 := by omega
  have q1 : (s.size : Int) - 1 = (z : Int) := by omega
  have q2 : s.size ≤ 2001 := by omega
  have hz5 : 5 * j - 1 = z := by omega
  rw [hz5] at hcu
  have HCU2 := Lib.hid hcu
  have q3 : z ≤ s.size := by omega
  clear hs1 hs hz HSL HCU hcu hz5
  go_upto_region 10 with (with_reducible refine upon_id ?_; go_simp)
  go_wp2_with (with_reducible refine upon_id ?_; go_simp)
  rw [HCU2.out]
  refine (HSX.out _ (Below.refl _ _)).mono ?_
  rintro e wb ⟨rfl, hwb⟩
  have h1 := HX0.out.ow.arrL (List.replicate j (Value.string ⟨#[115, 121, 110, 99]⟩)).toArray j (by simp) (by omega) 9
  rw [← hwb] at h1
  simp only [List.nil_append] at h1
  have hx := (Ox.of h1).nilX 37 26
  simp only [List.nil_append] at hx
  have HX := Lib.hid hx
  clear h1 hx hwb HX0 HSX HCU2 q1 q2 q3 hz0
  go_wp2_with (with_reducible refine upon_id ?_; go_simp)
  go_loopw [6, 34] (fun x6 x34 wr => ∃ (i : Nat) (A : Option Addr) (c : Nat), i ≤ j ∧ x6 = .slice A i c ∧ x34 = .int .i64 (i : Int) ∧ Hid (Ox w wr none [] [] [⟨some ⟨w.heap.size, 0, none⟩, j, j, 9, (List.replicate j (Value.string ⟨#[115, 121, 110, 99]⟩))⟩] [⟨A, i, c, 37, 26, evs i⟩])) (fun _ x34 _ => match x34 with | .int _ i => (1000 - i).toNat | _ => 0)
  case atStart => exact ⟨0, none, 0, Nat.zero_le _, rfl, rfl, HX⟩
  case round =>
    clear HX
    obtain ⟨i, A, c, hi, rfl, rfl, HX⟩ := hrel
    rcases Nat.eq_or_lt_of_le hi with heq | hlt
    · subst heq
      have hlen : decide (200 < (i : Int)) = true := by simp; omega
      clear hk hi h0
      go_wp2_with (with_reducible refine upon_id ?_; go_simp)
      refine bodyPost_ret (v := .tuple #[.slice none 0 0, .int .i64 3]) (by simp [results, Tryd.results9]) rfl ?_
      exact ⟨rfl, HX.out.ow.below⟩
    · have HK := Lib.hid (And.intro hk (And.intro hlt h0))
      have y0 : wr.cell? ⟨w.heap.size, i, none⟩ = some (.string ⟨#[115, 121, 110, 99]⟩) := by
        have h := (HX.out.ow.row 0 rfl).cells (g := w.heap.size) rfl i (.string ⟨#[115, 121, 110, 99]⟩) (by rw [List.getElem?_replicate, if_pos hlt])
        rw [add_zero] at h
        exact h
      have hi2 : i ≤ 300 := by omega
      clear hk hi h0
      go_wp2_with (with_reducible refine upon_id ?_; go_simp)
      refine (HRD.out _ HX.out.ow.below).mono ?_
      rintro e w1 ⟨rfl, hb⟩
      have hx1 := HX.out.go hb
      have h2 := (Ow.of (St.refl w1)).arr #[.int .i64 0, .int .i64 0, .int .i64 0, .int .i64 0, .int .i64 0, .int .i64 0, .int .i64 0, .int .i64 0, .slice none 0 0, .int .i64 0, .int .i64 0, .int .i64 0, .int .i64 0, .int .i64 0, .int .i64 0, .int .i64 0, .int .i64 0, .int .u8 0, .int .u8 0, .bool false, .int .i64 0, .int .i64 0, .int .i64 0, .int .i64 0, .bool false, .bool false] 26 rfl (by omega) 37
      simp only [List.nil_append] at h2
      have hg := (h2.rowHeap 0 rfl).1
      have h3 := h2.putRow (k := 26) 0 rfl #[.int .i64 8, .int .i64 0, .int .i64 0, .int .i64 0, .int .i64 0, .int .i64 0, .int .i64 0, .int .i64 0, .slice none 0 0, .int .i64 0, .int .i64 0, .int .i64 0, .int .i64 0, .int .i64 0, .int .i64 0, .int .i64 0, .int .i64 0, .int .u8 0, .int .u8 0, .bool false, .int .i64 0, .int .i64 0, .int .i64 0, .int .i64 0, .bool false, .bool false] rfl (by omega)
      simp only [List.set_cons_zero] at h3
      have hg2 := (h3.rowHeap 0 rfl).1
      have HG := Lib.hid hg
      have HG2 := Lib.hid hg2
      have HE := Lib.hid h3
      have HX1 := Lib.hid hx1
      clear h2 h3 hg hg2 hx1 hb HX y0 hlt
      dsimp only
      iterate 17 (first | refine wpList_store_row rfl 37 (.tmp 9) (.tmp 42) rfl w1.heap.size #[.int .i64 8, .int .i64 0, .int .i64 0, .int .i64 0, .int .i64 0, .int .i64 0, .int .i64 0, .int .i64 0, .slice none 0 0, .int .i64 0, .int .i64 0, .int .i64 0, .int .i64 0, .int .i64 0, .int .i64 0, .int .i64 0, .int .i64 0, .int .u8 0, .int .u8 0, .bool false, .int .i64 0, .int .i64 0, .int .i64 0, .int .i64 0, .bool false, .bool false] rfl rfl 37 _ HG.out sizeEv rfl (by simp [Value.oneCell']) ?_ | go_step)
      clear HG
      generalize hw3 : (World.setRow _ w1.heap.size #[.int .i64 8, .int .i64 0, .int .i64 0, .int .i64 0, .int .i64 0, .int .i64 0, .int .i64 0, .int .i64 0, .slice none 0 0, .int .i64 0, .int .i64 0, .int .i64 0, .int .i64 0, .int .i64 0, .int .i64 0, .int .i64 0, .int .i64 0, .int .u8 0, .int .u8 0, .bool false, .int .i64 0, .int .i64 0, .int .i64 0, .int .i64 0, .bool false, .bool false]) = w3 at *
      clear hw3
      go_upto_region 16 with (with_reducible refine upon_id ?_; go_simp)
      have h5 := HE.out.arr #[.int .i64 8, .int .i64 0, .int .i64 0, .int .i64 0, .int .i64 0, .int .i64 0, .int .i64 0, .int .i64 0, .slice none 0 0, .int .i64 0, .int .i64 0, .int .i64 0, .int .i64 0, .int .i64 0, .int .i64 0, .int .i64 0, .int .i64 0, .int .u8 0, .int .u8 0, .bool false, .int .i64 0, .int .i64 0, .int .i64 0, .int .i64 0, .bool false, .bool false] 26 rfl (by omega) 37
      have H6 := Lib.hid (HX1.out.go h5.below)
      have H5 := Lib.hid h5
      clear h5 HX1
      repeat (first | refine wpList_load_row rfl 37 (.tmp 9) rfl w1.heap.size rfl 37 #[.int .i64 8, .int .i64 0, .int .i64 0, .int .i64 0, .int .i64 0, .int .i64 0, .int .i64 0, .int .i64 0, .slice none 0 0, .int .i64 0, .int .i64 0, .int .i64 0, .int .i64 0, .int .i64 0, .int .i64 0, .int .i64 0, .int .i64 0, .int .u8 0, .int .u8 0, .bool false, .int .i64 0, .int .i64 0, .int .i64 0, .int .i64 0, .bool false, .bool false] (0, 0) _ HG2.out Tryd.underlying37 rfl sizeEv ?_ | refine ox_append elemEv H6.out 0 (.tmp 46) (.tmp 48) (m := 1) (news := [.int .i64 8, .int .i64 0, .int .i64 0, .int .i64 0, .int .i64 0, .int .i64 0, .int .i64 0, .int .i64 0, .slice none 0 0, .int .i64 0, .int .i64 0, .int .i64 0, .int .i64 0, .int .i64 0, .int .i64 0, .int .i64 0, .int .i64 0, .int .u8 0, .int .u8 0, .bool false, .int .i64 0, .int .i64 0, .int .i64 0, .int .i64 0, .bool false, .bool false]) rfl rfl (fun j u hu => (H5.out.row 1 rfl).cells rfl j u hu) (by intro u hu; simp at hu; rcases hu with rfl | rfl | rfl | rfl | rfl | rfl | rfl | rfl | rfl | rfl | rfl | rfl | rfl | rfl | rfl | rfl | rfl | rfl | rfl | rfl | rfl | rfl | rfl | rfl | rfl | rfl <;> rfl) (by unfold maxLen; omega) (by omega) rfl rfl rfl rfl ?_; intro A1 c1 w5 how; have HX5 := Lib.hid how; clear how | go_step)
      clear H5 H6 HE HG2
      go_roundw
      case rel => exact ⟨i + 1, A1, c1, HK.out.2.1, rfl, rfl, HX5⟩
      case measure =>
        show (1000 - ((i : Int) + 1)).toNat < (1000 - (i : Int)).toNat
        omega
theorem size_spc {n : Nat} : (str (spc n)).size = n := spc_length n
set_option maxHeartbeats 1000000 in
theorem parse45_spc (n : Nat) (h0 : 0 < n) (hn : n ≤ 65536) (w : World) :
    Calls Tryd.prog 9 #[.int .i64 1, .string (str (spc n))] w fun e w' => e = .returned (.tuple #[.slice none 0 0, .int .i64 49]) ∧ Below w.heap.size w w' := by
  have hsz : decide (65536 < ((str (spc n)).size : Int)) = false := by
    rw [size_spc]
    simp
    omega
  have hne : ((str (spc n)).toList == ([] : List UInt8)) = false := by
    obtain ⟨k, rfl⟩ : ∃ k, n = k + 1 := ⟨n - 1, by omega⟩
    rw [str_toList]
    rfl
  have HSU := Lib.hid (suffix_spc (n := n) (by omega) w)
  clear h0 hn
  go_enter Tryd.func9, Tryd.ntmps9
  go_wp2_with (with_reducible refine upon_id ?_; go_simp)
  refine HSU.out.mono ?_
  rintro e w1 ⟨rfl, hw⟩
  have hw := hw.symm
  subst hw
  go_wp2_with (with_reducible refine upon_id ?_; go_simp)
  refine bodyPost_ret (v := .tuple #[.slice none 0 0, .int .i64 49]) (by simp [results, Tryd.results9]) rfl ?_
  exact ⟨rfl, Below.refl _ _⟩
set_option maxHeartbeats 1000000 in
theorem parse45_spc_long (n : Nat) (hn : 65537 ≤ n) (w : World) :
    Calls Tryd.prog 9 #[.int .i64 1, .string (str (spc n))] w fun e w' => e = .returned (.tuple #[.slice none 0 0, .int .i64 3]) ∧ Below w.heap.size w w' := by
  have hsz : decide (65536 < ((str (spc n)).size : Int)) = true := by
    rw [size_spc]
    simp
    omega
  clear hn
  go_enter Tryd.func9, Tryd.ntmps9
  go_wp2_with (with_reducible refine upon_id ?_; go_simp)
  refine bodyPost_ret (v := .tuple #[.slice none 0 0, .int .i64 3]) (by simp [results, Tryd.results9]) rfl ?_
  exact ⟨rfl, Below.refl _ _⟩
end Go.Proofs.YtpcmbmabmfghkaaDoor

/- the law's sanity check of scripts. -/
import Derived.Test.YtpcmbmabmfghkaaDoorScS
namespace Go.Proofs.YtpcmbmabmfghkaaDoor
open Go.RowKit
set_option linter.unusedVariables false
set_option maxRecDepth 100000
set_option maxHeartbeats 4000000 in
theorem awake45_any (w : World) (m : Int) (hm : w.cell? ⟨0, 0, none⟩ = some (.int .i64 m)) :
    Calls Tryd.prog 7 #[] w fun e w' => e = .returned (.bool true) ∧ Below w.heap.size w w' := by
  have h0 := block_lt_of_cell hm
  have HP := Lib.hid (parse_two w m hm)
  have HM := Lib.hid (And.intro h0 hm)
  clear hm h0
  go_enter Tryd.func7, Tryd.ntmps7
  go_wp2_with (with_reducible refine upon_id ?_; go_simp)
  refine HP.out.mono ?_
  rintro e w1 ⟨A, c, db, dc, rfl, hx⟩
  obtain ⟨lb, cap, hv, -, hlt⟩ := (hx.row 0 rfl).form (by omega)
  have hA : A = some ⟨lb, 0, none⟩ := by
    injection hv with h1 _ _
  clear hv
  subst hA
  have hl : ∀ (j : Nat) (v : Value), ([.int .i64 1, .int .i64 0, .int .i64 0, .int .i64 2, .int .i64 1, .int .i64 0, .int .i64 3, .int .i64 0, .slice (some ⟨db, 0, none⟩) 2 dc, .int .i64 0, .int .i64 0, .int .i64 0, .int .i64 0, .int .i64 0, .int .i64 0, .int .i64 0, .int .i64 0, .int .u8 0, .int .u8 0, .bool false, .int .i64 0, .int .i64 0, .int .i64 0, .int .i64 0, .bool false, .bool false, .int .i64 6, .int .i64 0, .int .i64 0, .int .i64 0, .int .i64 0, .int .i64 0, .int .i64 0, .int .i64 0, .slice none 0 0, .int .i64 0, .int .i64 0, .int .i64 0, .int .i64 0, .int .i64 0, .int .i64 0, .int .i64 0, .int .i64 0, .int .u8 0, .int .u8 0, .bool false, .int .i64 0, .int .i64 0, .int .i64 0, .int .i64 0, .bool false, .bool false] : List Value)[j]? = some v → w1.cell? ⟨lb, j, none⟩ = some v := fun j v hj => by
    have h := (hx.row 0 rfl).cells (g := lb) rfl j v hj
    rw [add_zero] at h
    exact h
  have HF := Lib.hid (fmt_two w1 db dc lb c hlt hl (hx.ow.lt (i := 0) rfl rfl).1 ((hx.ow.row 0 rfl).cellAt 0 (by decide)) ((hx.ow.row 0 rfl).cellAt 1 (by decide)))
  have y6 : w1.cell? ⟨lb, 6, none⟩ = some (.int .i64 3) := hl 6 _ rfl
  have HX := Lib.hid (And.intro hx.ow.below (And.intro hlt y6))
  clear hl hx hlt HP y6
  go_wp2_with (with_reducible refine upon_id ?_; go_simp)
  refine HF.out.mono ?_
  rintro e w2 ⟨rfl, hb2⟩
  have HB2 := Lib.hid (HX.out.1.trans (below_less hb2 HX.out.1.size))
  have Y2 : Hid (w2.cell? ⟨lb, 6, none⟩ = some (.int .i64 3)) := Lib.hid ((hb2.cell (p := ⟨lb, 6, none⟩) HX.out.2.1).trans HX.out.2.2)
  have L2 := Lib.hid (Nat.lt_of_lt_of_le HX.out.2.1 hb2.size)
  clear hb2 HF
  go_wp2_with (with_reducible refine upon_id ?_; go_simp)
  refine (parse_wbad w2 m ((HB2.out.cell (p := ⟨0, 0, none⟩) HM.out.1).trans HM.out.2)).mono ?_
  rintro e w3 ⟨rfl, hb3⟩
  have HB3 := Lib.hid (HB2.out.trans (below_less hb3 HB2.out.size))
  have y6 : w3.cell? ⟨lb, 6, none⟩ = some (.int .i64 3) := (hb3.cell (p := ⟨lb, 6, none⟩) L2.out).trans Y2.out
  clear hb3 HB2 Y2 L2 HX HM
  go_wp2_with (with_reducible refine upon_id ?_; go_simp)
  go_ret
  exact ⟨rfl, HB3.out⟩
end Go.Proofs.YtpcmbmabmfghkaaDoor

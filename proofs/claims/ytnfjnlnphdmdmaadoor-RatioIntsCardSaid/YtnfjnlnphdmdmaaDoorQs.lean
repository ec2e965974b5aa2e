/- The sanity check of the fractions' laws. -/
import Derived.Test.YtnfjnlnphdmdmaaDoorQv
import Derived.Test.YtnfjnlnphdmdmaaDoorQr
import Derived.Test.YtnfjnlnphdmdmaaDoorQj
namespace Go.Proofs.YtnfjnlnphdmdmaaDoor
open Go.RowKit Go.Sort
set_option linter.unusedVariables false
set_option maxRecDepth 100000
theorem tiny_top {x : Nat} (h : x ≤ 9223372036854775807) : x < Na.top := Nat.lt_of_le_of_lt h (by decide +kernel)
theorem frM_64 : ofF 6 4 = (3, 2, 0) := by decide +kernel
theorem frM_13 : ofF 1 3 = (1, 3, 0) := by decide +kernel
theorem frM_116 : frM (3 * 3 + 1 * 2) (2 * 3) = (11, 6, 0) := by decide +kernel
theorem text_116 : str (De.text 11 ++ 47 :: De.text 6) = ⟨#[49, 49, 47, 54]⟩ := by decide +kernel
set_option maxHeartbeats 4000000 in
theorem awakeQ_any (w : World) (ht : Tab w) : Calls Tryd.prog 13 #[] w fun e w' => e = .returned (.bool true) ∧ Below w.heap.size w w' := by
  have HT := Lib.hid ht
  have H0 := Ow.of (St.refl w)
  have HC := Lib.hid (qof_ow H0 6 4 (by omega) (by omega) ht)
  rw [frM_64] at HC
  clear H0 ht
  go_enter Tryd.func13, Tryd.ntmps13
  go_wp2_with fail
  refine HC.out.mono ?_
  rintro e w1 ⟨A1, n1, c1, A2, n2, c2, rfl, H1⟩
  have H2 := H1.pair (.slice A1 n1 c1) (.slice A2 n2 c2) 28
  have HD := Lib.hid (qof_ow H2 1 3 (by omega) (by omega) HT.out)
  rw [frM_13] at HD
  clear HC H1 H2
  go_wp2_with fail
  refine HD.out.mono ?_
  rintro e w2 ⟨A3, n3, c3, A4, n4, c4, rfl, H3⟩
  have H4 := H3.pair (.slice A3 n3 c3) (.slice A4 n4 c4) 28
  simp only [List.nil_append, List.cons_append] at H4
  have a0 := H4.p0 0 rfl
  have a1 := H4.p1 0 rfl
  have HE := Lib.hid (qAdd_any (p := Na.up (Na.dig 3)) (q := Na.up (Na.dig 2)) (r := Na.up (Na.dig 1)) (s := Na.up (Na.dig 3)) H4 0 1 2 3 (by rw [nats_up]; rfl) (by rw [nats_up]; rfl) (by rw [nats_up]; rfl) (by rw [nats_up]; rfl) HT.out)
  rw [addF_low (tiny_top (by omega)) (tiny_top (by omega)) (tiny_top (by omega)) (tiny_top (by omega)) (by omega) (by omega) (by decide) (by decide) (tiny_top (by omega)) (tiny_top (by omega))] at HE
  rw [frM_116] at HE
  clear HD H3 H4
  go_wp2_with fail
  refine HE.out.mono ?_
  rintro e w3 ⟨A5, n5, c5, A6, n6, c6, rfl, H5⟩
  have H6 := H5.pair (.slice A5 n5 c5) (.slice A6 n6 c6) 28
  simp only [List.nil_append, List.cons_append] at H6
  have a0 := H6.p0 2 rfl
  have a1 := H6.p1 2 rfl
  have HF := Lib.hid (qprint_ok (x := 11) (y := 6) H6 4 5 rfl rfl HT.out (tiny_top (by omega)) (tiny_top (by omega)) (rv_low (tiny_top (by omega)) (tiny_top (by omega)) (by omega) (by decide)))
  rw [text_116] at HF
  clear HE H5 H6
  go_wp2_with fail
  refine HF.out.mono ?_
  rintro e w4 ⟨rfl, H7⟩
  have HB := Lib.hid H7.below
  clear HF H7
  go_wp2_with fail
  go_ret
  exact ⟨rfl, HB.out⟩
end Go.Proofs.YtnfjnlnphdmdmaaDoor

/- The statement RatioIntsCardSaid: for every input, the law RatioInts returns true and each argument reads afterwards as before; the card ties the tables that the row lists. No further condition. -/
import Derived.Test.YtnfjnlnphdmdmaaDoorRows
import Derived.Test.YtnfjnlnphdmdmaaDoorCards
import Derived.Test.YtnfjnlnphdmdmaaDoorTie
import Derived.Test.YtnfjnlnphdmdmaaDoorRatioIntsW
import Derived.Test.YtnfjnlnphdmdmaaDoorLawKit
import Derived.Test.YtnfjnlnphdmdmaaDoorOpenArr
import Derived.Test.YtnfjnlnphdmdmaaDoorOpenStr
import Derived.Test.YtnfjnlnphdmdmaaDoorOpenSl
import Derived.Test.YtnfjnlnphdmdmaaDoorRatTab
import Derived.Test.YtnfjnlnphdmdmaaDoorOpenNat
import Derived.WalkKit
import Derived.ProofKit
import Derived.OpenShut
import Derived.LaidMore
import Derived.Lay
import Derived.SevenTiedAt
import Derived.Stop.Joined
import Derived.Lib.SmallJoins
namespace Go.Proofs.YtnfjnlnphdmdmaaDoor.ratioInts
open Go.ChangeShapes Go.WideShapes Go.ChangeAt Go.RowKit
set_option linter.unusedVariables false

theorem own : ownKnob Tryd.prog.godebug = none := by kernel_rfl
theorem laid : laidOutB Tryd.prog = true := by kernel_rfl
theorem cellsI : Tryd.prog.cellsOf 3 = 1 := by kernel_rfl
set_option maxRecDepth 100000 in
theorem lifted (os : Os) (started : os.Started) (H : Type) (enc : TypeId × Value → H) :
    ReturnsInHanded {} Tryd.checked os 3 .any (fun w args => (Rows.ratioIntsSpec.pre enc Tryd.prog Tryd.f3 Rows.ratioIntsRow.domain false w args ∧ laidMetH Tryd.prog Rows.ratioIntsRow.laid w) ∧ sizedMet enc Tryd.prog Tryd.f3 (OpenSpec.ofChange Rows.ratioIntsSpec) false w args)
      (Rows.ratioIntsSpec.post enc Tryd.prog Tryd.f3 false true false false) := by
  refine returnsInHanded_of_change_and (C := Tryd.checked) (X := fun w _ => laidMetH Tryd.prog Rows.ratioIntsRow.laid w) (fun _ _ _ hh h => h.of_heap hh) own started (by kernel_rfl) Tryd.func3
    (ChangeSpec.witness_shaped (enc := enc) (C := Tryd.checked) (os := os) (X := fun w _ => laidMetH Tryd.prog Rows.ratioIntsRow.laid w) false (World.laidAll Tryd.prog os Rows.ratioIntsRow.laid) #[.agg #[.int .i64 0, .int .i64 0], .agg #[.slice none 0 0], .agg #[.slice none 0 0]] 8 (World.laidAll_os _ _ _)
      (World.shaped_of_ZipB (by kernel_rfl) (by kernel_rfl)) (by kernel_rfl) (by kernel_rfl) (by kernel_rfl)
      (by rw [MakeChecks.laidMetH_plain _ _ _ (by kernel_rfl)]; exact laidMet_laidAll _ (by kernel_rfl) (by kernel_rfl))) ?_
  intro W base args ds gs before hval0 hW hcnd _ hL _
  have hval : ∀ (j : Nat) t v, Tryd.f3.params[j]? = some t → args[j]? = some v → Value.okWide Tryd.prog W .any base t v := hval0
  have hW' := hW
  obtain ⟨p, q, hA0, hV, rfl, hfz, hnd⟩ := hW
  have hA : DataW.TrodAll enc Tryd.prog W 0 (fun _ => true) true Tryd.f3.params.toList args.toList ds p := hA0
  rw [Tryd.params3] at hA hval
  obtain ⟨v0, vs0, d0, ds0, p0, q0, hargs, rfl, rfl, h0, r0⟩ := trodAll_cons hA
  obtain ⟨v1, vs1, d1, ds1, p1, q1, rfl, rfl, rfl, h1, r1⟩ := trodAll_cons r0
  obtain ⟨v2, vs2, d2, ds2, p2, q2, rfl, rfl, rfl, h2, r2⟩ := trodAll_cons r1
  obtain ⟨rfl, rfl, rfl⟩ := trodAll_nil r2
  obtain rfl : args = #[v0, v1, v2] := by cases args; simp_all
  obtain ⟨rfl, rfl⟩ := trodVars_none hV
  obtain ⟨a0_0, a0_1, rfl, w0_0, w0_1⟩ := open_arr2 Tryd.underlying22 Tryd.underlying3 cellsI (by kernel_rfl) (hval 0 22 v0 rfl rfl) h0
  obtain ⟨A1, n1, c1, zs1, rfl, hn1, hnc1, hc1, hs1, hw1⟩ := open_nat (ts := 23) Tryd.underlying25 rfl rfl (by kernel_rfl) (by kernel_rfl) Tryd.underlying23 Tryd.underlying3 cellsI (hval 1 25 v1 rfl rfl) h1
  obtain ⟨A2, n2, c2, zs2, rfl, hn2, hnc2, hc2, hs2, hw2⟩ := open_nat (ts := 23) Tryd.underlying25 rfl rfl (by kernel_rfl) (by kernel_rfl) Tryd.underlying23 Tryd.underlying3 cellsI (hval 2 25 v2 rfl rfl) h2
  have hm1 : n1 ≤ 9223372036854775807 := Nat.le_trans hnc1 (Nat.le_trans hc1 (by decide))
  have hm2 : n2 ≤ 9223372036854775807 := Nat.le_trans hnc2 (Nat.le_trans hc2 (by decide))
  clear hA0 hval0
  refine (ratioInts_any a0_0 a0_1 A1 A2 n1 c1 n2 c2 zs1 zs2 W (i64_le w0_0) (i64_le w0_1) hn1 hnc1 hm1 hs1 hn2 hnc2 hm2 hs2 (tab_of hL)).mono fun e W' ⟨he, hb⟩ => ?_
  subst he
  exact ⟨_, rfl, post_law laid hb rfl hW' rfl (by kernel_rfl) Tryd.underlying4 (by
    intro t ht
    have ht' : t ∈ [22, 25, 25] := by rw [Tryd.params3] at ht; exact ht
    simp only [List.mem_cons, List.mem_nil_iff, or_false] at ht'
    rcases ht' with rfl | rfl | rfl
    · exact ⟨by kernel_rfl, of_decide_eq_true (by kernel_rfl)⟩
    · exact ⟨by kernel_rfl, of_decide_eq_true (by kernel_rfl)⟩
    · exact ⟨by kernel_rfl, of_decide_eq_true (by kernel_rfl)⟩)⟩

theorem holds : Rows.RatioIntsSaid :=
  OpenClaim.holds_of_wide 3 Tryd.f3 rfl rfl rfl rfl rfl rfl rfl ⟨rfl, rfl, rfl, rfl, rfl⟩ rfl rfl rfl rfl rfl (by kernel_rfl) Tryd.func3 (by kernel_rfl)
    (of_decide_eq_true (by kernel_rfl)) (by unfold Func.isWrapper; first | (rw [if_pos (by decide +kernel)]; kernel_rfl) | (rw [if_neg (by decide +kernel)]; exact ⟨rfl, rfl⟩))
    (fun os started H enc _ => lifted os started H enc)
theorem proved : Rows.RatioIntsCardSaid :=
  Claim7.holds_tied_plain_at .later [] [.data, .data, .pinned] true (true, "aff7ebe6d74c27104724bd313f9b0848f33f0dcad4259af8f1dd5c09a14701f6") false holds (fun _ h => by cases h) (by kernel_rfl) (fun _ h => by cases h) ratioInts_row_tie rfl ⟨rfl, rfl⟩ (by kernel_rfl) rfl
    (fun f fn hf hfn => by
      obtain rfl : f = 3 := Option.some.inj ((show Tryd.prog.funcNamed "memfault/memfaultlaw02.RatioInts" = some 3 by kernel_rfl).symm.trans hf) |>.symm
      obtain rfl : fn = Tryd.f3 := (Option.some.inj (Tryd.func3.symm.trans hfn)).symm
      exact ⟨by kernel_rfl, fun j t ht => by
        rw [Tryd.params3] at ht
        have hm : t ∈ [22, 25, 25] := by simpa using Array.mem_of_getElem? ht
        have hall : ([22, 25, 25].all fun u => !Tryd.prog.wantsStandIn u) = true := by kernel_rfl
        exact (show Tryd.prog.wantsStandIn t = false by simpa using List.all_eq_true.1 hall t hm)⟩)
    (by kernel_rfl)
#print axioms proved
end Go.Proofs.YtnfjnlnphdmdmaaDoor.ratioInts

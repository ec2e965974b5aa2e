/- The statement NatNumbersCardSaid: for every input, the law NatNumbers returns true and each argument reads afterwards as before; the card ties the tables that the row lists. No further condition. -/
import Derived.Test.YtflgfkelbniblaaDoorRows
import Derived.Test.YtflgfkelbniblaaDoorCards
import Derived.Test.YtflgfkelbniblaaDoorTie
import Derived.Test.YtflgfkelbniblaaDoorNatNumbersW
import Derived.Test.YtflgfkelbniblaaDoorLawKit
import Derived.Test.YtflgfkelbniblaaDoorOpenArr
import Derived.Test.YtflgfkelbniblaaDoorOpenStr
import Derived.Test.YtflgfkelbniblaaDoorOpenSl
import Derived.WalkKit
import Derived.ProofKit
import Derived.OpenShut
import Derived.LaidMore
import Derived.Lay
import Derived.SevenTiedAt
import Derived.Stop.Joined
import Derived.Lib.SmallJoins
namespace Go.Proofs.YtflgfkelbniblaaDoor.natNumbers
open Go.ChangeShapes Go.WideShapes Go.ChangeAt Go.RowKit
set_option linter.unusedVariables false

theorem own : ownKnob Tryd.prog.godebug = none := by kernel_rfl
theorem laid : laidOutB Tryd.prog = true := by kernel_rfl
theorem cellsI : Tryd.prog.cellsOf 3 = 1 := by kernel_rfl
set_option maxRecDepth 100000 in
theorem lifted (os : Os) (started : os.Started) (H : Type) (enc : TypeId × Value → H) :
    ReturnsInHanded {} Tryd.checked os 5 .any (fun w args => (Rows.natNumbersSpec.pre enc Tryd.prog Tryd.f5 Rows.natNumbersRow.domain false w args ∧ laidMetH Tryd.prog Rows.natNumbersRow.laid w) ∧ sizedMet enc Tryd.prog Tryd.f5 (OpenSpec.ofChange Rows.natNumbersSpec) false w args)
      (Rows.natNumbersSpec.post enc Tryd.prog Tryd.f5 false true false false) := by
  refine returnsInHanded_of_change_and (C := Tryd.checked) (X := fun w _ => laidMetH Tryd.prog Rows.natNumbersRow.laid w) (fun _ _ _ hh h => h.of_heap hh) own started (by kernel_rfl) Tryd.func5
    (ChangeSpec.witness_shaped (enc := enc) (C := Tryd.checked) (os := os) (X := fun w _ => laidMetH Tryd.prog Rows.natNumbersRow.laid w) false (World.laidAll Tryd.prog os Rows.natNumbersRow.laid) #[.agg #[.int .i64 0, .int .i64 0, .int .i64 0], .string ⟨#[]⟩, .slice none 0 0] 8 (World.laidAll_os _ _ _)
      (World.shaped_of_ZipB (by kernel_rfl) (by kernel_rfl)) (by kernel_rfl) (by kernel_rfl) (by kernel_rfl)
      (by rw [MakeChecks.laidMetH_plain _ _ _ (by kernel_rfl)]; exact laidMet_laidAll _ (by kernel_rfl) (by kernel_rfl))) ?_
  intro W base args ds gs before hval0 hW hcnd _ hL _
  have hval : ∀ (j : Nat) t v, Tryd.f5.params[j]? = some t → args[j]? = some v → Value.okWide Tryd.prog W .any base t v := hval0
  have hW' := hW
  obtain ⟨p, q, hA0, hV, rfl, hfz, hnd⟩ := hW
  have hA : DataW.TrodAll enc Tryd.prog W 0 (fun _ => true) true Tryd.f5.params.toList args.toList ds p := hA0
  rw [Tryd.params5] at hA hval
  obtain ⟨v0, vs0, d0, ds0, p0, q0, hargs, rfl, rfl, h0, r0⟩ := trodAll_cons hA
  obtain ⟨v1, vs1, d1, ds1, p1, q1, rfl, rfl, rfl, h1, r1⟩ := trodAll_cons r0
  obtain ⟨v2, vs2, d2, ds2, p2, q2, rfl, rfl, rfl, h2, r2⟩ := trodAll_cons r1
  obtain ⟨rfl, rfl, rfl⟩ := trodAll_nil r2
  obtain rfl : args = #[v0, v1, v2] := by cases args; simp_all
  obtain ⟨rfl, rfl⟩ := trodVars_none hV
  obtain ⟨a0_0, a0_1, a0_2, rfl, w0_0, w0_1, w0_2⟩ := open_arr3 Tryd.underlying42 Tryd.underlying3 cellsI (by kernel_rfl) (hval 0 42 v0 rfl rfl) h0
  obtain ⟨S1, rfl, hS1⟩ := open_str Tryd.underlying9 (hval 1 9 v1 rfl rfl)
  obtain ⟨A2, n2, c2, zs2, rfl, hn2, hnc2, hc2, hs2, hw2⟩ := open_sl Tryd.underlying23 Tryd.underlying3 cellsI (hval 2 23 v2 rfl rfl) h2
  have hm2 : n2 ≤ 9223372036854775807 := Nat.le_trans hnc2 (Nat.le_trans hc2 (by decide))
  clear hA0 hval0
  refine (natNumbers_any a0_0 a0_1 a0_2 S1 A2 n2 c2 zs2 W (i64_le w0_0) hS1 hn2 hm2 hs2).mono fun e W' ⟨he, hb⟩ => ?_
  subst he
  exact ⟨_, rfl, post_law laid hb rfl hW' rfl (by kernel_rfl) Tryd.underlying4 (by
    intro t ht
    have ht' : t ∈ [42, 9, 23] := by rw [Tryd.params5] at ht; exact ht
    simp only [List.mem_cons, List.mem_nil_iff, or_false] at ht'
    rcases ht' with rfl | rfl | rfl
    · exact ⟨by kernel_rfl, of_decide_eq_true (by kernel_rfl)⟩
    · exact ⟨by kernel_rfl, of_decide_eq_true (by kernel_rfl)⟩
    · exact ⟨by kernel_rfl, of_decide_eq_true (by kernel_rfl)⟩)⟩

theorem holds : Rows.NatNumbersSaid :=
  OpenClaim.holds_of_wide 5 Tryd.f5 rfl rfl rfl rfl rfl rfl rfl ⟨rfl, rfl, rfl, rfl, rfl⟩ rfl rfl rfl rfl rfl (by kernel_rfl) Tryd.func5 (by kernel_rfl)
    (of_decide_eq_true (by kernel_rfl)) (by unfold Func.isWrapper; first | (rw [if_pos (by decide +kernel)]; kernel_rfl) | (rw [if_neg (by decide +kernel)]; exact ⟨rfl, rfl⟩))
    (fun os started H enc _ => lifted os started H enc)
theorem proved : Rows.NatNumbersCardSaid :=
  Claim7.holds_tied_plain_at .later [] [.data, .pinned] true (true, "6e306e65c59f177e1ca62b4671ff48591fba2db2ddf0ddfcf4178702e4113b73") false holds (fun _ h => by cases h) (by kernel_rfl) (fun _ h => by cases h) natNumbers_row_tie rfl ⟨rfl, rfl⟩ (by kernel_rfl) rfl
    (fun f fn hf hfn => by
      obtain rfl : f = 5 := Option.some.inj ((show Tryd.prog.funcNamed "memfault/memfaultlaw01.NatNumbers" = some 5 by kernel_rfl).symm.trans hf) |>.symm
      obtain rfl : fn = Tryd.f5 := (Option.some.inj (Tryd.func5.symm.trans hfn)).symm
      exact ⟨by kernel_rfl, fun j t ht => by
        rw [Tryd.params5] at ht
        have hm : t ∈ [42, 9, 23] := by simpa using Array.mem_of_getElem? ht
        have hall : ([42, 9, 23].all fun u => !Tryd.prog.wantsStandIn u) = true := by kernel_rfl
        exact (show Tryd.prog.wantsStandIn t = false by simpa using List.all_eq_true.1 hall t hm)⟩)
    (by kernel_rfl)
#print axioms proved
end Go.Proofs.YtflgfkelbniblaaDoor.natNumbers

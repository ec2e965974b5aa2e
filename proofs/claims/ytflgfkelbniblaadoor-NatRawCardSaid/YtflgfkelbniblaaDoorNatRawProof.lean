/- The statement NatRawCardSaid: for every input, the law NatRaw returns true and each argument reads afterwards as before; the card ties the tables that the row lists. No further condition. -/
import Derived.Test.YtflgfkelbniblaaDoorRows
import Derived.Test.YtflgfkelbniblaaDoorCards
import Derived.Test.YtflgfkelbniblaaDoorTie
import Derived.Test.YtflgfkelbniblaaDoorNatRawW
import Derived.Test.YtflgfkelbniblaaDoorNatTab
import Derived.Test.YtflgfkelbniblaaDoorLawKit
import Derived.Test.YtflgfkelbniblaaDoorOpenSl
import Derived.WalkKit
import Derived.ProofKit
import Derived.OpenShut
import Derived.LaidMore
import Derived.Lay
import Derived.SevenTiedAt
import Derived.Stop.Joined
import Derived.Lib.SmallJoins
namespace Go.Proofs.YtflgfkelbniblaaDoor.natRaw
open Go.ChangeShapes Go.WideShapes Go.ChangeAt Go.RowKit
set_option linter.unusedVariables false

theorem own : ownKnob Tryd.prog.godebug = none := by kernel_rfl
theorem laid : laidOutB Tryd.prog = true := by kernel_rfl
theorem cellsI : Tryd.prog.cellsOf 3 = 1 := by kernel_rfl
set_option maxRecDepth 100000 in
theorem lifted (os : Os) (started : os.Started) (H : Type) (enc : TypeId × Value → H) :
    ReturnsInHanded {} Tryd.checked os 10 .any (fun w args => (Rows.natRawSpec.pre enc Tryd.prog Tryd.f10 Rows.natRawRow.domain false w args ∧ laidMetH Tryd.prog Rows.natRawRow.laid w) ∧ sizedMet enc Tryd.prog Tryd.f10 (OpenSpec.ofChange Rows.natRawSpec) false w args)
      (Rows.natRawSpec.post enc Tryd.prog Tryd.f10 false true false false) := by
  refine returnsInHanded_of_change_and (C := Tryd.checked) (X := fun w _ => laidMetH Tryd.prog Rows.natRawRow.laid w) (fun _ _ _ hh h => h.of_heap hh) own started (by kernel_rfl) Tryd.func10
    (ChangeSpec.witness_shaped (enc := enc) (C := Tryd.checked) (os := os) (X := fun w _ => laidMetH Tryd.prog Rows.natRawRow.laid w) false (World.laidAll Tryd.prog os Rows.natRawRow.laid) #[.agg #[.slice none 0 0], .agg #[.slice none 0 0]] 8 (World.laidAll_os _ _ _)
      (World.shaped_of_ZipB (by kernel_rfl) (by kernel_rfl)) (by kernel_rfl) (by kernel_rfl) (by kernel_rfl)
      (by rw [MakeChecks.laidMetH_plain _ _ _ (by kernel_rfl)]; exact laidMet_laidAll _ (by kernel_rfl) (by kernel_rfl))) ?_
  intro W base args ds gs before hval0 hW hcnd _ hL _
  have hval : ∀ (j : Nat) t v, Tryd.f10.params[j]? = some t → args[j]? = some v → Value.okWide Tryd.prog W .any base t v := hval0
  have hW' := hW
  obtain ⟨p, q, hA0, hV, rfl, hfz, hnd⟩ := hW
  have hA : DataW.TrodAll enc Tryd.prog W 0 (fun _ => true) true Tryd.f10.params.toList args.toList ds p := hA0
  rw [Tryd.params10] at hA hval
  obtain ⟨v0, vs0, d0, ds0, p0, q0, hargs, rfl, rfl, h0, r0⟩ := trodAll_cons hA
  obtain ⟨v1, vs1, d1, ds1, p1, q1, rfl, rfl, rfl, h1, r1⟩ := trodAll_cons r0
  obtain ⟨rfl, rfl, rfl⟩ := trodAll_nil r1
  obtain rfl : args = #[v0, v1] := by cases args; simp_all
  obtain ⟨rfl, rfl⟩ := trodVars_none hV
  obtain ⟨A0, n0, c0, zs0, rfl, hn0, hnc0, hc0, hs0, hw0⟩ := open_nat (ts := 23) Tryd.underlying29 rfl rfl (by kernel_rfl) (by kernel_rfl) Tryd.underlying23 Tryd.underlying3 cellsI (hval 0 29 v0 rfl rfl) h0
  obtain ⟨A1, n1, c1, zs1, rfl, hn1, hnc1, hc1, hs1, hw1⟩ := open_nat (ts := 23) Tryd.underlying29 rfl rfl (by kernel_rfl) (by kernel_rfl) Tryd.underlying23 Tryd.underlying3 cellsI (hval 1 29 v1 rfl rfl) h1
  have hm0 : n0 ≤ 9223372036854775807 := Nat.le_trans hnc0 (Nat.le_trans hc0 (by decide))
  have hm1 : n1 ≤ 9223372036854775807 := Nat.le_trans hnc1 (Nat.le_trans hc1 (by decide))
  clear hA0 hval0
  refine (natRaw_any A0 n0 c0 zs0 A1 n1 c1 zs1 W hn0 hnc0 hm0 hs0 hn1 hnc1 hm1 hs1 (tab_of hL)).mono fun e W' ⟨he, hb⟩ => ?_
  subst he
  exact ⟨_, rfl, post_law laid hb rfl hW' rfl (by kernel_rfl) Tryd.underlying4 (by
    intro t ht
    have ht' : t ∈ [29, 29] := by rw [Tryd.params10] at ht; exact ht
    simp only [List.mem_cons, List.mem_nil_iff, or_false] at ht'
    rcases ht' with rfl | rfl
    · exact ⟨by kernel_rfl, of_decide_eq_true (by kernel_rfl)⟩
    · exact ⟨by kernel_rfl, of_decide_eq_true (by kernel_rfl)⟩)⟩

theorem holds : Rows.NatRawSaid :=
  OpenClaim.holds_of_wide 10 Tryd.f10 rfl rfl rfl rfl rfl rfl rfl ⟨rfl, rfl, rfl, rfl, rfl⟩ rfl rfl rfl rfl rfl (by kernel_rfl) Tryd.func10 (by kernel_rfl)
    (of_decide_eq_true (by kernel_rfl)) (by unfold Func.isWrapper; first | (rw [if_pos (by decide +kernel)]; kernel_rfl) | (rw [if_neg (by decide +kernel)]; exact ⟨rfl, rfl⟩))
    (fun os started H enc _ => lifted os started H enc)
theorem proved : Rows.NatRawCardSaid :=
  Claim7.holds_tied_plain_at .later [] [.data, .data, .pinned] true (true, "6e306e65c59f177e1ca62b4671ff48591fba2db2ddf0ddfcf4178702e4113b73") false holds (fun _ h => by cases h) (by kernel_rfl) (fun _ h => by cases h) natRaw_row_tie rfl ⟨rfl, rfl⟩ (by kernel_rfl) rfl
    (fun f fn hf hfn => by
      obtain rfl : f = 10 := Option.some.inj ((show Tryd.prog.funcNamed "memfault/memfaultlaw01.NatRaw" = some 10 by kernel_rfl).symm.trans hf) |>.symm
      obtain rfl : fn = Tryd.f10 := (Option.some.inj (Tryd.func10.symm.trans hfn)).symm
      exact ⟨by kernel_rfl, fun j t ht => by
        rw [Tryd.params10] at ht
        have hm : t ∈ [29, 29] := by simpa using Array.mem_of_getElem? ht
        have hall : ([29, 29].all fun u => !Tryd.prog.wantsStandIn u) = true := by kernel_rfl
        exact (show Tryd.prog.wantsStandIn t = false by simpa using List.all_eq_true.1 hall t hm)⟩)
    (by kernel_rfl)
#print axioms proved
end Go.Proofs.YtflgfkelbniblaaDoor.natRaw

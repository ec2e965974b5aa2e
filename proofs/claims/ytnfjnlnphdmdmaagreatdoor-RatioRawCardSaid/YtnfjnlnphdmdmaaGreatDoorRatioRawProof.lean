/- The statement RatioRawCardSaid: for every input, the law RatioRaw returns true and each argument reads afterwards as before; the card ties the tables that the row lists. No further condition. -/
import Derived.Test.YtnfjnlnphdmdmaaGreatDoorRows
import Derived.Test.YtnfjnlnphdmdmaaGreatDoorCards
import Derived.Test.YtnfjnlnphdmdmaaGreatDoorTie
import Derived.Test.YtnfjnlnphdmdmaaGreatDoorRatioRawW
import Derived.Test.YtnfjnlnphdmdmaaGreatDoorLawSl
import Derived.Test.YtnfjnlnphdmdmaaGreatDoorOpenRx
import Derived.WalkKit
import Derived.ProofKit
import Derived.OpenShut
import Derived.LaidMore
import Derived.Lay
import Derived.SevenTiedAt
import Derived.Stop.Joined
import Derived.Lib.SmallJoins
namespace Go.Proofs.YtnfjnlnphdmdmaaGreatDoor.ratioRaw
open Go.ChangeShapes Go.WideShapes Go.ChangeAt Go.RowKit
set_option linter.unusedVariables false

theorem own : ownKnob Tryz.prog.godebug = none := by kernel_rfl
theorem laid : laidOutB Tryz.prog = true := by kernel_rfl
theorem cellsI : Tryz.prog.cellsOf 3 = 1 := by kernel_rfl
theorem bytesI : Tryz.prog.bytesOf 3 = 8 := by kernel_rfl
set_option maxRecDepth 100000 in
theorem lifted (os : Os) (started : os.Started) (H : Type) (enc : TypeId × Value → H) :
    ReturnsInHanded {} Tryz.checked os 3 .any (fun w args => (Rows.ratioRawSpec.pre enc Tryz.prog Tryz.f3 Rows.ratioRawRow.domain false w args ∧ laidMetH Tryz.prog Rows.ratioRawRow.laid w) ∧ sizedMet enc Tryz.prog Tryz.f3 (OpenSpec.ofChange Rows.ratioRawSpec) false w args)
      (Rows.ratioRawSpec.post enc Tryz.prog Tryz.f3 false true false false) := by
  refine returnsInHanded_of_change_and (C := Tryz.checked) (X := fun w _ => laidMetH Tryz.prog Rows.ratioRawRow.laid w) (fun _ _ _ hh h => h.of_heap hh) own started (by kernel_rfl) Tryz.func3
    (ChangeSpec.witness_shaped (enc := enc) (C := Tryz.checked) (os := os) (X := fun w _ => laidMetH Tryz.prog Rows.ratioRawRow.laid w) false (World.laidAll Tryz.prog os Rows.ratioRawRow.laid) #[.agg #[.slice none 0 0, .slice none 0 0], .agg #[.slice none 0 0, .slice none 0 0]] 8 (World.laidAll_os _ _ _)
      (World.shaped_of_ZipB (by kernel_rfl) (by kernel_rfl)) (by kernel_rfl) (by kernel_rfl) (by kernel_rfl)
      (by rw [MakeChecks.laidMetH_plain _ _ _ (by kernel_rfl)]; exact laidMet_laidAll _ (by kernel_rfl) (by kernel_rfl))) ?_
  intro W base args ds gs before hval0 hW hcnd hsz hL _
  have hval : ∀ (j : Nat) t v, Tryz.f3.params[j]? = some t → args[j]? = some v → Value.okWide Tryz.prog W .any base t v := hval0
  have hW' := hW
  obtain ⟨p, q, hA0, hV, rfl, hfz, hnd⟩ := hW
  have hA : DataW.TrodAll enc Tryz.prog W 0 (fun _ => true) true Tryz.f3.params.toList args.toList ds p := hA0
  rw [Tryz.params3] at hA hval
  obtain ⟨v0, vs0, d0, ds0, p0, q0, hargs, rfl, rfl, h0, r0⟩ := trodAll_cons hA
  obtain ⟨v1, vs1, d1, ds1, p1, q1, rfl, rfl, rfl, h1, r1⟩ := trodAll_cons r0
  obtain ⟨rfl, rfl, rfl⟩ := trodAll_nil r1
  obtain rfl : args = #[v0, v1] := by cases args; simp_all
  obtain ⟨rfl, rfl⟩ := trodVars_none hV
  obtain ⟨A0, n0, c0, zs0, B0, m0, e0, ys0, rfl, hn0, hnc0, hc0, hs0, hm0, hmc0, hd0, ht0, hz0⟩ := open_ratio (t := 24) (ts := 22) Tryz.underlying26 rfl rfl rfl rfl (by kernel_rfl) (by kernel_rfl) Tryz.underlying24 rfl rfl (by kernel_rfl) Tryz.underlying22 Tryz.underlying3 cellsI (hval 0 26 v0 rfl rfl) h0
  have hq0 := hz0 reachBytes (fun x hx => of_decide_eq_true (List.all_eq_true.1 hsz x (DataW.weights_mem_each (j := 0) (t := 26) (by rw [Tryz.params3]; rfl) rfl x hx)))
  rw [bytesI] at hq0
  have hl0 : n0 ≤ 281474976710656 := by have := hq0.1; unfold reachBytes at this; omega
  have hk0 : m0 ≤ 281474976710656 := by have := hq0.2; unfold reachBytes at this; omega
  obtain ⟨A1, n1, c1, zs1, B1, m1, e1, ys1, rfl, hn1, hnc1, hc1, hs1, hm1, hmc1, hd1, ht1, hz1⟩ := open_ratio (t := 24) (ts := 22) Tryz.underlying26 rfl rfl rfl rfl (by kernel_rfl) (by kernel_rfl) Tryz.underlying24 rfl rfl (by kernel_rfl) Tryz.underlying22 Tryz.underlying3 cellsI (hval 1 26 v1 rfl rfl) h1
  have hq1 := hz1 reachBytes (fun x hx => of_decide_eq_true (List.all_eq_true.1 hsz x (DataW.weights_mem_each (j := 1) (t := 26) (by rw [Tryz.params3]; rfl) rfl x hx)))
  rw [bytesI] at hq1
  have hl1 : n1 ≤ 281474976710656 := by have := hq1.1; unfold reachBytes at this; omega
  have hk1 : m1 ≤ 281474976710656 := by have := hq1.2; unfold reachBytes at this; omega
  clear hA0 hval0
  refine (ratioRaw_any A0 n0 c0 zs0 B0 m0 e0 ys0 A1 n1 c1 zs1 B1 m1 e1 ys1 W hn0 hnc0 hl0 hs0 hm0 hmc0 hk0 ht0 hn1 hnc1 hl1 hs1 hm1 hmc1 hk1 ht1 (tab_of hL)).mono fun e W' ⟨he, hb⟩ => ?_
  subst he
  exact ⟨_, rfl, post_law laid hb rfl hW' rfl (by kernel_rfl) Tryz.underlying4 (by
    intro t ht
    have ht' : t ∈ [26, 26] := by rw [Tryz.params3] at ht; exact ht
    simp only [List.mem_cons, List.mem_nil_iff, or_false] at ht'
    rcases ht' with rfl | rfl
    · exact ⟨by kernel_rfl, of_decide_eq_true (by kernel_rfl)⟩
    · exact ⟨by kernel_rfl, of_decide_eq_true (by kernel_rfl)⟩)⟩

theorem holds : Rows.RatioRawSaid :=
  OpenClaim.holds_of_wide 3 Tryz.f3 rfl rfl rfl rfl rfl rfl rfl ⟨rfl, rfl, rfl, rfl, rfl⟩ rfl rfl rfl rfl rfl (by kernel_rfl) Tryz.func3 (by kernel_rfl)
    (of_decide_eq_true (by kernel_rfl)) (by unfold Func.isWrapper; first | (rw [if_pos (by decide +kernel)]; kernel_rfl) | (rw [if_neg (by decide +kernel)]; exact ⟨rfl, rfl⟩))
    (fun os started H enc _ => lifted os started H enc)
theorem proved : Rows.RatioRawCardSaid :=
  Claim7.holds_tied_plain_at .later [] [.data, .data, .pinned] true (true, "e3b00a265886d7489e68b54ecb2dd7feaa951b77b74134494d8e7bbad7e04aea") false holds (fun _ h => by cases h) (by kernel_rfl) (fun _ h => by cases h) ratioRaw_row_tie rfl ⟨rfl, rfl⟩ (by kernel_rfl) rfl
    (fun f fn hf hfn => by
      obtain rfl : f = 3 := Option.some.inj ((show Tryz.prog.funcNamed "memfault/memfaultlaw02.RatioRaw" = some 3 by kernel_rfl).symm.trans hf) |>.symm
      obtain rfl : fn = Tryz.f3 := (Option.some.inj (Tryz.func3.symm.trans hfn)).symm
      exact ⟨by kernel_rfl, fun j t ht => by
        rw [Tryz.params3] at ht
        have hm : t ∈ [26, 26] := by simpa using Array.mem_of_getElem? ht
        have hall : ([26, 26].all fun u => !Tryz.prog.wantsStandIn u) = true := by kernel_rfl
        exact (show Tryz.prog.wantsStandIn t = false by simpa using List.all_eq_true.1 hall t hm)⟩)
    (by kernel_rfl)
#print axioms proved
end Go.Proofs.YtnfjnlnphdmdmaaGreatDoor.ratioRaw

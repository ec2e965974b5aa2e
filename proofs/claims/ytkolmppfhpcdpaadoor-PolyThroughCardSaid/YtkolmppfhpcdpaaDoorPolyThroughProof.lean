/- The statement PolyThroughCardSaid: for every input, the law PolyThrough returns true and each argument reads afterwards as before; the card ties the tables that the row lists. No further condition. -/
import Derived.Test.YtkolmppfhpcdpaaDoorRows
import Derived.Test.YtkolmppfhpcdpaaDoorCards
import Derived.Test.YtkolmppfhpcdpaaDoorTie
import Derived.Test.YtkolmppfhpcdpaaDoorPolyThrough
import Derived.Test.YtkolmppfhpcdpaaDoorLawKit
import Derived.Test.YtkolmppfhpcdpaaDoorOpenSl
import Derived.WalkKit
import Derived.ProofKit
import Derived.OpenShut
import Derived.LaidMore
import Derived.Lay
import Derived.SevenTiedAt
import Derived.Stop.Joined
import Derived.Lib.SmallJoins
namespace Go.Proofs.YtkolmppfhpcdpaaDoor.polyThrough
open Go.ChangeShapes Go.WideShapes Go.ChangeAt Go.RowKit
set_option linter.unusedVariables false

theorem own : ownKnob Tryd.prog.godebug = none := by kernel_rfl
theorem laid : laidOutB Tryd.prog = true := by kernel_rfl
theorem cellsI : Tryd.prog.cellsOf 3 = 1 := by kernel_rfl
theorem cellsB : Tryd.prog.cellsOf 5 = 1 := by kernel_rfl
set_option maxRecDepth 100000 in
theorem lifted (os : Os) (started : os.Started) (H : Type) (enc : TypeId × Value → H) :
    ReturnsInHanded {} Tryd.checked os 5 .any (fun w args => (Rows.polyThroughSpec.pre enc Tryd.prog Tryd.f5 Rows.polyThroughRow.domain false w args ∧ laidMetH Tryd.prog Rows.polyThroughRow.laid w) ∧ sizedMet enc Tryd.prog Tryd.f5 (OpenSpec.ofChange Rows.polyThroughSpec) false w args)
      (Rows.polyThroughSpec.post enc Tryd.prog Tryd.f5 false true false false) := by
  refine returnsInHanded_of_change_and (C := Tryd.checked) (X := fun w _ => laidMetH Tryd.prog Rows.polyThroughRow.laid w) (fun _ _ _ hh h => h.of_heap hh) own started (by kernel_rfl) Tryd.func5
    (ChangeSpec.witness_shaped (enc := enc) (C := Tryd.checked) (os := os) (X := fun w _ => laidMetH Tryd.prog Rows.polyThroughRow.laid w) false (World.laidAll Tryd.prog os Rows.polyThroughRow.laid) #[.slice none 0 0, .slice none 0 0, .slice none 0 0] 8 (World.laidAll_os _ _ _)
      (World.shaped_of_ZipB (by kernel_rfl) (by kernel_rfl)) (by kernel_rfl) (by kernel_rfl) (by kernel_rfl)
      (by rw [MakeChecks.laidMetH_plain _ _ _ (by kernel_rfl)]; exact laidMet_laidAll _ (by kernel_rfl) (by kernel_rfl))) ?_
  intro W base args ds gs before hval0 hW hcnd _ hL _
  have hval : ∀ (j : Nat) t v, Tryd.f5.params[j]? = some t → args[j]? = some v → Value.okWide Tryd.prog W .any base t v := hval0
  have hW' := hW
  obtain ⟨p, q, hA0, hV, rfl, hfz, hnd⟩ := hW
  have hA : DataW.TrodAll enc Tryd.prog W 0 (fun _ => true) true Tryd.f5.params.toList args.toList ds p := hA0
  rw [Tryd.params5] at hA hval
  obtain ⟨v0, vs0, d0, ds0, p0, q0, hargs, rfl, rfl, h0, r0⟩ := trodAll_cons hA
  obtain ⟨v1, vs1, d1, ds1, p1, q1, rfl, rfl, rfl, h1, r1⟩ := trodAll_cons r0
  obtain ⟨v2, vs2, d2, ds2, p2, q2, rfl, rfl, rfl, h2, r2⟩ := trodAll_cons r1
  obtain ⟨rfl, rfl, rfl⟩ := trodAll_nil r2
  obtain rfl : args = #[v0, v1, v2] := by cases args; simp_all
  obtain ⟨rfl, rfl⟩ := trodVars_none hV
  obtain ⟨A0, n0, c0, zs0, rfl, hn0, hnc0, hc0, hs0, hw0⟩ := open_sl Tryd.underlying27 Tryd.underlying5 cellsB (hval 0 27 v0 rfl rfl) h0
  obtain ⟨l0, hl0, hk0⟩ := u8s_of zs0 hw0
  rw [hl0] at hs0
  rw [← hk0] at hn0
  obtain ⟨A1, n1, c1, zs1, rfl, hn1, hnc1, hc1, hs1, hw1⟩ := open_sl Tryd.underlying27 Tryd.underlying5 cellsB (hval 1 27 v1 rfl rfl) h1
  obtain ⟨l1, hl1, hk1⟩ := u8s_of zs1 hw1
  rw [hl1] at hs1
  rw [← hk1] at hn1
  obtain ⟨A2, n2, c2, zs2, rfl, hn2, hnc2, hc2, hs2, hw2⟩ := open_sl Tryd.underlying22 Tryd.underlying3 cellsI (hval 2 22 v2 rfl rfl) h2
  have hm0 : n0 ≤ 9223372036854775807 := Nat.le_trans hnc0 (Nat.le_trans hc0 (by decide))
  have hm1 : n1 ≤ 9223372036854775807 := Nat.le_trans hnc1 (Nat.le_trans hc1 (by decide))
  have hm2 : n2 ≤ 9223372036854775807 := Nat.le_trans hnc2 (Nat.le_trans hc2 (by decide))
  clear hA0 hval0
  refine (polyThrough_any A0 n0 c0 l0 A1 n1 c1 l1 A2 n2 c2 zs2 W hn0 hnc0 hm0 hs0 hn1 hnc1 hm1 hs1 hn2 hm2 hs2).mono fun e W' ⟨he, hb⟩ => ?_
  subst he
  exact ⟨_, rfl, post_law laid hb rfl hW' rfl (by kernel_rfl) Tryd.underlying4 (by
    intro t ht
    have ht' : t ∈ [27, 27, 22] := by rw [Tryd.params5] at ht; exact ht
    simp only [List.mem_cons, List.mem_nil_iff, or_false] at ht'
    rcases ht' with rfl | rfl | rfl
    · exact ⟨by kernel_rfl, of_decide_eq_true (by kernel_rfl)⟩
    · exact ⟨by kernel_rfl, of_decide_eq_true (by kernel_rfl)⟩
    · exact ⟨by kernel_rfl, of_decide_eq_true (by kernel_rfl)⟩)⟩

theorem holds : Rows.PolyThroughSaid :=
  OpenClaim.holds_of_wide 5 Tryd.f5 rfl rfl rfl rfl rfl rfl rfl ⟨rfl, rfl, rfl, rfl, rfl⟩ rfl rfl rfl rfl rfl (by kernel_rfl) Tryd.func5 (by kernel_rfl)
    (of_decide_eq_true (by kernel_rfl)) (by unfold Func.isWrapper; first | (rw [if_pos (by decide +kernel)]; kernel_rfl) | (rw [if_neg (by decide +kernel)]; exact ⟨rfl, rfl⟩))
    (fun os started H enc _ => lifted os started H enc)
theorem proved : Rows.PolyThroughCardSaid :=
  Claim7.holds_tied_plain_at .later [] [.data, .pinned] true (true, "ebea4c759cfb3793a771f9995dde47dea120765ffcbb6987da758e6ee139300e") false holds (fun _ h => by cases h) (by kernel_rfl) (fun _ h => by cases h) polyThrough_row_tie rfl ⟨rfl, rfl⟩ (by kernel_rfl) rfl
    (fun f fn hf hfn => by
      obtain rfl : f = 5 := Option.some.inj ((show Tryd.prog.funcNamed "memfault/memfaultlaw04.PolyThrough" = some 5 by kernel_rfl).symm.trans hf) |>.symm
      obtain rfl : fn = Tryd.f5 := (Option.some.inj (Tryd.func5.symm.trans hfn)).symm
      exact ⟨by kernel_rfl, fun j t ht => by
        rw [Tryd.params5] at ht
        have hm : t ∈ [27, 27, 22] := by simpa using Array.mem_of_getElem? ht
        have hall : ([27, 27, 22].all fun u => !Tryd.prog.wantsStandIn u) = true := by kernel_rfl
        exact (show Tryd.prog.wantsStandIn t = false by simpa using List.all_eq_true.1 hall t hm)⟩)
    (by kernel_rfl)
#print axioms proved
end Go.Proofs.YtkolmppfhpcdpaaDoor.polyThrough

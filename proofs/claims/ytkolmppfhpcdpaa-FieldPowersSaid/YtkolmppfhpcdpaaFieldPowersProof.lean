/- The statement FieldPowersSaid: for every input, the law FieldPowers returns true and each argument reads afterwards as before. No further condition. -/
import Derived.Test.YtkolmppfhpcdpaaRows
import Derived.Test.YtkolmppfhpcdpaaFieldP
import Derived.Test.YtkolmppfhpcdpaaLawKit
import Derived.WalkKit
import Derived.ProofKit
import Derived.OpenShut
import Derived.Lib.SmallJoins
namespace Go.Proofs.Ytkolmppfhpcdpaa.fieldPowers
open Go.ChangeShapes Go.WideShapes Go.ChangeAt Go.RowKit
set_option linter.unusedVariables false

theorem own : ownKnob Try.prog.godebug = none := by kernel_rfl
theorem laid : laidOutB Try.prog = true := by kernel_rfl
theorem cells : Try.prog.cellsOf 34 = 2 := by kernel_rfl
theorem cells1 : Try.prog.cellsOf 3 = 1 := by kernel_rfl
theorem under : Try.prog.underlying 34 = some (.array 2 3) := by kernel_rfl
theorem open_pair {H : Type} {enc : TypeId × Value → H} {W : World} {r : Reach} {b : Nat} {v : Value} {d : DataW H} {ps : List MemPlace} {base : Nat} {spare : Nat → Bool} {held : Bool} (hval : Value.okWide Try.prog W r b 34 v) (h : DataW.Trod enc Try.prog W base spare held 34 v d ps) :
    ∃ x y : Int, v = .agg #[.int .i64 x, .int .i64 y] := by
  unfold Value.okWide at hval
  rw [under] at hval
  obtain ⟨cs, rfl, hsz, _⟩ := hval
  rw [cells] at hsz
  obtain ⟨c0, c1, rfl⟩ := Joins.array2 hsz
  obtain ⟨fuel, hf⟩ := h
  obtain ⟨xs, m, _, _, _, hl, hi⟩ := DataW.trod_array under hf
  have h0 := hi 0 (by omega)
  have h1 := hi 1 (by omega)
  rw [cells1] at h0 h1
  have e0 : ((Value.agg #[c0, c1]).cells.toList.drop (0 * 1)).take 1 = [c0] := rfl
  have e1 : ((Value.agg #[c0, c1]).cells.toList.drop (1 * 1)).take 1 = [c1] := rfl
  rw [e0] at h0
  rw [e1] at h1
  rw [List.getElem?_eq_getElem (by omega)] at h0 h1
  obtain ⟨x, hx, _⟩ := DataW.trod_int Try.underlying3 h0
  obtain ⟨y, hy, _⟩ := DataW.trod_int Try.underlying3 h1
  injection hx with hx
  injection hy with hy
  exact ⟨x, y, by rw [hx, hy]⟩

set_option maxRecDepth 100000 in
theorem lifted (os : Os) (started : os.Started) (H : Type) (enc : TypeId × Value → H) :
    ReturnsInHanded {} Try.checked os 5 .any (Rows.fieldPowersSpec.pre6 enc Try.prog Try.f5 Rows.fieldPowersRow.domain false) (Rows.fieldPowersSpec.post enc Try.prog Try.f5 false true false false) := by
  refine returnsInHanded_of_change (C := Try.checked) own started (by kernel_rfl) Try.func5
    (ChangeSpec.witness6 (enc := enc) (C := Try.checked) false ⟨#[], #[.int .u8 0, .int .u8 0, .agg #[.int .i64 0, .int .i64 0]], []⟩ 8 (by kernel_rfl) (by kernel_rfl) (by kernel_rfl) (by kernel_rfl)) ?_
  intro W base args ds gs before hval0 hW hcnd _
  have hval : ∀ (j : Nat) t v, Try.f5.params[j]? = some t → args[j]? = some v → Value.okWide Try.prog W .any base t v := hval0
  have hW' := hW
  obtain ⟨p, q, hA0, hV, rfl, hfz, hnd⟩ := hW
  have hA : DataW.TrodAll enc Try.prog W 0 (fun _ => true) true Try.f5.params.toList args.toList ds p := hA0
  rw [Try.params5] at hA hval
  obtain ⟨v0, vs0, d0, ds0, p0, q0, hargs, rfl, rfl, h0, r0⟩ := trodAll_cons hA
  obtain ⟨v1, vs1, d1, ds1, p1, q1, rfl, rfl, rfl, h1, r1⟩ := trodAll_cons r0
  obtain ⟨v2, vs2, d2, ds2, p2, q2, rfl, rfl, rfl, h2, r2⟩ := trodAll_cons r1
  obtain ⟨rfl, rfl, rfl⟩ := trodAll_nil r2
  obtain rfl : args = #[v0, v1, v2] := by cases args; simp_all
  obtain ⟨rfl, rfl⟩ := trodVars_none hV
  obtain ⟨a0, rfl, e0, _, w0⟩ := open_int Try.underlying5 (hval 0 5 v0 rfl rfl) h0
  obtain ⟨a1, rfl, e1, _, w1⟩ := open_int Try.underlying5 (hval 1 5 v1 rfl rfl) h1
  obtain ⟨x, y, rfl⟩ := open_pair (hval 2 34 v2 rfl rfl) h2
  obtain ⟨a, rfl⟩ := u8_of w0
  obtain ⟨b, rfl⟩ := u8_of w1
  clear hA0 hval0
  refine (fieldPowers_any a b x y W).mono fun e W' ⟨he, hb⟩ => ?_
  subst he
  exact ⟨_, rfl, post_law laid hb rfl hW' rfl (by kernel_rfl) Try.underlying4 (by
    intro t ht
    have ht' : t ∈ [5, 5, 34] := by rw [Try.params5] at ht; exact ht
    simp only [List.mem_cons, List.mem_nil_iff, or_false] at ht'
    rcases ht' with rfl | rfl | rfl
    · exact ⟨by kernel_rfl, of_decide_eq_true (by kernel_rfl)⟩
    · exact ⟨by kernel_rfl, of_decide_eq_true (by kernel_rfl)⟩
    · exact ⟨by kernel_rfl, of_decide_eq_true (by kernel_rfl)⟩)⟩

theorem proved : Rows.FieldPowersSaid :=
  OpenClaim.holds_of_wide 5 Try.f5 rfl rfl rfl rfl rfl rfl rfl ⟨rfl, rfl, rfl, rfl, rfl⟩ rfl rfl rfl rfl rfl (by kernel_rfl) Try.func5 (by kernel_rfl)
    (of_decide_eq_true (by kernel_rfl)) (by unfold Func.isWrapper; first | (rw [if_pos (by decide +kernel)]; kernel_rfl) | (rw [if_neg (by decide +kernel)]; exact ⟨rfl, rfl⟩))
    (fun os started H enc _ => lifted os started H enc)
#print axioms proved
end Go.Proofs.Ytkolmppfhpcdpaa.fieldPowers

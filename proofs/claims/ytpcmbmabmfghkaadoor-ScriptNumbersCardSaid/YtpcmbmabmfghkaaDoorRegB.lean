/- The rule for drawn regions by an invariant, where only the edges that bind lead back (late stores). -/
import Derived.Test.YtpcmbmabmfghkaaDoorRegInv
namespace Go.Proofs.YtpcmbmabmfghkaaDoor
set_option linter.unusedVariables false
set_option maxRecDepth 100000
section
variable {P : Program} {md : Region.Mode} {ops : Array Oper} {Q : Exit → Act → World → Prop}
/-- every edge that binds leads back -/
def backE (md : Region.Mode) (ops : Array Oper) : Bool := (List.range ops.size).all fun i => ((ops[i]?).map fun o => o.after.all fun e => !Region.binds md e || decide (e.on < i)).getD true
theorem ready_none4 {l : Array Bool} (hb : backE md ops = true) (h : Region.ready md ops l = []) : ∀ j, j < ops.size → l.getD j true = true := by
  intro j
  induction j using Nat.strongRecOn with
  | _ j ih =>
    intro hj
    cases hl : l.getD j true with
    | true => rfl
    | false =>
      exfalso
      have : j ∈ Region.ready md ops l := by
        unfold Region.ready
        rw [List.mem_filter]
        refine ⟨List.mem_range.2 hj, ?_⟩
        rw [hl]
        have ho : ops[j]? = some ops[j] := Array.getElem?_eq_getElem hj
        have hbj := List.all_eq_true.1 hb j (List.mem_range.2 hj)
        rw [ho] at hbj
        have hbj' : (ops[j].after.all fun e => !Region.binds md e || decide (e.on < j)) = true := hbj
        rw [ho]
        show (!false && (ops[j].after.all fun e => !Region.binds md e || l.getD e.on false)) = true
        rw [Bool.not_false, Bool.true_and, Array.all_eq_true_iff_forall_mem]
        intro e he
        have h50 := Array.all_eq_true_iff_forall_mem.1 hbj' e he
        cases hbi : Region.binds md e with
        | false => rfl
        | true =>
        rw [hbi] at h50
        have h5 : e.on < j := of_decide_eq_true h50
        have h6 := ih e.on h5 (by omega)
        have h7 : l.getD e.on false = true := by
          rw [Array.getD_eq_getD_getElem?] at h6 ⊢
          rcases Nat.lt_or_ge e.on l.size with h8 | h8
          · rw [Array.getElem?_eq_getElem h8] at h6 ⊢; exact h6
          · exfalso
            have h9 : l.size ≤ j := by omega
            rw [Array.getD_eq_getD_getElem?, Array.getElem?_eq_none h9] at hl
            cases hl
        rw [h7, Bool.or_true]
      rw [h] at this
      cases this
theorem reg_inv_go4 (Inv : (Nat → Bool) → Act → World → Prop) (hb : backE md ops = true)
    (hstep : ∀ j L a w, j < ops.size → L j = false → (∀ o, ops[j]? = some o → ∀ e ∈ o.after, Region.binds md e = true → L e.on = true) → Inv L a w → wpOp P ops Q j (Inv (dset L j)) a w)
    (hend : ∀ L a w, (∀ i, i < ops.size → L i = true) → Inv L a w → Q .normal a w) : ∀ (n : Nat) (l : Array Bool) (a : Act) (w : World), l.size = ops.size → (l.toList.countP (· == false)) ≤ n →
      Inv (fun i => l.getD i false) a w → wpAny P md ops Q n l a w := by
  intro n
  have fin : ∀ (l : Array Bool) (a : Act) (w : World), l.size = ops.size → Inv (fun i => l.getD i false) a w → Region.ready md ops l = [] → Q .normal a w := fun l a w hs hi hr => by
    refine hend _ a w (fun i hi => ?_) hi
    have h1 := ready_none4 hb hr i hi
    rw [Array.getD_eq_getD_getElem?] at h1 ⊢
    rw [Array.getElem?_eq_getElem (by omega)] at h1 ⊢
    exact h1
  induction n with
  | zero =>
    intro l a w hs hc hi
    have hr : Region.ready md ops l = [] := by
      cases e : Region.ready md ops l with
      | nil => rfl
      | cons j r =>
        exfalso
        obtain ⟨h1, h2, _⟩ := mem_ready (md := md) (ops := ops) (l := l) (j := j) (by rw [e]; exact List.mem_cons_self)
        have h3 : l.toList.countP (· == false) = 0 := by omega
        rw [List.countP_eq_zero] at h3
        rw [Array.getD_eq_getD_getElem?, Array.getElem?_eq_getElem (by omega)] at h2
        have h4 : j < l.size := by omega
        exact h3 _ (Array.mem_toList_iff.2 (Array.getElem_mem h4)) (by simpa using h2)
    exact ⟨hr, fin l a w hs hi hr⟩
  | succ n ih =>
    intro l a w hs hc hi
    refine ⟨fin l a w hs hi, fun j hj => ?_⟩
    obtain ⟨h1, h2, h3⟩ := mem_ready hj
    have hjl : j < l.size := by omega
    have h2' : l[j] = false := by rw [Array.getD_eq_getD_getElem?, Array.getElem?_eq_getElem hjl] at h2; exact h2
    have e1 : (fun i => (l.setIfInBounds j true).getD i false) = dset (fun i => l.getD i false) j := by
      funext i
      unfold dset
      by_cases e : i = j
      · subst e
        rw [if_pos rfl, Array.getD_eq_getD_getElem?, Array.getElem?_setIfInBounds_self_of_lt hjl]; rfl
      · rw [if_neg e, Array.getD_eq_getD_getElem?, Array.getElem?_setIfInBounds_ne (fun e' => e e'.symm)]
        exact (Array.getD_eq_getD_getElem? ..).symm
    refine wpOp_mono (fun a' w' h => ih _ a' w' (by rw [Array.size_setIfInBounds]; exact hs) ?_ (by rw [e1]; exact h)) (hstep j _ a w h1 (by show l.getD j false = false; rw [Array.getD_eq_getD_getElem?, Array.getElem?_eq_getElem hjl]; exact h2') h3 hi)
    have h5 : (l.setIfInBounds j true).toList = l.toList.set j true := by simp
    rw [h5]
    have key : ∀ (xs : List Bool) (j : Nat), xs[j]? = some false → (xs.set j true).countP (· == false) + 1 = xs.countP (· == false) := by
      intro xs
      induction xs with
      | nil => intro j h; simp at h
      | cons x xs ih2 =>
        intro j h
        cases j with
        | zero =>
          simp at h
          subst h
          simp
        | succ j =>
          simp at h
          have := ih2 j h
          simp only [List.set_cons_succ, List.countP_cons]
          omega
    have := key l.toList j (by rw [Array.getElem?_toList, Array.getElem?_eq_getElem hjl, h2'])
    omega
/-- the rule: an invariant of the region, over the set of operations that are done -/
theorem reg_inv4 {id : Nat} {a : Act} {w : World} (Inv : (Nat → Bool) → Act → World → Prop) (hm : P.follows .mixedOrders = true) (hb : backE .any ops = true)
    (h0 : Inv (fun _ => false) a w.drew)
    (hstep : ∀ j L a w, j < ops.size → L j = false → (∀ o, ops[j]? = some o → ∀ e ∈ o.after, Region.binds .any e = true → L e.on = true) → Inv L a w → wpOp P ops Q j (Inv (dset L j)) a w)
    (hend : ∀ L a w, (∀ i, i < ops.size → L i = true) → Inv L a w → Q .normal a w) : (Code.region id ops true).wp P Q a w := by
  refine wp_region_any hm (reg_inv_go4 Inv hb hstep hend _ _ _ _ (by simp) ?_ ?_)
  · refine Nat.le_trans List.countP_le_length ?_
    simp
  · have : (fun i => (Array.replicate ops.size false).getD i false) = fun _ => false := by
      funext i
      rw [Array.getD_eq_getD_getElem?]
      rcases Nat.lt_or_ge i ops.size with h | h
      · rw [Array.getElem?_eq_getElem (by simpa using h)]; simp
      · rw [Array.getElem?_eq_none (by simpa using h)]; rfl
    rw [this]
    exact h0
/-- the rule, the region's first frame named -/
theorem reg_inv24 {id : Nat} {a : Act} {w : World} (I : Act → (Nat → Bool) → Act → World → Prop) (hm : P.follows .mixedOrders = true) (hb : backE .any ops = true)
    (h0 : I a (fun _ => false) a w.drew)
    (hstep : ∀ j L b v, j < ops.size → L j = false → (∀ i, (preds .any ops j).elem i = true → L i = true) → I a L b v → wpOp P ops Q j (I a (dset L j)) b v)
    (hend : ∀ L b v, (∀ i, i < ops.size → L i = true) → I a L b v → Q .normal b v) : (Code.region id ops true).wp P Q a w :=
  reg_inv4 (I a) hm hb h0 (fun j L b v hj hf hd hi => hstep j L b v hj hf (mem_preds (Array.getElem?_eq_getElem hj) (fun e he hb => hd _ (Array.getElem?_eq_getElem hj) e he hb)) hi) hend
/-- the rule, with closedness at hand -/
theorem reg_inv34 {id : Nat} {a : Act} {w : World} (I : Act → (Nat → Bool) → Act → World → Prop) (hm : P.follows .mixedOrders = true) (hb : backE .any ops = true)
    (h0 : I a (fun _ => false) a w.drew)
    (hstep : ∀ j L b v, j < ops.size → L j = false → Closed ops L → (∀ i, (preds .any ops j).elem i = true → L i = true) → I a L b v → wpOp P ops Q j (I a (dset L j)) b v)
    (hend : ∀ L b v, (∀ i, i < ops.size → L i = true) → I a L b v → Q .normal b v) : (Code.region id ops true).wp P Q a w := by
  refine reg_inv24 (fun a L b v => Closed ops L ∧ I a L b v) hm hb ⟨(fun j i h => nomatch h), h0⟩ (fun j L b v hj hf hp hi => ?_) (fun L b v hl hi => hend L b v hl hi.2)
  refine wpOp_mono (fun a' w' h => ⟨fun j' i' h1 h2 => ?_, h⟩) (hstep j L b v hj hf hi.1 hp hi.2)
  unfold dset at h1 ⊢
  by_cases e : i' = j
  · rw [if_pos e]
  · rw [if_neg e]
    by_cases e2 : j' = j
    · subst e2
      exact hp i' h2
    · rw [if_neg e2] at h1
      exact hi.1 j' i' h1 h2
end
end Go.Proofs.YtpcmbmabmfghkaaDoor

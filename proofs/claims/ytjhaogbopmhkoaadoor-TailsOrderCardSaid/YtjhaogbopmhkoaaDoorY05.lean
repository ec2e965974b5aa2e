/- NatS NatG NatH NatJ NatT -/
import Derived.Test.YtjhaogbopmhkoaaDoorY02
import Derived.Test.YtjhaogbopmhkoaaDoorY03
import Derived.Test.YtjhaogbopmhkoaaDoorY04
import Derived.RegionIn
import Derived.Lib.IndexBytes
import Derived.Lib.BufferRead
import Derived.RegionTactic
import Derived.ChangeAlike
namespace Go.Proofs.YtjhaogbopmhkoaaDoor
open Go.RowKit Go.Shelf
attribute [local go_sem] Oper.semAt_some
set_option linter.unusedVariables false
set_option maxRecDepth 100000
namespace Na
theorem small_step (L Q : List Nat) (d k a rest : Nat) (hd : 0 < d) (ha : L[k]? = some a) (hl : Lim L) (hq : Lim Q) (hv : val (L.drop (k + 1)) = d * val Q + rest) (hr : rest < d) :
    Lim ((16777216 * rest + a) / d :: Q) ∧ val (L.drop k) = d * val ((16777216 * rest + a) / d :: Q) + (16777216 * rest + a) % d ∧ (16777216 * rest + a) % d < d := by
  have h1 := hl.at ha
  have h2 : (16777216 * rest + a) / d < 16777216 := by
    rw [Nat.div_lt_iff_lt_mul hd]
    have : rest + 1 ≤ d := hr
    have h3 := Nat.mul_le_mul_left 16777216 this
    omega
  refine ⟨Lim.cons h2 hq, ?_, Nat.mod_lt _ hd⟩
  rw [val_drop_cons L k a ha, hv, val, Nat.mul_add, Nat.mul_add]
  have h4 := Nat.div_add_mod (16777216 * rest + a) d
  have h5 : d * (16777216 * val Q) = 16777216 * (d * val Q) := Nat.mul_left_comm _ _ _
  omega
theorem small_set (L Q : List Nat) (k q : Nat) (h : k < L.length) : (L.take (k + 1) ++ Q).set k q = L.take k ++ (q :: Q) := by
  have h1 : (L.take k).length = k := by rw [List.length_take]; omega
  rw [List.take_add_one, List.getElem?_eq_getElem h, Option.toList_some, List.append_assoc, List.set_append_right _ _ (by omega), h1, Nat.sub_self]
  rfl
end Na
theorem add_zero (b j : Nat) : (⟨b, 0, none⟩ : Addr).add j = ⟨b, j, none⟩ := by
  unfold Addr.add
  split
  · rename_i h
    rw [h]
  · simp
theorem own_from {W W' : World} {base n c B : Nat} {e : TypeId} {A : Option Addr} {xs : List Value} {row : Option Nat} (h : W.ownsRow base e 1 (.slice A n c) n xs) (hb : ∀ g, (Value.slice A n c).ownBlock = some g → g < B) (hg : W.grownBy W' row) (hr : ∀ r, row = some r → B ≤ r ∧ ∃ o : Obj, W.heap[r]? = some o ∧ o.isCells = false) : W'.ownsRow base e 1 (.slice A n c) n xs := by
  refine own_keep h hg ?_
  cases hA : (Value.slice A n c).ownBlock with
  | none => exact .inl rfl
  | some g =>
    refine .inr fun e => ?_
    have h1 := hb g hA
    have h2 := (hr g e.symm).1
    omega
def SmI (w : World) (base : Nat) (A : Option Addr) (n c : Nat) (L : List Nat) (d : Nat) (k : Nat) (W : World) : Prop :=
  ∃ (Q : List Nat) (rest : Nat), (Q.length = k ∧ Na.Lim Q ∧ Na.val (L.drop (n - k)) = d * Na.val Q + rest ∧ rest < d) ∧ W.ownsRow base 3 1 (.slice A n c) n (nats (L.take (n - k) ++ Q)) ∧
    (W.cell? ⟨w.heap.size, 0, none⟩ = some (.slice A n c) ∧ W.cell? ⟨w.heap.size + 1, 0, none⟩ = some (.int .i64 (d : Int)) ∧ W.cell? ⟨w.heap.size + 2, 0, none⟩ = some (.int .i64 (rest : Int)) ∧ W.frozen? ⟨w.heap.size + 2, 0, none⟩ = false ∧ W.cell? ⟨w.heap.size + 3, 0, none⟩ = some (.slice A n c)) ∧
    w.grownBy W (Value.slice A n c).ownBlock
set_option maxHeartbeats 2000000 in
theorem nsmall_in (F : Fence) (N : Nat) (q1 : F.fn 138) (q2 : F.fn 136) (q3 : F.fn 160) (hro : F.round = none) (hN : 3 ≤ N)
    (A : Option Addr) (n c base : Nat) (L : List Nat) (d : Nat) (w : World) (hn : L.length = n) (ho : w.ownsRow base 3 1 (.slice A n c) n (nats L)) (hL : Na.Lim L) (hd : 1 ≤ d) (hd2 : d ≤ 274877906944) (hl : n ≤ 140737488351232) :
    CallsIn F N Tryd.prog 138 #[.slice A n c, .int .i64 (d : Int)] w fun e w' => ∃ Q : List Nat, e = .returned (.int .i64 ((Na.val L % d : Nat) : Int)) ∧ Q.length = n ∧ Na.Lim Q ∧ Na.val Q = Na.val L / d ∧ w'.ownsRow base 3 1 (.slice A n c) n (nats Q) ∧ w.grownBy w' (Value.slice A n c).ownBlock := by
  have h1 : 1 ≤ N := by omega
  refine callsIn_of_wp_marks Tryd.func138 rfl q1 ?_ hro
  simp only [Tryd.ntmps138, List.size_toArray, List.length_cons, List.length_nil, Nat.reduceAdd, Nat.reduceSub, Array.replicate_succ, Array.replicate_zero, List.push_toArray, List.append_toArray, List.nil_append, List.cons_append]
  gi_wp2_with (gi_at_call 136; refine (backI_in F (N - 1) q2 hro _ _ _ _).mono ?_; rintro e w' ⟨rfl, rfl⟩)
  have bL := Boxed.new w 22 (.slice A n c)
  have bD := Boxed.new (w.alloc (.cells #[.slice A n c] 22)) 3 (.int .i64 (d : Int))
  have bR := Boxed.new ((w.alloc (.cells #[.slice A n c] 22)).alloc (.cells #[.int .i64 (d : Int)] 3)) 3 (.int .i64 0)
  have bS := Boxed.new (((w.alloc (.cells #[.slice A n c] 22)).alloc (.cells #[.int .i64 (d : Int)] 3)).alloc (.cells #[.int .i64 0] 3)) 22 (.slice A n c)
  simp only [World.size_alloc] at bD bR bS
  have HG0 : Hid (w.grownBy ((((w.alloc (.cells #[.slice A n c] 22)).alloc (.cells #[.int .i64 (d : Int)] 3)).alloc (.cells #[.int .i64 0] 3)).alloc (.cells #[.slice A n c] 22)) (Value.slice A n c).ownBlock) :=
    grown_alloc (grown_alloc (grown_alloc (grown_alloc (World.grownBy.refl w _) _) _) _) _
  have HI0 : Hid (SmI w base A n c L d 0 ((((w.alloc (.cells #[.slice A n c] 22)).alloc (.cells #[.int .i64 (d : Int)] 3)).alloc (.cells #[.int .i64 0] 3)).alloc (.cells #[.slice A n c] 22))) :=
    ⟨[], 0, ⟨rfl, Na.Lim.nil, by rw [List.drop_of_length_le (by omega)]; rfl, hd⟩, by rw [List.append_nil, Nat.sub_zero, List.take_of_length_le (by omega)]; exact own_alloc (own_alloc (own_alloc (own_alloc ho _) _) _) _,
      ⟨(((bL.alloc _).alloc _).alloc _).cell, ((bD.alloc _).alloc _).cell, (bR.alloc _).cell, (bR.alloc _).frozen, bS.cell⟩, HG0.out⟩
  have HBk : Hid (∀ g, (Value.slice A n c).ownBlock = some g → g < w.heap.size) := fun g hg => (ho.lt g hg).2
  have HN := Lib.hid hn
  have HL := Lib.hid hL
  clear hn ho hL bL bD bR bS HG0
  refine range_back (F := F) (n := N) (A := A) (Bs := w.heap.size + 1 + 1 + 1) (len := n) (cap := c) q3 hro (by omega) ?hg ?hps hl
    (SmI w base A n c L d) (fun _ => False) ?hI ?hX ?hBx ?hRd HI0.out ?a1 ?assign ?body ?done ?stop
  case hg => rfl
  case hps => rfl
  case hI =>
    rintro k W W' row ⟨Q, rest, hp, ho, ⟨h1, h2, h3, h4, h5⟩, hg0⟩ hg hr
    have hr' : ∀ r, row = some r → ∃ o : Obj, W.heap[r]? = some o ∧ o.isCells = false := fun r e => (hr r e).2
    refine ⟨Q, rest, hp, own_from ho (fun g e => Nat.lt_of_lt_of_le (HBk.out g e) (by simp; omega)) hg hr, ⟨cell_kept h1 hg hr', cell_kept h2 hg hr', cell_kept h3 hg hr', (frozen_kept h3 hg hr').trans h4, cell_kept h5 hg hr'⟩, ?_⟩
    exact grown_far hg0 hg (fun x e => by have := (hr x e).1; simp at this; omega)
  case hX => exact fun _ _ _ _ h => h.elim
  case hBx =>
    rintro k W ⟨Q, rest, hp, ho, hc, hg⟩
    exact hc.2.2.2.2
  case hRd =>
    rintro k W ⟨Q, rest, hp, ho, hc, hg⟩ hk
    obtain ⟨a, ha⟩ := nat_at (L.take (n - k) ++ Q) (n - 1 - k) (by rw [List.length_append, List.length_take, HN.out]; omega)
    obtain ⟨g, rfl, _, _⟩ := own_form ho (by omega)
    exact ⟨_, _, rfl, by rw [add_zero]; exact own_nat ho ha⟩
  case assign =>
    intro l k v W K hK
    dsimp only [encBack]
    gi_wp2
    exact hK
  case body =>
    rintro l k v W ⟨Q, rest, ⟨p1, p2, p3, p4⟩, ho, ⟨h1, h2, h3, h4, h5⟩, hg⟩ hk hR
    obtain ⟨j, hj⟩ : ∃ j, n - 1 - k = j := ⟨_, rfl⟩
    obtain ⟨ad', e1, hv⟩ := hR
    rw [hj] at hv ⊢
    obtain ⟨a, ha⟩ := nat_at L j (by rw [HN.out]; omega)
    obtain ⟨g, rfl, hgb, _⟩ := own_form ho (by omega)
    obtain rfl := Option.some.inj e1
    have ha2 : (L.take (n - k) ++ Q)[j]? = some a := by
      rw [List.getElem?_append_left (by rw [List.length_take, HN.out]; omega), List.getElem?_take, if_pos (by omega)]
      exact ha
    rw [add_zero, own_nat ho ha2] at hv
    obtain rfl := Option.some.inj hv
    obtain ⟨T, hT⟩ : ∃ T, 16777216 * rest + a = T := ⟨_, rfl⟩
    have ha3 := HL.out.at ha
    have hT1 : (rest : Int) * 16777216 + (a : Int) = (T : Int) := by omega
    have hT2 : T < 4611686018427387904 := by omega
    have HST := Lib.hid (Na.small_step L Q d j a rest hd ha HL.out p2 (by rw [show n - k = j + 1 by omega] at p3; exact p3) p4)
    have HSE := Lib.hid (Na.small_set L Q j (T / d) (by rw [HN.out]; omega))
    have HO := Lib.hid ho
    have HG := Lib.hid hg
    have hgw : g < w.heap.size := HBk.out g rfl
    have hTd := HST.out.1.head
    obtain ⟨qn, hqn⟩ : ∃ qn, T / d = qn := ⟨_, rfl⟩
    obtain ⟨rn, hrn⟩ : ∃ rn, T % d = rn := ⟨_, rfl⟩
    rw [hT, hqn] at hTd
    have hqb : (qn : Int) ≤ 16777215 := by omega
    have hqb0 : 0 ≤ (qn : Int) := by omega
    have hq1 : (T : Int) / (d : Int) = (qn : Int) := by rw [← hqn]; rfl
    have hr1 : (T : Int) % (d : Int) = (rn : Int) := by rw [← hrn]; rfl
    rw [hT, hqn, hrn] at HST
    rw [hqn] at HSE
    have hHF : Hid (∃ W1, W.setCell ⟨w.heap.size + 1 + 1, 0, none⟩ (.int .i64 (T : Int)) = W1 ∧ W1.cell? ⟨w.heap.size, 0, none⟩ = some (.slice (some ⟨g, 0, none⟩) n c) ∧ W1.cell? ⟨w.heap.size + 1, 0, none⟩ = some (.int .i64 (d : Int)) ∧ W1.cell? ⟨w.heap.size + 1 + 1, 0, none⟩ = some (.int .i64 (T : Int)) ∧
        W1.frozen? ⟨w.heap.size + 1 + 1, 0, none⟩ = false ∧ W1.cell? ⟨w.heap.size + 1 + 1 + 1, 0, none⟩ = some (.slice (some ⟨g, 0, none⟩) n c) ∧ W1.ownsRow base 3 1 (.slice (some ⟨g, 0, none⟩) n c) n (nats (L.take (n - k) ++ Q)) ∧ w.grownBy W1 (some g) ∧ KeepsFrom (w.heap.size + 1 + 1 + 1 + 1) W W1) :=
      ⟨_, rfl, by rw [World.cell?_setCell_other _ _ _ _ (by simp)]; exact h1, by rw [World.cell?_setCell_other _ _ _ _ (by simp)]; exact h2, cell_of_set _ h3, by rw [World.frozen?_setCell]; exact h4, by rw [World.cell?_setCell_other _ _ _ _ (by simp)]; exact h5,
        own_keep ho (grown_set _ _ _) (.inr (by simp [Value.ownBlock]; omega)), grown_far hg (grown_set _ _ _) (fun x e => by cases e; simp; omega), (KeepsOthers.setCell _ _ _).from _⟩
    have hjn : (j : Int) < (n : Int) := by omega
    have hj2 : j + k + 1 = n := by omega
    clear e1 ha hv HI0 ha2 ho hg p3 HBk hT hqn hrn hj
    gi_wp2
    clear h1 h2 h3 h4 h5
    obtain ⟨W1, hW1, h1, h2, h3, h4, h5, ho, hg, hkf⟩ := hHF.out
    rw [hW1]
    have hfz := ho.frozenAt j
    have HOs := Lib.hid (ho.drew.stored j (.int .i64 (qn : Int)))
    have HG1 := Lib.hid hg
    have HKF := Lib.hid hkf
    have HO1 := Lib.hid ho
    clear hHF hW1 hg hkf ho HO HG
    obtain ⟨oldv, hold⟩ : ∃ u, W1.cell? ⟨g, j, none⟩ = some u := by
      obtain ⟨a9, ha9⟩ := nat_at (L.take (n - k) ++ Q) j (by rw [List.length_append, List.length_take, HN.out]; omega)
      exact ⟨_, own_nat HO1.out ha9⟩
    have hHF2 : Hid (∃ W2, (W1.setCell ⟨g, j, none⟩ (.int .i64 (qn : Int))).drew = W2 ∧ W2.cell? ⟨w.heap.size, 0, none⟩ = some (.slice (some ⟨g, 0, none⟩) n c) ∧ W2.cell? ⟨w.heap.size + 1, 0, none⟩ = some (.int .i64 (d : Int)) ∧ W2.cell? ⟨w.heap.size + 1 + 1, 0, none⟩ = some (.int .i64 (T : Int)) ∧
        W2.frozen? ⟨w.heap.size + 1 + 1, 0, none⟩ = false ∧ W2.cell? ⟨w.heap.size + 1 + 1 + 1, 0, none⟩ = some (.slice (some ⟨g, 0, none⟩) n c) ∧ W2.ownsRow base 3 1 (.slice (some ⟨g, 0, none⟩) n c) n (nats (L.take j ++ (qn :: Q))) ∧ w.grownBy W2 (some g) ∧ KeepsFrom (w.heap.size + 1 + 1 + 1 + 1) W W2) := by
      have o1 := HOs.out
      have e3 : L.take (n - k) ++ Q = L.take (j + 1) ++ Q := by rw [show n - k = j + 1 by omega]
      rw [nats_set, e3, HSE.out] at o1
      refine ⟨_, rfl, (World.cell?_setCell_other _ _ _ _ (by intro e; simp at e <;> omega)).trans h1, (World.cell?_setCell_other _ _ _ _ (by intro e; simp at e <;> omega)).trans h2, (World.cell?_setCell_other _ _ _ _ (by intro e; simp at e <;> omega)).trans h3, ?_, (World.cell?_setCell_other _ _ _ _ (by intro e; simp at e <;> omega)).trans h5, o1.1, grown_trans HG1.out ?_, HKF.out.trans (((KeepsOthers.setCell _ _ _).from _).trans ((KeepsOthers.drew _).from _))⟩
      · show (W1.setCell ⟨g, j, none⟩ (.int .i64 (qn : Int))).frozen? _ = false
        rw [World.frozen?_setCell]
        exact h4
      · exact ⟨rfl, rfl, rfl, by simp [World.setCell], fun i hi hne => Below.heap_setCell _ _ _ _ (fun e => hne (by rw [e]))⟩
    clear HOs HKF HSE HO1 HG1
    gi_region
    all_goals
      clear h1 h2 h3 h4 h5 hfz hold
      obtain ⟨W2, hW2, h1, h2, h3, h4, h5, ho, hg, hkf⟩ := hHF2.out
      rw [hW2]
      have HOf := Lib.hid ho
      have HG := Lib.hid hg
      have HKF := Lib.hid hkf
      clear hHF2 hW2 ho hg hkf
      gi_wp2
      refine ⟨?_, qn :: Q, rn, ⟨by rw [List.length_cons, p1], HST.out.1, by rw [show n - (k + 1) = j by omega]; exact HST.out.2.1, HST.out.2.2⟩, ?_, ⟨?_, ?_, cell_of_set _ h3, ?_, ?_⟩, ?_⟩
      · simp only [World.size_alloc]
        exact HKF.out.trans ((KeepsOthers.setCell _ _ _).from _)
      · rw [show n - (k + 1) = j by omega]
        exact own_keep HOf.out (grown_set _ _ _) (.inr (by simp [Value.ownBlock]; omega))
      · rw [World.cell?_setCell_other _ _ _ _ (by simp)]; exact h1
      · rw [World.cell?_setCell_other _ _ _ _ (by simp)]; exact h2
      · rw [World.frozen?_setCell]; exact h4
      · rw [World.cell?_setCell_other _ _ _ _ (by simp)]; exact h5
      · exact grown_far HG.out (grown_set _ _ _) (fun x e => by cases e; simp; omega)
  case done =>
    rintro D W hD ⟨Q, rest, ⟨p1, p2, p3, p4⟩, ho, ⟨h1, h2, h3, h4, h5⟩, hg⟩ hK
    have hD2 : w.heap.size + 4 ≤ D := by simpa using hD
    rw [Nat.sub_self, List.drop_zero] at p3
    rw [Nat.sub_self, List.take_zero, List.nil_append] at ho
    have HV1 : Hid (rest = Na.val L % d) := by
      unfold Hid
      rw [p3, Nat.mul_add_mod, Nat.mod_eq_of_lt p4]
    have HV2 : Hid (Na.val Q = Na.val L / d) := by
      unfold Hid
      rw [p3, Nat.mul_add_div hd, Nat.div_eq_of_lt p4, Nat.add_zero]
    have HP2 := Lib.hid p2
    have HO := Lib.hid ho
    have HG := Lib.hid hg
    clear p3 HI0 p2 ho hg
    gi_wp2
    refine ⟨by simp, .inl ⟨_, _, rfl, run_takeDeferred hK, ?_⟩⟩
    refine ⟨_, results_tmp rfl _ _ _, Q, by rw [← HV1.out]; rfl, p1, HP2.out, HV2.out, own_keep HO.out (grownBy_putObj' _ D _) ?_, grown_far HG.out (grownBy_putObj' _ D _) (fun x e => by cases e; omega)⟩
    cases hA : (Value.slice A n c).ownBlock with
    | none => exact .inl rfl
    | some g =>
      have := HBk.out g hA
      exact .inr (fun e => by cases e; omega)
  case stop => exact fun _ _ _ h => h.elim
theorem nsmall_any (A : Option Addr) (n c base : Nat) (L : List Nat) (d : Nat) (dv : Int) (hdv : dv = (d : Int)) (w : World) (hn : L.length = n) (ho : w.ownsRow base 3 1 (.slice A n c) n (nats L)) (hL : Na.Lim L) (hd : 1 ≤ d) (hd2 : d ≤ 274877906944) (hl : n ≤ 140737488351232) :
    Calls Tryd.prog 138 #[.slice A n c, .int .i64 dv] w fun e w' => ∃ Q : List Nat, e = .returned (.int .i64 ((Na.val L % d : Nat) : Int)) ∧ Q.length = n ∧ Na.Lim Q ∧ Na.val Q = Na.val L / d ∧ w'.ownsRow base 3 1 (.slice A n c) n (nats Q) ∧ w.grownBy w' (Value.slice A n c).ownBlock := by
  subst hdv
  exact (callsIn_wide (n := 3)).1 (nsmall_in Fence.wide 3 trivial trivial trivial rfl (Nat.le_refl _) A n c base L d w hn ho hL hd hd2 hl)
end Go.Proofs.YtjhaogbopmhkoaaDoor

namespace Go.Proofs.YtjhaogbopmhkoaaDoor
open Go.RowKit
set_option linter.unusedVariables false
set_option maxRecDepth 100000
def NGr (w : World) (base : Nat) (L : List Nat) (A : Option Addr) (n c t m0 : Nat) (i mr : Value) (wr : World) : Prop :=
  ∃ (k r : Nat) (o : List Nat), k ≤ n ∧ i = .int .i64 (k : Int) ∧ mr = .int .i64 (r : Int) ∧ r ≤ 1152921504606846976 ∧ Hid (o.length = k ∧ Na.Lim o ∧ Na.val o + 16777216 ^ k * r = Na.val (L.take k) * t + m0) ∧ wr.ownsRow base 3 1 (.slice A n c) n (nats (o ++ L.drop k)) ∧ Below base w wr ∧ base ≤ wr.heap.size
/-- limbs that were put on do not end in zero -/
def Tight (n : Nat) (o : List Nat) : Prop := o.length = n ∨ ∃ a, o[o.length - 1]? = some a ∧ a ≠ 0
theorem tight_put (n : Nat) (o : List Nat) (d : Nat) (h : d ≠ 0) : Tight n (o ++ [d]) := .inr ⟨d, by rw [List.length_append, List.length_singleton, Nat.add_sub_cancel, List.getElem?_append_right (Nat.le_refl _), Nat.sub_self]; rfl, h⟩
def NGm (w : World) (base : Nat) (V n : Nat) (mr l : Value) (wr : World) : Prop :=
  ∃ (r : Nat) (A : Option Addr) (n' c' j : Nat) (o : List Nat), mr = .int .i64 (r : Int) ∧ l = .slice A n' c' ∧ n' = n + j ∧ ((j = 0 ∧ r ≤ 1152921504606846976) ∨ (j = 1 ∧ r ≤ 68719476736) ∨ (j = 2 ∧ r ≤ 4096) ∨ (j = 3 ∧ r = 0)) ∧
    Hid (o.length = n' ∧ Na.Lim o ∧ Na.val o + 16777216 ^ n' * r = V) ∧ Hid (r = 0 → Tight n o) ∧ wr.ownsRow base 3 1 (.slice A n' c') n' (nats o) ∧ Below base w wr ∧ base ≤ wr.heap.size
/-- what a growth leaves -/
def Grew (w : World) (base n V : Nat) (e : Ending) (w' : World) : Prop :=
  ∃ (A : Option Addr) (n' c' : Nat) (o : List Nat), e = .returned (.slice A n' c') ∧ o.length = n' ∧ n' ≤ n + 3 ∧ Na.Lim o ∧ Na.val o = V ∧ w'.ownsRow base 3 1 (.slice A n' c') n' (nats o) ∧ Below base w w' ∧ base ≤ w'.heap.size ∧ Tight n o
set_option maxHeartbeats 2000000 in
theorem ngrow_any (A : Option Addr) (n c base : Nat) (L : List Nat) (t m0 : Nat) (tv mv : Int) (htv : tv = (t : Int)) (hmv : mv = (m0 : Int)) (w : World) (hn : L.length = n) (ho : w.ownsRow base 3 1 (.slice A n c) n (nats L)) (hL : Na.Lim L) (ht : t ≤ 16777216) (hm : m0 ≤ 1152921504606846976) (hl : n ≤ 1000) (hbase : base ≤ w.heap.size) :
    Calls Tryd.prog 137 #[.slice A n c, .int .i64 tv, .int .i64 mv] w (Grew w base n (Na.val L * t + m0)) := by
  subst htv hmv
  obtain ⟨i0, hi, hz0, hz1, hz2⟩ := info_parts infoI
  have HN := Lib.hid hn
  have HL := Lib.hid hL
  have HO0 := Lib.hid ho
  clear hn hL ho
  go_enter Tryd.func137, Tryd.ntmps137
  go_wp2_with fail
  go_loopw [10, 2] (fun i mr wr => NGr w base L A n c t m0 i mr wr) (fun i _ _ => n - (intOf i).toNat)
  case atStart => exact ⟨0, m0, [], Nat.zero_le _, rfl, rfl, hm, ⟨rfl, Na.Lim.nil, by simp [Na.val]⟩, by simpa using HO0.out, Below.refl _ _, hbase⟩
  case round =>
    clear HO0 hm hbase
    obtain ⟨k, r, o, hk, rfl, rfl, hr, HP, ho, hb, hbs⟩ := hrel
    have HO := Lib.hid ho
    have HB := Lib.hid hb
    have HBS := Lib.hid hbs
    rcases Nat.lt_or_ge k n with hkn | hkn
    · obtain ⟨a, ha⟩ := nat_at L k (by rw [HN.out]; exact hkn)
      obtain ⟨g, rfl, hgb, hgw⟩ := own_form ho (by omega)
      have hca := own_nat ho (Na.get_mid o L k a HP.out.1 ha)
      have hfz := ho.frozenAt k
      have ha24 := HL.out.at ha
      obtain ⟨p, hp⟩ : ∃ p, a * t = p := ⟨_, rfl⟩
      have hp1 : (a : Int) * (t : Int) = (p : Int) := by rw [← hp]; rfl
      have hp2 : p ≤ 281474976710656 := by
        rw [← hp]
        have := Nat.mul_le_mul (Nat.le_of_lt ha24) ht
        omega
      obtain ⟨s, hs⟩ : ∃ s, r + p = s := ⟨_, rfl⟩
      obtain ⟨q, hq⟩ : ∃ q, s / 16777216 = q := ⟨_, rfl⟩
      obtain ⟨d, hd⟩ : ∃ d, s % 16777216 = d := ⟨_, rfl⟩
      have HSt := Lib.hid (Na.grow_step L o k a t r m0 s HP.out.1 ha HP.out.2.2 (by rw [hp]; exact hs.symm))
      rw [hq, hd] at HSt
      have hand : bits .and .i64 ((r : Int) + (p : Int)) 16777215 = (d : Int) := by rw [and24]; omega
      have hshr : ((r : Int) + (p : Int)) / 16777216 = (q : Int) := by omega
      have hq1 : q ≤ 1152921504606846976 := by omega
      have hd24 : d < 16777216 := by omega
      have HLr := Lib.hid (HP.out.2.1.append (Na.Lim.one hd24))
      have HLl : Hid ((o ++ [d]).length = k + 1) := by unfold Hid; rw [List.length_append, HP.out.1]; rfl
      have HSet := Lib.hid (Na.set_mid o L k d HP.out.1 (by rw [HN.out]; exact hkn))
      clear ho hb hbs ha hs hq hd hp
      go_wp2_with fail
      go_roundw
      case rel =>
        have o1 := own_put HO.out k (.int .i64 (d : Int))
        rw [nats_set, HSet.out] at o1
        exact ⟨k + 1, q, o ++ [d], by omega, by go_num, rfl, hq1, ⟨HLl.out, HLr.out, HSt.out⟩, o1, HB.out.setCell (p := ⟨g, k, none⟩) hgb _, by simpa [World.setCell] using HBS.out⟩
      case measure => simp [intOf]; omega
    · have hkn' : k = n := by omega
      have HP2 : Hid (o.length = n ∧ Na.Lim o ∧ Na.val o + 16777216 ^ n * r = Na.val L * t + m0) := by
        have h7 := HP.out
        rw [hkn', List.take_of_length_le (by rw [HN.out]; exact Nat.le_refl _)] at h7
        exact h7
      have HO2 : Hid (wr.ownsRow base 3 1 (.slice A n c) n (nats o)) := by
        have h7 := ho
        rw [List.drop_of_length_le (by rw [HN.out]; exact hkn), List.append_nil] at h7
        exact h7
      have hdk : decide (k < n) = false := decide_eq_false (by omega)
      clear ho hb hbs hkn' HP
      go_wp2_with fail
      go_loopw [2, 0] (fun mr l wr => NGm w base (Na.val L * t + m0) n mr l wr) (fun mr _ _ => (intOf mr).toNat)
      case atStart => exact ⟨r, A, n, c, 0, o, rfl, rfl, rfl, .inl ⟨rfl, hr⟩, HP2.out, fun _ => .inl HP2.out.1, HO2.out, HB.out, HBS.out⟩
      case round =>
        clear HP2 HO2 HB HBS hr
        obtain ⟨r, A1, n1, c1, j, o, rfl, rfl, hn1, hj, HP, HTi, ho, hb, hbs⟩ := hrel
        rcases Nat.eq_zero_or_pos r with h0 | h0
        · subst h0
          have HV : Hid (Na.val o = Na.val L * t + m0) := by
            have h7 := HP.out.2.2
            rw [Nat.mul_zero, Nat.add_zero] at h7
            exact h7
          have HTt := Lib.hid (HTi.out rfl)
          have HO := Lib.hid ho
          have HB := Lib.hid hb
          have HBS := Lib.hid hbs
          have hn3 : n1 ≤ n + 3 := by omega
          clear ho hb hbs hj hn1 HTi
          go_wp2_with fail
          go_ret
          exact ⟨A1, n1, c1, o, rfl, HP.out.1, hn3, HP.out.2.1, HV.out, HO.out, HB.out, HBS.out, HTt.out⟩
        · obtain ⟨q, hq⟩ : ∃ q, r / 16777216 = q := ⟨_, rfl⟩
          obtain ⟨d, hd⟩ : ∃ d, r % 16777216 = d := ⟨_, rfl⟩
          have HJ : Hid ((j + 1 = 0 ∧ q ≤ 1152921504606846976) ∨ (j + 1 = 1 ∧ q ≤ 68719476736) ∨ (j + 1 = 2 ∧ q ≤ 4096) ∨ (j + 1 = 3 ∧ q = 0)) := by unfold Hid; omega
          have hj3 : j ≤ 2 := by omega
          have hr2 : r ≤ 1152921504606846976 := by omega
          have HSt := Lib.hid (Na.grow_more o n1 r _ HP.out.1 HP.out.2.2)
          rw [hq, hd] at HSt
          have hand : bits .and .i64 (r : Int) 16777215 = (d : Int) := by rw [and24]; omega
          have hshr : (r : Int) / 16777216 = (q : Int) := by omega
          have hpos : decide (0 < (r : Int)) = true := decide_eq_true (by omega)
          have hd24 : d < 16777216 := by omega
          have hqr : q < r := by omega
          have HTn : Hid (q = 0 → Tight n (o ++ [d])) := fun e => tight_put n o d (by omega)
          have HLr := Lib.hid (HP.out.2.1.append (Na.Lim.one hd24))
          have HLl : Hid ((o ++ [d]).length = n1 + 1) := by unfold Hid; rw [List.length_append, HP.out.1]; rfl
          have HO3 : Hid ((wr.alloc (.cells #[.int .i64 (d : Int)] 3)).ownsRow base 3 1 (.slice A1 n1 c1) n1 (nats o)) := own_alloc ho _
          have HSl := Lib.hid (sl_new1 wr 3 (.int .i64 (d : Int)))
          have HB := Lib.hid hb
          have HBS := Lib.hid hbs
          have hrow : ∀ y, (Value.slice A1 n1 c1).ownBlock = some y → base ≤ y := own_block ho
          have hn4 : n1 ≤ 1003 := by omega
          have HN1 := Lib.hid hn1
          clear ho hb hbs hq hd hj hn1
          go_wp2_with (at_builtin; refine wpList_append_sl _ rfl (.tmp 33) (.tmp 36) 22 rfl base 3 i0 (.int .i64 0) 8 Tryd.underlying22 hi hz0 hz1 hz2 rfl _ _ _ _ rfl HO3.out _ _ 1 _ _ rfl rfl HSl.out (fun u hu => by simp at hu; subst hu; rfl) (by unfold maxLen; omega) (by omega) (by have := HBS.out; simp; omega) ?_; intro A' c' w8 hown hgrow hblk)
          go_roundw
          case rel =>
            rw [nats_snoc] at hown
            have hz9 : base ≤ w8.heap.size := Nat.le_trans HBS.out (Nat.le_trans (by simp) hgrow.size)
            have hn1 := HN1.out
            exact ⟨q, A', n1 + 1, c', j + 1, o ++ [d], rfl, rfl, by omega, HJ.out, ⟨HLl.out, HLr.out, HSt.out⟩, HTn.out, hown, (HB.out.alloc HBS.out _).grown hgrow (by have := HBS.out; simp; omega) hrow, hz9⟩
          case measure => simp [intOf]; omega
/-- Choose: the numbers that are out of range, and those without a set -/
def choL (n k : Int) : List Nat := if n < 0 ∨ 4096 < n then [] else if k < 0 ∨ n < k then [] else Na.dig (Na.bin n.toNat k.toNat)
def choE (n k : Int) : Int := if n < 0 ∨ 4096 < n then 2 else 0
def NCh (w : World) (B m kk : Nat) (i o : Value) (wr : World) : Prop :=
  ∃ (j : Nat) (A : Option Addr) (n' c' : Nat), j ≤ kk ∧ i = .int .i64 ((j : Int) + 1) ∧ o = .slice A n' c' ∧ n' ≤ 171 ∧ Hid ((Na.dig (Na.bin (m + j) j)).length = n') ∧ wr.ownsRow B 3 1 (.slice A n' c') n' (nats (Na.dig (Na.bin (m + j) j))) ∧ Below B w wr ∧ B ≤ wr.heap.size
theorem below_row {B : Nat} {w w' : World} {row : Option Nat} (hg : w.grownBy w' row) (hB : B ≤ w.heap.size) (hr : ∀ g, row = some g → B ≤ g) : Below B w w' := (Below.refl B w).grown hg hB hr
set_option maxHeartbeats 2000000 in
theorem nchoose_a (n kv m : Nat) (w : World) (hn : n ≤ 4096) (hk : kv ≤ n) (hmin : kv ≤ n - kv) (hm : m = n - kv) :
    Calls Tryd.prog 101 #[.int .i64 (n : Int), .int .i64 (kv : Int)] w (ResN w (Na.dig (Na.bin n kv)) 0) := by
  have h1 : decide ((n : Int) < 0) = false := decide_eq_false (by omega)
  have h2 : decide (4096 < (n : Int)) = false := decide_eq_false (by omega)
  have h3 : decide ((kv : Int) < 0) = false := decide_eq_false (by omega)
  have h4 : decide (n < kv) = false := decide_eq_false (by omega)
  have h5 : (kv : Int) ≤ (n : Int) - (kv : Int) := by omega
  have hmk : (n : Int) - (kv : Int) = (m : Int) := by omega
  have HBin : Hid (Na.bin (m + kv) kv = Na.bin n kv) := by unfold Hid; rw [show m + kv = n by omega]
  have hmn : m + kv ≤ 4096 := by omega
  rw [hmk] at h5
  clear hmin hm
  have HO0 : Hid (((w.alloc (.cells #[.slice none 0 0] 24)).alloc (.cells #[.int .i64 1] 3)).ownsRow (w.heap.size + 1) 3 1 (.slice (some ⟨w.heap.size + 1, 0, none⟩) 1 1) 1 (nats (Na.dig (Na.bin (m + 0) 0)))) := by
    unfold Hid
    rw [Na.bin_zero, Na.dig_small 1 (by omega) (by omega)]
    have h := World.ownsRow_lit (base := (w.alloc (.cells #[.slice none 0 0] 24)).heap.size) (e := 3) (size := 1) (w.alloc (.cells #[.slice none 0 0] 24)) #[.int .i64 1] 1 (Nat.le_refl _) (by unfold maxLen; omega) rfl
    rw [World.size_alloc] at h
    exact h
  have HL0 : Hid ((Na.dig (Na.bin (m + 0) 0)).length = 1) := by unfold Hid; rw [Na.bin_zero, Na.dig_small 1 (by omega) (by omega)]; rfl
  have hw1 : (w.alloc (.cells #[.slice none 0 0] 24)).cell? ⟨w.heap.size, 0, none⟩ = some (.slice none 0 0) := by simp [go_sem]
  have hw2 : (w.alloc (.cells #[.slice none 0 0] 24)).frozen? ⟨w.heap.size, 0, none⟩ = false := by simp [go_sem]
  obtain ⟨w0, hw0⟩ : ∃ w0, w.alloc (.cells #[.slice none 0 0] 24) = w0 := ⟨_, rfl⟩
  have HW : Hid (w.alloc (.cells #[.slice none 0 0] 24) = w0) := hw0
  have HB0 : Hid (Below w.heap.size w w0) := by rw [← hw0]; exact own_box1 _ _
  have hz0w : w0.heap.size = w.heap.size + 1 := by rw [← hw0]; simp
  rw [hw0] at hw1 hw2 HO0
  clear hw0
  go_enter Tryd.func101, Tryd.ntmps101
  go_wp2_with fail
  rw [HW.out]
  clear h1 h2 h3 h4
  go_loopw [7, 6] (fun i o wr => NCh w0 (w.heap.size + 1) m kv i o wr) (fun i _ _ => kv + 1 - (intOf i).toNat)
  case atStart => exact ⟨0, _, 1, 1, Nat.zero_le _, rfl, rfl, by omega, HL0.out, HO0.out, (Below.refl _ _).alloc (by omega) _, by simp; omega⟩
  case round =>
    clear HO0 HL0 HW
    obtain ⟨j, A1, n1, c1, hj, rfl, rfl, hn1, HLn, ho, hb, hbs⟩ := hrel
    have HO := Lib.hid ho
    have HB := Lib.hid hb
    have HBS := Lib.hid hbs
    clear ho hb hbs
    rcases Nat.lt_or_ge j kv with hlt | hge
    · have ht1 : (j : Int) + 1 ≤ (kv : Int) := by omega
      have HGr := Lib.hid (ngrow_any A1 n1 c1 (w.heap.size + 1) (Na.dig (Na.bin (m + j) j)) (m + (j + 1)) 0 ((m : Int) + ((j : Int) + 1)) 0 (by omega) rfl wr HLn.out HO.out (Na.dig_lim _) (by omega) (by omega) (by omega) HBS.out)
      rw [Na.val_dig, Nat.add_zero] at HGr
      go_wp2_with fail
      refine HGr.out.mono ?_
      rintro e w2 ⟨A2, n2, c2, o, rfl, ho1, ho2, ho3, ho4, ho5, hb2, hbs2, -⟩
      have HSm := Lib.hid (nsmall_any A2 n2 c2 (w.heap.size + 1) o (j + 1) ((j : Int) + 1) (by omega) w2 ho1 ho5 ho3 (by omega) (by omega) (by omega))
      have HRow : Hid (∀ g, (Value.slice A2 n2 c2).ownBlock = some g → w.heap.size + 1 ≤ g) := own_block ho5
      have HC2 : Hid (n2 ≤ c2) := (own_cap ho5).1
      have HV := Lib.hid ho4
      have HB2 := Lib.hid hb2
      have HBS2 := Lib.hid hbs2
      have hn2 : n2 ≤ 174 := by omega
      clear ho1 ho2 ho3 ho4 ho5 hb2 hbs2 HGr
      go_wp2_with fail
      refine HSm.out.mono ?_
      rintro e w3 ⟨Q, rfl, hq1, hq2, hq3, hq4, hg3⟩
      have HD : Hid (Na.trim Q = Na.dig (Na.bin (m + (j + 1)) (j + 1))) := by
        unfold Hid
        rw [Na.trim_dig hq2, hq3, HV.out, Nat.add_zero, Na.bin_next]
      have HO3 := Lib.hid hq4
      have HB3 : Hid (Below (w.heap.size + 1) w2 w3) := below_row hg3 HBS2.out HRow.out
      have HQ1 := Lib.hid hq1
      have HT := Lib.hid (ntrim_any A2 n2 c2 _ Q w3 hq1 (Sl.of_own hq4) HC2.out (by omega))
      clear hq1 hq2 hq3 hq4 hg3 HSm
      go_wp2_with fail
      refine HT.out.mono ?_
      rintro e w4 ⟨rfl, rfl⟩
      go_wp2_with fail
      go_roundw
      case rel =>
        refine ⟨j + 1, A2, _, c2, by omega, by go_num, rfl, ?_, ?_, ?_, (HB.out.trans HB2.out).trans HB3.out, Nat.le_trans HBS2.out HB3.out.size⟩
        · have h9 := Na.trim_length Q
          rw [HD.out, HQ1.out] at h9
          rw [← h9]
          exact (Na.bin_top _ _ (by omega)).2
        · show (Na.dig (Na.bin (m + (j + 1)) (j + 1))).length = Na.tl Q n2
          rw [← HD.out, Na.trim_length, HQ1.out]
        · rw [← HD.out]
          unfold Na.trim
          rw [HQ1.out, ← nats_take]
          exact own_take HO3.out (Na.tl_le Q n2)
      case measure => simp [intOf]; omega
    · have ht1 : (kv : Int) < (j : Int) + 1 := by omega
      have hjk : j = kv := by omega
      have HEq : Hid (Na.bin (m + j) j = Na.bin n kv) := by unfold Hid; rw [hjk]; exact HBin.out
      have HR := Lib.hid (nresult_any A1 n1 c1 (w.heap.size + 1) (Na.dig (Na.bin (m + j) j)) wr HLn.out HO.out (Na.dig_lim _) (by omega))
      rw [Na.val_dig, HEq.out, resL_ok (Na.bin_top n kv hn).1, resE_ok (Na.bin_top n kv hn).1] at HR
      clear hjk
      go_wp2_with fail
      refine HR.out.mono ?_
      rintro e w9 ⟨A9, n9, c9, rfl, hn9, ho9, hb9⟩
      have HN9 := Lib.hid hn9
      have HO9 := Lib.hid ho9
      have HB9 := Lib.hid (HB.out.trans (hb9.mono HBS.out))
      have hk9 : w9.cell? ⟨w.heap.size, 0, none⟩ = some (.slice none 0 0) := (HB9.out.cell (p := ⟨w.heap.size, 0, none⟩) (by simp)).trans hw1
      have hk9f : w9.frozen? ⟨w.heap.size, 0, none⟩ = false := (HB9.out.frozen (p := ⟨w.heap.size, 0, none⟩) (by simp)).trans hw2
      clear hn9 ho9 hb9 hw1 hw2
      go_wp2_with fail
      refine bodyPost_ret (v := .tuple #[.agg #[.slice A9 n9 c9], .int .i64 0]) (by simp [results, Tryd.results101, go_sem, hk9]) rfl ?_
      exact resN_cell HO9.out HN9.out (by omega) (by omega) (HB0.out.trans (HB9.out.mono (by omega))) (Nat.le_refl _) _ _
set_option maxHeartbeats 2000000 in
theorem nchoose_b (n kv m kk : Nat) (w : World) (hn : n ≤ 4096) (hk : kv ≤ n) (hmin : n - kv < kv) (hkk : kk = n - kv) (hm : m = kv) :
    Calls Tryd.prog 101 #[.int .i64 (n : Int), .int .i64 (kv : Int)] w (ResN w (Na.dig (Na.bin n kv)) 0) := by
  have h1 : decide ((n : Int) < 0) = false := decide_eq_false (by omega)
  have h2 : decide (4096 < (n : Int)) = false := decide_eq_false (by omega)
  have h3 : decide ((kv : Int) < 0) = false := decide_eq_false (by omega)
  have h4 : decide (n < kv) = false := decide_eq_false (by omega)
  have hkn : (n : Int) - (kv : Int) = (kk : Int) := by omega
  have h5 : (kk : Int) < (kv : Int) := by omega
  have hmk : (n : Int) - (kk : Int) = (m : Int) := by omega
  have HBin : Hid (Na.bin (m + kk) kk = Na.bin n kv) := by unfold Hid; rw [show m + kk = n by omega, hkk, Na.bin_symm hk]
  have hmn : m + kk ≤ 4096 := by omega
  clear hmin hm hkk
  have HO0 : Hid (((w.alloc (.cells #[.slice none 0 0] 24)).alloc (.cells #[.int .i64 1] 3)).ownsRow (w.heap.size + 1) 3 1 (.slice (some ⟨w.heap.size + 1, 0, none⟩) 1 1) 1 (nats (Na.dig (Na.bin (m + 0) 0)))) := by
    unfold Hid
    rw [Na.bin_zero, Na.dig_small 1 (by omega) (by omega)]
    have h := World.ownsRow_lit (base := (w.alloc (.cells #[.slice none 0 0] 24)).heap.size) (e := 3) (size := 1) (w.alloc (.cells #[.slice none 0 0] 24)) #[.int .i64 1] 1 (Nat.le_refl _) (by unfold maxLen; omega) rfl
    rw [World.size_alloc] at h
    exact h
  have HL0 : Hid ((Na.dig (Na.bin (m + 0) 0)).length = 1) := by unfold Hid; rw [Na.bin_zero, Na.dig_small 1 (by omega) (by omega)]; rfl
  have hw1 : (w.alloc (.cells #[.slice none 0 0] 24)).cell? ⟨w.heap.size, 0, none⟩ = some (.slice none 0 0) := by simp [go_sem]
  have hw2 : (w.alloc (.cells #[.slice none 0 0] 24)).frozen? ⟨w.heap.size, 0, none⟩ = false := by simp [go_sem]
  obtain ⟨w0, hw0⟩ : ∃ w0, w.alloc (.cells #[.slice none 0 0] 24) = w0 := ⟨_, rfl⟩
  have HW : Hid (w.alloc (.cells #[.slice none 0 0] 24) = w0) := hw0
  have HB0 : Hid (Below w.heap.size w w0) := by rw [← hw0]; exact own_box1 _ _
  have hz0w : w0.heap.size = w.heap.size + 1 := by rw [← hw0]; simp
  rw [hw0] at hw1 hw2 HO0
  clear hw0
  go_enter Tryd.func101, Tryd.ntmps101
  go_wp2_with fail
  rw [HW.out]
  clear h1 h2 h3 h4
  go_loopw [7, 6] (fun i o wr => NCh w0 (w.heap.size + 1) m kk i o wr) (fun i _ _ => kk + 1 - (intOf i).toNat)
  case atStart => exact ⟨0, _, 1, 1, Nat.zero_le _, rfl, rfl, by omega, HL0.out, HO0.out, (Below.refl _ _).alloc (by omega) _, by simp; omega⟩
  case round =>
    clear HO0 HL0 HW
    obtain ⟨j, A1, n1, c1, hj, rfl, rfl, hn1, HLn, ho, hb, hbs⟩ := hrel
    have HO := Lib.hid ho
    have HB := Lib.hid hb
    have HBS := Lib.hid hbs
    clear ho hb hbs
    rcases Nat.lt_or_ge j kk with hlt | hge
    · have ht1 : (j : Int) + 1 ≤ (kk : Int) := by omega
      have HGr := Lib.hid (ngrow_any A1 n1 c1 (w.heap.size + 1) (Na.dig (Na.bin (m + j) j)) (m + (j + 1)) 0 ((m : Int) + ((j : Int) + 1)) 0 (by omega) rfl wr HLn.out HO.out (Na.dig_lim _) (by omega) (by omega) (by omega) HBS.out)
      rw [Na.val_dig, Nat.add_zero] at HGr
      go_wp2_with fail
      refine HGr.out.mono ?_
      rintro e w2 ⟨A2, n2, c2, o, rfl, ho1, ho2, ho3, ho4, ho5, hb2, hbs2, -⟩
      have HSm := Lib.hid (nsmall_any A2 n2 c2 (w.heap.size + 1) o (j + 1) ((j : Int) + 1) (by omega) w2 ho1 ho5 ho3 (by omega) (by omega) (by omega))
      have HRow : Hid (∀ g, (Value.slice A2 n2 c2).ownBlock = some g → w.heap.size + 1 ≤ g) := own_block ho5
      have HC2 : Hid (n2 ≤ c2) := (own_cap ho5).1
      have HV := Lib.hid ho4
      have HB2 := Lib.hid hb2
      have HBS2 := Lib.hid hbs2
      have hn2 : n2 ≤ 174 := by omega
      clear ho1 ho2 ho3 ho4 ho5 hb2 hbs2 HGr
      go_wp2_with fail
      refine HSm.out.mono ?_
      rintro e w3 ⟨Q, rfl, hq1, hq2, hq3, hq4, hg3⟩
      have HD : Hid (Na.trim Q = Na.dig (Na.bin (m + (j + 1)) (j + 1))) := by
        unfold Hid
        rw [Na.trim_dig hq2, hq3, HV.out, Nat.add_zero, Na.bin_next]
      have HO3 := Lib.hid hq4
      have HB3 : Hid (Below (w.heap.size + 1) w2 w3) := below_row hg3 HBS2.out HRow.out
      have HQ1 := Lib.hid hq1
      have HT := Lib.hid (ntrim_any A2 n2 c2 _ Q w3 hq1 (Sl.of_own hq4) HC2.out (by omega))
      clear hq1 hq2 hq3 hq4 hg3 HSm
      go_wp2_with fail
      refine HT.out.mono ?_
      rintro e w4 ⟨rfl, rfl⟩
      go_wp2_with fail
      go_roundw
      case rel =>
        refine ⟨j + 1, A2, _, c2, by omega, by go_num, rfl, ?_, ?_, ?_, (HB.out.trans HB2.out).trans HB3.out, Nat.le_trans HBS2.out HB3.out.size⟩
        · have h9 := Na.trim_length Q
          rw [HD.out, HQ1.out] at h9
          rw [← h9]
          exact (Na.bin_top _ _ (by omega)).2
        · show (Na.dig (Na.bin (m + (j + 1)) (j + 1))).length = Na.tl Q n2
          rw [← HD.out, Na.trim_length, HQ1.out]
        · rw [← HD.out]
          unfold Na.trim
          rw [HQ1.out, ← nats_take]
          exact own_take HO3.out (Na.tl_le Q n2)
      case measure => simp [intOf]; omega
    · have ht1 : (kk : Int) < (j : Int) + 1 := by omega
      have hjk : j = kk := by omega
      have HEq : Hid (Na.bin (m + j) j = Na.bin n kv) := by unfold Hid; rw [hjk]; exact HBin.out
      have HR := Lib.hid (nresult_any A1 n1 c1 (w.heap.size + 1) (Na.dig (Na.bin (m + j) j)) wr HLn.out HO.out (Na.dig_lim _) (by omega))
      rw [Na.val_dig, HEq.out, resL_ok (Na.bin_top n kv hn).1, resE_ok (Na.bin_top n kv hn).1] at HR
      clear hjk
      go_wp2_with fail
      refine HR.out.mono ?_
      rintro e w9 ⟨A9, n9, c9, rfl, hn9, ho9, hb9⟩
      have HN9 := Lib.hid hn9
      have HO9 := Lib.hid ho9
      have HB9 := Lib.hid (HB.out.trans (hb9.mono HBS.out))
      have hk9 : w9.cell? ⟨w.heap.size, 0, none⟩ = some (.slice none 0 0) := (HB9.out.cell (p := ⟨w.heap.size, 0, none⟩) (by simp)).trans hw1
      have hk9f : w9.frozen? ⟨w.heap.size, 0, none⟩ = false := (HB9.out.frozen (p := ⟨w.heap.size, 0, none⟩) (by simp)).trans hw2
      clear hn9 ho9 hb9 hw1 hw2
      go_wp2_with fail
      refine bodyPost_ret (v := .tuple #[.agg #[.slice A9 n9 c9], .int .i64 0]) (by simp [results, Tryd.results101, go_sem, hk9]) rfl ?_
      exact resN_cell HO9.out HN9.out (by omega) (by omega) (HB0.out.trans (HB9.out.mono (by omega))) (Nat.le_refl _) _ _

theorem nchoose_any (n k : Int) (w : World) : Calls Tryd.prog 101 #[.int .i64 n, .int .i64 k] w (ResN w (choL n k) (choE n k)) := by
  by_cases h1 : n < 0
  · have HR : Hid (choL n k = []) := if_pos (.inl h1)
    have HE : Hid (choE n k = 2) := if_pos (.inl h1)
    go_enter Tryd.func101, Tryd.ntmps101
    go_wp2_with fail
    refine bodyPost_ret (v := .tuple #[.agg #[.slice none 0 0], .int .i64 2]) (by simp [results, Tryd.results101, go_sem]) rfl ?_
    rw [HR.out, HE.out]
    exact resN_nil _ _ _ (own_box1 _ _)
  · by_cases h2 : 4096 < n
    · have HR : Hid (choL n k = []) := if_pos (.inr h2)
      have HE : Hid (choE n k = 2) := if_pos (.inr h2)
      have h1' : 0 ≤ n := by omega
      clear h1
      go_enter Tryd.func101, Tryd.ntmps101
      go_wp2_with fail
      refine bodyPost_ret (v := .tuple #[.agg #[.slice none 0 0], .int .i64 2]) (by simp [results, Tryd.results101, go_sem]) rfl ?_
      rw [HR.out, HE.out]
      exact resN_nil _ _ _ (own_box1 _ _)
    · have hn : ¬ (n < 0 ∨ 4096 < n) := by omega
      have h1' : 0 ≤ n := by omega
      have h2' : n ≤ 4096 := by omega
      by_cases h3 : k < 0
      · have HR : Hid (choL n k = []) := by unfold Hid choL; rw [if_neg hn, if_pos (.inl h3)]
        have HE : Hid (choE n k = 0) := by unfold Hid choE; rw [if_neg hn]
        clear h1 h2 hn
        go_enter Tryd.func101, Tryd.ntmps101
        go_wp2_with fail
        refine bodyPost_ret (v := .tuple #[.agg #[.slice none 0 0], .int .i64 0]) (by simp [results, Tryd.results101, go_sem]) rfl ?_
        rw [HR.out, HE.out]
        exact resN_nil _ _ _ (own_box1 _ _)
      · by_cases h4 : n < k
        · have HR : Hid (choL n k = []) := by unfold Hid choL; rw [if_neg hn, if_pos (.inr h4)]
          have HE : Hid (choE n k = 0) := by unfold Hid choE; rw [if_neg hn]
          have h3' : 0 ≤ k := by omega
          clear h1 h2 h3 hn
          go_enter Tryd.func101, Tryd.ntmps101
          go_wp2_with fail
          refine bodyPost_ret (v := .tuple #[.agg #[.slice none 0 0], .int .i64 0]) (by simp [results, Tryd.results101, go_sem]) rfl ?_
          rw [HR.out, HE.out]
          exact resN_nil _ _ _ (own_box1 _ _)
        · obtain ⟨a, rfl⟩ := Int.eq_ofNat_of_zero_le h1'
          obtain ⟨b, rfl⟩ := Int.eq_ofNat_of_zero_le (show 0 ≤ k by omega)
          have e1 : choL (a : Int) (b : Int) = Na.dig (Na.bin a b) := by unfold choL; rw [if_neg hn, if_neg (by omega)]; rfl
          have e2 : choE (a : Int) (b : Int) = 0 := by unfold choE; rw [if_neg hn]
          rw [e1, e2]
          rcases Nat.lt_or_ge (a - b) b with h5 | h5
          · exact nchoose_b a b b (a - b) w (by omega) (by omega) h5 rfl rfl
          · exact nchoose_a a b (a - b) w (by omega) (by omega) h5 rfl
end Go.Proofs.YtjhaogbopmhkoaaDoor

namespace Go.Proofs.YtjhaogbopmhkoaaDoor
open Go.RowKit
set_option linter.unusedVariables false
set_option maxRecDepth 100000
/-- a list of bytes as a string -/
def str (l : List UInt8) : ByteArray := ⟨l.toArray⟩
theorem str_size (l : List UInt8) : (str l).size = l.length := by unfold str; simp [ByteArray.size]
theorem str_list (l : List UInt8) : (str l).data.toList = l := by unfold str; simp
theorem str_toList (l : List UInt8) : (str l).toList = l := by rw [ByteArray.toList_eq, str_list]
theorem str_empty {l : List UInt8} (h : l ≠ []) : (str l).toList.isEmpty = false := by
  rw [str_toList]
  cases l with
  | nil => exact absurd rfl h
  | cons b t => rfl
namespace De
/-- so many places at both ends exchanged -/
def rv (l : List UInt8) (k : Nat) : List UInt8 := (l.reverse.take k) ++ ((l.drop k).take (l.length - 2 * k)) ++ (l.reverse.drop (l.length - k))
end De
end Go.Proofs.YtjhaogbopmhkoaaDoor

namespace Go.Proofs.YtjhaogbopmhkoaaDoor
open Go.RowKit
set_option linter.unusedVariables false
set_option maxRecDepth 100000
namespace De
theorem len_bound' {n y x m : Nat} (h : 10 ^ n * y ≤ x) (hy : 0 < y) (hx : x < 16777216 ^ m) : n < 24 * m := by
  rcases Nat.lt_or_ge n (24 * m) with h1 | h1
  · exact h1
  · exfalso
    have h2 : 10 ^ n * 1 ≤ 10 ^ n * y := Nat.mul_le_mul_left _ hy
    have h3 : 2 ^ n ≤ 10 ^ n := Nat.pow_le_pow_left (by omega) n
    have h4 : (2 : Nat) ^ (24 * m) ≤ 2 ^ n := Nat.pow_le_pow_right (by omega) h1
    rw [Na.pow24] at hx
    omega
theorem len_bound {n y x : Nat} (h : 10 ^ n * y ≤ x) (hy : 0 < y) (hx : x < Na.top) : n ≤ 4800 := by
  have := len_bound' h hy (m := 200) hx
  omega
theorem text_pos {x : Nat} (h : 0 < x) : text x = ((dig x).map asc).reverse := by unfold text; rw [if_neg (by omega)]
theorem text_ne {x : Nat} (h : 0 < x) : ((dig x).map asc).reverse ≠ [] := by
  rw [dig_pos x h]
  simp
end De
def Apart (a b : Value) : Prop := a.ownBlock = none ∨ a.ownBlock ≠ b.ownBlock
theorem Apart.symm {a b : Value} (h : Apart a b) : Apart b a := by
  rcases h with h | h
  · by_cases hb : b.ownBlock = none
    · exact .inl hb
    · exact .inr (by rw [h]; exact hb)
  · exact .inr (fun e => h e.symm)
/-- an append leaves its row apart from another one -/
theorem Apart.next {w : World} {base n c n1 c1 n2 c2 : Nat} {e : TypeId} {A B B' : Option Addr} {xs : List Value} (h : Apart (.slice A n c) (.slice B n1 c1)) (ho : w.ownsRow base e 1 (.slice A n c) n xs) (hb : (Value.slice B' n2 c2).ownBlock = (Value.slice B n1 c1).ownBlock ∨ (Value.slice B' n2 c2).ownBlock = some w.heap.size) : Apart (.slice A n c) (.slice B' n2 c2) := by
  rcases hb with hb | hb
  · rcases h with h | h
    · exact .inl h
    · exact .inr (by rw [hb]; exact h)
  · by_cases ha : (Value.slice A n c).ownBlock = none
    · exact .inl ha
    · refine .inr fun e1 => ?_
      rw [hb] at e1
      have := (ho.lt _ e1).2
      omega
end Go.Proofs.YtjhaogbopmhkoaaDoor

namespace Go.Proofs.YtjhaogbopmhkoaaDoor
open Go.RowKit
set_option linter.unusedVariables false
set_option maxRecDepth 100000
structure Ob where
  A : Option Addr
  n : Nat
  c : Nat
  vs : List Value
/-- what is held: dice in block g, variables of one cell, lists that can be read -/
structure St (w0 w : World) (g : Option Nat) (M : List (Nat × Value)) (L : List Ob) : Prop where
  below : Below w0.heap.size w0 w
  lt : ∀ x, g = some x → x < w.heap.size ∧ w0.heap.size ≤ x
  box : ∀ (i b : Nat) (v : Value), M[i]? = some (b, v) → b < w.heap.size ∧ w0.heap.size ≤ b ∧ w.cell? ⟨b, 0, none⟩ = some v ∧ w.frozen? ⟨b, 0, none⟩ = false ∧ g ≠ some b
  one : ∀ (i j b : Nat) (u v : Value), M[i]? = some (b, u) → M[j]? = some (b, v) → i = j
  held : ∀ o ∈ L, o.vs.length = o.n ∧ o.n ≤ o.c ∧ o.n ≤ 1000 ∧ ∃ B, B ≤ w.heap.size ∧ Sl w B o.A o.vs ∧ (∀ ad, o.A = some ad → 0 < o.n → g ≠ some ad.block ∧ ∀ (i b : Nat) (v : Value), M[i]? = some (b, v) → ad.block ≠ b)
theorem St.refl (w : World) : St w w none [] [] := ⟨Below.refl _ _, fun x e => (by cases e), fun i b v h => (by simp at h), fun i j b u v h => (by simp at h), fun o h => (by cases h)⟩
section
variable {w0 w w' : World} {g : Option Nat} {M : List (Nat × Value)} {L : List Ob}
theorem St.size (h : St w0 w g M L) : w0.heap.size ≤ w.heap.size := h.below.size
theorem St.go (h : St w0 w g M L) (hb : Below w.heap.size w w') : St w0 w' g M L :=
  ⟨h.below.trans (hb.mono h.size), fun x e => ⟨Nat.lt_of_lt_of_le (h.lt x e).1 hb.size, (h.lt x e).2⟩, fun i b v hi => by
    obtain ⟨h1, h2, h3, h4, h5⟩ := h.box i b v hi
    exact ⟨Nat.lt_of_lt_of_le h1 hb.size, h2, (hb.cell (p := ⟨b, 0, none⟩) h1).trans h3, (hb.frozen (p := ⟨b, 0, none⟩) h1).trans h4, h5⟩, h.one, fun o ho => by
    obtain ⟨h1, h2, h3, B, hB, hs, hne⟩ := h.held o ho
    exact ⟨h1, h2, h3, B, Nat.le_trans hB hb.size, hs.below (hb.mono hB), hne⟩⟩
theorem St.add (h : St w0 w g M L) {A : Option Addr} {n c B : Nat} {vs : List Value} (hs : Sl w B A vs) (hB : B ≤ w.heap.size) (hn : vs.length = n) (hc : n ≤ c) (hl : n ≤ 1000)
    (hne : ∀ ad, A = some ad → 0 < n → g ≠ some ad.block ∧ ∀ (i b : Nat) (v : Value), M[i]? = some (b, v) → ad.block ≠ b) : St w0 w g M (L ++ [⟨A, n, c, vs⟩]) :=
  ⟨h.below, h.lt, h.box, h.one, fun o ho => by
    rcases List.mem_append.1 ho with h1 | h1
    · exact h.held o h1
    · rw [List.mem_singleton] at h1
      subst h1
      exact ⟨hn, hc, hl, B, hB, hs, hne⟩⟩
/-- a list that lay before everything of the call's own -/
theorem St.old (h : St w0 w g M L) {A : Option Addr} {n c : Nat} {vs : List Value} (hs : Sl w0 w0.heap.size A vs) (hn : vs.length = n) (hc : n ≤ c) (hl : n ≤ 1000) : St w0 w g M (L ++ [⟨A, n, c, vs⟩]) := by
  refine h.add ((hs.below h.below)) h.size hn hc hl fun ad e h0 => ?_
  obtain ⟨ad', e', hb, _⟩ := hs (by omega)
  rw [e] at e'
  obtain rfl := Option.some.inj e'
  exact ⟨fun e2 => by have := (h.lt _ e2).2; omega, fun i b v hi e2 => by have := (h.box i b v hi).2.1; omega⟩
theorem St.push (h : St w0 w g M L) {A : Option Addr} {n c : Nat} {vs : List Value} {e : TypeId} (ho : w'.ownsRow w.heap.size e 1 (.slice A n c) n vs) (hl : n ≤ 1000) (hb : Below w.heap.size w w') : St w0 w' g M (L ++ [⟨A, n, c, vs⟩]) := by
  refine (h.go hb).add (Sl.of_own ho) (Nat.le_refl _) (own_len ho) (own_cap ho).1 hl fun ad e h0 => ?_
  obtain ⟨g', hg', h1, _⟩ := own_form ho h0
  rw [e] at hg'
  obtain rfl := Option.some.inj hg'
  exact ⟨fun e2 => by have := (h.lt _ e2).1; simp only at this; omega, fun i b v hi e2 => by have := (h.box i b v hi).1; simp only at e2; omega⟩
theorem St.roll {x : Nat} (h : St w0 w (some x) M L) (hg : w.grownBy w' (some x)) : St w0 w' (some x) M L := by
  have hx := h.lt x rfl
  refine ⟨h.below.trans (below_only hg h.size hx.2), fun y e => ⟨Nat.lt_of_lt_of_le (h.lt y e).1 hg.size, (h.lt y e).2⟩, fun i b v hi => ?_, h.one, fun o ho => ?_⟩
  · obtain ⟨h1, h2, h3, h4, h5⟩ := h.box i b v hi
    have e1 := hg.block b h1 (fun e => h5 e.symm)
    exact ⟨Nat.lt_of_lt_of_le h1 hg.size, h2, (World.cell?_of_block (a := ⟨b, 0, none⟩) e1).trans h3, (World.frozen?_of_block (a := ⟨b, 0, none⟩) e1).trans h4, h5⟩
  · obtain ⟨h1, h2, h3, B, hB, hs, hne⟩ := h.held o ho
    refine ⟨h1, h2, h3, B, Nat.le_trans hB hg.size, fun hn => ?_, hne⟩
    obtain ⟨ad, hA, hbk, hcell⟩ := hs hn
    refine ⟨ad, hA, hbk, fun k u hu => ?_⟩
    rw [World.cell?_of_block (hg.block _ (by rw [add_block]; omega) (by rw [add_block]; intro e; exact (hne ad hA (by omega)).1 e.symm))]
    exact hcell k u hu
/-- a new variable -/
theorem St.boxed (h : St w0 w g M L) (v : Value) (t : TypeId) : St w0 (w.alloc (.cells #[v] t)) g (M ++ [(w.heap.size, v)]) L := by
  have hb : Below w.heap.size w (w.alloc (.cells #[v] t)) := (Below.refl _ _).alloc (Nat.le_refl _) _
  have h' := h.go hb
  have bV := Boxed.new w t v
  have key : ∀ (i b : Nat) (u : Value), (M ++ [(w.heap.size, v)])[i]? = some (b, u) → M[i]? = some (b, u) ∨ (i = M.length ∧ b = w.heap.size ∧ u = v) := fun i b u hi => by
    rcases Nat.lt_or_ge i M.length with h1 | h1
    · rw [List.getElem?_append_left h1] at hi
      exact .inl hi
    · rw [List.getElem?_append_right h1] at hi
      have h2 : i - M.length = 0 := by
        have := get_lt hi
        simp at this
        omega
      rw [h2] at hi
      simp at hi
      exact .inr ⟨by omega, hi.1.symm, hi.2.symm⟩
  refine ⟨h'.below, h'.lt, fun i b u hi => ?_, fun i j b u x hi hj => ?_, fun o ho => ?_⟩
  · rcases key i b u hi with h1 | ⟨_, rfl, rfl⟩
    · exact h'.box i b u h1
    · exact ⟨by simp, h.size, bV.cell, bV.frozen, fun e => by have := (h.lt _ e).1; omega⟩
  · rcases key i b u hi with h1 | ⟨h1, h2, _⟩ <;> rcases key j b x hj with k1 | ⟨k1, k2, _⟩
    · exact h.one i j b u x h1 k1
    · have := (h.box i b u h1).1; omega
    · have := (h.box j b x k1).1; omega
    · omega
  · obtain ⟨h1, h2, h3, B, hB, hs, hne⟩ := h.held o ho
    refine ⟨h1, h2, h3, B, Nat.le_trans hB hb.size, hs.below (hb.mono hB), fun ad e h0 => ⟨(hne ad e h0).1, fun i b u hi => ?_⟩⟩
    rcases key i b u hi with k1 | ⟨_, rfl, _⟩
    · exact (hne ad e h0).2 i b u k1
    · obtain ⟨ad', e', hbk, _⟩ := hs (by omega)
      rw [e] at e'
      obtain rfl := Option.some.inj e'
      omega
/-- a variable gets another value -/
theorem St.put (h : St w0 w g M L) (i : Nat) {b : Nat} {v : Value} (hi : M[i]? = some (b, v)) (u : Value) : St w0 (w.setCell ⟨b, 0, none⟩ u) g (M.set i (b, u)) L := by
  obtain ⟨h1, h2, h3, h4, h5⟩ := h.box i b v hi
  have key : ∀ (j c : Nat) (x : Value), (M.set i (b, u))[j]? = some (c, x) → (j = i ∧ c = b ∧ x = u) ∨ (j ≠ i ∧ M[j]? = some (c, x)) := fun j c x hj => by
    by_cases e : j = i
    · subst e
      rw [List.getElem?_set_self (get_lt hi)] at hj
      simp at hj
      exact .inl ⟨rfl, hj.1.symm, hj.2.symm⟩
    · rw [List.getElem?_set_ne (fun e' => e e'.symm)] at hj
      exact .inr ⟨e, hj⟩
  have hsz : (w.setCell ⟨b, 0, none⟩ u).heap.size = w.heap.size := by simp [World.setCell]
  refine ⟨h.below.setCell (p := ⟨b, 0, none⟩) h2 _, fun x e => by rw [hsz]; exact h.lt x e, fun j c x hj => ?_, fun j k c x y hj hk => ?_, fun o ho => ?_⟩
  · rcases key j c x hj with ⟨_, rfl, rfl⟩ | ⟨hne, hj'⟩
    · exact ⟨by rw [hsz]; exact h1, h2, cell_of_set _ h3, by rw [World.frozen?_setCell]; exact h4, h5⟩
    · obtain ⟨k1, k2, k3, k4, k5⟩ := h.box j c x hj'
      have hcb : c ≠ b := fun e => by subst e; exact hne (h.one j i c x v hj' hi)
      exact ⟨by rw [hsz]; exact k1, k2, by rw [World.cell?_setCell_other _ _ _ _ (fun e => hcb (congrArg Addr.block e).symm)]; exact k3, by rw [World.frozen?_setCell]; exact k4, k5⟩
  · rcases key j c x hj with ⟨e1, rfl, rfl⟩ | ⟨hne, hj'⟩ <;> rcases key k _ y hk with ⟨e2, e3, _⟩ | ⟨hne2, hk'⟩
    · omega
    · exact absurd (h.one k i _ y v hk' hi) hne2
    · subst e3; exact absurd (h.one j i _ x v hj' hi) hne
    · exact h.one j k c x y hj' hk'
  · obtain ⟨k1, k2, k3, B, hB, hs, hne⟩ := h.held o ho
    refine ⟨k1, k2, k3, B, by rw [hsz]; exact hB, fun hn => ?_, fun ad e h0 => ⟨(hne ad e h0).1, fun j c x hj => ?_⟩⟩
    · obtain ⟨ad, hA, hbk, hcell⟩ := hs hn
      refine ⟨ad, hA, hbk, fun k x hx => ?_⟩
      rw [World.cell?_of_block (Below.heap_setCell _ _ _ _ (by rw [add_block]; exact (hne ad hA (by omega)).2 i b v hi))]
      exact hcell k x hx
    · rcases key j c x hj with ⟨_, rfl, _⟩ | ⟨_, hj'⟩
      · exact (hne ad e h0).2 i c v hi
      · exact (hne ad e h0).2 j c x hj'
theorem St.sl (h : St w0 w g M L) {i : Nat} {A : Option Addr} {n c : Nat} {vs : List Value} (hi : L[i]? = some ⟨A, n, c, vs⟩) : vs.length = n ∧ n ≤ c ∧ n ≤ 1000 ∧ Sl w w.heap.size A vs := by
  obtain ⟨h1, h2, h3, B, hB, hs, _⟩ := h.held _ (List.mem_of_getElem? hi)
  exact ⟨h1, h2, h3, hs.more hB⟩
theorem St.cell (h : St w0 w g M L) (i : Nat) {b : Nat} {v : Value} (hi : M[i]? = some (b, v)) : w.cell? ⟨b, 0, none⟩ = some v := (h.box i b v hi).2.2.1
theorem St.free (h : St w0 w g M L) (i : Nat) {b : Nat} {v : Value} (hi : M[i]? = some (b, v)) : w.frozen? ⟨b, 0, none⟩ = false := (h.box i b v hi).2.2.2.1
theorem St.drewN (h : St w0 w g M L) (k : Nat) : St w0 (w.drewN k) g M L := h.go (below_drewN (Below.refl _ _) k)
theorem resL_len (x : Nat) : (resL x).length ≤ 200 := by
  unfold resL
  split
  · rename_i h
    exact (Na.dig_200 x).2 h
  · exact Nat.zero_le _
end
end Go.Proofs.YtjhaogbopmhkoaaDoor

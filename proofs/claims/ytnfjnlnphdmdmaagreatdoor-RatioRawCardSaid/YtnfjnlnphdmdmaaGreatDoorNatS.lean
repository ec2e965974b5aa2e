/- Division of limbs in place by a small number: small. -/
import Derived.Test.YtnfjnlnphdmdmaaGreatDoorNi
import Derived.RegionIn
namespace Go.Proofs.YtnfjnlnphdmdmaaGreatDoor
open Go.RowKit Go.Shelf
attribute [local go_sem] Oper.semAt_some
set_option linter.unusedVariables false
set_option maxRecDepth 100000
namespace Na
theorem small_step (L Q : List Nat) (d k a rest : Nat) (hd : 0 < d) (ha : L[k]? = some a) (hl : Lim L) (hq : Lim Q) (hv : val (L.drop (k + 1)) = d * val Q + rest) (hr : rest < d) :
    Lim ((16777216 * rest + a) / d :: Q) ∧ val (L.drop k) = d * val ((16777216 * rest + a) / d :: Q) + (16777216 * rest + a) % d ∧ (16777216 * rest + a) % d < d := by
  have h1 := hl.at ha
  have h2 : (16777216 * rest + a) / d < 16777216 := by
    rw [Nat.div_lt_iff_lt_mul hd]
    have : rest + 1 ≤ d := hr
    have h3 := Nat.mul_le_mul_left 16777216 this
    omega
  refine ⟨Lim.cons h2 hq, ?_, Nat.mod_lt _ hd⟩
  rw [val_drop_cons L k a ha, hv, val, Nat.mul_add, Nat.mul_add]
  have h4 := Nat.div_add_mod (16777216 * rest + a) d
  have h5 : d * (16777216 * val Q) = 16777216 * (d * val Q) := Nat.mul_left_comm _ _ _
  omega
theorem small_set (L Q : List Nat) (k q : Nat) (h : k < L.length) : (L.take (k + 1) ++ Q).set k q = L.take k ++ (q :: Q) := by
  have h1 : (L.take k).length = k := by rw [List.length_take]; omega
  rw [List.take_add_one, List.getElem?_eq_getElem h, Option.toList_some, List.append_assoc, List.set_append_right _ _ (by omega), h1, Nat.sub_self]
  rfl
end Na
theorem add_zero (b j : Nat) : (⟨b, 0, none⟩ : Addr).add j = ⟨b, j, none⟩ := by
  unfold Addr.add
  split
  · rename_i h
    rw [h]
  · simp
theorem own_from {W W' : World} {base n c B : Nat} {e : TypeId} {A : Option Addr} {xs : List Value} {row : Option Nat} (h : W.ownsRow base e 1 (.slice A n c) n xs) (hb : ∀ g, (Value.slice A n c).ownBlock = some g → g < B) (hg : W.grownBy W' row) (hr : ∀ r, row = some r → B ≤ r ∧ ∃ o : Obj, W.heap[r]? = some o ∧ o.isCells = false) : W'.ownsRow base e 1 (.slice A n c) n xs := by
  refine own_keep h hg ?_
  cases hA : (Value.slice A n c).ownBlock with
  | none => exact .inl rfl
  | some g =>
    refine .inr fun e => ?_
    have h1 := hb g hA
    have h2 := (hr g e.symm).1
    omega
def SmI (w : World) (base : Nat) (A : Option Addr) (n c : Nat) (L : List Nat) (d : Nat) (k : Nat) (W : World) : Prop :=
  ∃ (Q : List Nat) (rest : Nat), (Q.length = k ∧ Na.Lim Q ∧ Na.val (L.drop (n - k)) = d * Na.val Q + rest ∧ rest < d) ∧ W.ownsRow base 3 1 (.slice A n c) n (nats (L.take (n - k) ++ Q)) ∧
    (W.cell? ⟨w.heap.size, 0, none⟩ = some (.slice A n c) ∧ W.cell? ⟨w.heap.size + 1, 0, none⟩ = some (.int .i64 (d : Int)) ∧ W.cell? ⟨w.heap.size + 2, 0, none⟩ = some (.int .i64 (rest : Int)) ∧ W.frozen? ⟨w.heap.size + 2, 0, none⟩ = false ∧ W.cell? ⟨w.heap.size + 3, 0, none⟩ = some (.slice A n c)) ∧
    w.grownBy W (Value.slice A n c).ownBlock
set_option maxHeartbeats 2000000 in
theorem nsmall_in (F : Fence) (N : Nat) (q1 : F.fn 71) (q2 : F.fn 88) (q3 : F.fn 98) (hro : F.round = none) (hN : 3 ≤ N)
    (A : Option Addr) (n c base : Nat) (L : List Nat) (d : Nat) (w : World) (hn : L.length = n) (ho : w.ownsRow base 3 1 (.slice A n c) n (nats L)) (hL : Na.Lim L) (hd : 1 ≤ d) (hd2 : d ≤ 274877906944) (hl : n ≤ 140737488351232) :
    CallsIn F N Tryz.prog 71 #[.slice A n c, .int .i64 (d : Int)] w fun e w' => ∃ Q : List Nat, e = .returned (.int .i64 ((Na.val L % d : Nat) : Int)) ∧ Q.length = n ∧ Na.Lim Q ∧ Na.val Q = Na.val L / d ∧ w'.ownsRow base 3 1 (.slice A n c) n (nats Q) ∧ w.grownBy w' (Value.slice A n c).ownBlock := by
  have h1 : 1 ≤ N := by omega
  refine callsIn_of_wp_marks Tryz.func71 rfl q1 ?_ hro
  simp only [Tryz.ntmps71, List.size_toArray, List.length_cons, List.length_nil, Nat.reduceAdd, Nat.reduceSub, Array.replicate_succ, Array.replicate_zero, List.push_toArray, List.append_toArray, List.nil_append, List.cons_append]
  gi_wp2_with (gi_at_call 88; refine (backI_in F (N - 1) q2 hro _ _ _ _).mono ?_; rintro e w' ⟨rfl, rfl⟩)
  have bL := Boxed.new w 22 (.slice A n c)
  have bD := Boxed.new (w.alloc (.cells #[.slice A n c] 22)) 3 (.int .i64 (d : Int))
  have bR := Boxed.new ((w.alloc (.cells #[.slice A n c] 22)).alloc (.cells #[.int .i64 (d : Int)] 3)) 3 (.int .i64 0)
  have bS := Boxed.new (((w.alloc (.cells #[.slice A n c] 22)).alloc (.cells #[.int .i64 (d : Int)] 3)).alloc (.cells #[.int .i64 0] 3)) 22 (.slice A n c)
  simp only [World.size_alloc] at bD bR bS
  have HG0 : Hid (w.grownBy ((((w.alloc (.cells #[.slice A n c] 22)).alloc (.cells #[.int .i64 (d : Int)] 3)).alloc (.cells #[.int .i64 0] 3)).alloc (.cells #[.slice A n c] 22)) (Value.slice A n c).ownBlock) :=
    grown_alloc (grown_alloc (grown_alloc (grown_alloc (World.grownBy.refl w _) _) _) _) _
  have HI0 : Hid (SmI w base A n c L d 0 ((((w.alloc (.cells #[.slice A n c] 22)).alloc (.cells #[.int .i64 (d : Int)] 3)).alloc (.cells #[.int .i64 0] 3)).alloc (.cells #[.slice A n c] 22))) :=
    ⟨[], 0, ⟨rfl, Na.Lim.nil, by rw [List.drop_of_length_le (by omega)]; rfl, hd⟩, by rw [List.append_nil, Nat.sub_zero, List.take_of_length_le (by omega)]; exact own_alloc (own_alloc (own_alloc (own_alloc ho _) _) _) _,
      ⟨(((bL.alloc _).alloc _).alloc _).cell, ((bD.alloc _).alloc _).cell, (bR.alloc _).cell, (bR.alloc _).frozen, bS.cell⟩, HG0.out⟩
  have HBk : Hid (∀ g, (Value.slice A n c).ownBlock = some g → g < w.heap.size) := fun g hg => (ho.lt g hg).2
  have HN := Lib.hid hn
  have HL := Lib.hid hL
  clear hn ho hL bL bD bR bS HG0
  refine range_back (F := F) (n := N) (A := A) (Bs := w.heap.size + 1 + 1 + 1) (len := n) (cap := c) q3 hro (by omega) ?hg ?hps hl
    (SmI w base A n c L d) (fun _ => False) ?hI ?hX ?hBx ?hRd HI0.out ?a1 ?assign ?body ?done ?stop
  case hg => rfl
  case hps => rfl
  case hI =>
    rintro k W W' row ⟨Q, rest, hp, ho, ⟨h1, h2, h3, h4, h5⟩, hg0⟩ hg hr
    have hr' : ∀ r, row = some r → ∃ o : Obj, W.heap[r]? = some o ∧ o.isCells = false := fun r e => (hr r e).2
    refine ⟨Q, rest, hp, own_from ho (fun g e => Nat.lt_of_lt_of_le (HBk.out g e) (by simp; omega)) hg hr, ⟨cell_kept h1 hg hr', cell_kept h2 hg hr', cell_kept h3 hg hr', (frozen_kept h3 hg hr').trans h4, cell_kept h5 hg hr'⟩, ?_⟩
    exact grown_far hg0 hg (fun x e => by have := (hr x e).1; simp at this; omega)
  case hX => exact fun _ _ _ _ h => h.elim
  case hBx =>
    rintro k W ⟨Q, rest, hp, ho, hc, hg⟩
    exact hc.2.2.2.2
  case hRd =>
    rintro k W ⟨Q, rest, hp, ho, hc, hg⟩ hk
    obtain ⟨a, ha⟩ := nat_at (L.take (n - k) ++ Q) (n - 1 - k) (by rw [List.length_append, List.length_take, HN.out]; omega)
    obtain ⟨g, rfl, _, _⟩ := own_form ho (by omega)
    exact ⟨_, _, rfl, by rw [add_zero]; exact own_nat ho ha⟩
  case assign =>
    intro l k v W K hK
    dsimp only [encBack]
    gi_wp2
    exact hK
  case body =>
    rintro l k v W ⟨Q, rest, ⟨p1, p2, p3, p4⟩, ho, ⟨h1, h2, h3, h4, h5⟩, hg⟩ hk hR
    obtain ⟨j, hj⟩ : ∃ j, n - 1 - k = j := ⟨_, rfl⟩
    obtain ⟨ad', e1, hv⟩ := hR
    rw [hj] at hv ⊢
    obtain ⟨a, ha⟩ := nat_at L j (by rw [HN.out]; omega)
    obtain ⟨g, rfl, hgb, _⟩ := own_form ho (by omega)
    obtain rfl := Option.some.inj e1
    have ha2 : (L.take (n - k) ++ Q)[j]? = some a := by
      rw [List.getElem?_append_left (by rw [List.length_take, HN.out]; omega), List.getElem?_take, if_pos (by omega)]
      exact ha
    rw [add_zero, own_nat ho ha2] at hv
    obtain rfl := Option.some.inj hv
    obtain ⟨T, hT⟩ : ∃ T, 16777216 * rest + a = T := ⟨_, rfl⟩
    have ha3 := HL.out.at ha
    have hT1 : (rest : Int) * 16777216 + (a : Int) = (T : Int) := by omega
    have hT2 : T < 4611686018427387904 := by omega
    have HST := Lib.hid (Na.small_step L Q d j a rest hd ha HL.out p2 (by rw [show n - k = j + 1 by omega] at p3; exact p3) p4)
    have HSE := Lib.hid (Na.small_set L Q j (T / d) (by rw [HN.out]; omega))
    have HO := Lib.hid ho
    have HG := Lib.hid hg
    have hgw : g < w.heap.size := HBk.out g rfl
    have hTd := HST.out.1.head
    obtain ⟨qn, hqn⟩ : ∃ qn, T / d = qn := ⟨_, rfl⟩
    obtain ⟨rn, hrn⟩ : ∃ rn, T % d = rn := ⟨_, rfl⟩
    rw [hT, hqn] at hTd
    have hqb : (qn : Int) ≤ 16777215 := by omega
    have hqb0 : 0 ≤ (qn : Int) := by omega
    have hq1 : (T : Int) / (d : Int) = (qn : Int) := by rw [← hqn]; rfl
    have hr1 : (T : Int) % (d : Int) = (rn : Int) := by rw [← hrn]; rfl
    rw [hT, hqn, hrn] at HST
    rw [hqn] at HSE
    have hHF : Hid (∃ W1, W.setCell ⟨w.heap.size + 1 + 1, 0, none⟩ (.int .i64 (T : Int)) = W1 ∧ W1.cell? ⟨w.heap.size, 0, none⟩ = some (.slice (some ⟨g, 0, none⟩) n c) ∧ W1.cell? ⟨w.heap.size + 1, 0, none⟩ = some (.int .i64 (d : Int)) ∧ W1.cell? ⟨w.heap.size + 1 + 1, 0, none⟩ = some (.int .i64 (T : Int)) ∧
        W1.frozen? ⟨w.heap.size + 1 + 1, 0, none⟩ = false ∧ W1.cell? ⟨w.heap.size + 1 + 1 + 1, 0, none⟩ = some (.slice (some ⟨g, 0, none⟩) n c) ∧ W1.ownsRow base 3 1 (.slice (some ⟨g, 0, none⟩) n c) n (nats (L.take (n - k) ++ Q)) ∧ w.grownBy W1 (some g) ∧ KeepsFrom (w.heap.size + 1 + 1 + 1 + 1) W W1) :=
      ⟨_, rfl, by rw [World.cell?_setCell_other _ _ _ _ (by simp)]; exact h1, by rw [World.cell?_setCell_other _ _ _ _ (by simp)]; exact h2, cell_of_set _ h3, by rw [World.frozen?_setCell]; exact h4, by rw [World.cell?_setCell_other _ _ _ _ (by simp)]; exact h5,
        own_keep ho (grown_set _ _ _) (.inr (by simp [Value.ownBlock]; omega)), grown_far hg (grown_set _ _ _) (fun x e => by cases e; simp; omega), (KeepsOthers.setCell _ _ _).from _⟩
    have hjn : (j : Int) < (n : Int) := by omega
    have hj2 : j + k + 1 = n := by omega
    clear e1 ha hv HI0 ha2 ho hg p3 HBk hT hqn hrn hj
    gi_wp2
    clear h1 h2 h3 h4 h5
    obtain ⟨W1, hW1, h1, h2, h3, h4, h5, ho, hg, hkf⟩ := hHF.out
    rw [hW1]
    have hfz := ho.frozenAt j
    have HOs := Lib.hid (ho.drew.stored j (.int .i64 (qn : Int)))
    have HG1 := Lib.hid hg
    have HKF := Lib.hid hkf
    have HO1 := Lib.hid ho
    clear hHF hW1 hg hkf ho HO HG
    obtain ⟨oldv, hold⟩ : ∃ u, W1.cell? ⟨g, j, none⟩ = some u := by
      obtain ⟨a9, ha9⟩ := nat_at (L.take (n - k) ++ Q) j (by rw [List.length_append, List.length_take, HN.out]; omega)
      exact ⟨_, own_nat HO1.out ha9⟩
    have hHF2 : Hid (∃ W2, (W1.setCell ⟨g, j, none⟩ (.int .i64 (qn : Int))).drew = W2 ∧ W2.cell? ⟨w.heap.size, 0, none⟩ = some (.slice (some ⟨g, 0, none⟩) n c) ∧ W2.cell? ⟨w.heap.size + 1, 0, none⟩ = some (.int .i64 (d : Int)) ∧ W2.cell? ⟨w.heap.size + 1 + 1, 0, none⟩ = some (.int .i64 (T : Int)) ∧
        W2.frozen? ⟨w.heap.size + 1 + 1, 0, none⟩ = false ∧ W2.cell? ⟨w.heap.size + 1 + 1 + 1, 0, none⟩ = some (.slice (some ⟨g, 0, none⟩) n c) ∧ W2.ownsRow base 3 1 (.slice (some ⟨g, 0, none⟩) n c) n (nats (L.take j ++ (qn :: Q))) ∧ w.grownBy W2 (some g) ∧ KeepsFrom (w.heap.size + 1 + 1 + 1 + 1) W W2) := by
      have o1 := HOs.out
      have e3 : L.take (n - k) ++ Q = L.take (j + 1) ++ Q := by rw [show n - k = j + 1 by omega]
      rw [nats_set, e3, HSE.out] at o1
      refine ⟨_, rfl, (World.cell?_setCell_other _ _ _ _ (by intro e; simp at e <;> omega)).trans h1, (World.cell?_setCell_other _ _ _ _ (by intro e; simp at e <;> omega)).trans h2, (World.cell?_setCell_other _ _ _ _ (by intro e; simp at e <;> omega)).trans h3, ?_, (World.cell?_setCell_other _ _ _ _ (by intro e; simp at e <;> omega)).trans h5, o1.1, grown_trans HG1.out ?_, HKF.out.trans (((KeepsOthers.setCell _ _ _).from _).trans ((KeepsOthers.drew _).from _))⟩
      · show (W1.setCell ⟨g, j, none⟩ (.int .i64 (qn : Int))).frozen? _ = false
        rw [World.frozen?_setCell]
        exact h4
      · exact ⟨rfl, rfl, rfl, by simp [World.setCell], fun i hi hne => Below.heap_setCell _ _ _ _ (fun e => hne (by rw [e]))⟩
    clear HOs HKF HSE HO1 HG1
    gi_region
    all_goals
      clear h1 h2 h3 h4 h5 hfz hold
      obtain ⟨W2, hW2, h1, h2, h3, h4, h5, ho, hg, hkf⟩ := hHF2.out
      rw [hW2]
      have HOf := Lib.hid ho
      have HG := Lib.hid hg
      have HKF := Lib.hid hkf
      clear hHF2 hW2 ho hg hkf
      gi_wp2
      refine ⟨?_, qn :: Q, rn, ⟨by rw [List.length_cons, p1], HST.out.1, by rw [show n - (k + 1) = j by omega]; exact HST.out.2.1, HST.out.2.2⟩, ?_, ⟨?_, ?_, cell_of_set _ h3, ?_, ?_⟩, ?_⟩
      · simp only [World.size_alloc]
        exact HKF.out.trans ((KeepsOthers.setCell _ _ _).from _)
      · rw [show n - (k + 1) = j by omega]
        exact own_keep HOf.out (grown_set _ _ _) (.inr (by simp [Value.ownBlock]; omega))
      · rw [World.cell?_setCell_other _ _ _ _ (by simp)]; exact h1
      · rw [World.cell?_setCell_other _ _ _ _ (by simp)]; exact h2
      · rw [World.frozen?_setCell]; exact h4
      · rw [World.cell?_setCell_other _ _ _ _ (by simp)]; exact h5
      · exact grown_far HG.out (grown_set _ _ _) (fun x e => by cases e; simp; omega)
  case done =>
    rintro D W hD ⟨Q, rest, ⟨p1, p2, p3, p4⟩, ho, ⟨h1, h2, h3, h4, h5⟩, hg⟩ hK
    have hD2 : w.heap.size + 4 ≤ D := by simpa using hD
    rw [Nat.sub_self, List.drop_zero] at p3
    rw [Nat.sub_self, List.take_zero, List.nil_append] at ho
    have HV1 : Hid (rest = Na.val L % d) := by
      unfold Hid
      rw [p3, Nat.mul_add_mod, Nat.mod_eq_of_lt p4]
    have HV2 : Hid (Na.val Q = Na.val L / d) := by
      unfold Hid
      rw [p3, Nat.mul_add_div hd, Nat.div_eq_of_lt p4, Nat.add_zero]
    have HP2 := Lib.hid p2
    have HO := Lib.hid ho
    have HG := Lib.hid hg
    clear p3 HI0 p2 ho hg
    gi_wp2
    refine ⟨by simp, .inl ⟨_, _, rfl, run_takeDeferred hK, ?_⟩⟩
    refine ⟨_, results_tmp rfl _ _ _, Q, by rw [← HV1.out]; rfl, p1, HP2.out, HV2.out, own_keep HO.out (grownBy_putObj' _ D _) ?_, grown_far HG.out (grownBy_putObj' _ D _) (fun x e => by cases e; omega)⟩
    cases hA : (Value.slice A n c).ownBlock with
    | none => exact .inl rfl
    | some g =>
      have := HBk.out g hA
      exact .inr (fun e => by cases e; omega)
  case stop => exact fun _ _ _ h => h.elim
theorem nsmall_any (A : Option Addr) (n c base : Nat) (L : List Nat) (d : Nat) (dv : Int) (hdv : dv = (d : Int)) (w : World) (hn : L.length = n) (ho : w.ownsRow base 3 1 (.slice A n c) n (nats L)) (hL : Na.Lim L) (hd : 1 ≤ d) (hd2 : d ≤ 274877906944) (hl : n ≤ 140737488351232) :
    Calls Tryz.prog 71 #[.slice A n c, .int .i64 dv] w fun e w' => ∃ Q : List Nat, e = .returned (.int .i64 ((Na.val L % d : Nat) : Int)) ∧ Q.length = n ∧ Na.Lim Q ∧ Na.val Q = Na.val L / d ∧ w'.ownsRow base 3 1 (.slice A n c) n (nats Q) ∧ w.grownBy w' (Value.slice A n c).ownBlock := by
  subst hdv
  exact (callsIn_wide (n := 3)).1 (nsmall_in Fence.wide 3 trivial trivial trivial rfl (Nat.le_refl _) A n c base L d w hn ho hL hd hd2 hl)
end Go.Proofs.YtnfjnlnphdmdmaaGreatDoor

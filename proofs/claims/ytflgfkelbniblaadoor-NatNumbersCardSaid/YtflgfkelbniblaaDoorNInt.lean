/- nat.Int: a number as an int. -/
import Derived.Test.YtflgfkelbniblaaDoorNatS
import Derived.Test.YtflgfkelbniblaaDoorNi
namespace Go.Proofs.YtflgfkelbniblaaDoor
open Go.RowKit Go.Shelf
attribute [local go_sem] Oper.semAt_some
set_option linter.unusedVariables false
set_option maxRecDepth 100000
def intV (x : Nat) : Int := if x ≤ 4611686018427387904 then (x : Int) else 0
def intE (x : Nat) : Int := if x ≤ 4611686018427387904 then 0 else 3
def IntX (w : World) (b x : Nat) (W : World) : Prop := W.cell? ⟨b + 1, 0, none⟩ = some (.int .i64 0) ∧ W.cell? ⟨b + 1 + 1, 0, none⟩ = some (.int .i64 3) ∧ 4611686018427387904 < x ∧ Below w.heap.size w W
def IntI (w : World) (b vb x n : Nat) (A : Option Addr) (c : Nat) (k : Nat) (W : World) : Prop :=
  ∃ v, v = Na.val ((Na.dig x).drop (n - k)) ∧ v ≤ 4611686018444165119 ∧ W.cell? ⟨b + 1, 0, none⟩ = some (.int .i64 0) ∧ W.frozen? ⟨b + 1, 0, none⟩ = false ∧ W.cell? ⟨b + 1 + 1, 0, none⟩ = some (.int .i64 0) ∧ W.frozen? ⟨b + 1 + 1, 0, none⟩ = false ∧
    W.cell? ⟨vb, 0, none⟩ = some (.int .i64 (v : Int)) ∧ W.frozen? ⟨vb, 0, none⟩ = false ∧ W.cell? ⟨vb + 1, 0, none⟩ = some (.slice A n c) ∧ Below w.heap.size w W
theorem int_big {x v k : Nat} (hv : v = Na.val ((Na.dig x).drop (k + 1))) (h : 274877906944 < v) : 4611686018427387904 < x := by
  have e := Na.val_split (Na.dig x) (k + 1) (by
    rcases Nat.lt_or_ge (Na.dig x).length (k + 1) with h1 | h1
    · rw [List.drop_of_length_le (by omega)] at hv; simp [Na.val] at hv; omega
    · exact h1)
  rw [Na.val_dig, ← hv, Nat.pow_succ] at e
  have e2 : 16777216 ^ k * 16777216 * v ≥ 1 * 16777216 * v := Nat.mul_le_mul_right _ (Nat.mul_le_mul_right _ (Nat.pow_pos (by omega)))
  omega
set_option maxHeartbeats 2000000 in
theorem nint_in (F : Fence) (N : Nat) (q1 : F.fn 33) (q2 : F.fn 58) (q3 : F.fn 74) (q4 : F.fn 36) (hro : F.round = none) (hN : 3 ≤ N)
    (A : Option Addr) (n c : Nat) (x : Nat) (w : World)
    (hval : ∀ (m : Nat) (W : World), Below w.heap.size w W → CallsIn F m Tryd.prog 36 #[.agg #[.slice A n c]] W fun e w' => e = .returned (.bool true) ∧ Below W.heap.size W w')
    (hn : (Na.dig x).length = n) (hs : Sl w w.heap.size A (nats (Na.dig x))) (hl : n ≤ 140737488351232) :
    CallsIn F N Tryd.prog 33 #[.agg #[.slice A n c]] w fun e w' => e = .returned (.tuple #[.int .i64 (intV x), .int .i64 (intE x)]) ∧ Below w.heap.size w w' := by
  have h1 : 1 ≤ N := by omega
  refine callsIn_of_wp_marks Tryd.func33 rfl q1 ?_ hro
  simp only [Tryd.ntmps33, List.size_toArray, List.length_cons, List.length_nil, Nat.reduceAdd, Nat.reduceSub, Array.replicate_succ, Array.replicate_zero, List.push_toArray, List.append_toArray, List.nil_append, List.cons_append]
  gi_wp2_with (fail)
  gi_at_call 36
  refine (hval _ _ (bal (bal (bal (Below.refl _ _) _) _) _)).mono ?_
  rintro e w1 ⟨rfl, hb1⟩
  obtain ⟨b, hb⟩ : ∃ b, w.heap.size = b := ⟨_, rfl⟩
  rw [hb]
  have k0 : w1.cell? ⟨b, 0, none⟩ = some (.slice A n c) := (hb1.cell (p := ⟨b, 0, none⟩) (by simp; omega)).trans (by subst hb; simp [go_sem])
  have k1 : w1.cell? ⟨b + 1, 0, none⟩ = some (.int .i64 0) := (hb1.cell (p := ⟨b + 1, 0, none⟩) (by simp; omega)).trans (by subst hb; simp [go_sem])
  have k2 : w1.cell? ⟨b + 1 + 1, 0, none⟩ = some (.int .i64 0) := (hb1.cell (p := ⟨b + 1 + 1, 0, none⟩) (by simp; omega)).trans (by subst hb; simp [go_sem])
  have f1 : w1.frozen? ⟨b + 1, 0, none⟩ = false := (hb1.frozen (p := ⟨b + 1, 0, none⟩) (by simp; omega)).trans (by subst hb; simp [go_sem])
  have f2 : w1.frozen? ⟨b + 1 + 1, 0, none⟩ = false := (hb1.frozen (p := ⟨b + 1 + 1, 0, none⟩) (by simp; omega)).trans (by subst hb; simp [go_sem])
  have HB1 : Hid (Below w.heap.size w w1) := btr (bal (bal (bal (Below.refl _ _) _) _) _) hb1
  have hsz : b + 3 ≤ w1.heap.size := by have := hb1.size; simp at this; omega
  have HSb := Lib.hid hb
  have ka : ∀ (p : Addr) (v : Value), p.block < w1.heap.size → w1.cell? p = some v → ∀ o, (w1.alloc o).cell? p = some v := fun p v hp h o => ((own_box1 w1 o).cell hp).trans h
  have k0a := ka _ _ (by simp only; omega) k0
  have HI0 : Hid (∀ o1 o2, o1 = .cells #[.int .i64 0] 3 → o2 = .cells #[.slice A n c] 23 → IntI w b w1.heap.size x n A c 0 ((w1.alloc o1).alloc o2)) := fun o1 o2 e1 e2 => by
    subst e1 e2
    have bV := Boxed.new w1 3 (.int .i64 0)
    have bS := Boxed.new (w1.alloc (.cells #[.int .i64 0] 3)) 23 (.slice A n c)
    simp only [World.size_alloc] at bS
    have hbb : Below w1.heap.size w1 ((w1.alloc (.cells #[.int .i64 0] 3)).alloc (.cells #[.slice A n c] 23)) := bal (bal (Below.refl _ _) _) _
    exact ⟨0, by rw [Nat.sub_zero, List.drop_of_length_le (by omega)]; rfl, by omega, (hbb.cell (p := ⟨b + 1, 0, none⟩) (by simp only; omega)).trans k1, (hbb.frozen (p := ⟨b + 1, 0, none⟩) (by simp only; omega)).trans f1, (hbb.cell (p := ⟨b + 1 + 1, 0, none⟩) (by simp only; omega)).trans k2, (hbb.frozen (p := ⟨b + 1 + 1, 0, none⟩) (by simp only; omega)).trans f2, (bV.alloc _).cell, (bV.alloc _).frozen, bS.cell, btr HB1.out hbb⟩
  have HN := Lib.hid hn
  have HS := Lib.hid hs
  clear hb1 hb hval ka k0 hn hs k1 k2 f1 f2
  gi_wp2_with (gi_at_call 58; refine (backI_in F (N - 1) q2 hro _ _ _ _).mono ?_; rintro e w' ⟨rfl, rfl⟩)
  refine range_back (F := F) (n := N) (A := A) (Bs := w1.heap.size + 1) (len := n) (cap := c) q3 hro (by omega) ?hg ?hps hl
    (IntI w b w1.heap.size x n A c) (IntX w b x) ?hI ?hX (fun k W h => by obtain ⟨_, _, _, _, _, _, _, _, _, hh, _⟩ := h; exact hh) ?hRd (HI0.out _ _ rfl rfl) ?a1 ?assign ?body ?done ?stop
  case hg => rfl
  case hps => rfl
  case hI => 
    rintro k W W' row ⟨v, e1, e2, e3, e4, e5, e6, e7, e8, e9, e10⟩ hg hr
    have hr' : ∀ r, row = some r → ∃ o : Obj, W.heap[r]? = some o ∧ o.isCells = false := fun r e => (hr r e).2
    exact ⟨v, e1, e2, cell_kept e3 hg hr', (frozen_kept e3 hg hr').trans e4, cell_kept e5 hg hr', (frozen_kept e5 hg hr').trans e6, cell_kept e7 hg hr', (frozen_kept e7 hg hr').trans e8, cell_kept e9 hg hr', below_from e10 hg (by simp; have := HSb.out; omega) hr⟩
  case hX =>
    rintro k W W' row ⟨e1, e2, e3, e4⟩ hg hr
    exact ⟨cell_kept e1 hg (fun r e => (hr r e).2), cell_kept e2 hg (fun r e => (hr r e).2), e3, below_from e4 hg (by simp; have := HSb.out; omega) hr⟩
  case hRd =>
    rintro k W ⟨v, e1, e2, e3, e4, e5, e6, e7, e8, e9, e10⟩ hk
    obtain ⟨a, ha⟩ := nat_at (Na.dig x) (n - 1 - k) (by rw [HN.out]; omega)
    obtain ⟨ad, e, _, hc⟩ := (HS.out.below e10).nat ha
    exact ⟨_, ad, e, hc⟩
  case assign =>
    intro l k v W K hK
    dsimp only [encBack]
    gi_wp2
    exact hK
  case body =>
    rintro l k v W ⟨y, e1, e2, e3, e4, e5, e6, e7, e8, e9, e10⟩ hk hR
    obtain ⟨a, ha⟩ := nat_at (Na.dig x) (n - 1 - k) (by rw [HN.out]; omega)
    obtain ⟨ad, rfl, _, hca⟩ := (HS.out.below e10).nat ha
    obtain ⟨ad', e0, hv⟩ := hR
    obtain rfl := Option.some.inj e0
    rw [hca] at hv
    obtain rfl := Option.some.inj hv
    have hbv : b + 1 ≠ w1.heap.size ∧ b + 1 + 1 ≠ w1.heap.size := by omega
    have HHA := Lib.hid ha
    have HE1 := Lib.hid e1
    have HB := Lib.hid e10
    have ha3 := (Na.dig_lim x).at ha
    clear ha hca e0 e1 e10 HI0
    obtain ⟨j, hj⟩ : ∃ j, n - 1 - k = j := ⟨_, rfl⟩
    rw [hj] at HHA
    rw [hj]
    rcases Nat.lt_or_ge 274877906944 y with hy | hy
    · have HBig : Hid (4611686018427387904 < x) := by
        have h7 := HE1.out
        rw [show n - k = j + 1 by omega] at h7
        exact int_big h7 hy
      clear hj
      have hbw := HSb.out
      gi_wp2
      exact ⟨((KeepsOthers.setCell _ _ _).from _).trans ((KeepsOthers.setCell _ _ _).from _), by rw [World.cell?_setCell_other _ _ _ _ (by simp)]; exact cell_of_set _ e3, cell_of_set _ (by rw [World.cell?_setCell_other _ _ _ _ (by simp)]; exact e5), HBig.out, bset (bset HB.out _ (by simp only; omega) _) _ (by simp only; omega) _⟩
    · obtain ⟨T, hT⟩ : ∃ T, y * 16777216 + a = T := ⟨_, rfl⟩
      have hT1 : (y : Int) * 16777216 + (a : Int) = (T : Int) := by omega
      have hT2 : T ≤ 4611686018444165119 := by omega
      have HD2 : Hid (T = Na.val ((Na.dig x).drop (n - (k + 1)))) := by
        have h7 := Na.val_drop_cons _ _ _ HHA.out
        unfold Hid
        rw [show n - (k + 1) = j by omega, h7, show j + 1 = n - k by omega, ← HE1.out, ← hT]
        omega
      clear hj hT
      have hbw := HSb.out
      gi_wp2
      exact ⟨(KeepsOthers.setCell _ _ _).from _, T, HD2.out, hT2, by rw [World.cell?_setCell_other _ _ _ _ (by simp <;> omega)]; exact e3, by rw [World.frozen?_setCell]; exact e4, by rw [World.cell?_setCell_other _ _ _ _ (by simp <;> omega)]; exact e5, by rw [World.frozen?_setCell]; exact e6, cell_of_set _ e7, by rw [World.frozen?_setCell]; exact e8, by rw [World.cell?_setCell_other _ _ _ _ (by simp)]; exact e9, bset HB.out _ (by simp only; omega) _⟩
  case done =>
    rintro D W hD ⟨v, e1, e2, e3, e4, e5, e6, e7, e8, e9, e10⟩ hK
    obtain rfl : v = x := by rw [e1, Nat.sub_self, List.drop_zero, Na.val_dig]
    have hD2 : w1.heap.size + 2 ≤ D := by simpa using hD
    have hbw := HSb.out
    have HB := Lib.hid e10
    clear e1 e10 HI0 HSb
    rcases Nat.lt_or_ge 4611686018427387904 v with hv | hv
    · have hc1 : (((W.setCell ⟨b + 1, 0, none⟩ (.int .i64 0)).setCell ⟨b + 1 + 1, 0, none⟩ (.int .i64 3)).putObj D (.deferred none)).cell? ⟨b + 1, 0, none⟩ = some (.int .i64 0) :=
        (World.cell?_of_block (World.putObj_heap_other (k := b + 1) (by omega))).trans (by rw [World.cell?_setCell_other _ _ _ _ (by simp)]; exact cell_of_set _ e3)
      have hc2 : (((W.setCell ⟨b + 1, 0, none⟩ (.int .i64 0)).setCell ⟨b + 1 + 1, 0, none⟩ (.int .i64 3)).putObj D (.deferred none)).cell? ⟨b + 1 + 1, 0, none⟩ = some (.int .i64 3) :=
        (World.cell?_of_block (World.putObj_heap_other (k := b + 1 + 1) (by omega))).trans (cell_of_set _ (by rw [World.cell?_setCell_other _ _ _ _ (by simp)]; exact e5))
      have hK2 : ((W.setCell ⟨b + 1, 0, none⟩ (.int .i64 0)).setCell ⟨b + 1 + 1, 0, none⟩ (.int .i64 3)).heap[D]? = some (.deferred (some [])) := (Below.heap_setCell _ _ _ _ (by simp; omega)).trans ((Below.heap_setCell _ _ _ _ (by simp; omega)).trans hK)
      have HV : Hid (intV v = 0 ∧ intE v = 3) := ⟨if_neg (by omega), if_neg (by omega)⟩
      gi_wp2
      refine ⟨by simp, .inl ⟨_, _, rfl, run_takeDeferred hK2, ?_⟩⟩
      refine ⟨.tuple #[.int .i64 0, .int .i64 3], by simp [results, Tryd.results33, go_sem, hc1, hc2], by rw [HV.out.1, HV.out.2], ?_⟩
      exact (bset (bset HB.out _ (by simp only; omega) _) _ (by simp only; omega) _).grown (grownBy_putObj' _ D _) (by simp [World.setCell]; have := HB.out.size; omega) (fun r e => by cases e; omega)
    · have hc1 : (((W.setCell ⟨b + 1, 0, none⟩ (.int .i64 (v : Int))).setCell ⟨b + 1 + 1, 0, none⟩ (.int .i64 0)).putObj D (.deferred none)).cell? ⟨b + 1, 0, none⟩ = some (.int .i64 (v : Int)) :=
        (World.cell?_of_block (World.putObj_heap_other (k := b + 1) (by omega))).trans (by rw [World.cell?_setCell_other _ _ _ _ (by simp)]; exact cell_of_set _ e3)
      have hc2 : (((W.setCell ⟨b + 1, 0, none⟩ (.int .i64 (v : Int))).setCell ⟨b + 1 + 1, 0, none⟩ (.int .i64 0)).putObj D (.deferred none)).cell? ⟨b + 1 + 1, 0, none⟩ = some (.int .i64 0) :=
        (World.cell?_of_block (World.putObj_heap_other (k := b + 1 + 1) (by omega))).trans (cell_of_set _ (by rw [World.cell?_setCell_other _ _ _ _ (by simp)]; exact e5))
      have hK2 : ((W.setCell ⟨b + 1, 0, none⟩ (.int .i64 (v : Int))).setCell ⟨b + 1 + 1, 0, none⟩ (.int .i64 0)).heap[D]? = some (.deferred (some [])) := (Below.heap_setCell _ _ _ _ (by simp; omega)).trans ((Below.heap_setCell _ _ _ _ (by simp; omega)).trans hK)
      have HV : Hid (intV v = (v : Int) ∧ intE v = 0) := ⟨if_pos hv, if_pos hv⟩
      have hvd : decide (4611686018427387904 < (v : Int)) = false := decide_eq_false (by omega)
      gi_wp2
      refine ⟨by simp, .inl ⟨_, _, rfl, run_takeDeferred hK2, ?_⟩⟩
      refine ⟨.tuple #[.int .i64 (v : Int), .int .i64 0], by simp [results, Tryd.results33, go_sem, hc1, hc2], by rw [HV.out.1, HV.out.2], ?_⟩
      exact (bset (bset HB.out _ (by simp only; omega) _) _ (by simp only; omega) _).grown (grownBy_putObj' _ D _) (by simp [World.setCell]; have := HB.out.size; omega) (fun r e => by cases e; omega)
  case stop =>
    rintro D W hD ⟨e3, e5, e6, e10⟩ hK
    have hD2 : w1.heap.size + 2 ≤ D := by simpa using hD
    have hbw := HSb.out
    have HB := Lib.hid e10
    clear e10 HI0
    have hc1 : (W.putObj D (.deferred none)).cell? ⟨b + 1, 0, none⟩ = some (.int .i64 0) := (World.cell?_of_block (World.putObj_heap_other (k := b + 1) (by omega))).trans e3
    have hc2 : (W.putObj D (.deferred none)).cell? ⟨b + 1 + 1, 0, none⟩ = some (.int .i64 3) := (World.cell?_of_block (World.putObj_heap_other (k := b + 1 + 1) (by omega))).trans e5
    have HV : Hid (intV x = 0 ∧ intE x = 3) := ⟨if_neg (by omega), if_neg (by omega)⟩
    gi_wp2
    refine ⟨by simp, .inl ⟨_, _, rfl, run_takeDeferred hK, ?_⟩⟩
    refine ⟨.tuple #[.int .i64 0, .int .i64 3], by simp [results, Tryd.results33, go_sem, hc1, hc2], by rw [HV.out.1, HV.out.2], ?_⟩
    exact HB.out.grown (grownBy_putObj' _ D _) HB.out.size (fun r e => by cases e; omega)
theorem nint_ok (A : Option Addr) (n c : Nat) (x : Nat) (w : World) (hn : (Na.dig x).length = n) (hs : Sl w w.heap.size A (nats (Na.dig x))) (hx : x < Na.top) :
    Calls Tryd.prog 33 #[.agg #[.slice A n c]] w fun e w' => e = .returned (.tuple #[.int .i64 (intV x), .int .i64 (intE x)]) ∧ Below w.heap.size w w' := by
  have h200 : n ≤ 200 := by rw [← hn]; exact (Na.dig_200 x).2 hx
  refine (callsIn_wide (n := 3)).1 (nint_in Fence.wide 3 trivial trivial trivial trivial rfl (Nat.le_refl _) A n c x w (fun m W hW => callsIn_wide.2 ?_) hn hs (by omega))
  have h := nvalid_any A n c w.heap.size (Na.up (Na.dig x)) W (by rw [Na.up_length]; exact hn) (by rw [nats_up]; exact hs.below hW) hW.size (by omega)
  rwa [Na.vld_dig hx] at h
theorem nint_bad (A : Option Addr) (n c : Nat) (zs : List Int) (w : World) (hn : zs.length = n) (hs : Sl w w.heap.size A (ints zs)) (hl : n ≤ 140737488351232) (hv : Na.vld zs = false) :
    Calls Tryd.prog 33 #[.agg #[.slice A n c]] w fun e w' => e = .returned (.tuple #[.int .i64 0, .int .i64 1]) ∧ Below w.heap.size w w' := by
  have HV : Hid (∀ W, Below w.heap.size w W → Calls Tryd.prog 36 #[.agg #[.slice A n c]] W fun e w' => e = .returned (.bool false) ∧ Below W.heap.size W w') := fun W hW => by
    have h := nvalid_any A n c w.heap.size zs W hn (hs.below hW) hW.size (by omega)
    rwa [hv] at h
  clear hs hn hv
  go_enter Tryd.func33, Tryd.ntmps33
  go_wp2_with fail
  refine (HV.out _ (bal (bal (bal (Below.refl _ _) _) _) _)).mono ?_
  rintro e w1 ⟨rfl, hb1⟩
  obtain ⟨b, hb⟩ : ∃ b, w.heap.size = b := ⟨_, rfl⟩
  rw [hb]
  have k1 : w1.cell? ⟨b + 1, 0, none⟩ = some (.int .i64 0) := (hb1.cell (p := ⟨b + 1, 0, none⟩) (by simp; omega)).trans (by subst hb; simp [go_sem])
  have k2 : w1.cell? ⟨b + 1 + 1, 0, none⟩ = some (.int .i64 0) := (hb1.cell (p := ⟨b + 1 + 1, 0, none⟩) (by simp; omega)).trans (by subst hb; simp [go_sem])
  have f1 : w1.frozen? ⟨b + 1, 0, none⟩ = false := (hb1.frozen (p := ⟨b + 1, 0, none⟩) (by simp; omega)).trans (by subst hb; simp [go_sem])
  have f2 : w1.frozen? ⟨b + 1 + 1, 0, none⟩ = false := (hb1.frozen (p := ⟨b + 1 + 1, 0, none⟩) (by simp; omega)).trans (by subst hb; simp [go_sem])
  have HB1 : Hid (Below w.heap.size w w1) := btr (bal (bal (bal (Below.refl _ _) _) _) _) hb1
  have HSb := Lib.hid hb
  have hc2 : (w1.setCell ⟨b + 1, 0, none⟩ (.int .i64 0)).cell? ⟨b + 1 + 1, 0, none⟩ = some (.int .i64 0) := by rw [World.cell?_setCell_other _ _ _ _ (by simp)]; exact k2
  have hc3 : ((w1.setCell ⟨b + 1, 0, none⟩ (.int .i64 0)).setCell ⟨b + 1 + 1, 0, none⟩ (.int .i64 1)).cell? ⟨b + 1, 0, none⟩ = some (.int .i64 0) := by rw [World.cell?_setCell_other _ _ _ _ (by simp)]; exact cell_of_set _ k1
  have hc4 : ((w1.setCell ⟨b + 1, 0, none⟩ (.int .i64 0)).setCell ⟨b + 1 + 1, 0, none⟩ (.int .i64 1)).cell? ⟨b + 1 + 1, 0, none⟩ = some (.int .i64 1) := cell_of_set _ hc2
  clear hb1 hb HV
  go_wp2_with fail
  have hbw := HSb.out
  refine bodyPost_ret (v := .tuple #[.int .i64 0, .int .i64 1]) (by simp [results, Tryd.results33, go_sem, hc3, hc4]) rfl ?_
  exact ⟨rfl, bset (bset HB1.out _ (by simp only; omega) _) _ (by simp only; omega) _⟩
end Go.Proofs.YtflgfkelbniblaaDoor

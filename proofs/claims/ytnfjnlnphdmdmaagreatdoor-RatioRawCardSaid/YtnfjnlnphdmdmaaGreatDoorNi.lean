/- XNatI XNatC joined. -/
import Derived.Test.YtnfjnlnphdmdmaaGreatDoorRange
import Derived.Test.YtnfjnlnphdmdmaaGreatDoorNatA
/- slices.Backward over ints, and over words of 64 bits: what they hand out, round by round. -/
namespace Go.Proofs.YtnfjnlnphdmdmaaGreatDoor
open Go.RowKit Go.Shelf
attribute [local go_sem] Oper.semAt_some
set_option linter.unusedVariables false
set_option maxRecDepth 100000
set_option maxHeartbeats 2000000 in
theorem backI_gives (F : Fence) (n : Nat) (h8 : F.fn 98) (hro : F.round = none) (hn : 1 ≤ n) (Bs len cap : Nat) (A : Option Addr) (hreach : len ≤ 140737488351232) :
    GivesK F n Tryz.prog 98 #[.pointer (some ⟨Bs, 0, none⟩)] len (encBack len) (fun k v W => ReadBack A len k v W) (fun W => W.cell? ⟨Bs, 0, none⟩ = some (.slice A len cap)) := by
  intro l J Jx hBx hRd hY W h0
  show CallsIn F n Tryz.prog 98 #[.func (.yield l) #[] #[], .pointer (some ⟨Bs, 0, none⟩)] W _
  have hB0 := hBx 0 W h0
  have HBx := Lib.hid hBx
  have HRd := Lib.hid hRd
  have HY := Lib.hid hY
  clear hBx hRd hY
  refine callsIn_of_wp Tryz.func98 rfl h8 ?_ hro
  simp only [Tryz.ntmps98, List.size_toArray, List.length_cons, List.length_nil, Nat.reduceAdd, Nat.reduceSub, Array.replicate_succ, Array.replicate_zero, List.push_toArray, List.append_toArray, List.nil_append, List.cons_append]
  gi_wp2
  gi_loopw [3] (fun i wr => ∃ k : Nat, k ≤ len ∧ i = .int .i64 ((len : Int) - 1 - k) ∧ J k wr) (fun i _ => (intOf i + 1).toNat)
  case atStart => exact ⟨0, Nat.zero_le _, by simp, h0⟩
  case round =>
    clear hB0 h0
    obtain ⟨k, hk, rfl, hJs⟩ := hrel
    have hcb := HBx.out k wr hJs
    by_cases hlt : k < len
    · obtain ⟨v, ad, hA, hc⟩ := HRd.out k wr hJs hlt
      subst hA
      obtain ⟨fn, tmps, assign, body, hy, hR⟩ := HY.out k v wr hJs hlt ⟨ad, rfl, hc⟩
      have e1 : ((len - 1 - k : Nat) : Int) = (len : Int) - 1 - k := by omega
      have e2 : ((len : Int) - 1 - k).toNat = len - 1 - k := by omega
      dsimp only [encBack] at hy
      rw [e1] at hy
      clear e1
      have hlo : 0 ≤ (len : Int) - 1 - k := by omega
      have hhi : (len : Int) - 1 - k < len := by omega
      gi_wp2
      refine hR.mono ?_
      rintro e W3 (⟨rfl, hJ3⟩ | ⟨rfl, hJx3⟩)
      · gi_wp2
        go_roundw
        case rel => exact ⟨k + 1, by omega, int_eqv (by omega), hJ3⟩
        case measure => simp [intOf]; omega
      · gi_wp2
        refine bodyPost_ret (results_none rfl _ _ _) rfl ?_
        exact ⟨⟨_, rfl⟩, .inr hJx3⟩
    · obtain rfl : k = len := by omega
      have e1 : (k : Int) - 1 - k = -1 := by omega
      rw [e1]
      clear e1
      gi_wp2
      go_end0
      exact ⟨⟨_, rfl⟩, .inl hJs⟩
set_option maxHeartbeats 1000000 in
theorem backI_in (F : Fence) (n : Nat) (h5 : F.fn 88) (hro : F.round = none) (a : Option Addr) (len cap : Nat) (w : World) :
    CallsIn F n Tryz.prog 88 #[.slice a len cap] w fun e w' => e = .returned (.func (.func 98) #[] #[.pointer (some ⟨w.heap.size, 0, none⟩)]) ∧ w' = w.alloc (.cells #[.slice a len cap] 22) := by
  refine callsIn_of_wp Tryz.func88 rfl h5 ?_ hro
  simp only [Tryz.ntmps88, List.size_toArray, List.length_cons, List.length_nil, Nat.reduceAdd, Nat.reduceSub, Array.replicate_succ, Array.replicate_zero, List.push_toArray, List.append_toArray, List.nil_append, List.cons_append]
  gi_wp2
  go_ret
  exact ⟨rfl, rfl⟩
set_option maxHeartbeats 2000000 in
theorem backW_gives (F : Fence) (n : Nat) (h8 : F.fn 102) (hro : F.round = none) (hn : 1 ≤ n) (Bs len cap : Nat) (A : Option Addr) (hreach : len ≤ 140737488351232) :
    GivesK F n Tryz.prog 102 #[.pointer (some ⟨Bs, 0, none⟩)] len (encBack len) (fun k v W => ReadBack A len k v W) (fun W => W.cell? ⟨Bs, 0, none⟩ = some (.slice A len cap)) := by
  intro l J Jx hBx hRd hY W h0
  show CallsIn F n Tryz.prog 102 #[.func (.yield l) #[] #[], .pointer (some ⟨Bs, 0, none⟩)] W _
  have hB0 := hBx 0 W h0
  have HBx := Lib.hid hBx
  have HRd := Lib.hid hRd
  have HY := Lib.hid hY
  clear hBx hRd hY
  refine callsIn_of_wp Tryz.func102 rfl h8 ?_ hro
  simp only [Tryz.ntmps102, List.size_toArray, List.length_cons, List.length_nil, Nat.reduceAdd, Nat.reduceSub, Array.replicate_succ, Array.replicate_zero, List.push_toArray, List.append_toArray, List.nil_append, List.cons_append]
  gi_wp2
  gi_loopw [3] (fun i wr => ∃ k : Nat, k ≤ len ∧ i = .int .i64 ((len : Int) - 1 - k) ∧ J k wr) (fun i _ => (intOf i + 1).toNat)
  case atStart => exact ⟨0, Nat.zero_le _, by simp, h0⟩
  case round =>
    clear hB0 h0
    obtain ⟨k, hk, rfl, hJs⟩ := hrel
    have hcb := HBx.out k wr hJs
    by_cases hlt : k < len
    · obtain ⟨v, ad, hA, hc⟩ := HRd.out k wr hJs hlt
      subst hA
      obtain ⟨fn, tmps, assign, body, hy, hR⟩ := HY.out k v wr hJs hlt ⟨ad, rfl, hc⟩
      have e1 : ((len - 1 - k : Nat) : Int) = (len : Int) - 1 - k := by omega
      have e2 : ((len : Int) - 1 - k).toNat = len - 1 - k := by omega
      dsimp only [encBack] at hy
      rw [e1] at hy
      clear e1
      have hlo : 0 ≤ (len : Int) - 1 - k := by omega
      have hhi : (len : Int) - 1 - k < len := by omega
      gi_wp2
      refine hR.mono ?_
      rintro e W3 (⟨rfl, hJ3⟩ | ⟨rfl, hJx3⟩)
      · gi_wp2
        go_roundw
        case rel => exact ⟨k + 1, by omega, int_eqv (by omega), hJ3⟩
        case measure => simp [intOf]; omega
      · gi_wp2
        refine bodyPost_ret (results_none rfl _ _ _) rfl ?_
        exact ⟨⟨_, rfl⟩, .inr hJx3⟩
    · obtain rfl : k = len := by omega
      have e1 : (k : Int) - 1 - k = -1 := by omega
      rw [e1]
      clear e1
      gi_wp2
      go_end0
      exact ⟨⟨_, rfl⟩, .inl hJs⟩
set_option maxHeartbeats 1000000 in
theorem backW_in (F : Fence) (n : Nat) (h5 : F.fn 95) (hro : F.round = none) (a : Option Addr) (len cap : Nat) (w : World) :
    CallsIn F n Tryz.prog 95 #[.slice a len cap] w fun e w' => e = .returned (.func (.func 102) #[] #[.pointer (some ⟨w.heap.size, 0, none⟩)]) ∧ w' = w.alloc (.cells #[.slice a len cap] 66) := by
  refine callsIn_of_wp Tryz.func95 rfl h5 ?_ hro
  simp only [Tryz.ntmps95, List.size_toArray, List.length_cons, List.length_nil, Nat.reduceAdd, Nat.reduceSub, Array.replicate_succ, Array.replicate_zero, List.push_toArray, List.append_toArray, List.nil_append, List.cons_append]
  gi_wp2
  go_ret
  exact ⟨rfl, rfl⟩
/-- the loop over slices.Backward(l) -/
theorem range_back {F : Fence} {n : Nat} {g : Operand} {ps : Array Tmp} {assign body : Code} {Q : Exit → Act → World → Prop} {a : Act} {w : World} (h8 : F.fn 98) (hro : F.round = none) (hn : 2 ≤ n) {A : Option Addr} {Bs len cap : Nat}
    (hg : a.eval g = .func (.func 98) #[] #[.pointer (some ⟨Bs, 0, none⟩)]) (hps : ps.size = 2) (hreach : len ≤ 140737488351232)
    (I : Nat → World → Prop) (X : World → Prop) (hI : OwnFrom w.heap.size I) (hX : OwnFrom w.heap.size (fun (_ : Unit) W => X W)) (hBx : ∀ k W, I k W → W.cell? ⟨Bs, 0, none⟩ = some (.slice A len cap)) (hRd : ∀ k W, I k W → k < len → ∃ v, ReadBack A len k v W)
    (h0 : I 0 w) (a₁ : Nat → Value → Act)
    (hassign : ∀ (l k : Nat) (v : Value) (W : World) (K : Act → World → Prop), K (a₁ k v) W → assign.wpIn (F.inRound l) (n - 1 - 1) Tryz.prog (Exit.then K (fun _ _ _ => False)) { tmps := (ps.zip (encBack len k v)).foldl (fun t (p, v) => t.setIfInBounds p v) a.tmps, defers := [] } W)
    (hbody : ∀ (l k : Nat) (v : Value) (W : World), I k W → k < len → ReadBack A len k v W → body.wpIn (F.inRound l) (n - 1 - 1) Tryz.prog (LeftBy w.heap.size (I (k + 1)) X W) (a₁ k v) W)
    (hdone : ∀ (D : Nat) (W : World), w.heap.size ≤ D → I len W → W.heap[D]? = some (.deferred (some [])) → Q .normal { a with defers := { target := .collected D, args := #[] } :: a.defers } W)
    (hstop : ∀ (D : Nat) (W : World), w.heap.size ≤ D → X W → W.heap[D]? = some (.deferred (some [])) → Code.ret.wpIn F n Tryz.prog Q { a with defers := { target := .collected D, args := #[] } :: a.defers } W) :
    (Code.rangeFunc g ps assign body).wpIn F n Tryz.prog Q a w :=
  range_k hro (by omega) hg h8 (enters_of Tryz.func98 (by kernel_rfl) rfl) (backI_gives F (n - 1) h8 hro (by omega) Bs len cap A hreach) (fun k v => by rw [hps]; rfl) I X hI hX (fun v => readBack_own w.heap.size A len v) hBx hRd h0 a₁ hassign hbody hdone hstop
end Go.Proofs.YtnfjnlnphdmdmaaGreatDoor

/- The order of limbs: sign, compare, Cmp. -/
namespace Go.Proofs.YtnfjnlnphdmdmaaGreatDoor
open Go.RowKit Go.Shelf
attribute [local go_sem] Oper.semAt_some
set_option linter.unusedVariables false
set_option maxRecDepth 100000
theorem nsign_any (x y : Nat) (w : World) : Calls Tryz.prog 93 #[.int .i64 (x : Int), .int .i64 (y : Int)] w fun e w' => e = .returned (.int .i64 (Na.sgn x y)) ∧ w = w' := by
  rcases Na.sgn_cases x y with ⟨h, e⟩ | ⟨h, e⟩ | ⟨h, e⟩
  · have H := Lib.hid e
    have h1 : decide (x < y) = true := decide_eq_true h
    clear e
    go_enter Tryz.func93, Tryz.ntmps93
    go_wp2_with fail
    go_ret
    exact ⟨ret_int H.out.symm, rfl⟩
  · have H := Lib.hid e
    subst h
    have h1 : decide (x < x) = false := decide_eq_false (by omega)
    clear e
    go_enter Tryz.func93, Tryz.ntmps93
    go_wp2_with fail
    go_ret
    exact ⟨ret_int H.out.symm, rfl⟩
  · have H := Lib.hid e
    have h1 : decide (x < y) = false := decide_eq_false (by omega)
    have h2 : decide (y < x) = true := decide_eq_true h
    clear e
    go_enter Tryz.func93, Tryz.ntmps93
    go_wp2_with fail
    go_ret
    exact ⟨ret_int H.out.symm, rfl⟩
namespace Na
theorem drop_same {X Y : List Nat} {k a : Nat} (hX : X[k]? = some a) (hY : Y[k]? = some a) (h : X.drop (k + 1) = Y.drop (k + 1)) : X.drop k = Y.drop k := by
  have h1 := get_lt hX
  have h2 := get_lt hY
  rw [List.drop_eq_getElem_cons h1, List.drop_eq_getElem_cons h2, h]
  rw [List.getElem?_eq_getElem h1] at hX
  rw [List.getElem?_eq_getElem h2] at hY
  rw [Option.some.inj hX, Option.some.inj hY]
theorem sgn_at {x y k a b : Nat} (hX : (dig x)[k]? = some a) (hY : (dig y)[k]? = some b) (h : (dig x).drop (k + 1) = (dig y).drop (k + 1)) (hab : a ≠ b) : sgn x y = sgn a b := by
  rcases Nat.lt_or_gt_of_ne hab with h1 | h1
  · have := val_cmp (dig_lim x) (dig_lim y) k a b hX hY h h1
    rw [val_dig, val_dig] at this
    rw [sgn_lt this, sgn_lt h1]
  · have := val_cmp (dig_lim y) (dig_lim x) k b a hY hX h.symm h1
    rw [val_dig, val_dig] at this
    rw [sgn_gt this, sgn_gt h1]
theorem sgn_of_len {x y : Nat} (h : (dig x).length ≠ (dig y).length) : sgn x y = sgn (dig x).length (dig y).length := by
  rcases Nat.lt_or_gt_of_ne h with h1 | h1
  · rw [sgn_lt (sgn_len h1), sgn_lt h1]
  · rw [sgn_gt (sgn_len h1), sgn_gt h1]
end Na
def CmpX (w : World) (g : Nat) (r : Int) (W : World) : Prop := W.cell? ⟨g, 0, none⟩ = some (.int .i64 r) ∧ Below w.heap.size w W
def CmpI (w : World) (x y n : Nat) (A2 A : Option Addr) (c2 c : Nat) (k : Nat) (W : World) : Prop :=
  ((Na.dig x).drop (n - k) = (Na.dig y).drop (n - k)) ∧ W.cell? ⟨w.heap.size, 0, none⟩ = some (.slice A2 n c2) ∧ W.cell? ⟨w.heap.size + 1, 0, none⟩ = some (.int .i64 0) ∧ W.frozen? ⟨w.heap.size + 1, 0, none⟩ = false ∧ W.cell? ⟨w.heap.size + 2, 0, none⟩ = some (.slice A n c) ∧ Below w.heap.size w W
theorem below_from {w W W' : World} {B : Nat} {row : Option Nat} (h : Below w.heap.size w W) (hg : W.grownBy W' row) (hB : w.heap.size ≤ B) (hr : ∀ r, row = some r → B ≤ r ∧ ∃ o : Obj, W.heap[r]? = some o ∧ o.isCells = false) : Below w.heap.size w W' :=
  h.grown hg h.size (fun r e => Nat.le_trans hB (hr r e).1)
set_option maxHeartbeats 2000000 in
theorem ncompare_eq (F : Fence) (N : Nat) (q1 : F.fn 77) (q2 : F.fn 88) (q3 : F.fn 98) (q4 : F.fn 93) (hro : F.round = none) (hN : 3 ≤ N)
    (hsg : ∀ (m x y : Nat) (w : World), CallsIn F m Tryz.prog 93 #[.int .i64 (x : Int), .int .i64 (y : Int)] w fun e w' => e = .returned (.int .i64 (Na.sgn x y)) ∧ w = w') (A A2 : Option Addr) (n c c2 : Nat) (x y : Nat) (w : World) (hn : (Na.dig x).length = n) (hm : (Na.dig y).length = n) (hs : Sl w w.heap.size A (nats (Na.dig x))) (hs2 : Sl w w.heap.size A2 (nats (Na.dig y))) (hl : n ≤ 140737488351232) :
    CallsIn F N Tryz.prog 77 #[.slice A n c, .slice A2 n c2] w fun e w' => e = .returned (.int .i64 (Na.sgn x y)) ∧ Below w.heap.size w w' := by
  have hne : ((n : Int) != (n : Int)) = false := by simp
  have h1 : 1 ≤ N := by omega
  refine callsIn_of_wp_marks Tryz.func77 rfl q1 ?_ hro
  simp only [Tryz.ntmps77, List.size_toArray, List.length_cons, List.length_nil, Nat.reduceAdd, Nat.reduceSub, Array.replicate_succ, Array.replicate_zero, List.push_toArray, List.append_toArray, List.nil_append, List.cons_append]
  gi_wp2_with (gi_at_call 88; refine (backI_in F (N - 1) q2 hro _ _ _ _).mono ?_; rintro e w' ⟨rfl, rfl⟩)
  have bB := Boxed.new w 22 (.slice A2 n c2)
  have bR := Boxed.new (w.alloc (.cells #[.slice A2 n c2] 22)) 3 (.int .i64 0)
  have bS := Boxed.new ((w.alloc (.cells #[.slice A2 n c2] 22)).alloc (.cells #[.int .i64 0] 3)) 22 (.slice A n c)
  simp only [World.size_alloc] at bR bS
  have HI0 : Hid (CmpI w x y n A2 A c2 c 0 (((w.alloc (.cells #[.slice A2 n c2] 22)).alloc (.cells #[.int .i64 0] 3)).alloc (.cells #[.slice A n c] 22))) :=
    ⟨by rw [List.drop_of_length_le (by omega), List.drop_of_length_le (by omega)], ((bB.alloc _).alloc _).cell, (bR.alloc _).cell, (bR.alloc _).frozen, bS.cell, bal (bal (bal (Below.refl _ _) _) _) _⟩
  have HN := Lib.hid hn
  have HM := Lib.hid hm
  have HS := Lib.hid hs
  have HS2 := Lib.hid hs2
  clear hn hm hs hs2 bB bR bS
  refine range_back (F := F) (n := N) (A := A) (Bs := w.heap.size + 1 + 1) (len := n) (cap := c) q3 hro (by omega) ?hg ?hps hl
    (CmpI w x y n A2 A c2 c) (CmpX w (w.heap.size + 1) (Na.sgn x y)) ?hI ?hX (fun k W h => h.2.2.2.2.1) ?hRd HI0.out ?a1 ?assign ?body ?done ?stop
  case hg => rfl
  case hps => rfl
  case hI => exact fun k W W' row h hg hr => ⟨h.1, cell_kept h.2.1 hg (fun r e => (hr r e).2), cell_kept h.2.2.1 hg (fun r e => (hr r e).2), (frozen_kept h.2.2.1 hg (fun r e => (hr r e).2)).trans h.2.2.2.1, cell_kept h.2.2.2.2.1 hg (fun r e => (hr r e).2), below_from h.2.2.2.2.2 hg (by simp; omega) hr⟩
  case hX => exact fun k W W' row h hg hr => ⟨cell_kept h.1 hg (fun r e => (hr r e).2), below_from h.2 hg (by simp; omega) hr⟩
  case hRd =>
    intro k W h hk
    obtain ⟨a, ha⟩ := nat_at (Na.dig x) (n - 1 - k) (by rw [HN.out]; omega)
    obtain ⟨ad, e, _, hc⟩ := (HS.out.below h.2.2.2.2.2).nat ha
    exact ⟨_, ad, e, hc⟩
  case assign =>
    intro l k v W K hK
    dsimp only [encBack]
    gi_wp2
    exact hK
  case body =>
    intro l k v W hI hk hR
    obtain ⟨h1, h2, h3, h4, h5, h6⟩ := hI
    obtain ⟨a, ha⟩ := nat_at (Na.dig x) (n - 1 - k) (by rw [HN.out]; omega)
    obtain ⟨b, hb⟩ := nat_at (Na.dig y) (n - 1 - k) (by rw [HM.out]; omega)
    obtain ⟨ad, rfl, _, hca⟩ := (HS.out.below h6).nat ha
    obtain ⟨ad2, rfl, _, hcb⟩ := (HS2.out.below h6).nat hb
    obtain ⟨ad', e1, hv⟩ := hR
    obtain rfl := Option.some.inj e1
    rw [hca] at hv
    obtain rfl := Option.some.inj hv
    have HHA := Lib.hid ha
    have HHB := Lib.hid hb
    have HD := Lib.hid h1
    have HB := Lib.hid h6
    clear ha hb hca e1 h1 h6 HI0
    have e2 : ((n - 1 - k : Nat) : Int).toNat = n - 1 - k := by omega
    have hi1 : ((n - 1 - k : Nat) : Int) < (n : Int) := by omega
    obtain ⟨j, hj⟩ : ∃ j, n - 1 - k = j := ⟨_, rfl⟩
    rw [hj] at e2 hi1 hcb HHA HHB
    rw [hj]
    by_cases hab : a = b
    · subst hab
      have hne2 : ((a : Int) != (a : Int)) = false := by simp
      have HD2 : Hid ((Na.dig x).drop (n - (k + 1)) = (Na.dig y).drop (n - (k + 1))) := by
        have h7 := HD.out
        rw [show n - k = j + 1 by omega] at h7
        have h8 := Na.drop_same HHA.out HHB.out h7
        rw [show n - (k + 1) = j by omega]
        exact h8
      clear hj
      gi_wp2
      exact ⟨KeepsFrom.refl _ _, HD2.out, h2, h3, h4, h5, HB.out⟩
    · have hne2 : ((a : Int) != (b : Int)) = true := by rw [bne_iff_ne]; omega
      have HS' : Hid (Na.sgn a b = Na.sgn x y) := by
        have h7 := HD.out
        rw [show n - k = j + 1 by omega] at h7
        exact (Na.sgn_at HHA.out HHB.out h7 hab).symm
      have hn1 : 1 ≤ N - 1 - 1 := by omega
      have HSG := Lib.hid hsg
      clear hj hab hsg
      gi_wp2_with (gi_at_call 93; refine (CallsIn.inRound l (HSG.out _ _ _ _)).mono ?_; rintro e w' ⟨rfl, rfl⟩)
      exact ⟨(KeepsOthers.setCell _ _ _).from _, by rw [← HS'.out]; exact cell_of_set _ h3, bset HB.out _ (by simp) _⟩
  case done =>
    intro D W hD hI hK
    obtain ⟨h1, h2, h3, h4, h5, h6⟩ := hI
    have HE : Hid (Na.sgn x y = 0) := by
      rw [Nat.sub_self, List.drop_zero, List.drop_zero] at h1
      exact Na.sgn_eq (Na.dig_inj h1)
    clear h1 HI0
    have hD2 : w.heap.size + 3 ≤ D := by simpa using hD
    have hK2 : (W.setCell ⟨w.heap.size + 1, 0, none⟩ (.int .i64 0)).heap[D]? = some (.deferred (some [])) := (Below.heap_setCell _ _ _ _ (by simp; omega)).trans hK
    have hc2 : ((W.setCell ⟨w.heap.size + 1, 0, none⟩ (.int .i64 0)).putObj D (.deferred none)).cell? ⟨w.heap.size + 1, 0, none⟩ = some (.int .i64 0) :=
      (World.cell?_of_block (World.putObj_heap_other (k := w.heap.size + 1) (by omega))).trans (cell_of_set _ h3)
    gi_wp2
    refine ⟨by simp, .inl ⟨_, _, rfl, run_takeDeferred hK2, ?_⟩⟩
    refine ⟨.int .i64 0, by simp [results, Tryz.results77, go_sem, hc2], by rw [HE.out], ?_⟩
    exact (bset h6 _ (by simp) _).grown (grownBy_putObj' _ D _) (by simp [World.setCell]; have := h6.size; omega) (fun r e => by cases e; omega)
  case stop =>
    intro D W hD hX hK
    obtain ⟨h3, h6⟩ := hX
    have hD2 : w.heap.size + 3 ≤ D := by simpa using hD
    have hc2 : (W.putObj D (.deferred none)).cell? ⟨w.heap.size + 1, 0, none⟩ = some (.int .i64 (Na.sgn x y)) := (World.cell?_of_block (World.putObj_heap_other (k := w.heap.size + 1) (by omega))).trans h3
    gi_wp2
    refine ⟨by simp, .inl ⟨_, _, rfl, run_takeDeferred hK, ?_⟩⟩
    refine ⟨.int .i64 (Na.sgn x y), by simp [results, Tryz.results77, go_sem, hc2], rfl, ?_⟩
    exact h6.grown (grownBy_putObj' _ D _) h6.size (fun r e => by cases e; omega)
theorem ncompare_any (A A2 : Option Addr) (n c m c2 B : Nat) (x y : Nat) (w : World) (hn : (Na.dig x).length = n) (hm : (Na.dig y).length = m) (hs : Sl w B A (nats (Na.dig x))) (hs2 : Sl w B A2 (nats (Na.dig y))) (hB : B ≤ w.heap.size) (hl : n ≤ 140737488351232) (hl2 : m ≤ 140737488351232) :
    Calls Tryz.prog 77 #[.slice A n c, .slice A2 m c2] w fun e w' => e = .returned (.int .i64 (Na.sgn x y)) ∧ Below w.heap.size w w' := by
  by_cases hnm : n = m
  · subst hnm
    exact (callsIn_wide (n := 3)).1 (ncompare_eq Fence.wide 3 trivial trivial trivial trivial rfl (Nat.le_refl _) (fun m x y w => callsIn_wide.2 (nsign_any x y w)) A A2 n c c2 x y w hn hm (hs.more hB) (hs2.more hB) hl)
  · have hne : ((n : Int) != (m : Int)) = true := by rw [bne_iff_ne]; omega
    have HS : Hid (Na.sgn n m = Na.sgn x y) := by rw [← hn, ← hm]; exact (Na.sgn_of_len (by omega)).symm
    clear hs hs2 hn hm hnm
    go_enter Tryz.func77, Tryz.ntmps77
    go_wp2_with fail
    refine (nsign_any n m _).mono ?_
    rintro e w1 ⟨rfl, rfl⟩
    go_wp2_with fail
    refine bodyPost_ret (v := .int .i64 (Na.sgn n m)) (by simp [results, Tryz.results77, go_sem]) rfl ?_
    exact ⟨by rw [HS.out], bal (bal (Below.refl _ _) _) _⟩
theorem ncmp_any (A A2 : Option Addr) (n c m c2 B : Nat) (x y : Nat) (w : World) (hn : (Na.dig x).length = n) (hm : (Na.dig y).length = m) (hs : Sl w B A (nats (Na.dig x))) (hs2 : Sl w B A2 (nats (Na.dig y))) (hB : B ≤ w.heap.size) (hl : n ≤ 140737488351232) (hl2 : m ≤ 140737488351232) :
    Calls Tryz.prog 54 #[.agg #[.slice A n c], .agg #[.slice A2 m c2]] w fun e w' => e = .returned (.int .i64 (Na.sgn x y)) ∧ Below w.heap.size w w' := by
  have HC := Lib.hid (ncompare_any A A2 n c m c2 w.heap.size x y ((w.alloc (.cells #[.slice A n c] 24)).alloc (.cells #[.slice A2 m c2] 24)) hn hm (((hs.more hB).alloc (Nat.le_refl _) _).alloc (by simp) _) (((hs2.more hB).alloc (Nat.le_refl _) _).alloc (by simp) _) (by simp; omega) hl hl2)
  clear hs hs2 hn hm
  go_enter Tryz.func54, Tryz.ntmps54
  go_wp2_with fail
  refine HC.out.mono ?_
  rintro e w1 ⟨rfl, hb⟩
  have HB := Lib.hid (btr (bal (bal (Below.refl w.heap.size w) _) _) hb)
  clear hb
  go_wp2_with fail
  go_ret
  exact ⟨rfl, HB.out⟩
end Go.Proofs.YtnfjnlnphdmdmaaGreatDoor

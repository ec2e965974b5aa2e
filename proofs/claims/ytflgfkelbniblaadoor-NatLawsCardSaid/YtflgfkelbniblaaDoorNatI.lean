/- slices.Backward over ints, and over words of 64 bits: what they hand out, round by round. -/
import Derived.Test.YtflgfkelbniblaaDoorRange
import Derived.Test.YtflgfkelbniblaaDoorNatA
namespace Go.Proofs.YtflgfkelbniblaaDoor
open Go.RowKit Go.Shelf
attribute [local go_sem] Oper.semAt_some
set_option linter.unusedVariables false
set_option maxRecDepth 100000
set_option maxHeartbeats 2000000 in
theorem backI_gives (F : Fence) (n : Nat) (h8 : F.fn 74) (hro : F.round = none) (hn : 1 ≤ n) (Bs len cap : Nat) (A : Option Addr) (hreach : len ≤ 140737488351232) :
    GivesK F n Tryd.prog 74 #[.pointer (some ⟨Bs, 0, none⟩)] len (encBack len) (fun k v W => ReadBack A len k v W) (fun W => W.cell? ⟨Bs, 0, none⟩ = some (.slice A len cap)) := by
  intro l J Jx hBx hRd hY W h0
  show CallsIn F n Tryd.prog 74 #[.func (.yield l) #[] #[], .pointer (some ⟨Bs, 0, none⟩)] W _
  have hB0 := hBx 0 W h0
  have HBx := Lib.hid hBx
  have HRd := Lib.hid hRd
  have HY := Lib.hid hY
  clear hBx hRd hY
  refine callsIn_of_wp Tryd.func74 rfl h8 ?_ hro
  simp only [Tryd.ntmps74, List.size_toArray, List.length_cons, List.length_nil, Nat.reduceAdd, Nat.reduceSub, Array.replicate_succ, Array.replicate_zero, List.push_toArray, List.append_toArray, List.nil_append, List.cons_append]
  gi_wp2
  gi_loopw [3] (fun i wr => ∃ k : Nat, k ≤ len ∧ i = .int .i64 ((len : Int) - 1 - k) ∧ J k wr) (fun i _ => (intOf i + 1).toNat)
  case atStart => exact ⟨0, Nat.zero_le _, by simp, h0⟩
  case round =>
    clear hB0 h0
    obtain ⟨k, hk, rfl, hJs⟩ := hrel
    have hcb := HBx.out k wr hJs
    by_cases hlt : k < len
    · obtain ⟨v, ad, hA, hc⟩ := HRd.out k wr hJs hlt
      subst hA
      obtain ⟨fn, tmps, assign, body, hy, hR⟩ := HY.out k v wr hJs hlt ⟨ad, rfl, hc⟩
      have e1 : ((len - 1 - k : Nat) : Int) = (len : Int) - 1 - k := by omega
      have e2 : ((len : Int) - 1 - k).toNat = len - 1 - k := by omega
      dsimp only [encBack] at hy
      rw [e1] at hy
      clear e1
      have hlo : 0 ≤ (len : Int) - 1 - k := by omega
      have hhi : (len : Int) - 1 - k < len := by omega
      gi_wp2
      refine hR.mono ?_
      rintro e W3 (⟨rfl, hJ3⟩ | ⟨rfl, hJx3⟩)
      · gi_wp2
        go_roundw
        case rel => exact ⟨k + 1, by omega, int_eqv (by omega), hJ3⟩
        case measure => simp [intOf]; omega
      · gi_wp2
        refine bodyPost_ret (results_none rfl _ _ _) rfl ?_
        exact ⟨⟨_, rfl⟩, .inr hJx3⟩
    · obtain rfl : k = len := by omega
      have e1 : (k : Int) - 1 - k = -1 := by omega
      rw [e1]
      clear e1
      gi_wp2
      go_end0
      exact ⟨⟨_, rfl⟩, .inl hJs⟩
set_option maxHeartbeats 1000000 in
theorem backI_in (F : Fence) (n : Nat) (h5 : F.fn 58) (hro : F.round = none) (a : Option Addr) (len cap : Nat) (w : World) :
    CallsIn F n Tryd.prog 58 #[.slice a len cap] w fun e w' => e = .returned (.func (.func 74) #[] #[.pointer (some ⟨w.heap.size, 0, none⟩)]) ∧ w' = w.alloc (.cells #[.slice a len cap] 23) := by
  refine callsIn_of_wp Tryd.func58 rfl h5 ?_ hro
  simp only [Tryd.ntmps58, List.size_toArray, List.length_cons, List.length_nil, Nat.reduceAdd, Nat.reduceSub, Array.replicate_succ, Array.replicate_zero, List.push_toArray, List.append_toArray, List.nil_append, List.cons_append]
  gi_wp2
  go_ret
  exact ⟨rfl, rfl⟩
set_option maxHeartbeats 2000000 in
theorem backW_gives (F : Fence) (n : Nat) (h8 : F.fn 95) (hro : F.round = none) (hn : 1 ≤ n) (Bs len cap : Nat) (A : Option Addr) (hreach : len ≤ 140737488351232) :
    GivesK F n Tryd.prog 95 #[.pointer (some ⟨Bs, 0, none⟩)] len (encBack len) (fun k v W => ReadBack A len k v W) (fun W => W.cell? ⟨Bs, 0, none⟩ = some (.slice A len cap)) := by
  intro l J Jx hBx hRd hY W h0
  show CallsIn F n Tryd.prog 95 #[.func (.yield l) #[] #[], .pointer (some ⟨Bs, 0, none⟩)] W _
  have hB0 := hBx 0 W h0
  have HBx := Lib.hid hBx
  have HRd := Lib.hid hRd
  have HY := Lib.hid hY
  clear hBx hRd hY
  refine callsIn_of_wp Tryd.func95 rfl h8 ?_ hro
  simp only [Tryd.ntmps95, List.size_toArray, List.length_cons, List.length_nil, Nat.reduceAdd, Nat.reduceSub, Array.replicate_succ, Array.replicate_zero, List.push_toArray, List.append_toArray, List.nil_append, List.cons_append]
  gi_wp2
  gi_loopw [3] (fun i wr => ∃ k : Nat, k ≤ len ∧ i = .int .i64 ((len : Int) - 1 - k) ∧ J k wr) (fun i _ => (intOf i + 1).toNat)
  case atStart => exact ⟨0, Nat.zero_le _, by simp, h0⟩
  case round =>
    clear hB0 h0
    obtain ⟨k, hk, rfl, hJs⟩ := hrel
    have hcb := HBx.out k wr hJs
    by_cases hlt : k < len
    · obtain ⟨v, ad, hA, hc⟩ := HRd.out k wr hJs hlt
      subst hA
      obtain ⟨fn, tmps, assign, body, hy, hR⟩ := HY.out k v wr hJs hlt ⟨ad, rfl, hc⟩
      have e1 : ((len - 1 - k : Nat) : Int) = (len : Int) - 1 - k := by omega
      have e2 : ((len : Int) - 1 - k).toNat = len - 1 - k := by omega
      dsimp only [encBack] at hy
      rw [e1] at hy
      clear e1
      have hlo : 0 ≤ (len : Int) - 1 - k := by omega
      have hhi : (len : Int) - 1 - k < len := by omega
      gi_wp2
      refine hR.mono ?_
      rintro e W3 (⟨rfl, hJ3⟩ | ⟨rfl, hJx3⟩)
      · gi_wp2
        go_roundw
        case rel => exact ⟨k + 1, by omega, int_eqv (by omega), hJ3⟩
        case measure => simp [intOf]; omega
      · gi_wp2
        refine bodyPost_ret (results_none rfl _ _ _) rfl ?_
        exact ⟨⟨_, rfl⟩, .inr hJx3⟩
    · obtain rfl : k = len := by omega
      have e1 : (k : Int) - 1 - k = -1 := by omega
      rw [e1]
      clear e1
      gi_wp2
      go_end0
      exact ⟨⟨_, rfl⟩, .inl hJs⟩
set_option maxHeartbeats 1000000 in
theorem backW_in (F : Fence) (n : Nat) (h5 : F.fn 92) (hro : F.round = none) (a : Option Addr) (len cap : Nat) (w : World) :
    CallsIn F n Tryd.prog 92 #[.slice a len cap] w fun e w' => e = .returned (.func (.func 95) #[] #[.pointer (some ⟨w.heap.size, 0, none⟩)]) ∧ w' = w.alloc (.cells #[.slice a len cap] 79) := by
  refine callsIn_of_wp Tryd.func92 rfl h5 ?_ hro
  simp only [Tryd.ntmps92, List.size_toArray, List.length_cons, List.length_nil, Nat.reduceAdd, Nat.reduceSub, Array.replicate_succ, Array.replicate_zero, List.push_toArray, List.append_toArray, List.nil_append, List.cons_append]
  gi_wp2
  go_ret
  exact ⟨rfl, rfl⟩
/-- the loop over slices.Backward(l) -/
theorem range_back {F : Fence} {n : Nat} {g : Operand} {ps : Array Tmp} {assign body : Code} {Q : Exit → Act → World → Prop} {a : Act} {w : World} (h8 : F.fn 74) (hro : F.round = none) (hn : 2 ≤ n) {A : Option Addr} {Bs len cap : Nat}
    (hg : a.eval g = .func (.func 74) #[] #[.pointer (some ⟨Bs, 0, none⟩)]) (hps : ps.size = 2) (hreach : len ≤ 140737488351232)
    (I : Nat → World → Prop) (X : World → Prop) (hI : OwnFrom w.heap.size I) (hX : OwnFrom w.heap.size (fun (_ : Unit) W => X W)) (hBx : ∀ k W, I k W → W.cell? ⟨Bs, 0, none⟩ = some (.slice A len cap)) (hRd : ∀ k W, I k W → k < len → ∃ v, ReadBack A len k v W)
    (h0 : I 0 w) (a₁ : Nat → Value → Act)
    (hassign : ∀ (l k : Nat) (v : Value) (W : World) (K : Act → World → Prop), K (a₁ k v) W → assign.wpIn (F.inRound l) (n - 1 - 1) Tryd.prog (Exit.then K (fun _ _ _ => False)) { tmps := (ps.zip (encBack len k v)).foldl (fun t (p, v) => t.setIfInBounds p v) a.tmps, defers := [] } W)
    (hbody : ∀ (l k : Nat) (v : Value) (W : World), I k W → k < len → ReadBack A len k v W → body.wpIn (F.inRound l) (n - 1 - 1) Tryd.prog (LeftBy w.heap.size (I (k + 1)) X W) (a₁ k v) W)
    (hdone : ∀ (D : Nat) (W : World), w.heap.size ≤ D → I len W → W.heap[D]? = some (.deferred (some [])) → Q .normal { a with defers := { target := .collected D, args := #[] } :: a.defers } W)
    (hstop : ∀ (D : Nat) (W : World), w.heap.size ≤ D → X W → W.heap[D]? = some (.deferred (some [])) → Code.ret.wpIn F n Tryd.prog Q { a with defers := { target := .collected D, args := #[] } :: a.defers } W) :
    (Code.rangeFunc g ps assign body).wpIn F n Tryd.prog Q a w :=
  range_k hro (by omega) hg h8 (enters_of Tryd.func74 (by kernel_rfl) rfl) (backI_gives F (n - 1) h8 hro (by omega) Bs len cap A hreach) (fun k v => by rw [hps]; rfl) I X hI hX (fun v => readBack_own w.heap.size A len v) hBx hRd h0 a₁ hassign hbody hdone hstop
end Go.Proofs.YtflgfkelbniblaaDoor

/- A loop over an iterator whose rounds are counted, and whose body may turn what the iterator reads: the invariant is said round by round. -/
import Derived.RangeFuncNested
import Derived.RangeFuncBound
import Derived.RangeFuncCalls
import Derived.RangeFuncLeaves
import Derived.RangeFuncBox
import Derived.RangeFuncWrites
import Derived.Shelf.Abstract
import Derived.Shelf.RegionOpen
import Derived.WalkKit
import Derived.OwnWalkIn
import Derived.TacticsInMore
import Derived.LoopNIn
import Derived.LoopIn
import Derived.Test.YtpcmbmabmfghkaaDoorMem
import Derived.Test.YtpcmbmabmfghkaaDoorChecked
namespace Go.Proofs.YtpcmbmabmfghkaaDoor
open Go.RowKit Go.Shelf
attribute [local go_sem] Oper.semAt_some
set_option linter.unusedVariables false
set_option maxRecDepth 100000
section
variable {F : Fence} {n : Nat} {P : Program}
/-- how a round is left: it goes on, or the function returns -/
def LeftBy (B : Nat) (I X : World → Prop) (W : World) : Exit → Act → World → Prop
  | .normal, _, W' => KeepsFrom B W W' ∧ I W'
  | .ret, _, W' => KeepsFrom B W W' ∧ X W'
  | _, _, _ => False
/-- the iterator's contract, round by round: it hands out what it reads at that time -/
def GivesK (F : Fence) (m : Nat) (P : Program) (gf : Nat) (lb : Array Value) (N : Nat) (enc : Nat → Value → Array Value) (Rd : Nat → Value → World → Prop) (Bx : World → Prop) : Prop :=
  ∀ (l : Nat) (J : Nat → World → Prop) (Jx : World → Prop), (∀ k W, J k W → Bx W) → (∀ k W, J k W → k < N → ∃ v, Rd k v W) →
    (∀ k v W, J k W → k < N → Rd k v W → YieldAt F (m - 1) P l (enc k v) W fun e W' => (e = .returned (.bool true) ∧ J (k + 1) W') ∨ (e = .returned (.bool false) ∧ Jx W')) →
    ∀ W, J 0 W → CallsIn F m P gf (#[.func (.yield l) #[] #[]] ++ lb) W fun e W' => (∃ v, e = .returned v) ∧ (J N W' ∨ Jx W')

theorem range_k {g : Operand} {ps : Array Tmp} {assign body : Code} {Q : Exit → Act → World → Prop} {a : Act} {w : World} (hro : F.round = none) (h1 : 1 ≤ n) {gf : Nat} {lb : Array Value} (hg : a.eval g = .func (.func gf) #[] lb) (hFg : F.fn gf)
    (eg : ∀ args w, (callFunc gf args).run P w = .ok (.enter gf args) w) {N : Nat} {enc : Nat → Value → Array Value} {Rd : Nat → Value → World → Prop} {Bx : World → Prop} (hseq : GivesK F (n - 1) P gf lb N enc Rd Bx) (hps : ∀ k v, (enc k v).size = ps.size)
    (I : Nat → World → Prop) (X : World → Prop) (hI : OwnFrom w.heap.size I) (hX : OwnFrom w.heap.size (fun (_ : Unit) W => X W)) (hRs : ∀ v, OwnFrom w.heap.size (fun k W => Rd k v W)) (hBx : ∀ k W, I k W → Bx W) (hRd : ∀ k W, I k W → k < N → ∃ v, Rd k v W)
    (h0 : I 0 w) (a₁ : Nat → Value → Act)
    (hassign : ∀ (l k : Nat) (v : Value) (W : World) (K : Act → World → Prop), K (a₁ k v) W → assign.wpIn (F.inRound l) (n - 1 - 1) P (Exit.then K (fun _ _ _ => False)) { tmps := (ps.zip (enc k v)).foldl (fun t (p, v) => t.setIfInBounds p v) a.tmps, defers := [] } W)
    (hbody : ∀ (l k : Nat) (v : Value) (W : World), I k W → k < N → Rd k v W → body.wpIn (F.inRound l) (n - 1 - 1) P (LeftBy w.heap.size (I (k + 1)) X W) (a₁ k v) W)
    (hdone : ∀ (D : Nat) (W : World), w.heap.size ≤ D → I N W → W.heap[D]? = some (.deferred (some [])) → Q .normal { a with defers := { target := .collected D, args := #[] } :: a.defers } W)
    (hstop : ∀ (D : Nat) (W : World), w.heap.size ≤ D → X W → W.heap[D]? = some (.deferred (some [])) → Code.ret.wpIn F n P Q { a with defers := { target := .collected D, args := #[] } :: a.defers } W) :
    (Code.rangeFunc g ps assign body).wpIn F n P Q a w := by
  refine wpIn_rangeFunc fun fn hfn => ?_
  rw [hro]
  obtain ⟨L, hL⟩ : ∃ L : LoopState → Option Code → Loop, L = fun st pe => { state := st, pending := pe, fn, tmps := a.tmps, params := ps, assign, body, defers := w.heap.size } := ⟨_, rfl⟩
  have enter := run_enterLoop_outer (P := P) (w := w) fn a.tmps ps assign body
  obtain ⟨Y, hY⟩ : ∃ Y, (w.alloc (.deferred (some []))).alloc (.loop (L .ready none)) = Y := ⟨_, rfl⟩
  have enter2 : (Instr.enterLoop fn a.tmps ps assign body none).run P w = .ok (w.heap.size + 1, [{ target := .collected w.heap.size, args := #[] }]) Y := by
    rw [enter, ← hY, hL]
  have yl : Y.heap[w.heap.size + 1]? = some (.loop (L .ready none)) := by
    rw [← hY]
    have := World.alloc_heap_new (w.alloc (.deferred (some []))) (.loop (L .ready none))
    rwa [World.size_alloc] at this
  have yd : Y.heap[w.heap.size]? = some (.deferred (some [])) := by
    rw [← hY, Below.heap_alloc _ _ _ (by simp)]
    exact World.alloc_heap_new w _
  have yI : I 0 Y := by
    rw [← hY]
    exact hI.alloc _ (hI.alloc _ h0)
  -- the call of the iterator
  refine ⟨w.heap.size + 1, [{ target := .collected w.heap.size, args := #[] }], Y, { target := .fn (.func gf) lb, args := #[.func (.yield (w.heap.size + 1)) #[] #[]] }, Y, gf, #[.func (.yield (w.heap.size + 1)) #[] #[]] ++ lb, Y, enter2, ?_, ?_, ?_, fun _ => h1, ?_⟩
  · simp only [resolve, hg]
    simp [go_sem]
  · intro f' hf'
    simp [Target.leads] at hf'
    subst hf'
    exact hFg
  · simp [invoke, go_sem, eg]
  refine (hseq (w.heap.size + 1) (fun k W => (I k W ∧ W.heap[w.heap.size]? = some (.deferred (some []))) ∧ W.heap[w.heap.size + 1]? = some (.loop (L .ready none)))
    (fun W => (X W ∧ W.heap[w.heap.size]? = some (.deferred (some []))) ∧ W.heap[w.heap.size + 1]? = some (.loop (L .done (some .ret))))
    (fun k W h => hBx k W h.1.1) (fun k W h => hRd k W h.1.1) ?_ Y ⟨⟨yI, yd⟩, yl⟩).mono ?_
  · rintro k v W ⟨⟨hi, hd⟩, hl⟩ hk hr
    have hlt : w.heap.size + 1 < W.heap.size := (Array.getElem?_eq_some_iff.1 hl).1
    have hy := run_yield (P := P) (args := enc k v) hl (by rw [hL]; exact hps k v)
    rw [hL] at hy
    refine ⟨fn, _, assign, body, hy, roundIn_of_wpIn hfn (hassign _ k v W _ ⟨_, run_beginRound hl (by rw [hL]), ?_⟩)⟩
    obtain ⟨B, hB⟩ : ∃ B, (W.putObj (w.heap.size + 1) (.loop { L .ready none with state := .busy })) = B := ⟨_, rfl⟩
    have bl : B.heap[w.heap.size + 1]? = some (.loop { L .ready none with state := .busy }) := by rw [← hB]; exact World.putObj_heap_same hlt
    have bd : B.heap[w.heap.size]? = some (.deferred (some [])) := by rw [← hB, World.putObj_heap_other (by omega)]; exact hd
    have bI : I k B := by rw [← hB]; exact hI.putObj _ hi (by omega) hl rfl
    have bR : Rd k v B := by rw [← hB]; exact (hRs v).putObj (s := k) _ hr (by omega) hl rfl
    rw [hB]
    have out : ∀ (j : Option Code) (W3 : World), KeepsFrom w.heap.size B W3 → ∃ W4, (Instr.endRound (w.heap.size + 1) j).run P W3 = .ok (.bool j.isNone) W4 ∧ W4.heap[w.heap.size]? = some (.deferred (some [])) ∧ W4.heap[w.heap.size + 1]? = some (.loop (L (if j.isNone then .ready else .done) j)) ∧
        (∀ k', I k' W3 → I k' W4) ∧ (X W3 → X W4) := by
      intro j W3 hk3
      have l3 := hk3.same _ _ (by omega) bl rfl
      have e3 := run_endRound (P := P) j l3
      rw [hL] at e3 l3 ⊢
      exact ⟨_, e3, (World.putObj_heap_other (by omega)).trans (hk3.same _ _ (Nat.le_refl _) bd rfl), World.putObj_heap_same (Array.getElem?_eq_some_iff.1 l3).1, fun k' h => hI.putObj _ h (by omega) l3 rfl, fun h => hX.putObj (s := ()) _ h (by omega) l3 rfl⟩
    refine wpIn_mono (hbody _ k v B bI hk bR) ?_
    intro e a3 W3 hp
    cases e with
    | normal =>
      obtain ⟨W4, e4, d4, l4, i4, _⟩ := out none W3 hp.1
      exact ⟨_, _, e4, .inl ⟨rfl, ⟨i4 _ hp.2, d4⟩, l4⟩⟩
    | ret =>
      obtain ⟨W4, e4, d4, l4, _, x4⟩ := out (some .ret) W3 hp.1
      exact ⟨_, _, e4, .inr ⟨rfl, ⟨x4 hp.2, d4⟩, l4⟩⟩
    | exit id => exact hp.elim
    | goto t => exact hp.elim
    | panic ch => exact hp.elim
    | outgrown => exact hp.elim
  · rintro e W2 ⟨⟨v, rfl⟩, (⟨⟨hi, hd⟩, hl⟩ | ⟨⟨hx, hd⟩, hl⟩)⟩
    · have e2 := run_endLoop (P := P) hl (by rw [hL]; simp)
      rw [hL] at e2
      exact ⟨none, _, e2, hdone _ _ (Nat.le_refl _) (hI.putObj _ hi (by omega) hl rfl) ((World.putObj_heap_other (by omega)).trans hd)⟩
    · have e2 := run_endLoop (P := P) hl (by rw [hL]; simp)
      rw [hL] at e2
      exact ⟨some .ret, _, e2, hstop _ _ (Nat.le_refl _) (hX.putObj (s := ()) _ hx (by omega) hl rfl) ((World.putObj_heap_other (by omega)).trans hd)⟩
end
/-- what is read in round k of a walk from the end on -/
def ReadBack (A : Option Addr) (len k : Nat) (v : Value) (W : World) : Prop := ∃ ad, A = some ad ∧ W.cell? (ad.add (len - 1 - k)) = some v
def encBack (len k : Nat) (v : Value) : Array Value := #[.int .i64 ((len - 1 - k : Nat) : Int), v]
theorem readBack_own (B : Nat) (A : Option Addr) (len : Nat) (v : Value) : OwnFrom B (fun k W => ReadBack A len k v W) := fun k W W' row h hg hr => by
  obtain ⟨ad, e, hc⟩ := h
  exact ⟨ad, e, cell_kept hc hg (fun r e => (hr r e).2)⟩
end Go.Proofs.YtpcmbmabmfghkaaDoor

/- The contract of Eval: the value at x, by Horner's rule; and nothing that lay has turned. -/
import Derived.Test.YtkolmppfhpcdpaaDoorPolyB
import Derived.Test.YtkolmppfhpcdpaaDoorBackB
namespace Go.Proofs.YtkolmppfhpcdpaaDoor
open Go.RowKit Go.Shelf
attribute [local go_sem] Oper.semAt_some
set_option linter.unusedVariables false
set_option maxRecDepth 100000
namespace Po
def ev (x : UInt8) (pre : List (Nat × UInt8)) : UInt8 := pre.foldl (fun v p => Gf.gmul v x ^^^ p.2) 0
theorem ev_snoc (x : UInt8) (pre : List (Nat × UInt8)) (p : Nat × UInt8) : ev x (pre ++ [p]) = Gf.gmul (ev x pre) x ^^^ p.2 := by simp [ev]
/-- P4.3 -/
def eval (l : List UInt8) (x : UInt8) : UInt8 := l.reverse.foldl (fun v c => Gf.gmul v x ^^^ c) 0
theorem back_rev (zs : List UInt8) : (backB zs zs.length).map (·.2) = zs.reverse := by
  apply List.ext_getElem
  · simp [backB]
  · intro i h1 h2
    simp [backB] at h1 h2 ⊢
    rw [List.getElem?_eq_getElem (by omega)]
    rfl
theorem ev_all (zs : List UInt8) (x : UInt8) : ev x (backB zs zs.length) = eval zs x := by
  unfold ev eval
  rw [← back_rev, List.foldl_map]
end Po

set_option maxHeartbeats 2000000 in
theorem eval_in (F : Fence) (n : Nat) (h3 : F.fn 15) (h5 : F.fn 31) (h7 : F.fn 49) (h9 : F.fn 32) (hro : F.round = none) (hn : 3 ≤ n)
    (hmul : ∀ (m : Nat) (a c : UInt8) (w : World), CallsIn F m Tryd.prog 32 #[.int .u8 (a.toNat : Int), .int .u8 (c.toNat : Int)] w fun e w' => e = .returned (.int .u8 ((Gf.gmul a c).toNat : Int)) ∧ w = w')
    (A : Option Addr) (len cap : Nat) (zs : List UInt8) (x : UInt8) (hz : zs.length = len) (hreach : len ≤ 140737488351232) (w : World) (hI : Sl w w.heap.size A (bys zs)) :
    CallsIn F n Tryd.prog 15 #[.slice A len cap, .int .u8 (x.toNat : Int)] w fun e W' => e = .returned (.int .u8 ((Po.eval zs x).toNat : Int)) ∧ Below w.heap.size w W' := by
  have h1 : 1 ≤ n := by omega
  refine callsIn_of_wp_marks Tryd.func15 rfl h3 ?_ hro
  simp only [Tryd.ntmps15, List.size_toArray, List.length_cons, List.length_nil, Nat.reduceAdd, Nat.reduceSub, Array.replicate_succ, Array.replicate_zero, List.push_toArray, List.append_toArray, List.nil_append, List.cons_append]
  gi_wp2_with (gi_at_call 31; refine (backB_in F (n - 1) h5 hro _ _ _ _).mono ?_; rintro e w' ⟨rfl, rfl⟩)
  have bX := Boxed.new w 5 (.int .u8 (x.toNat : Int))
  have bV := Boxed.new (w.alloc (.cells #[.int .u8 (x.toNat : Int)] 5)) 5 (.int .u8 0)
  have bN := Boxed.new ((w.alloc (.cells #[.int .u8 (x.toNat : Int)] 5)).alloc (.cells #[.int .u8 0] 5)) 27 (.slice A len cap)
  simp only [World.size_alloc] at bV bN
  have hB0 : Below w.heap.size w (((w.alloc (.cells #[.int .u8 (x.toNat : Int)] 5)).alloc (.cells #[.int .u8 0] 5)).alloc (.cells #[.slice A len cap] 27)) := (((Below.refl _ w).alloc (Nat.le_refl _) _).alloc (by simp) _).alloc (by simp; omega) _
  refine wpIn_rangeFunc_ownG hro h1 (gf := 49) (lb := #[.pointer (some ⟨w.heap.size + 1 + 1, 0, none⟩)]) rfl h7 (enters_of Tryd.func49 (by kernel_rfl) rfl)
    (backB_stops F (n - 1) h7 hro (by omega) (w.heap.size + 1 + 1) w.heap.size len cap A zs hz hreach _ (by simp) (by simp; omega) bN.cell (hI.below hB0)) KpBox.trans (kpBox_b (by simp; omega) (by simp)) (Below.refl _ _) (fun _ => rfl)
    (fun pre W => (W.cell? ⟨w.heap.size, 0, none⟩ = some (.int .u8 (x.toNat : Int)) ∧ W.cell? ⟨w.heap.size + 1, 0, none⟩ = some (.int .u8 ((Po.ev x pre).toNat : Int)) ∧ W.frozen? ⟨w.heap.size + 1, 0, none⟩ = false) ∧ Below w.heap.size w W)
    (fun _ _ _ => False)
    (OwnFrom.and (Own.from (fun s A B row hs hg hr => ⟨cell_kept hs.1 hg hr, cell_kept hs.2.1 hg hr, (frozen_kept hs.2.1 hg hr).trans hs.2.2⟩) _) (ownFrom_below (Nat.le_refl _) (by simp; omega)))
    (fun _ _ _ _ _ hs _ _ => hs)
    ⟨⟨((bX.alloc _).alloc _).cell, (bV.alloc _).cell, (bV.alloc _).frozen⟩, hB0⟩
    (fun p => { tmps := #[.slice A len cap, .int .u8 (x.toNat : Int), undef, .pointer (some ⟨w.heap.size, 0, none⟩), .int .u8 0, .pointer (some ⟨w.heap.size + 1, 0, none⟩), undef, .int .u8 (p.2.toNat : Int), .slice A len cap, .func (.func 49) #[] #[.pointer (some ⟨w.heap.size + 1 + 1, 0, none⟩)], .int .i64 (p.1 : Int), .int .u8 (p.2.toNat : Int), undef, undef, undef, undef, undef, undef], defers := [] }) ?assign ?body ?done ?stop
  case assign =>
    intro l p W K hK
    dsimp only [encPB]
    gi_wp2
    exact hK
  case body =>
    rintro l pre p W ⟨⟨hc0, hc, hf⟩, hB⟩ _
    obtain ⟨z, hx, HX⟩ := xor_ex (Gf.gmul (Po.ev x pre) x) p.2
    have hn1 : 1 ≤ n - 1 - 1 := by omega
    have hHX := Lib.hid hmul
    clear hmul
    gi_wp2_with (gi_at_call 32; refine (CallsIn.inRound l (hHX.out _ _ _ _)).mono ?_; rintro e w' ⟨rfl, rfl⟩)
    refine ⟨(KeepsOthers.setCell _ _ _).from _, ⟨(Below.refl w.heap.size W).setCell (p := ⟨w.heap.size + 1, 0, none⟩) (by simp) _, Below.heap_setCell _ _ _ _ (by simp)⟩, ⟨?_, ?_, by rw [World.frozen?_setCell]; exact hf⟩, hB.setCell (p := ⟨w.heap.size + 1, 0, none⟩) (by simp) _⟩
    · rw [World.cell?_setCell_other _ _ _ _ (by simp)]
      exact hc0
    · rw [Po.ev_snoc, ← HX.out]
      exact World.cell?_setCell_same' _ _ _ (by rw [hc]; rfl)
  case done =>
    rintro D ys W hD rfl ⟨⟨_, hc, _⟩, hB⟩ hK
    gi_wp2
    refine ⟨by simp, .inl ⟨_, _, rfl, run_takeDeferred hK, ?_⟩⟩
    exact ⟨_, results_tmp rfl _ _ _, by simp only [← hz, Po.ev_all]; rfl, hB.trans (belowK_b (w := w) (Nat.le_refl _) W D _ _ (by simp at hD; omega) hK rfl rfl)⟩
  case stop =>
    rintro D c pre W _ _ h _
    exact h.elim
theorem eval_any (A : Option Addr) (len cap : Nat) (zs : List UInt8) (x : UInt8) (hz : zs.length = len) (hreach : len ≤ 140737488351232) (w : World) (hI : Sl w w.heap.size A (bys zs)) :
    Calls Tryd.prog 15 #[.slice A len cap, .int .u8 (x.toNat : Int)] w fun e W' => e = .returned (.int .u8 ((Po.eval zs x).toNat : Int)) ∧ Below w.heap.size w W' :=
  (callsIn_wide (n := 3)).1 (eval_in Fence.wide 3 trivial trivial trivial trivial rfl (Nat.le_refl _) (fun m a c w => callsIn_wide.2 (mul_any a c w)) A len cap zs x hz hreach w hI)
theorem eval_at (A : Option Addr) (len cap B : Nat) (zs : List UInt8) (x : UInt8) (xv : Int) (hx : xv = (x.toNat : Int)) (hz : zs.length = len) (hreach : len ≤ 140737488351232) (w : World) (hI : Sl w B A (bys zs)) (hB : B ≤ w.heap.size) :
    Calls Tryd.prog 15 #[.slice A len cap, .int .u8 xv] w fun e W' => e = .returned (.int .u8 ((Po.eval zs x).toNat : Int)) ∧ Below w.heap.size w W' := by
  subst hx
  exact eval_any A len cap zs x hz hreach w (hI.more hB)
namespace Po
/-- P4.3: the elements below k at which l is 0 -/
def rootsTo (l : List UInt8) : Nat → List UInt8
  | 0 => []
  | k + 1 => if eval l (UInt8.ofNat k) = 0 then rootsTo l k ++ [UInt8.ofNat k] else rootsTo l k
def rootsR (l : List UInt8) : List UInt8 := if vld l && decide (0 < l.length) then rootsTo l 256 else []
theorem rootsTo_le (l : List UInt8) : ∀ k, (rootsTo l k).length ≤ k := by
  intro k
  induction k with
  | zero => exact Nat.le_refl _
  | succ k ih =>
    rw [rootsTo]
    split
    · rw [List.length_append]
      exact Nat.succ_le_succ ih
    · omega
end Po
end Go.Proofs.YtkolmppfhpcdpaaDoor

/- what more is needed -/
import Derived.Test.YtnplaejlmbncfaaDoorZ11
import Derived.Test.YtnplaejlmbncfaaDoorZ13
import Derived.WalkKit
import Derived.WalkLawsBesides
import Derived.WalkSpells
import Derived.Lib.Hide
import Derived.Laws.BitsAllLaws
import Derived.Deep.QuietTactic
import Derived.BigQuiet
import Derived.Below
import Derived.OwnWalk
import Derived.Laws.OwnMore
import Derived.Laws.Rows
import Derived.Deep.AppendLies
import Derived.Maps.AppendAt
import Derived.Test.YtnplaejlmbncfaaDoorChecked
import Derived.StillTailTactics
import Derived.RangeFuncNested
import Derived.RangeFuncBound
import Derived.RangeFuncCalls
import Derived.RangeFuncLeaves
import Derived.RangeFuncBox
import Derived.RangeFuncWrites
import Derived.Shelf.Abstract
import Derived.Shelf.RegionOpen
import Derived.OwnWalkIn
import Derived.TacticsInMore
import Derived.LoopNIn
import Derived.LoopIn
import Derived.Outline
import Derived.Deep.Cut
import Derived.RegionIn
import Derived.Lib.IndexBytes
import Derived.Lib.BufferRead
import Derived.RegionTactic
import Derived.ChangeAlike
import Derived.Deep.RegionWith
import Derived.StillTail
import Derived.Lib.QuietBelow
import Derived.Lib.AppendZeros
import Derived.BigRegion
import Derived.ProofKit
import Derived.OpenShut
import Derived.Carry
namespace Go.Proofs.YtnplaejlmbncfaaDoor
namespace Gf
theorem gmul_mul4 (a c d e : UInt8) : gmul (gmul a c) (gmul d e) = gmul (gmul a d) (gmul c e) := by
  rw [gmul_assoc, gmul_assoc, ← gmul_assoc c, ← gmul_assoc d, gmul_comm c d]
theorem mul_gpow (a c : UInt8) (n : Nat) : gpow (gmul a c) n = gmul (gpow a n) (gpow c n) := by
  induction n with
  | zero => exact (gmul_one 1).symm
  | succ n ih => show gmul (gpow _ n) _ = gmul (gmul _ a) (gmul _ c); rw [ih, gmul_mul4]
end Gf
end Go.Proofs.YtnplaejlmbncfaaDoor

namespace Go.Proofs.YtnplaejlmbncfaaDoor
open Go.RowKit
set_option linter.unusedVariables false
set_option maxRecDepth 100000
theorem u8_ne' {a c : UInt8} (h : a ≠ c) : ((a.toNat : Int) != (c.toNat : Int)) = true := by
  rw [bne_iff_ne]
  intro e
  exact h (UInt8.toNat_inj.1 (by omega))
end Go.Proofs.YtnplaejlmbncfaaDoor

namespace Go.Proofs.YtnplaejlmbncfaaDoor
namespace Po
open Gf
theorem shift_congr {f g : Nat → UInt8} (h : ∀ i, f i = g i) (n : Nat) : shift f n = shift g n := by
  cases n with
  | zero => rfl
  | succ n => exact h n
theorem cv_assoc (p : List UInt8) (g h : Nat → UInt8) : ∀ n, cv (co p) (cv g h) n = cv (cv (co p) g) h n := by
  induction p with
  | nil =>
    intro n
    rw [cv_nil, cv_congr (f' := fun _ => 0) (g' := h) (fun i => cv_nil g i) (fun _ => rfl)]
    exact (cv_nil h n).symm
  | cons a p ih =>
    intro n
    rw [cv_cons, cv_congr (f' := fun i => gmul a (g i) ^^^ shift (cv (co p) g) i) (g' := h) (fun i => cv_cons a p g i) (fun _ => rfl), cv_add_left, cv_mul_left, cv_shift_left]
    congr 1
    exact shift_congr ih n

end Po
end Go.Proofs.YtnplaejlmbncfaaDoor

namespace Go.Proofs.YtnplaejlmbncfaaDoor
namespace Sy
open Gf
set_option linter.unusedVariables false
/-- no row is left for a column: something solves all equations without their right side -/
theorem stuck {rows : List (List UInt8)} {c w : Nat} (hw : Wid rows (w + 1)) (hcw : c < w) (hu : Uni rows c) (h0 : ∀ k, k < rows.length → c ≤ k → wd (rw_ rows k) c = 0) : ∃ y : Nat → UInt8, Ker rows (w + 1) y ∧ y w = 0 ∧ y c = 1 := by
  refine ⟨fun j => if j = c then 1 else if j < c then wd (rw_ rows j) c else 0, fun k hk => ?_, ?_, ?_⟩
  · unfold dot
    rcases Nat.lt_or_ge k c with h | h
    · rw [ls_two (a := k) (b := c) (by omega) (by omega) (by omega) (fun j hj h1 h2 => ?_)]
      · dsimp only
        rw [if_neg (by omega), if_pos h, if_pos rfl, hu k h k hk, if_pos rfl, one_gmul, gmul_one, UInt8.xor_self]
      · dsimp only
        rw [if_neg h2]
        rcases Nat.lt_or_ge j c with h3 | h3
        · rw [hu j h3 k hk, if_neg (fun e => h1 e.symm), zero_gmul]
        · rw [if_neg (by omega), gmul_zero]
    · refine ls_zero fun j hj => ?_
      dsimp only
      by_cases h1 : j = c
      · rw [h1, h0 k hk h, zero_gmul]
      · rw [if_neg h1]
        rcases Nat.lt_or_ge j c with h3 | h3
        · rw [hu j h3 k hk, if_neg (by omega), zero_gmul]
        · rw [if_neg (by omega), gmul_zero]
  · show (if w = c then (1 : UInt8) else if w < c then _ else 0) = 0
    rw [if_neg (by omega), if_neg (by omega)]
  · exact if_pos rfl
theorem elim_some {rows : List (List UInt8)} {w : Nat} (hw : Wid rows (w + 1)) (hk : ∀ y, Ker rows (w + 1) y → y w = 0 → ∀ j, j < w → y j = 0) : ∀ c, c ≤ w → ∃ R, elim rows c = some R := by
  intro c
  induction c with
  | zero => exact fun _ => ⟨rows, rfl⟩
  | succ c ih =>
    intro hc
    obtain ⟨R', e1⟩ := ih (by omega)
    have H := elim_ok hw c (by omega) R' e1
    unfold elim
    rw [e1]
    dsimp only
    cases e2 : piv c R' with
    | some p => exact ⟨_, rfl⟩
    | none =>
      exfalso
      obtain ⟨y, h1, h2, h3⟩ := stuck H.wid (by omega) H.uni (piv_none e2)
      have := hk y ((H.ker y).1 h1) h2 c (by omega)
      rw [h3] at this
      exact one_ne this
/-- where there is just one solution, it is given back -/
theorem solve_one {rows : List (List UInt8)} {w : Nat} (hw : Wid rows (w + 1)) (hk : ∀ y, Ker rows (w + 1) y → y w = 0 → ∀ j, j < w → y j = 0) {y : Nat → UInt8} (hy : Ker rows (w + 1) y) (h1 : y w = 1) : ∃ x, solve rows w = some x ∧ x.length = w ∧ ∀ j, j < w → wd x j = y j := by
  obtain ⟨R, e⟩ := elim_some hw hk w (Nat.le_refl _)
  have H := elim_ok hw w (Nat.le_refl _) R e
  have hl : w ≤ R.length := by rcases H.le with h | h <;> omega
  have hyR := (H.ker y).2 hy
  have hb : badR R w = false := bad_false.2 fun k hk h => by
    have := hyR k hk
    rwa [dot_low H.uni hk h, h1, gmul_one] at this
  refine ⟨outR R w, by unfold solve; rw [e]; dsimp only; rw [hb, if_neg (by simp)], by unfold outR; rw [List.length_map, List.length_take]; omega, fun j hj => ?_⟩
  have := hyR j (by omega)
  rw [dot_unit H.uni (by omega) hj, h1, gmul_one] at this
  rw [wd_out hj (by omega)]
  exact (UInt8.xor_eq_zero_iff.1 this).symm
end Sy
end Go.Proofs.YtnplaejlmbncfaaDoor

namespace Go.Proofs.YtnplaejlmbncfaaDoor
namespace Sy
open Gf Po
set_option linter.unusedVariables false
/-- no recursion of less than this length makes the list -/
theorem bm_min (s : List UInt8) (lam : List UInt8) (v K : Nat) (h1 : co lam 0 = 1) (hd : ∀ i, v < i → co lam i = 0) (hg : ∀ j, v ≤ j → j < K → cv (co lam) (co s) j = 0) : ∀ k, k ≤ K → (bm s k).len ≤ v := by
  intro k
  induction k with
  | zero => exact fun _ => Nat.zero_le _
  | succ k ih =>
    intro hk
    have h := bi_all s k
    have hl := ih (by omega)
    show (bmStep s k (bm s k)).len ≤ v
    unfold bmStep
    by_cases h0 : disc (bm s k).now s k = 0
    · rw [if_pos h0]; exact hl
    · rw [if_neg h0]
      by_cases h2 : k < 2 * (bm s k).len
      · rw [if_pos h2]; exact hl
      · rw [if_neg h2]
        show k + 1 - (bm s k).len ≤ v
        rcases Nat.lt_or_ge v (k + 1 - (bm s k).len) with h3 | h3
        · exfalso
          apply h0
          rw [disc_cv]
          have e1 : cv (co (bm s k).now) (cv (co lam) (co s)) k = 0 := by
            unfold cv
            rw [sumX_congr (g := fun _ => 0) (fun i hi => ?_), sumX_zero]
            rcases Nat.lt_or_ge (bm s k).len i with h4 | h4
            · rw [h.deg i h4, zero_gmul]
            · have : sumX (fun i_1 => gmul (co lam i_1) (co s (k - i - i_1))) (k - i + 1) = 0 := hg (k - i) (by omega) (by omega)
              rw [this, gmul_zero]
          have e2 : cv (co (bm s k).now) (cv (co lam) (co s)) k = cv (co lam) (cv (co (bm s k).now) (co s)) k := by
            rw [cv_assoc, cv_assoc]
            exact cv_congr (fun i => cv_comm _ _ i) (fun _ => rfl) k
          have e3 : cv (co lam) (cv (co (bm s k).now) (co s)) k = cv (co (bm s k).now) (co s) k := by
            show sumX _ (k + 1) = _
            rw [sumX_single _ (k + 1) 0 (by omega) (fun i hi hne => ?_), Nat.sub_zero, h1, one_gmul]
            rcases Nat.lt_or_ge v i with h4 | h4
            · rw [hd i h4, zero_gmul]
            · rw [h.gen (k - i) (by omega) (by omega), gmul_zero]
          rw [← e3, ← e2, e1]
        · exact h3
end Sy
end Go.Proofs.YtnplaejlmbncfaaDoor

namespace Go.Proofs.YtnplaejlmbncfaaDoor
namespace Sy
open Gf Po
set_option linter.unusedVariables false
theorem ls_sumX (g : Nat → Nat → UInt8) (T : List Nat) : ∀ N, sumX (fun i => ls (g i) T) N = ls (fun t => sumX (fun i => g i t) N) T := by
  intro N
  induction N with
  | zero => exact (ls_zero fun _ _ => rfl).symm
  | succ N ih =>
    show sumX _ N ^^^ _ = _
    rw [ih, ← ls_add]
    rfl
theorem gpow_inv {x : UInt8} (hx : x ≠ 0) (i : Nat) : gmul (gpow x i) (gpow (ginv x) i) = 1 := by
  rw [← mul_gpow, gmul_inv x hx, one_gpow]
theorem rv_eval {C : List UInt8} {L : Nat} (hl : C.length ≤ L + 1) {x : UInt8} (hx : x ≠ 0) : rv C L x = gmul (gpow x L) (Po.eval C (ginv x)) := by
  rw [← ev_co C (ginv x) (L + 1) hl]
  unfold ev' rv
  rw [← sumX_mul]
  refine sumX_congr fun i hi => ?_
  have e : gpow x L = gmul (gpow x (L - i)) (gpow x i) := by rw [← gpow_add]; congr 1; omega
  rw [e, gmul_comm (co C i) (gpow (ginv x) i), ← gmul_assoc, gmul_assoc (gpow x (L - i)), gpow_inv hx, gmul_one, gmul_comm]
theorem cv_rv {C U : List UInt8} {L M : Nat} {f X : Nat → UInt8} {T : List Nat} (hd : ∀ i, L < i → co C i = 0) (hU : ∀ k, k < M → co U k = ls (fun t => gmul (f t) (gpow (X t) k)) T) {j : Nat} (hL : L ≤ j) (hj : j < M) :
    cv (co C) (co U) j = ls (fun t => gmul (gmul (f t) (rv C L (X t))) (gpow (X t) (j - L))) T := by
  unfold cv
  rw [sumX_to _ (j + 1) (L + 1) (fun i h1 h2 => by omega) (fun i h1 h2 => by rw [hd i (by omega), zero_gmul])]
  rw [sumX_congr (g := fun i => ls (fun t => gmul (gmul (f t) (gpow (X t) (j - L))) (gmul (co C i) (gpow (X t) (L - i)))) T) (fun i hi => by
    rw [hU (j - i) (by omega), ← ls_mul]
    refine ls_congr fun t _ => ?_
    rw [show j - i = (j - L) + (L - i) by omega, gpow_add, ← gmul_assoc (f t), gmul_comm (co C i), gmul_assoc, gmul_comm (gpow (X t) (L - i))]), ls_sumX]
  refine ls_congr fun t _ => ?_
  rw [sumX_mul]
  show gmul (gmul (f t) (gpow (X t) (j - L))) (rv C L (X t)) = _
  rw [gmul_assoc, gmul_comm (gpow _ _), ← gmul_assoc]
/-- the polynomial with these roots turned -/
def lam (X : Nat → UInt8) : List Nat → List UInt8
  | [] => [1]
  | p :: ps => mulV (lam X ps) [1, X p]
theorem lam_len (X : Nat → UInt8) : ∀ ps, (lam X ps).length = ps.length + 1 := by
  intro ps
  induction ps with
  | nil => rfl
  | cons p ps ih =>
    show (mulV (lam X ps) [1, X p]).length = _
    rw [mulV_pos _ _ (by omega) (by simp)]
    unfold mulA
    rw [mulTo_length, ih]
    simp
theorem lam_zero (X : Nat → UInt8) : ∀ ps, co (lam X ps) 0 = 1 := by
  intro ps
  induction ps with
  | nil => rfl
  | cons p ps ih =>
    show co (mulV (lam X ps) [1, X p]) 0 = 1
    rw [co_mulV]
    show 0 ^^^ gmul (co (lam X ps) 0) 1 = 1
    rw [ih, gmul_one]; rfl
theorem lam_root (X : Nat → UInt8) : ∀ ps, ∀ p ∈ ps, X p ≠ 0 → Po.eval (lam X ps) (ginv (X p)) = 0 := by
  intro ps
  induction ps with
  | nil => intro p hp; cases hp
  | cons q ps ih =>
    intro p hp hx
    show Po.eval (mulV (lam X ps) [1, X q]) _ = 0
    rw [eval_mulV]
    rcases List.mem_cons.1 hp with rfl | hp
    · have : Po.eval [1, X p] (ginv (X p)) = 0 := by
        rw [eval_cons, eval_cons, eval_nil, zero_gmul, UInt8.zero_xor, gmul_inv _ hx, UInt8.xor_self]
      rw [this, gmul_zero]
    · rw [ih p hp hx, zero_gmul]
/-- the shortest recursion of the sums has just the places as roots -/
theorem shortest_roots {n M : Nat} (hn : n ≤ 255) {U : List UInt8} (hM : U.length = M) {f : Nat → UInt8} {T : List Nat} (hT : T.Nodup) (hlt : ∀ p ∈ T, p < n) (hf : ∀ p ∈ T, f p ≠ 0) (hU : ∀ k, k < M → wd U k = ls (fun t => gmul (f t) (gpow (loc n t) k)) T) (h2 : 2 * T.length ≤ M) (hM2 : M ≤ 254) :
    (shortest U).length = T.length + 1 ∧ ∀ p, p < n → (rootAt (shortest U) n p = true ↔ p ∈ T) := by
  have hB := bi_all U U.length
  obtain ⟨s1, s2, s3⟩ := shortest_ok U
  have hU' : ∀ k, k < M → co U k = ls (fun t => gmul (f t) (gpow (loc n t) k)) T := hU
  have hmin : (bm U U.length).len ≤ T.length := by
    refine bm_min U (lam (loc n) T) T.length M (lam_zero _ _) (fun i hi => co_big _ _ (by rw [lam_len]; omega)) (fun j h3 h4 => ?_) U.length (by omega)
    rw [cv_rv (L := T.length) (fun i hi => co_big _ _ (by rw [lam_len]; omega)) hU' h3 h4]
    refine ls_zero fun t ht => ?_
    rw [rv_eval (by rw [lam_len]; exact Nat.le_refl _) (loc_ne n t), lam_root (loc n) T t ht (loc_ne n t), gmul_zero, gmul_zero, zero_gmul]
  generalize hL : (bm U U.length).len = L at *
  have hroots : ∀ t ∈ T, rootAt (shortest U) n t = true := by
    have hv := vand (loc n) T (fun t => gmul (f t) (rv (shortest U) L (loc n t))) (List.Pairwise.imp_of_mem (fun {a b} ha hb hab e => hab (loc_inj hn (hlt a ha) (hlt b hb) e)) hT) (fun k hk => by
      have e := cv_rv (C := shortest U) (L := L) (fun i hi => by rw [s2, hB.deg i (by omega)]) hU' (j := L + k) (by omega) (by omega)
      rw [Nat.add_sub_cancel_left] at e
      rw [← e, cv_congr s2 (fun _ => rfl)]
      exact hB.gen (L + k) (by omega) (by omega))
    intro t ht
    rcases (gmul_eq_zero _ _).1 (hv t ht) with h | h
    · exact absurd h (hf t ht)
    · rw [rv_eval (by omega) (loc_ne n t)] at h
      rcases (gmul_eq_zero _ _).1 h with h | h
      · exact absurd h (gpow_ne _ (loc_ne n t) _)
      · unfold rootAt; rw [h]; rfl
  have hle := root_count hn s1 (by omega) s3 hT hlt hroots
  have hLT : L = T.length := by omega
  refine ⟨by rw [s1, hLT], fun p hp => ⟨fun h => ?_, hroots p⟩⟩
  by_cases hm : p ∈ T
  · exact hm
  · exfalso
    have := root_count hn s1 (by omega) s3 (P := p :: T) (List.nodup_cons.2 ⟨hm, hT⟩) (fun q hq => by
      rcases List.mem_cons.1 hq with rfl | hq
      · exact hp
      · exact hlt q hq) (fun q hq => by
      rcases List.mem_cons.1 hq with rfl | hq
      · exact h
      · exact hroots q hq)
    simp at this
    omega
end Sy
end Go.Proofs.YtnplaejlmbncfaaDoor

namespace Go.Proofs.YtnplaejlmbncfaaDoor
namespace Sy
open Gf
set_option linter.unusedVariables false
def prE (n : Nat) : List Nat → Nat → UInt8
  | [], _ => 1
  | p :: ps, i => gmul (loc n i ^^^ loc n p) (prE n ps i)
theorem prE_zero {n : Nat} : ∀ {E : List Nat} {i : Nat}, i ∈ E → prE n E i = 0 := by
  intro E
  induction E with
  | nil => intro i h; cases h
  | cons p E ih =>
    intro i h
    show gmul _ (prE n E i) = 0
    rcases List.mem_cons.1 h with rfl | h
    · rw [UInt8.xor_self, zero_gmul]
    · rw [ih h, gmul_zero]
theorem prE_ne {n : Nat} (hn : n ≤ 255) : ∀ {E : List Nat} {i : Nat}, (∀ p ∈ E, p < n) → i < n → i ∉ E → prE n E i ≠ 0 := by
  intro E
  induction E with
  | nil => intro i _ _ _; exact one_ne
  | cons p E ih =>
    intro i hE hi h
    refine gmul_ne _ _ (fun e => h ?_) (ih (fun q hq => hE q (List.mem_cons_of_mem _ hq)) hi fun hm => h (List.mem_cons_of_mem _ hm))
    rw [loc_inj hn hi (hE p List.mem_cons_self) (UInt8.xor_eq_zero_iff.1 e)]
    exact List.mem_cons_self
theorem strip_all {n : Nat} : ∀ (E : List Nat) (u : List UInt8) (D : Nat → UInt8), (∀ k, k < u.length → wd u k = dsyn D n k) → (stripAll n u E).length = u.length - E.length ∧ ∀ k, k < u.length - E.length → wd (stripAll n u E) k = dsyn (fun i => gmul (D i) (prE n E i)) n k := by
  intro E
  induction E with
  | nil => intro u D h; exact ⟨rfl, fun k hk => by rw [show stripAll n u [] = u from rfl, h k hk]; exact dsyn_congr fun i _ => (gmul_one _).symm⟩
  | cons p E ih =>
    intro u D h
    obtain ⟨h1, h2⟩ := ih (strip (loc n p) u) (fun i => gmul (D i) (loc n i ^^^ loc n p)) (fun k hk => by
      rw [strip_length] at hk
      rw [wd_strip _ _ hk, h (k + 1) (by omega), h k (by omega)]
      unfold dsyn
      rw [← ls_mul, ← ls_add]
      refine ls_congr fun i _ => ?_
      rw [gpow_add, gpow_one, gmul_comm (gpow _ _), ← gmul_assoc, ← gmul_assoc (loc n p), gmul_comm (loc n p), ← gmul_add', ← gmul_add])
    rw [strip_length] at h1 h2
    refine ⟨by rw [show stripAll n u (p :: E) = stripAll n (strip (loc n p) u) E from rfl, h1, List.length_cons]; omega, fun k hk => ?_⟩
    rw [List.length_cons] at hk
    rw [show stripAll n u (p :: E) = stripAll n (strip (loc n p) u) E from rfl, h2 k (by omega)]
    exact dsyn_congr fun i _ => gmul_assoc _ _ _
/-- no two near code words -/
theorem near_only {W V V' : List UInt8} {n m most : Nat} {E : List Nat} (hn : n ≤ 255) (hE : Ers E n m) (h2 : 2 * most + E.length ≤ m) (h : Near n m most E W V) (h' : Near n m most E W V') : V = V' := by
  refine wd_ext (by rw [h.len, h'.len]) fun i hi => ?_
  have hD := dist (D := fun i => wd V i ^^^ wd V' i) (n := n) (m := m) hn ?_ (fun k hk => by
    rw [dsyn_add]
    have e1 := syn_eq V k
    have e2 := syn_eq V' k
    rw [h.len] at e1
    rw [h'.len] at e2
    rw [← e1, ← e2, h.cw k hk, h'.cw k hk]; rfl) i (by have := h.len; omega)
  · exact UInt8.xor_eq_zero_iff.1 hD
  · unfold wt
    rw [List.countP_eq_length_filter]
    have a1 := h.few
    have a2 := h'.few
    have a3 : (List.filter (fun i => wd V i ^^^ wd V' i != 0) (List.range n)).length ≤ (List.filter (fun i => E.contains i || ((wd V i != wd W i) && !E.contains i || (wd V' i != wd W i) && !E.contains i)) (List.range n)).length := cnt_mono fun p hp hx => by
      cases he : E.contains p with
      | true => rfl
      | false =>
        simp only [Bool.false_or, Bool.not_false, Bool.and_true]
        rw [Bool.or_eq_true, bne_iff_ne, bne_iff_ne]
        rcases Classical.em (wd V p = wd W p) with e | e
        · right
          intro e'
          rw [e, e', UInt8.xor_self] at hx
          cases hx
        · exact .inl e
    have a4 := cnt_or (fun i => E.contains i) (fun i => (wd V i != wd W i) && !E.contains i || (wd V' i != wd W i) && !E.contains i) (List.range n)
    have a5 := cnt_or (fun i => (wd V i != wd W i) && !E.contains i) (fun i => (wd V' i != wd W i) && !E.contains i) (List.range n)
    have a6 : (List.filter (fun i => E.contains i) (List.range n)).length = E.length := congrArg List.length (ers_eq hE)
    unfold oth at a1 a2
    refine Nat.le_trans a3 ?_
    omega
/-- a near code word is found -/
theorem dec_complete {W V : List UInt8} {n m fix : Nat} {E : List Nat} (hn : n ≤ 255) (hm : m ≤ 250) (hl : W.length = n) (hE : Ers E n m) (h : Near n m (min fix ((m - E.length) / 2)) E W V) : decM m fix W E ≠ (2, [], []) := by
  unfold decM
  cases hc : isClean (synL W m) with
  | true => rw [if_pos rfl]; intro e; cases e
  | false =>
    rw [if_neg (by simp), hl]
    have hle := hE.le
    have hmost : 2 * min fix ((m - E.length) / 2) ≤ m - E.length := by omega
    generalize min fix ((m - E.length) / 2) = most at *
    -- what is wrong
    have hD : ∀ k, k < m → wd (synL W m) k = dsyn (fun i => wd V i ^^^ wd W i) n k := fun k hk => by
      have e1 := syn_eq V k
      rw [h.len] at e1
      rw [dsyn_add, ← e1, h.cw k hk, UInt8.zero_xor, dsyn_at hl hk]
    obtain ⟨T, hT⟩ : ∃ T, T = (List.range n).filter fun i => (wd V i != wd W i) && !E.contains i := ⟨_, rfl⟩
    have hTl : T.length ≤ most := by rw [hT]; exact h.few
    have hTm : ∀ i, i ∈ T ↔ i < n ∧ wd V i ≠ wd W i ∧ i ∉ E := fun i => by
      rw [hT, List.mem_filter, List.mem_range, Bool.and_eq_true, bne_iff_ne, Bool.not_eq_true', ← Bool.not_eq_true, List.contains_iff_mem]
    have hTa : Asc T := by rw [hT]; exact asc_filter _ _
    obtain ⟨u1, u2⟩ := strip_all E (synL W m) (fun i => wd V i ^^^ wd W i) (fun k hk => by rw [synL_length] at hk; exact hD k hk)
    rw [synL_length] at u1 u2
    obtain ⟨r1, r2⟩ := shortest_roots hn (M := m - E.length) u1 (f := fun i => gmul (wd V i ^^^ wd W i) (prE n E i)) (asc_nodup hTa) (fun p hp => ((hTm p).1 hp).1) (fun p hp => by
        obtain ⟨b1, b2, b3⟩ := (hTm p).1 hp
        exact gmul_ne _ _ (fun e => b2 (UInt8.xor_eq_zero_iff.1 e)) (prE_ne hn hE.lt b1 b3)) (fun k hk => by
        rw [u2 k hk]
        unfold dsyn
        rw [hT, ls_filter _ _ _ (fun p hp ht => ?_)]
        rw [Bool.and_eq_false_iff] at ht
        rcases ht with ht | ht
        · have e : wd V p = wd W p := by simpa using ht
          rw [e, UInt8.xor_self, zero_gmul, zero_gmul]
        · have e : p ∈ E := by rw [Bool.not_eq_false', List.contains_iff_mem] at ht; exact ht
          rw [prE_zero e, gmul_zero, zero_gmul]) (by omega) (by omega)
    have hroot : ((List.range n).filter fun p => rootAt (shortest (stripAll n (synL W m) E)) n p && !E.contains p) = T := asc_ext (asc_filter _ _) hTa fun p => by
      rw [List.mem_filter, List.mem_range, Bool.and_eq_true, Bool.not_eq_true', ← Bool.not_eq_true, List.contains_iff_mem]
      exact ⟨fun ⟨b1, b2, b3⟩ => (r2 p b1).1 b2, fun hp => ⟨((hTm p).1 hp).1, (r2 p ((hTm p).1 hp).1).2 hp, ((hTm p).1 hp).2.2⟩⟩
    have hlen := places_split (sg := shortest (stripAll n (synL W m) E)) hE
    rw [hroot] at hlen
    have hloc : locM (synL W m) n E most = some (placesOf (shortest (stripAll n (synL W m) E)) n E) := by
      unfold locM
      rw [if_neg (by omega), if_pos (by omega)]
    rw [hloc]
    dsimp only
    obtain ⟨P, hP⟩ : ∃ P, P = placesOf (shortest (stripAll n (synL W m) E)) n E := ⟨_, rfl⟩
    rw [← hP] at hlen ⊢
    have hPa : Asc P := by rw [hP]; exact asc_filter _ _
    have hPm : ∀ i, i ∈ P ↔ i < n ∧ (i ∈ E ∨ i ∈ T) := fun i => by
      rw [hP]
      unfold placesOf
      rw [List.mem_filter, List.mem_range, Bool.or_eq_true, List.contains_iff_mem]
      refine and_congr_right fun hi => or_congr_right (r2 i hi)
    have hPlt : ∀ j, j < P.length → pl P j < n := fun j hj => ((hPm _).1 (pl_mem hj)).1
    obtain ⟨x, hx, _⟩ := solve_one (rows := rows0 (synL W m) n P) (w := P.length) (wid_rows0 _ _ _) (fun y hy hy0 j hj => by
        refine vand (fun j => loc n (pl P j)) (List.range P.length) y ?_ (fun k hk => ?_) j (List.mem_range.2 hj)
        · refine List.Pairwise.imp_of_mem ?_ (pair_range P.length)
          intro a b ha hb hab e
          have ha := List.mem_range.1 ha
          have hb := List.mem_range.1 hb
          have := pl_inj hPa ha hb (loc_inj hn (hPlt a ha) (hPlt b hb) e)
          omega
        · rw [List.length_range] at hk
          have := hy k (by rw [rows0_length, synL_length]; omega)
          rw [dot_rows0 _ _ _ (by rw [synL_length]; omega), hy0, gmul_zero, UInt8.xor_zero] at this
          exact this) (y := fun j => if j = P.length then 1 else wd V (pl P j) ^^^ wd W (pl P j)) (fun k hk => by
        rw [rows0_length, synL_length] at hk
        rw [dot_rows0 _ _ _ (by rw [synL_length]; exact hk)]
        rw [if_pos rfl, gmul_one, hD k hk]
        have e : ls (fun j => gmul (if j = P.length then 1 else wd V (pl P j) ^^^ wd W (pl P j)) (gpow (loc n (pl P j)) k)) (List.range P.length) = dsyn (fun i => wd V i ^^^ wd W i) n k := by
          rw [ls_congr (g := fun j => gmul (wd V (pl P j) ^^^ wd W (pl P j)) (gpow (loc n (pl P j)) k)) (fun j hj => by have := List.mem_range.1 hj; rw [if_neg (by omega)]), ← ls_pl (fun i => gmul (wd V i ^^^ wd W i) (gpow (loc n i) k)) P]
          unfold dsyn
          have e2 : P = (List.range n).filter fun p => E.contains p || rootAt (shortest (stripAll n (synL W m) E)) n p := hP
          rw [e2, ls_filter _ _ _ (fun p hp ht => ?_)]
          rw [Bool.or_eq_false_iff] at ht
          have hpn := List.mem_range.1 hp
          have hpE : p ∉ E := fun hm => by rw [List.contains_iff_mem.2 hm] at ht; cases ht.1
          have hpT : p ∉ T := fun hm => by rw [(r2 p hpn).2 hm] at ht; cases ht.2
          have e3 : wd V p = wd W p := by
            rcases Classical.em (wd V p = wd W p) with e | e
            · exact e
            · exact absurd ((hTm p).2 ⟨hpn, e, hpE⟩) hpT
          rw [e3, UInt8.xor_self, zero_gmul]
        rw [e, UInt8.xor_self]) (if_pos rfl)
    rw [hx]
    dsimp only
    intro e
    cases e
/-- decoding finds the near code word -/
theorem dec_near {W V : List UInt8} {n m fix : Nat} {E : List Nat} (hn : n ≤ 255) (hm : m ≤ 250) (hl : W.length = n) (hE : Ers E n m) (h : Near n m (min fix ((m - E.length) / 2)) E W V) : decM m fix W E = (if V = W then 0 else 1, V, diff n V W) := by
  rcases dec_sound (fix := fix) hl hE with h1 | ⟨V', h1, h2⟩
  · exact absurd h1 (dec_complete hn hm hl hE h)
  · have hle := hE.le
    rw [near_only hn hE (by omega) h h1]
    exact h2
end Sy
end Go.Proofs.YtnplaejlmbncfaaDoor

namespace Go.Proofs.YtnplaejlmbncfaaDoor
open Go.RowKit
set_option linter.unusedVariables false
set_option maxRecDepth 100000

theorem Sl.nat {w : World} {B : Nat} {A : Option Addr} {l : List Nat} (h : Sl w B A (nats l)) {k : Nat} {b : Nat} (hk : l[k]? = some b) : ∃ ad, A = some ad ∧ ad.block < B ∧ w.cell? (ad.add k) = some (.int .i64 (b : Int)) := by
  have hlt := get_lt hk
  obtain ⟨ad, e, hb, hc⟩ := h (by rw [nats_length]; omega)
  exact ⟨ad, e, hb, hc k _ (by unfold nats; rw [List.getElem?_map, hk]; rfl)⟩
namespace Na
end Na
end Go.Proofs.YtnplaejlmbncfaaDoor

namespace Go.Proofs.YtnplaejlmbncfaaDoor
open Go.RowKit
set_option linter.unusedVariables false
set_option maxRecDepth 100000
def SameLoop (w : World) (p q : List UInt8) (n : Nat) (v : Value) (wr : World) : Prop := ∃ k j : Nat, k ≤ n ∧ v = .int .i64 (k : Int) ∧ wr = w.drewN j ∧ Hid (p.take k = q.take k)
theorem take_more (p q : List UInt8) (k : Nat) (b : UInt8) (h : p.take k = q.take k) (hp : p[k]? = some b) (hq : q[k]? = some b) : p.take (k + 1) = q.take (k + 1) := by
  rw [List.take_add_one, List.take_add_one, h, hp, hq]
theorem same_any (A A2 : Option Addr) (n c m c2 B : Nat) (p q : List UInt8) (w : World) (hn : p.length = n) (hm : q.length = m) (hp : Sl w B A (bys p)) (hq : Sl w B A2 (bys q))
    (hl : n ≤ 140737488355328) (hl2 : m ≤ 140737488355328) :
    Calls Tryd.prog 15 #[.slice A n c, .slice A2 m c2] w fun e w' => e = .returned (.bool (decide (p = q))) ∧ Below w.heap.size w w' := by
  by_cases hnm : n = m
  · subst hnm
    have hne : ((n : Int) != (n : Int)) = false := by simp
    have HN := Lib.hid hn
    have HM := Lib.hid hm
    clear hn hm
    go_enter Tryd.func15, Tryd.ntmps15
    go_wp2_with fail
    go_loopw [5] (fun v wr => SameLoop w p q n v wr) (fun v _ => n - (intOf v).toNat)
    case atStart => exact ⟨0, 0, Nat.zero_le _, rfl, rfl, rfl⟩
    case round =>
      obtain ⟨k, j, hk, rfl, rfl, HT⟩ := hrel
      rcases Nat.lt_or_ge k n with hkn | hkn
      · obtain ⟨b, hb⟩ := byte_at p k (by rw [HN.out]; exact hkn)
        obtain ⟨d, hd⟩ := byte_at q k (by rw [HM.out]; exact hkn)
        obtain ⟨ad, rfl, hbk, hc⟩ := hp.byte hb
        obtain ⟨ad2, rfl, hbk2, hc2⟩ := hq.byte hd
        have hi : (k : Int) < (n : Int) := by omega
        by_cases hbd : b = d
        · subst hbd
          have HT2 : Hid (p.take (k + 1) = q.take (k + 1)) := take_more p q k b HT.out hb hd
          clear hb hd hp hq
          go_wp2_with fail
          go_quiet (fail)
          go_wp2_with fail
          go_roundw
          case rel => exact ⟨k + 1, _, by omega, by go_num, rfl, HT2⟩
          case measure => simp [intOf]; omega
        · have hx := u8_ne' hbd
          have HE : Hid (decide (p = q) = false) := decide_eq_false (fun e => hbd (by rw [e, hd] at hb; exact (Option.some.inj hb).symm))
          clear hb hd hp hq hbd
          go_wp2_with fail
          go_quiet (fail)
          go_wp2_with fail
          go_ret
          exact ⟨ret_bool HE.out.symm, below_drewN (below_drewN (Below.refl _ _) _) _⟩
      · have HE : Hid (decide (p = q) = true) := decide_eq_true (by
          have h := HT.out
          rwa [List.take_of_length_le (by rw [HN.out]; omega), List.take_of_length_le (by rw [HM.out]; omega)] at h)
        clear hp hq
        go_wp2_with fail
        go_ret
        exact ⟨ret_bool HE.out.symm, below_drewN (Below.refl _ _) _⟩
  · have hne : ((n : Int) != (m : Int)) = true := by rw [bne_iff_ne]; omega
    have HE : Hid (decide (p = q) = false) := decide_eq_false (fun e => hnm (by rw [← hn, ← hm, e]))
    clear hp hq hn hm hnm
    go_enter Tryd.func15, Tryd.ntmps15
    go_wp2_with fail
    go_ret
    exact ⟨ret_bool HE.out.symm, Below.refl _ _⟩
end Go.Proofs.YtnplaejlmbncfaaDoor

namespace Go.Proofs.YtnplaejlmbncfaaDoor
open Go.RowKit
set_option linter.unusedVariables false
set_option maxRecDepth 100000
section
variable {w0 w w' : World} {g B : Nat} {M : List (Nat × Value)} {L : List Ob} {O : List Rw}
/-- bytes that the dice give -/
theorem bytes_ow (h : Ow w0 w (some g) M L O) (hd : Dice w g B) (n : Nat) (hn : n ≤ 140737488355328) :
    Calls Tryd.prog 10 #[.pointer (some ⟨g, 0, none⟩), .int .i64 (n : Int)] w fun e w' => ∃ (A : Option Addr) (c : Nat) (l : List UInt8), e = .returned (.slice A n c) ∧ l.length = n ∧ Ow w0 w' (some g) M L (O ++ [⟨A, n, c, 5, bys l⟩]) ∧ Dice w' g B :=
  (bytes_any g B n w hn hd).mono fun e w' ⟨A, c, l, he, hl, ho, hd', hg⟩ => ⟨A, c, l, he, hl, h.addG ho hg, hd'⟩
end
end Go.Proofs.YtnplaejlmbncfaaDoor

namespace Go.Proofs.YtnplaejlmbncfaaDoor
open Go.RowKit
set_option linter.unusedVariables false
set_option maxRecDepth 100000
section
variable {w0 w w' : World} {g : Option Nat} {M : List (Nat × Value)} {L L2 : List Ob} {O : List Rw}
theorem Ow.join (h : Ow w0 w g M L O) (h2 : Ow w0 w g M L2 O) : Ow w0 w g M (L ++ L2) O :=
  ⟨⟨h.st.below, h.st.lt, h.st.box, h.st.one, fun o ho => (List.mem_append.1 ho).elim (h.st.held o) (h2.st.held o)⟩, h.own, fun i r hi b hb => ⟨(h.ap i r hi b hb).1, (h.ap i r hi b hb).2.1, fun o ho => (List.mem_append.1 ho).elim ((h.ap i r hi b hb).2.2 o) ((h2.ap i r hi b hb).2.2 o)⟩, h.two⟩
end
end Go.Proofs.YtnplaejlmbncfaaDoor

namespace Go.Proofs.YtnplaejlmbncfaaDoor
open Go.RowKit
set_option linter.unusedVariables false
set_option maxRecDepth 100000
namespace Sy
/-- a place more may be wrong -/
theorem oth_any {n : Nat} {E : List Nat} {V W : List UInt8} (x : Nat) (c : UInt8) : oth n E V (W.set x c) ≤ oth n E V W + 1 := by
  have hx0 : ∀ {a b : Nat → Bool}, (∀ p, p ≠ x → a p = b p) → ((List.range n).filter b).length ≤ ((List.range n).filter a).length + 1 := by
    intro a b h
    have h1 : ((List.range n).filter b).length ≤ ((List.range n).filter fun p => a p || (p == x)).length := cnt_mono fun p _ hb => by
      by_cases e : p = x
      · simp [e]
      · rw [h p e, hb]; rfl
    have h2 := cnt_or a (fun p => p == x) (List.range n)
    have h3 : ((List.range n).filter fun p => p == x).length ≤ 1 := by
      rw [← List.countP_eq_length_filter]
      have : List.countP (fun p => p == x) (List.range n) = List.count x (List.range n) := rfl
      rw [this, List.Nodup.count List.nodup_range]
      split <;> omega
    omega
  unfold oth
  exact hx0 fun p hp => by rw [wd_set_ne (fun e => hp e.symm)]
end Sy
section
variable {w0 w w' : World} {g : Option Nat} {M : List (Nat × Value)} {L : List Ob} {O : List Rw} {n c gb k : Nat} {e : TypeId} {vs : List Value} {v : Value}
end
end Go.Proofs.YtnplaejlmbncfaaDoor

namespace Go.Proofs.YtnplaejlmbncfaaDoor
open Go.RowKit Go.Sort
set_option linter.unusedVariables false
set_option maxRecDepth 100000
/-- word[d.Next(n)] ^= byte(d.Next(256)) -/
def lwN (w : World) (g B gw nn cw : Nat) (O : Nat → UInt8 → List Rw) (k : Nat) (x : Value) (v : World) : Prop :=
  match k with
  | 0 => x = .slice (some ⟨gw, 0, none⟩) nn cw
  | 1 => x = .pointer (some ⟨g, 0, none⟩)
  | 2 => x = .int .i64 (nn : Int)
  | 3 => ∃ p : Nat, p < nn ∧ x = .int .i64 (p : Int)
  | 4 => ∃ p : Nat, p < nn ∧ x = .pointer (some ⟨gw, p, none⟩)
  | 5 => ∃ b : UInt8, x = .int .u8 (b.toNat : Int)
  | 6 => x = .pointer (some ⟨g, 0, none⟩)
  | 7 => ∃ b : UInt8, x = .int .i64 (b.toNat : Int)
  | 8 => ∃ b : UInt8, x = .int .u8 (b.toNat : Int)
  | 9 => ∃ b : UInt8, x = .int .u8 (b.toNat : Int)
  | 10 => ∃ p : Nat, p < nn ∧ x = .pointer (some ⟨gw, p, none⟩)
  | 11 => ∃ (p : Nat) (b : UInt8), p < nn ∧ Ow w v (some g) [] [] (O p b) ∧ Dice v g B
  | _ => True
theorem lwN_any {w : World} {g B gw nn cw : Nat} {O : Nat → UInt8 → List Rw} {v v' : World} : ∀ (k : Nat) (x : Value), k ≠ 11 → lwN w g B gw nn cw O k x v → lwN w g B gw nn cw O k x v'
  | 0, _, _, h => h
  | 1, _, _, h => h
  | 2, _, _, h => h
  | 3, _, _, h => h
  | 4, _, _, h => h
  | 5, _, _, h => h
  | 6, _, _, h => h
  | 7, _, _, h => h
  | 8, _, _, h => h
  | 9, _, _, h => h
  | 10, _, _, h => h
  | 11, _, h, _ => absurd rfl h
  | _ + 12, _, _, _ => trivial
section
variable {w0 w w' : World} {g : Option Nat} {M : List (Nat × Value)} {L : List Ob} {O : List Rw} {A : Option Addr} {n c k b : Nat} {l : List Nat}
theorem Ow.natL (h : Ow w0 w g M L O) (i : Nat) (hi : L[i]? = some ⟨A, n, c, nats l⟩) (hk : l[k]? = some b) : ∃ ad, A = some ad ∧ w.cell? (ad.add k) = some (.int .i64 (b : Int)) := by
  obtain ⟨ad, e, _, h⟩ := (h.sl hi).2.2.2.nat hk
  exact ⟨ad, e, h⟩
theorem rg_call {P : Program} {f : FuncId} {args : Array Value} {w : World} {v : Value} (h : ∀ W, Below w.heap.size w W → Calls P f args W fun e w' => e = .returned v ∧ Below W.heap.size W w') (d : Nat) (os : Array Obj) : Calls P f args (grow (redrawn w d) os) fun e w'' => e = .returned v ∧ ∃ p : Regrown, w'' = grow (redrawn w p.d) p.os :=
  Calls.regrown_of (h _ (below_regrown w d os))
theorem rg_below {w W : World} (h : ∃ p : Regrown, W = grow (redrawn w p.d) p.os) : Below w.heap.size w W := by
  obtain ⟨p, rfl⟩ := h
  exact below_regrown _ _ _
end
theorem filt_at {n i : Nat} (t : Nat → Bool) (hi : i < n) (ht : t i = true) : ((List.range n).filter t)[((List.range i).filter t).length]? = some i := by
  have e : n = (i + 1) + (n - (i + 1)) := by omega
  rw [e, List.range_add, List.filter_append, List.range_succ, List.filter_append, List.filter_cons, if_pos ht, List.filter_nil, List.append_assoc, List.getElem?_append_right (Nat.le_refl _), Nat.sub_self]
  rfl
theorem filt_suc (t : Nat → Bool) (i : Nat) : ((List.range (i + 1)).filter t).length = ((List.range i).filter t).length + (if t i then 1 else 0) := by
  rw [List.range_succ, List.filter_append, List.length_append, List.filter_cons]
  cases t i <;> rfl
def RFix1 (w : World) (g cb d m f gv nn cv : Nat) (Al : Option Addr) (kl cl gx cx : Nat) (V : List UInt8) (E : List Nat) (x : Value) (wr : World) : Prop :=
  ∃ (i : Nat) (W : List UInt8), i ≤ kl ∧ x = .int .i64 (i : Int) ∧ Hid (W.length = nn ∧ Sy.Off E V W) ∧ Hid (Ow w wr (some g) [] [] [codeR cb d m f, ⟨some ⟨gv, 0, none⟩, nn, cv, 5, bys V⟩, ⟨Al, kl, cl, 3, nats E⟩, ⟨some ⟨gx, 0, none⟩, nn, cx, 5, bys W⟩]) ∧ Hid (Dice wr g w.heap.size)
def RFix2 (w : World) (g cb d m f gv nn cv : Nat) (Al : Option Addr) (kl cl gx cx mn : Nat) (V : List UInt8) (E : List Nat) (x : Value) (wr : World) : Prop :=
  ∃ (k : Nat) (W : List UInt8), k ≤ mn ∧ x = .int .i64 (k : Int) ∧ Hid (W.length = nn ∧ Sy.oth nn E V W + k ≤ mn) ∧ Hid (Ow w wr (some g) [] [] [codeR cb d m f, ⟨some ⟨gv, 0, none⟩, nn, cv, 5, bys V⟩, ⟨Al, kl, cl, 3, nats E⟩, ⟨some ⟨gx, 0, none⟩, nn, cx, 5, bys W⟩]) ∧ Hid (Dice wr g w.heap.size)
def RFix3 (w : World) (g : Nat) (L : List Ob) (O : List Rw) (nn dl : Nat) (V W : List UInt8) (x y : Value) (wr : World) : Prop :=
  ∃ k i : Nat, i ≤ nn ∧ k ≤ dl ∧ x = .int .i64 (k : Int) ∧ y = .int .i64 (i : Int) ∧ Hid (k = ((List.range i).filter fun j => Sy.wd V j != Sy.wd W j).length) ∧ Hid (Ow w wr (some g) [] L O)

set_option maxHeartbeats 4000000 in
theorem symbolFixes_any (A : Option Addr) (n c : Nat) (ts : List Int) (w : World) (hn : ts.length = n) (hl : n ≤ 9223372036854775807) (hs : Sl w w.heap.size A (ints ts)) :
    Calls Tryd.prog 3 #[.slice A n c] w fun e w' => e = .returned (.bool true) ∧ Below w.heap.size w w' := by
  rcases Nat.lt_or_ge 400 n with hbig | hsm
  · have HLi := Lib.hid (light_no A n c w hbig hl)
    have HAw := Lib.hid (awake07_any w)
    clear hs
    go_enter Tryd.func3, Tryd.ntmps3
    go_wp2_with (first | (go_at_call 6; refine HLi.out.mono ?_; rintro e w1 ⟨rfl, rfl⟩) | (go_at_call 7; refine HAw.out.mono ?_; rintro e w2 ⟨rfl, hb⟩))
    go_ret
    exact ⟨rfl, hb⟩
  have HLi := Lib.hid (light_yes A n c w hsm)
  have HR := Lib.hid (roll_at (St.refl w) A n c w.heap.size ts hn (by omega) (Nat.le_refl _) hs)
  clear hs hn hl hsm
  go_enter Tryd.func3, Tryd.ntmps3
  go_wp2_with fail
  refine HLi.out.mono ?_
  rintro e w1 ⟨rfl, rfl⟩
  go_wp2_with fail
  refine HR.out.mono ?_
  rintro e w1 ⟨g, rfl, hd1, hst1⟩
  have HN := Lib.hid (symbols_ow (Ow.of hst1) hd1 (Nat.le_refl _))
  clear HR HLi hd1 hst1
  go_wp2_with fail
  refine HN.out.mono ?_
  rintro e w2 ⟨d, m, f, rfl, hcd, hfm, hd2, h2⟩
  have h3 := h2.code d m f
  have HD := Lib.hid (hd2.alloc1 (.cells #[.int .i64 2, .int .i64 (d : Int), .int .i64 (m : Int), .int .i64 (f : Int)] 28))
  have HO : Hid (Ow w (w2.alloc (.cells #[.int .i64 2, .int .i64 (d : Int), .int .i64 (m : Int), .int .i64 (f : Int)] 28)) (some g) [] [] [codeR w2.heap.size d m f]) := h3
  have hcd0 := Lib.hid hcd
  obtain ⟨hd1', hd2', hm1', hm2', hf5'⟩ := hcd
  clear h2 hd2 h3 HN
  obtain ⟨hc0, hc1, hc2, hc3⟩ := HO.out.cdc 0 rfl
  have HN := Lib.hid (bytes_ow HO.out HD.out d (by omega))
  go_wp2_with fail
  refine HN.out.mono ?_
  rintro en w3 ⟨Ad, cd, data, rfl, hdl, h3, hd3⟩
  simp only [List.cons_append, List.nil_append] at h3
  have HO1 := Lib.hid h3
  have HD1 := Lib.hid hd3
  clear HN HO HD h3 hd3 hc0 hc1 hc2 hc3
  obtain ⟨hc0, hc1, hc2, hc3⟩ := HO1.out.cdc 0 rfl
  have HN := Lib.hid (encode_ok hcd0.out hfm Ad cd data w3 hdl (Sl.of_own (HO1.out.row 1 rfl)) (own_cap (HO1.out.row 1 rfl)).1)
  go_wp2_with fail
  refine HN.out.mono ?_
  rintro en v ⟨Aw, nx, cw, rfl, hnx, hox, hbx⟩
  obtain rfl : d + m = nx := by rw [← hnx, Sy.enc_length, hdl]
  have HOv : Hid (Ow w v (some g) [] [] [codeR w2.heap.size d m f, ⟨Aw, d + m, cw, 5, bys (Sy.enc m data)⟩]) := (HO1.out.add hox hbx).re (fun i => if i = 0 then 0 else 2) (fun i j hi hj h => by simp only [List.length_cons, List.length_nil] at hi hj; split at h <;> split at h <;> omega) (fun i r hi => by rcases i with _ | _ | i <;> simp at hi ⊢ <;> exact hi)
  have HDv := Lib.hid (HD1.out.below hbx)
  clear HN HO1 HD1 hnx hox hbx hc0 hc1 hc2 hc3
  obtain ⟨hc0, hc1, hc2, hc3⟩ := HOv.out.cdc 0 rfl
  obtain ⟨gv, rfl, -, -⟩ := own_form (HOv.out.row 1 rfl) (by omega)
  obtain ⟨nn, hnn⟩ : ∃ nn : Nat, Hid (nn = d + m) := ⟨_, rfl⟩
  rw [← hnn.out] at HOv ⊢
  have hnnI : (d : Int) + (m : Int) = (nn : Int) := by have := hnn.out; omega
  have hn40 : 2 ≤ nn ∧ nn ≤ 40 := by have := hnn.out; omega
  obtain ⟨hn2, hn40⟩ := hn40
  have HVl : Hid ((Sy.enc m data).length = nn) := by unfold Hid; rw [Sy.enc_length, hdl, hnn.out]
  have HVc : Hid (Sy.Cw m (Sy.enc m data)) := Sy.enc_cw m (by omega) data
  obtain ⟨V, hV⟩ : ∃ V, V = Sy.enc m data := ⟨_, rfl⟩
  rw [← hV] at HOv HVl HVc
  clear hV hdl
  go_wp2_with fail
  refine (awake07_any v).mono ?_
  rintro en w7 ⟨rfl, hb7⟩
  have HO1 := Lib.hid (HOv.out.go hb7)
  have HD1 := Lib.hid (HDv.out.below hb7)
  clear HOv HDv hb7
  obtain ⟨hc0, hc1, hc2, hc3⟩ := HO1.out.cdc 0 rfl
  obtain ⟨m1, hm1⟩ : ∃ m1 : Nat, Hid (m1 = m + 1) := ⟨_, rfl⟩
  have em1 : (m : Int) + 1 = (m1 : Int) := by have := hm1.out; omega
  have HN := Lib.hid (next_ow HO1.out HD1.out m1 (by have := hm1.out; omega) (by have := hm1.out; omega))
  go_wp2_with fail
  refine HN.out.mono ?_
  rintro en w8 ⟨mo, rfl, hmo, hd8, h8, -⟩
  have HN := Lib.hid (some_ow h8 hd8 (Nat.le_refl _) nn mo (by omega) (by have := hm1.out; omega))
  clear HO1 HD1 hd8 h8 hc0 hc1 hc2 hc3 em1
  go_wp2_with fail
  refine HN.out.mono ?_
  rintro en w9 ⟨Al, kl, cl, E, rfl, hkl, hE, h9, hd9⟩
  simp only [List.cons_append, List.nil_append] at h9
  have HE : Hid (Sy.Ers E nn m ∧ E.length = kl) := ⟨⟨hE.asc, hE.lt, Nat.le_trans hE.le (by have := hm1.out; omega)⟩, hkl⟩
  have hklm : kl ≤ m := by rw [← hkl]; exact HE.out.1.le
  have HO2 := Lib.hid h9
  have HD2 := Lib.hid hd9
  clear HN h9 hd9 hE hkl hmo hm1
  obtain ⟨q, hq⟩ : ∃ q : Nat, Hid (q = (m - kl) / 2) := ⟨_, rfl⟩
  have eq : ((m : Int) - (kl : Int)) / 2 = (q : Int) := by have := hq.out; omega
  obtain ⟨mn, hmn⟩ : ∃ mn : Nat, Hid ((if q < f then (q : Int) else (f : Int)) = (mn : Int)) := ⟨min f q, by unfold Hid; split <;> omega⟩
  have hmn2 : Hid (mn = min f ((m - E.length) / 2)) := by have h1 := hmn.out; have h2 := hq.out; unfold Hid; rw [HE.out.2]; split at h1 <;> omega
  have hmn8 : mn ≤ 8 := by have h1 := hmn.out; split at h1 <;> omega
  have HX := Lib.hid (HO2.out.nil 5)
  have HVs := Lib.hid (Sl.of_own (HO2.out.row 1 rfl))
  have hvm := (own_cap (HO2.out.row 1 rfl)).2
  go_wp2_with (at_builtin; refine ow_append' elemB HX.out HD2.out (Nat.le_refl _) 3 (.const (.slice none 0 0)) (.tmp 61) rfl (m := nn) (news := bys V) (by rw [bys_length, HVl.out]) HVs.out (bys_one V) (by unfold maxLen; omega) (by omega) rfl rfl rfl rfl ?_; intro Ax cx w10 how hdw; simp only [List.cons_append, List.nil_append, List.set_cons_zero, List.set_cons_succ, Nat.zero_add] at how ⊢; have HO3 := Lib.hid how; have HD3 := Lib.hid hdw; clear how hdw)
  obtain ⟨gx, rfl, -, -⟩ := own_form (HO3.out.row 3 rfl) (by omega)
  have HO3 : Hid (Ow w w10 (some g) [] [] [codeR w2.heap.size d m f, ⟨some ⟨gv, 0, none⟩, nn, cw, 5, bys V⟩, ⟨Al, kl, cl, 3, nats E⟩, ⟨some ⟨gx, 0, none⟩, nn, cx, 5, bys V⟩]) := HO3.out
  clear HX HVs HO2 HD2 hc0 hc1 hc2 hc3
  go_loopw [11] (fun x wr => RFix1 w g w2.heap.size d m f gv nn cw Al kl cl gx cx V E x wr) (fun x _ => kl - (intOf x).toNat)
  case atStart => exact ⟨0, V, Nat.zero_le _, rfl, ⟨HVl.out, fun _ _ => rfl⟩, HO3.out, HD3.out⟩
  case round =>
    obtain ⟨i, W, hi, rfl, HF, HOr, HDr⟩ := hrel
    clear HO3 HD3
    rcases Nat.lt_or_ge i kl with hik | hik
    · have t1 : decide ((i : Int) < (kl : Int)) = true := decide_eq_true (by omega)
      obtain ⟨p, hp⟩ : ∃ p, E[i]? = some p := ⟨_, List.getElem?_eq_getElem (by rw [HE.out.2]; exact hik)⟩
      have hpn : p < nn := HE.out.1.lt p (List.mem_of_getElem? hp)
      have hEi := Lib.hid hp
      obtain ⟨gl, rfl, -, -⟩ := own_form (HOr.out.row 2 rfl) (by omega)
      have hWl : Hid (W.length = nn) := HF.out.1
      clear hp
      go_upto_region 15 with (fail)
      refine reg_monoT [some 69, some 70, some 71, some 72, some 73, some 74, some 75, some 76, some 77, none] (fun v => True) (fun v => Ow w v (some g) [] [] [codeR w2.heap.size d m f, ⟨some ⟨gv, 0, none⟩, nn, cw, 5, bys V⟩, ⟨some ⟨gl, 0, none⟩, kl, cl, 3, nats E⟩, ⟨some ⟨gx, 0, none⟩, nn, cx, 5, bys W⟩] ∧ Dice v g w.heap.size) 9 (fun _ => 10) (lwS w g w.heap.size gx nn cx gl kl cl i p (fun b => [codeR w2.heap.size d m f, ⟨some ⟨gv, 0, none⟩, nn, cw, 5, bys V⟩, ⟨some ⟨gl, 0, none⟩, kl, cl, 3, nats E⟩, ⟨some ⟨gx, 0, none⟩, nn, cx, 5, bys (W.set p b)⟩])) (by kernel_rfl) (by kernel_rfl) (by kernel_rfl) ?_ ?_ ?_ ?_
      · exact trivial
      · exact ⟨HOr.out.drew, HDr.out.drew⟩
      · rintro j us v hj hl HS hS hp
        replace hl : us.length = 10 := hl
        obtain ⟨u0, us0, rfl, hl0⟩ := us_cons (n := 9) hl
        obtain ⟨u1, us1, rfl, hl1⟩ := us_cons (n := 8) hl0
        obtain ⟨u2, us2, rfl, hl2⟩ := us_cons (n := 7) hl1
        obtain ⟨u3, us3, rfl, hl3⟩ := us_cons (n := 6) hl2
        obtain ⟨u4, us4, rfl, hl4⟩ := us_cons (n := 5) hl3
        obtain ⟨u5, us5, rfl, hl5⟩ := us_cons (n := 4) hl4
        obtain ⟨u6, us6, rfl, hl6⟩ := us_cons (n := 3) hl5
        obtain ⟨u7, us7, rfl, hl7⟩ := us_cons (n := 2) hl6
        obtain ⟨u8, us8, rfl, hl8⟩ := us_cons (n := 1) hl7
        obtain ⟨u9, us9, rfl, hl9⟩ := us_cons (n := 0) hl8
        obtain rfl := us_nil hl9
        clear hl hl0 hl1 hl2 hl3 hl4 hl5 hl6 hl7 hl8
        have hj' : j < 10 := hj
        have hcase : j = 0 ∨ j = 1 ∨ j = 2 ∨ j = 3 ∨ j = 4 ∨ j = 5 ∨ j = 6 ∨ j = 7 ∨ j = 8 ∨ j = 9 := by omega
        clear hj hj'
        replace HS : True := HS
        rcases hcase with rfl | rfl | rfl | rfl | rfl | rfl | rfl | rfl | rfl | rfl
        · have HS2 := Lib.hid (hS (.inl (by kernel_rfl)))
          clear HS hS hp
          refine wpOp_step rfl (fun K hK => ?_)
          simp only [putL, Act.put, List.setIfInBounds_toArray, List.set_cons_zero, List.set_cons_succ]
          go_simp
          refine hK _ _ ⟨.slice (some ⟨gx, 0, none⟩) nn cx, ?_, trivial, fun _ _ h => h, rfl, fun _ _ _ _ _ _ h => h⟩
          simp only [putL, Act.put, List.getD_cons_zero, List.setIfInBounds_toArray, List.set_cons_zero, List.set_cons_succ]
        · have HS2 := Lib.hid (hS (.inl (by kernel_rfl)))
          clear HS hS hp
          refine wpOp_step rfl (fun K hK => ?_)
          simp only [putL, Act.put, List.setIfInBounds_toArray, List.set_cons_zero, List.set_cons_succ]
          go_simp
          refine hK _ _ ⟨.slice (some ⟨gl, 0, none⟩) kl cl, ?_, trivial, fun _ _ h => h, rfl, fun _ _ _ _ _ _ h => h⟩
          simp only [putL, Act.put, List.getD_cons_zero, List.getD_cons_succ, List.setIfInBounds_toArray, List.set_cons_zero, List.set_cons_succ]
        · have HS2 := Lib.hid (hS (.inl (by kernel_rfl)))
          clear HS hS hp
          refine wpOp_step rfl (fun K hK => ?_)
          simp only [putL, Act.put, List.setIfInBounds_toArray, List.set_cons_zero, List.set_cons_succ]
          go_simp
          refine hK _ _ ⟨.int .i64 (i : Int), ?_, trivial, fun _ _ h => h, rfl, fun _ _ _ _ _ _ h => h⟩
          simp only [putL, Act.put, List.getD_cons_zero, List.getD_cons_succ, List.setIfInBounds_toArray, List.set_cons_zero, List.set_cons_succ]
        · obtain rfl : u1 = .slice (some ⟨gl, 0, none⟩) kl cl := hp 1 (by kernel_rfl) (.inr (by decide))
          obtain rfl : u2 = .int .i64 (i : Int) := hp 2 (by kernel_rfl) (.inr (by decide))
          have HS2 := Lib.hid (hS (.inl (by kernel_rfl)))
          clear HS hS hp
          refine wpOp_step rfl (fun K hK => ?_)
          simp only [putL, Act.put, List.setIfInBounds_toArray, List.set_cons_zero, List.set_cons_succ]
          go_simp
          refine hK _ _ ⟨.pointer (some ⟨gl, i, none⟩), ?_, trivial, fun _ _ h => h, rfl, fun _ _ _ _ _ _ h => h⟩
          simp only [putL, Act.put, List.getD_cons_zero, List.getD_cons_succ, List.setIfInBounds_toArray, List.set_cons_zero, List.set_cons_succ]
        · obtain rfl : u3 = .pointer (some ⟨gl, i, none⟩) := hp 3 (by kernel_rfl) (.inr (by decide))
          have HS2 := Lib.hid (hS (.inl (by kernel_rfl)))
          clear HS hS hp
          have hx := HS2.out.1.natO 2 rfl hEi.out
          refine wpOp_step rfl (fun K hK => ?_)
          simp only [putL, Act.put, List.setIfInBounds_toArray, List.set_cons_zero, List.set_cons_succ]
          go_simp
          refine hK _ _ ⟨.int .i64 (p : Int), ?_, trivial, fun _ _ h => h, rfl, fun _ _ _ _ _ _ h => h⟩
          simp only [putL, Act.put, List.getD_cons_zero, List.getD_cons_succ, List.setIfInBounds_toArray, List.set_cons_zero, List.set_cons_succ]
        · have HS2 := Lib.hid (hS (.inl (by kernel_rfl)))
          clear HS hS hp
          refine wpOp_step rfl (fun K hK => ?_)
          simp only [putL, Act.put, List.setIfInBounds_toArray, List.set_cons_zero, List.set_cons_succ]
          go_simp
          refine hK _ _ ⟨.pointer (some ⟨g, 0, none⟩), ?_, trivial, fun _ _ h => h, rfl, fun _ _ _ _ _ _ h => h⟩
          simp only [putL, Act.put, List.getD_cons_zero, List.getD_cons_succ, List.setIfInBounds_toArray, List.set_cons_zero, List.set_cons_succ]
        · obtain rfl : u5 = .pointer (some ⟨g, 0, none⟩) := hp 5 (by kernel_rfl) (.inr (by decide))
          have HS2 := Lib.hid (hS (.inl (by kernel_rfl)))
          clear HS hS hp
          refine wpOp_step rfl (fun K hK => ?_)
          simp only [putL, Act.put, List.setIfInBounds_toArray, List.set_cons_zero, List.set_cons_succ]
          go_simp
          refine (next_ow HS2.out.1 HS2.out.2 256 (by omega) (by omega)).mono ?_
          rintro en v' ⟨r, rfl, hr, hd', ho, hg⟩
          obtain ⟨b, hb⟩ := byte_of hr
          rw [hb]
          refine hK _ _ ⟨.int .i64 (b.toNat : Int), ?_, trivial, fun _ _ _ => ⟨ho, hd'⟩, ⟨b, rfl⟩, fun k y _ _ ha _ h => ?_⟩
          · simp only [putL, Act.put, List.getD_cons_zero, List.getD_cons_succ, List.setIfInBounds_toArray, List.set_cons_zero, List.set_cons_succ]
          by_cases hk9 : k = 9
          · subst hk9; exact absurd (ha.symm.trans (show _ = true by kernel_rfl)) (by decide)
          · exact lwS_any k y hk9 h
        · obtain ⟨b, rfl⟩ : lwS w g w.heap.size gx nn cx gl kl cl i p (fun b => [codeR w2.heap.size d m f, ⟨some ⟨gv, 0, none⟩, nn, cw, 5, bys V⟩, ⟨some ⟨gl, 0, none⟩, kl, cl, 3, nats E⟩, ⟨some ⟨gx, 0, none⟩, nn, cx, 5, bys (W.set p b)⟩]) 6 u6 v := hp 6 (by kernel_rfl) (.inr (by decide))
          have hwb : IntKind.u8.wrap (b.toNat : Int) = (b.toNat : Int) := IntWalk.u8_in _ (by have := u8_lt' b; omega)
          have HS2 := Lib.hid (hS (.inl (by kernel_rfl)))
          clear HS hS hp
          refine wpOp_step rfl (fun K hK => ?_)
          simp only [putL, Act.put, List.setIfInBounds_toArray, List.set_cons_zero, List.set_cons_succ]
          go_simp
          refine hK _ _ ⟨.int .u8 (b.toNat : Int), ?_, trivial, fun _ _ h => h, ⟨b, rfl⟩, fun _ _ _ _ _ _ h => h⟩
          simp only [putL, Act.put, List.getD_cons_zero, List.getD_cons_succ, List.setIfInBounds_toArray, List.set_cons_zero, List.set_cons_succ]
        · obtain rfl : u0 = .slice (some ⟨gx, 0, none⟩) nn cx := hp 0 (by kernel_rfl) (.inr (by decide))
          obtain rfl : u4 = .int .i64 (p : Int) := hp 4 (by kernel_rfl) (.inr (by decide))
          have HS2 := Lib.hid (hS (.inl (by kernel_rfl)))
          clear HS hS hp
          refine wpOp_step rfl (fun K hK => ?_)
          simp only [putL, Act.put, List.setIfInBounds_toArray, List.set_cons_zero, List.set_cons_succ]
          go_simp
          refine hK _ _ ⟨.pointer (some ⟨gx, p, none⟩), ?_, trivial, fun _ _ h => h, rfl, fun _ _ _ _ _ _ h => h⟩
          simp only [putL, Act.put, List.getD_cons_zero, List.getD_cons_succ, List.setIfInBounds_toArray, List.set_cons_zero, List.set_cons_succ]
        · obtain ⟨b, rfl⟩ : lwS w g w.heap.size gx nn cx gl kl cl i p (fun b => [codeR w2.heap.size d m f, ⟨some ⟨gv, 0, none⟩, nn, cw, 5, bys V⟩, ⟨some ⟨gl, 0, none⟩, kl, cl, 3, nats E⟩, ⟨some ⟨gx, 0, none⟩, nn, cx, 5, bys (W.set p b)⟩]) 7 u7 v := hp 7 (by kernel_rfl) (.inr (by decide))
          obtain rfl : u8 = .pointer (some ⟨gx, p, none⟩) := hp 8 (by kernel_rfl) (.inr (by decide))
          have HS2 := Lib.hid (hS (.inr (.inl rfl)))
          clear HS hS hp
          obtain ⟨x0, hx0⟩ : ∃ x0, W[p]? = some x0 := ⟨_, List.getElem?_eq_getElem (by rw [hWl.out]; exact hpn)⟩
          have hcl := HS2.out.1.byteO 3 rfl hx0
          have hfr := HS2.out.1.frzO 3 (vs := _) rfl p
          have G := HS2.out.1.putB 3 rfl p b
          have GD := HS2.out.2.turned (Nat.le_refl _) HS2.out.1 (i := 3) rfl (grown_set v ⟨gx, p, none⟩ (.int .u8 (b.toNat : Int)))
          clear hx0
          refine wpOp_step rfl (fun K hK => ?_)
          simp only [putL, Act.put, List.setIfInBounds_toArray, List.set_cons_zero, List.set_cons_succ]
          go_simp
          refine hK _ _ ⟨undef, ?_, trivial, fun h => absurd rfl h, ⟨b, G, GD⟩, fun k y hk _ _ _ h => lwS_any k y hk h⟩
          simp only [putL, Act.put, List.getD_cons_zero, List.getD_cons_succ, List.setIfInBounds_toArray, List.set_cons_zero, List.set_cons_succ]
      · rintro us v hl HS hS hP
        replace hl : us.length = 10 := hl
        obtain ⟨u0, us0, rfl, hl0⟩ := us_cons (n := 9) hl
        obtain ⟨u1, us1, rfl, hl1⟩ := us_cons (n := 8) hl0
        obtain ⟨u2, us2, rfl, hl2⟩ := us_cons (n := 7) hl1
        obtain ⟨u3, us3, rfl, hl3⟩ := us_cons (n := 6) hl2
        obtain ⟨u4, us4, rfl, hl4⟩ := us_cons (n := 5) hl3
        obtain ⟨u5, us5, rfl, hl5⟩ := us_cons (n := 4) hl4
        obtain ⟨u6, us6, rfl, hl6⟩ := us_cons (n := 3) hl5
        obtain ⟨u7, us7, rfl, hl7⟩ := us_cons (n := 2) hl6
        obtain ⟨u8, us8, rfl, hl8⟩ := us_cons (n := 1) hl7
        obtain ⟨u9, us9, rfl, hl9⟩ := us_cons (n := 0) hl8
        obtain rfl := us_nil hl9
        clear hl hl0 hl1 hl2 hl3 hl4 hl5 hl6 hl7 hl8
        clear hS
        replace HS : True := HS
        obtain ⟨b, hGo, hGd⟩ : lwS w g w.heap.size gx nn cx gl kl cl i p (fun b => [codeR w2.heap.size d m f, ⟨some ⟨gv, 0, none⟩, nn, cw, 5, bys V⟩, ⟨some ⟨gl, 0, none⟩, kl, cl, 3, nats E⟩, ⟨some ⟨gx, 0, none⟩, nn, cx, 5, bys (W.set p b)⟩]) 9 u9 v := hP 9 (by show 9 < 10; decide) (by decide)
        have HOs := Lib.hid hGo
        have HDs := Lib.hid hGd
        clear HS hP hGo hGd
        simp only [putL, Act.put, List.setIfInBounds_toArray, List.set_cons_zero, List.set_cons_succ]
        go_wp2_with fail
        go_roundw
        case rel => exact ⟨i + 1, W.set p b, by omega, by go_num, ⟨by rw [List.length_set]; exact HF.out.1, HF.out.2.set (List.mem_of_getElem? hEi.out) b⟩, HOs.out, HDs.out⟩
        case measure => simp [intOf]; omega
    · have t1 : decide ((i : Int) < (kl : Int)) = false := decide_eq_false (by omega)
      have hik' : i = kl := by omega
      subst hik'
      have HF2 : Hid (W.length = nn ∧ Sy.oth nn E V W + mn ≤ mn) := ⟨HF.out.1, by rw [Sy.oth_off HF.out.2]; omega⟩
      obtain ⟨hc0, hc1, hc2, hc3⟩ := HOr.out.cdc 0 rfl
      have HO4 := Lib.hid HOr.out
      have HD4 := Lib.hid HDr.out
      clear HF hik HOr HDr
      have hmn' := hmn.out
      go_wp2_with fail
      clear hmn hmn' eq hq hc0 hc1 hc2 hc3
      go_loopw [12] (fun x wr => RFix2 w g w2.heap.size d m f gv nn cw Al i cl gx cx mn V E x wr) (fun x _ => (intOf x).toNat)
      case atStart => exact ⟨mn, W, Nat.le_refl _, rfl, HF2, HO4.out, HD4.out⟩
      case round =>
        clear HO4 HD4 HF2
        obtain ⟨k, W, hk, rfl, HF, HOr, HDr⟩ := hrel
        rcases Nat.eq_zero_or_pos k with hk0 | hk0
        · subst hk0
          have HR : Hid (Sy.decM m f W E = (if V = W then 0 else 1, V, Sy.diff nn V W)) := by
            unfold Hid
            have h1 := HF.out.2
            exact Sy.dec_near (by omega) (by omega) HF.out.1 HE.out.1 ⟨HVl.out, HVc.out, by rw [← hmn2.out]; omega⟩
          obtain ⟨o, ho⟩ : ∃ o : Nat, Hid (o = if V = W then 0 else 1) := ⟨_, rfl⟩
          obtain ⟨dl, hdl⟩ : ∃ dl : Nat, Hid (dl = (Sy.diff nn V W).length) := ⟨_, rfl⟩
          rw [← ho.out] at HR
          have hdl40 : dl ≤ 40 := by
            have h1 := hdl.out
            have h2 := List.length_filter_le (fun i => Sy.wd V i != Sy.wd W i) (List.range nn)
            rw [List.length_range] at h2
            unfold Sy.diff at h1
            omega
          have HDec : Hid (Calls Tryd.prog 14 #[.agg #[.int .i64 2, .int .i64 (d : Int), .int .i64 (m : Int), .int .i64 (f : Int)], .slice (some ⟨gx, 0, none⟩) nn cx, .slice Al i cl] wr (DecR wr (o, V, Sy.diff nn V W))) := by
            unfold Hid
            rw [← HR.out]
            have h1 := HOr.out.row 3 rfl
            have h2 := HOr.out.row 2 rfl
            have h3 := HF.out.1
            rw [hnn.out] at h1 h3 ⊢
            exact decode_any hcd0.out hfm (some ⟨gx, 0, none⟩) cx Al i cl W E wr h3 (Sl.of_own h1) (own_cap h1).1 HE.out.2 (Sl.of_own h2) (own_cap h2).1 (by rw [← hnn.out]; exact HE.out.1)
          have HWl : Hid (W.length = nn) := HF.out.1
          have HOz := Lib.hid HOr.out
          obtain ⟨hc0, hc1, hc2, hc3⟩ := HOz.out.cdc 0 rfl
          clear HF HOr HDr HR
          go_wp2_with fail
          refine HDec.out.mono ?_
          rintro en w12 ⟨A1, n1, c1, A2, n2, c2, rfl, hn1, hn2, ho1, ho2, hb⟩
          obtain rfl : nn = n1 := HVl.out.symm.trans hn1
          obtain rfl : dl = n2 := hdl.out.trans hn2
          have HJ := Lib.hid (((HOz.out.push ho1 (by omega) hb).join (HOz.out.push ho2 (by omega) hb)).arr #[.int .i64 (o : Int), .slice A1 nn c1, .slice A2 dl c2] 3 rfl (by omega) 38)
          obtain ⟨wx, hwx⟩ : ∃ W', W' = w12.alloc (.cells #[.int .i64 (o : Int), .slice A1 nn c1, .slice A2 dl c2] 38) := ⟨_, rfl⟩
          obtain ⟨xb, hxb⟩ : ∃ b, b = w12.heap.size := ⟨_, rfl⟩
          have HJ : Hid (Ow w (w12.alloc (.cells #[.int .i64 (o : Int), .slice A1 nn c1, .slice A2 dl c2] 38)) (some g) [] [⟨A1, nn, c1, bys V⟩, ⟨A2, dl, c2, nats (Sy.diff nn V W)⟩] [codeR w2.heap.size d m f, ⟨some ⟨gv, 0, none⟩, nn, cw, 5, bys V⟩, ⟨Al, i, cl, 3, nats E⟩, ⟨some ⟨gx, 0, none⟩, nn, cx, 5, bys W⟩, decRw w12.heap.size o A1 nn c1 A2 dl c2]) := HJ.out
          have hov : Hid (o ≤ 1) := by have := ho.out; unfold Hid; split at this <;> omega
          obtain ⟨sb, hsb⟩ : ∃ sb : Bool, Hid (sb = decide (W = V)) := ⟨_, rfl⟩
          have ho0 : ((o : Int) == 0) = sb := by
            have h1 := ho.out
            have h2 := hsb.out
            by_cases e : V = W
            · rw [if_pos e] at h1
              rw [h2, h1, decide_eq_true e.symm]; rfl
            · rw [if_neg e] at h1
              rw [h2, h1, decide_eq_false (fun e' => e e'.symm)]; rfl
          have ho2' : ((o : Int) == 2) = false := beq_eq_false_iff_ne.2 (by have := hov.out; omega)
          have hsbb : (sb != sb) = false := by cases sb <;> rfl
          clear hn1 hn2 ho1 ho2 hb HDec HOz hc0 hc1 hc2 hc3 ho hov
          go_upto_region 21 with (fail)
          rw [← hwx, ← hxb] at HJ ⊢
          clear hwx hxb
          have HSa : Hid (∀ W', Below wx.heap.size wx W' → Calls Tryd.prog 15 #[.slice A1 nn c1, .slice (some ⟨gv, 0, none⟩) nn cw] W' fun en v3 => en = .returned (.bool true) ∧ Below W'.heap.size W' v3) := fun W' hb => by
            have HX2 := HJ.out.go hb
            have h5 := same_any A1 (some ⟨gv, 0, none⟩) nn c1 nn cw W'.heap.size V V W' HVl.out HVl.out (HX2.sl (i := 0) rfl).2.2.2 (Sl.of_own (HX2.row 1 rfl)) (by omega) (by omega)
            rwa [decide_eq_true rfl] at h5
          have HSb : Hid (∀ W', Below wx.heap.size wx W' → Calls Tryd.prog 15 #[.slice (some ⟨gx, 0, none⟩) nn cx, .slice (some ⟨gv, 0, none⟩) nn cw] W' fun en v3 => en = .returned (.bool sb) ∧ Below W'.heap.size W' v3) := fun W' hb => by
            have HX2 := HJ.out.go hb
            rw [hsb.out]
            exact same_any (some ⟨gx, 0, none⟩) (some ⟨gv, 0, none⟩) nn cx nn cw W'.heap.size W V W' HWl.out HVl.out (Sl.of_own (HX2.row 3 rfl)) (Sl.of_own (HX2.row 1 rfl)) (by omega) (by omega)
          obtain ⟨hy0, hy1, hy2⟩ := HJ.out.dec 4 rfl
          have hz0 := cell_regrown hy0
          have hz1 := cell_regrown hy1
          have hz2 := cell_regrown hy2
          have cS1 := rg_call (P := Tryd.prog) (w := wx) (f := 15) (args := #[.slice A1 nn c1, .slice (some ⟨gv, 0, none⟩) nn cw]) (v := .bool true) HSa.out
          have cS2 := rg_call (P := Tryd.prog) (w := wx) (f := 15) (args := #[.slice (some ⟨gx, 0, none⟩) nn cx, .slice (some ⟨gv, 0, none⟩) nn cw]) (v := .bool sb) HSb.out
          clear hy0 hy1 hy2
          refine wp_region_quiet_below (by kernel_rfl) (by kernel_rfl) ?_
          repeat (go_big_quiet_step ((first | with_reducible exact cS1 _ _ | with_reducible exact cS2 _ _)))
          refine wpQuiet_nil ?_
          intro W9 hW9
          have HK := Lib.hid (HJ.out.go (rg_below hW9))
          clear hW9 HJ HSa HSb cS1 cS2 hz0 hz1 hz2 ho0 ho2' hsb
          go_wp2_with fail
          go_loopw [15, 16] (fun x y wr => RFix3 w g [⟨A1, nn, c1, bys V⟩, ⟨A2, dl, c2, nats (Sy.diff nn V W)⟩] [codeR w2.heap.size d m f, ⟨some ⟨gv, 0, none⟩, nn, cw, 5, bys V⟩, ⟨Al, i, cl, 3, nats E⟩, ⟨some ⟨gx, 0, none⟩, nn, cx, 5, bys W⟩, decRw xb o A1 nn c1 A2 dl c2] nn dl V W x y wr) (fun _ y _ => nn - (intOf y).toNat)
          case atStart => exact ⟨0, 0, Nat.zero_le _, Nat.zero_le _, rfl, rfl, rfl, HK.out⟩
          case round =>
            obtain ⟨k, j, hj, hk, rfl, rfl, HKc, HOr⟩ := hrel
            clear HK
            rcases Nat.lt_or_ge j nn with hjn | hjn
            · have t1 : decide ((j : Int) < (nn : Int)) = true := decide_eq_true (by omega)
              have hxv := HOr.out.byteO 1 rfl (Sy.wd_lt (l := V) (i := j) (by rw [HVl.out]; exact hjn))
              have hxw := HOr.out.byteO 3 rfl (Sy.wd_lt (l := W) (i := j) (by rw [HWl.out]; exact hjn))
              obtain ⟨hy0, hy1, hy2⟩ := HOr.out.dec 4 rfl
              by_cases hvw : Sy.wd V j = Sy.wd W j
              · have HK2 : Hid (k = ((List.range (j + 1)).filter fun j => Sy.wd V j != Sy.wd W j).length) := by
                  unfold Hid
                  rw [filt_suc, ← HKc.out, hvw]
                  simp
                rw [hvw] at hxv
                generalize Sy.wd W j = wj at *
                have hne : ((wj.toNat : Int) != (wj.toNat : Int)) = false := by simp
                clear hvw hy0 hy1 hy2
                go_wp2_with fail
                go_quiet (fail)
                go_wp2_with fail
                go_roundw
                case rel => exact ⟨k, j + 1, by omega, hk, rfl, by go_num, HK2, HOr.out.drewN _⟩
                case measure => simp [intOf]; omega
              · have hbn : (Sy.wd V j != Sy.wd W j) = true := bne_iff_ne.2 hvw
                have HK2 : Hid (k + 1 = ((List.range (j + 1)).filter fun j => Sy.wd V j != Sy.wd W j).length) := by
                  unfold Hid
                  rw [filt_suc, ← HKc.out, if_pos hbn]
                have hat := filt_at (n := nn) (fun j => Sy.wd V j != Sy.wd W j) hjn hbn
                rw [← HKc.out] at hat
                have hkd : k < dl := by
                  have h1 := get_lt hat
                  rw [hdl.out]
                  exact h1
                have hne : ((Sy.wd W j).toNat : Int) ≠ ((Sy.wd V j).toNat : Int) := fun e => hvw (UInt8.toNat_inj.1 (by omega))
                have hneb : (((Sy.wd W j).toNat : Int) != ((Sy.wd V j).toNat : Int)) = true := bne_iff_ne.2 hne
                generalize Sy.wd W j = wj at *
                generalize Sy.wd V j = vj at *
                obtain ⟨ad2, rfl, hxd⟩ := HOr.out.natL 1 rfl hat
                have hkk : ((k : Int) == (dl : Int)) = false := beq_eq_false_iff_ne.2 (by omega)
                have hjj : ((j : Int) != (j : Int)) = false := by simp
                clear hvw hne hbn hat
                go_wp2_with fail
                go_quiet (fail)
                go_wp2_with fail
                go_roundw
                case rel => exact ⟨k + 1, j + 1, by omega, by omega, by go_num, by go_num, HK2, HOr.out.drewN _⟩
                case measure => simp [intOf]; omega
            · have t1 : decide ((j : Int) < (nn : Int)) = false := decide_eq_false (by omega)
              have hjn' : j = nn := by omega
              have hkd : k = dl := by
                rw [HKc.out, hdl.out, hjn']
                rfl
              subst hkd
              obtain ⟨hy0, hy1, hy2⟩ := HOr.out.dec 4 rfl
              have hkk : ((k : Int) == (k : Int)) = true := by simp
              go_wp2_with fail
              go_ret
              exact ⟨rfl, HOr.out.below⟩
        · have t2 : decide (0 < (k : Int)) = true := decide_eq_true (by omega)
          have HWl : Hid (W.length = nn) := HF.out.1
          go_upto_region 19 with (fail)
          refine reg_monoT [some 91, some 92, some 93, some 94, some 95, some 96, some 97, some 98, some 99, some 100, some 101, none] (fun v => True) (fun v => Ow w v (some g) [] [] [codeR w2.heap.size d m f, ⟨some ⟨gv, 0, none⟩, nn, cw, 5, bys V⟩, ⟨Al, i, cl, 3, nats E⟩, ⟨some ⟨gx, 0, none⟩, nn, cx, 5, bys W⟩] ∧ Dice v g w.heap.size) 11 (fun _ => 12) (lwN w g w.heap.size gx nn cx (fun p b => [codeR w2.heap.size d m f, ⟨some ⟨gv, 0, none⟩, nn, cw, 5, bys V⟩, ⟨Al, i, cl, 3, nats E⟩, ⟨some ⟨gx, 0, none⟩, nn, cx, 5, bys (W.set p b)⟩])) (by kernel_rfl) (by kernel_rfl) (by kernel_rfl) ?_ ?_ ?_ ?_
          · exact trivial
          · exact ⟨HOr.out.drew, HDr.out.drew⟩
          · rintro j us v hj hl HS hS hp
            replace hl : us.length = 12 := hl
            obtain ⟨u0, us0, rfl, hl0⟩ := us_cons (n := 11) hl
            obtain ⟨u1, us1, rfl, hl1⟩ := us_cons (n := 10) hl0
            obtain ⟨u2, us2, rfl, hl2⟩ := us_cons (n := 9) hl1
            obtain ⟨u3, us3, rfl, hl3⟩ := us_cons (n := 8) hl2
            obtain ⟨u4, us4, rfl, hl4⟩ := us_cons (n := 7) hl3
            obtain ⟨u5, us5, rfl, hl5⟩ := us_cons (n := 6) hl4
            obtain ⟨u6, us6, rfl, hl6⟩ := us_cons (n := 5) hl5
            obtain ⟨u7, us7, rfl, hl7⟩ := us_cons (n := 4) hl6
            obtain ⟨u8, us8, rfl, hl8⟩ := us_cons (n := 3) hl7
            obtain ⟨u9, us9, rfl, hl9⟩ := us_cons (n := 2) hl8
            obtain ⟨u10, us10, rfl, hl10⟩ := us_cons (n := 1) hl9
            obtain ⟨u11, us11, rfl, hl11⟩ := us_cons (n := 0) hl10
            obtain rfl := us_nil hl11
            clear hl hl0 hl1 hl2 hl3 hl4 hl5 hl6 hl7 hl8 hl9 hl10
            have hj' : j < 12 := hj
            have hcase : j = 0 ∨ j = 1 ∨ j = 2 ∨ j = 3 ∨ j = 4 ∨ j = 5 ∨ j = 6 ∨ j = 7 ∨ j = 8 ∨ j = 9 ∨ j = 10 ∨ j = 11 := by omega
            clear hj hj'
            replace HS : True := HS
            rcases hcase with rfl | rfl | rfl | rfl | rfl | rfl | rfl | rfl | rfl | rfl | rfl | rfl
            · have HS2 := Lib.hid (hS (.inl (by kernel_rfl)))
              clear HS hS hp
              refine wpOp_step rfl (fun K hK => ?_)
              simp only [putL, Act.put, List.setIfInBounds_toArray, List.set_cons_zero, List.set_cons_succ]
              go_simp
              refine hK _ _ ⟨.slice (some ⟨gx, 0, none⟩) nn cx, ?_, trivial, fun _ _ h => h, rfl, fun _ _ _ _ _ _ h => h⟩
              simp only [putL, Act.put, List.getD_cons_zero, List.setIfInBounds_toArray, List.set_cons_zero, List.set_cons_succ]
            · have HS2 := Lib.hid (hS (.inl (by kernel_rfl)))
              clear HS hS hp
              refine wpOp_step rfl (fun K hK => ?_)
              simp only [putL, Act.put, List.setIfInBounds_toArray, List.set_cons_zero, List.set_cons_succ]
              go_simp
              refine hK _ _ ⟨.pointer (some ⟨g, 0, none⟩), ?_, trivial, fun _ _ h => h, rfl, fun _ _ _ _ _ _ h => h⟩
              simp only [putL, Act.put, List.getD_cons_zero, List.getD_cons_succ, List.setIfInBounds_toArray, List.set_cons_zero, List.set_cons_succ]
            · have HS2 := Lib.hid (hS (.inl (by kernel_rfl)))
              clear HS hS hp
              refine wpOp_step rfl (fun K hK => ?_)
              simp only [putL, Act.put, List.setIfInBounds_toArray, List.set_cons_zero, List.set_cons_succ]
              go_simp
              refine hK _ _ ⟨.int .i64 (nn : Int), ?_, trivial, fun _ _ h => h, rfl, fun _ _ _ _ _ _ h => h⟩
              simp only [putL, Act.put, List.getD_cons_zero, List.getD_cons_succ, List.setIfInBounds_toArray, List.set_cons_zero, List.set_cons_succ]
            · obtain rfl : u1 = .pointer (some ⟨g, 0, none⟩) := hp 1 (by kernel_rfl) (.inr (by decide))
              obtain rfl : u2 = .int .i64 (nn : Int) := hp 2 (by kernel_rfl) (.inr (by decide))
              have HS2 := Lib.hid (hS (.inl (by kernel_rfl)))
              clear HS hS hp
              refine wpOp_step rfl (fun K hK => ?_)
              simp only [putL, Act.put, List.setIfInBounds_toArray, List.set_cons_zero, List.set_cons_succ]
              go_simp
              refine (next_ow HS2.out.1 HS2.out.2 nn (by omega) (by omega)).mono ?_
              rintro en v' ⟨r, rfl, hr, hd', ho, hg⟩
              refine hK _ _ ⟨.int .i64 (r : Int), ?_, trivial, fun _ _ _ => ⟨ho, hd'⟩, ⟨r, hr, rfl⟩, fun k y _ _ ha _ h => ?_⟩
              · simp only [putL, Act.put, List.getD_cons_zero, List.getD_cons_succ, List.setIfInBounds_toArray, List.set_cons_zero, List.set_cons_succ]
              by_cases hk9 : k = 11
              · subst hk9; exact absurd (ha.symm.trans (show _ = true by kernel_rfl)) (by decide)
              · exact lwN_any k y hk9 h
            · obtain ⟨p, hpn, rfl⟩ : lwN w g w.heap.size gx nn cx (fun p b => [codeR w2.heap.size d m f, ⟨some ⟨gv, 0, none⟩, nn, cw, 5, bys V⟩, ⟨Al, i, cl, 3, nats E⟩, ⟨some ⟨gx, 0, none⟩, nn, cx, 5, bys (W.set p b)⟩]) 3 u3 v := hp 3 (by kernel_rfl) (.inr (by decide))
              obtain rfl : u0 = .slice (some ⟨gx, 0, none⟩) nn cx := hp 0 (by kernel_rfl) (.inr (by decide))
              have HS2 := Lib.hid (hS (.inl (by kernel_rfl)))
              clear HS hS hp
              refine wpOp_step rfl (fun K hK => ?_)
              simp only [putL, Act.put, List.setIfInBounds_toArray, List.set_cons_zero, List.set_cons_succ]
              go_simp
              refine hK _ _ ⟨.pointer (some ⟨gx, p, none⟩), ?_, trivial, fun _ _ h => h, ⟨p, hpn, rfl⟩, fun _ _ _ _ _ _ h => h⟩
              simp only [putL, Act.put, List.getD_cons_zero, List.getD_cons_succ, List.setIfInBounds_toArray, List.set_cons_zero, List.set_cons_succ]
            · obtain ⟨p, hpn, rfl⟩ : lwN w g w.heap.size gx nn cx (fun p b => [codeR w2.heap.size d m f, ⟨some ⟨gv, 0, none⟩, nn, cw, 5, bys V⟩, ⟨Al, i, cl, 3, nats E⟩, ⟨some ⟨gx, 0, none⟩, nn, cx, 5, bys (W.set p b)⟩]) 4 u4 v := hp 4 (by kernel_rfl) (.inr (by decide))
              obtain ⟨x0, hx0⟩ : ∃ x0, Hid (W[p]? = some x0) := ⟨_, List.getElem?_eq_getElem (by rw [HWl.out]; exact hpn)⟩
              have HS2 := Lib.hid (hS (.inl (by kernel_rfl)))
              clear HS hS hp
              have hx := HS2.out.1.byteO 3 rfl hx0.out
              refine wpOp_step rfl (fun K hK => ?_)
              simp only [putL, Act.put, List.setIfInBounds_toArray, List.set_cons_zero, List.set_cons_succ]
              go_simp
              refine hK _ _ ⟨.int .u8 (x0.toNat : Int), ?_, trivial, fun _ _ h => h, ⟨x0, rfl⟩, fun _ _ _ _ _ _ h => h⟩
              simp only [putL, Act.put, List.getD_cons_zero, List.getD_cons_succ, List.setIfInBounds_toArray, List.set_cons_zero, List.set_cons_succ]
            · have HS2 := Lib.hid (hS (.inl (by kernel_rfl)))
              clear HS hS hp
              refine wpOp_step rfl (fun K hK => ?_)
              simp only [putL, Act.put, List.setIfInBounds_toArray, List.set_cons_zero, List.set_cons_succ]
              go_simp
              refine hK _ _ ⟨.pointer (some ⟨g, 0, none⟩), ?_, trivial, fun _ _ h => h, rfl, fun _ _ _ _ _ _ h => h⟩
              simp only [putL, Act.put, List.getD_cons_zero, List.getD_cons_succ, List.setIfInBounds_toArray, List.set_cons_zero, List.set_cons_succ]
            · obtain rfl : u6 = .pointer (some ⟨g, 0, none⟩) := hp 6 (by kernel_rfl) (.inr (by decide))
              have HS2 := Lib.hid (hS (.inl (by kernel_rfl)))
              clear HS hS hp
              refine wpOp_step rfl (fun K hK => ?_)
              simp only [putL, Act.put, List.setIfInBounds_toArray, List.set_cons_zero, List.set_cons_succ]
              go_simp
              refine (next_ow HS2.out.1 HS2.out.2 256 (by omega) (by omega)).mono ?_
              rintro en v' ⟨r, rfl, hr, hd', ho, hg⟩
              obtain ⟨b, hb⟩ := byte_of hr
              rw [hb]
              refine hK _ _ ⟨.int .i64 (b.toNat : Int), ?_, trivial, fun _ _ _ => ⟨ho, hd'⟩, ⟨b, rfl⟩, fun k y _ _ ha _ h => ?_⟩
              · simp only [putL, Act.put, List.getD_cons_zero, List.getD_cons_succ, List.setIfInBounds_toArray, List.set_cons_zero, List.set_cons_succ]
              by_cases hk9 : k = 11
              · subst hk9; exact absurd (ha.symm.trans (show _ = true by kernel_rfl)) (by decide)
              · exact lwN_any k y hk9 h
            · obtain ⟨b, rfl⟩ : lwN w g w.heap.size gx nn cx (fun p b => [codeR w2.heap.size d m f, ⟨some ⟨gv, 0, none⟩, nn, cw, 5, bys V⟩, ⟨Al, i, cl, 3, nats E⟩, ⟨some ⟨gx, 0, none⟩, nn, cx, 5, bys (W.set p b)⟩]) 7 u7 v := hp 7 (by kernel_rfl) (.inr (by decide))
              have hwb : IntKind.u8.wrap (b.toNat : Int) = (b.toNat : Int) := IntWalk.u8_in _ (by have := u8_lt' b; omega)
              have HS2 := Lib.hid (hS (.inl (by kernel_rfl)))
              clear HS hS hp
              refine wpOp_step rfl (fun K hK => ?_)
              simp only [putL, Act.put, List.setIfInBounds_toArray, List.set_cons_zero, List.set_cons_succ]
              go_simp
              refine hK _ _ ⟨.int .u8 (b.toNat : Int), ?_, trivial, fun _ _ h => h, ⟨b, rfl⟩, fun _ _ _ _ _ _ h => h⟩
              simp only [putL, Act.put, List.getD_cons_zero, List.getD_cons_succ, List.setIfInBounds_toArray, List.set_cons_zero, List.set_cons_succ]
            · obtain ⟨x0, rfl⟩ : lwN w g w.heap.size gx nn cx (fun p b => [codeR w2.heap.size d m f, ⟨some ⟨gv, 0, none⟩, nn, cw, 5, bys V⟩, ⟨Al, i, cl, 3, nats E⟩, ⟨some ⟨gx, 0, none⟩, nn, cx, 5, bys (W.set p b)⟩]) 5 u5 v := hp 5 (by kernel_rfl) (.inr (by decide))
              obtain ⟨b, rfl⟩ : lwN w g w.heap.size gx nn cx (fun p b => [codeR w2.heap.size d m f, ⟨some ⟨gv, 0, none⟩, nn, cw, 5, bys V⟩, ⟨Al, i, cl, 3, nats E⟩, ⟨some ⟨gx, 0, none⟩, nn, cx, 5, bys (W.set p b)⟩]) 8 u8 v := hp 8 (by kernel_rfl) (.inr (by decide))
              obtain ⟨z, hz, HZ⟩ := xor_ex x0 b
              clear HZ
              have HS2 := Lib.hid (hS (.inl (by kernel_rfl)))
              clear HS hS hp
              refine wpOp_step rfl (fun K hK => ?_)
              simp only [putL, Act.put, List.setIfInBounds_toArray, List.set_cons_zero, List.set_cons_succ]
              go_simp
              refine hK _ _ ⟨.int .u8 (z.toNat : Int), ?_, trivial, fun _ _ h => h, ⟨z, rfl⟩, fun _ _ _ _ _ _ h => h⟩
              simp only [putL, Act.put, List.getD_cons_zero, List.getD_cons_succ, List.setIfInBounds_toArray, List.set_cons_zero, List.set_cons_succ]
            · obtain ⟨p, hpn, rfl⟩ : lwN w g w.heap.size gx nn cx (fun p b => [codeR w2.heap.size d m f, ⟨some ⟨gv, 0, none⟩, nn, cw, 5, bys V⟩, ⟨Al, i, cl, 3, nats E⟩, ⟨some ⟨gx, 0, none⟩, nn, cx, 5, bys (W.set p b)⟩]) 3 u3 v := hp 3 (by kernel_rfl) (.inr (by decide))
              obtain rfl : u0 = .slice (some ⟨gx, 0, none⟩) nn cx := hp 0 (by kernel_rfl) (.inr (by decide))
              have HS2 := Lib.hid (hS (.inl (by kernel_rfl)))
              clear HS hS hp
              refine wpOp_step rfl (fun K hK => ?_)
              simp only [putL, Act.put, List.setIfInBounds_toArray, List.set_cons_zero, List.set_cons_succ]
              go_simp
              refine hK _ _ ⟨.pointer (some ⟨gx, p, none⟩), ?_, trivial, fun _ _ h => h, ⟨p, hpn, rfl⟩, fun _ _ _ _ _ _ h => h⟩
              simp only [putL, Act.put, List.getD_cons_zero, List.getD_cons_succ, List.setIfInBounds_toArray, List.set_cons_zero, List.set_cons_succ]
            · obtain ⟨p, hpn, rfl⟩ : lwN w g w.heap.size gx nn cx (fun p b => [codeR w2.heap.size d m f, ⟨some ⟨gv, 0, none⟩, nn, cw, 5, bys V⟩, ⟨Al, i, cl, 3, nats E⟩, ⟨some ⟨gx, 0, none⟩, nn, cx, 5, bys (W.set p b)⟩]) 10 u10 v := hp 10 (by kernel_rfl) (.inr (by decide))
              obtain ⟨z, rfl⟩ : lwN w g w.heap.size gx nn cx (fun p b => [codeR w2.heap.size d m f, ⟨some ⟨gv, 0, none⟩, nn, cw, 5, bys V⟩, ⟨Al, i, cl, 3, nats E⟩, ⟨some ⟨gx, 0, none⟩, nn, cx, 5, bys (W.set p b)⟩]) 9 u9 v := hp 9 (by kernel_rfl) (.inr (by decide))
              have HS2 := Lib.hid (hS (.inr (.inl rfl)))
              clear HS hS hp
              obtain ⟨x0, hx0⟩ : ∃ x0, W[p]? = some x0 := ⟨_, List.getElem?_eq_getElem (by rw [HWl.out]; exact hpn)⟩
              have hcl := HS2.out.1.byteO 3 rfl hx0
              have hfr := HS2.out.1.frzO 3 (vs := _) rfl p
              have G := Lib.hid (HS2.out.1.putB 3 rfl p z)
              have GD := Lib.hid (HS2.out.2.turned (Nat.le_refl _) HS2.out.1 (i := 3) rfl (grown_set v ⟨gx, p, none⟩ (.int .u8 (z.toNat : Int))))
              clear hx0
              refine wpOp_step rfl (fun K hK => ?_)
              simp only [putL, Act.put, List.setIfInBounds_toArray, List.set_cons_zero, List.set_cons_succ]
              go_simp
              refine hK _ _ ⟨undef, ?_, trivial, fun h => absurd rfl h, ⟨p, z, hpn, G.out, GD.out⟩, fun k y hk _ _ _ h => lwN_any k y hk h⟩
              simp only [putL, Act.put, List.getD_cons_zero, List.getD_cons_succ, List.setIfInBounds_toArray, List.set_cons_zero, List.set_cons_succ]
          · rintro us v hl HS hS hP
            replace hl : us.length = 12 := hl
            obtain ⟨u0, us0, rfl, hl0⟩ := us_cons (n := 11) hl
            obtain ⟨u1, us1, rfl, hl1⟩ := us_cons (n := 10) hl0
            obtain ⟨u2, us2, rfl, hl2⟩ := us_cons (n := 9) hl1
            obtain ⟨u3, us3, rfl, hl3⟩ := us_cons (n := 8) hl2
            obtain ⟨u4, us4, rfl, hl4⟩ := us_cons (n := 7) hl3
            obtain ⟨u5, us5, rfl, hl5⟩ := us_cons (n := 6) hl4
            obtain ⟨u6, us6, rfl, hl6⟩ := us_cons (n := 5) hl5
            obtain ⟨u7, us7, rfl, hl7⟩ := us_cons (n := 4) hl6
            obtain ⟨u8, us8, rfl, hl8⟩ := us_cons (n := 3) hl7
            obtain ⟨u9, us9, rfl, hl9⟩ := us_cons (n := 2) hl8
            obtain ⟨u10, us10, rfl, hl10⟩ := us_cons (n := 1) hl9
            obtain ⟨u11, us11, rfl, hl11⟩ := us_cons (n := 0) hl10
            obtain rfl := us_nil hl11
            clear hl hl0 hl1 hl2 hl3 hl4 hl5 hl6 hl7 hl8 hl9 hl10
            clear hS
            replace HS : True := HS
            obtain ⟨p, b, hpn, hGo, hGd⟩ : lwN w g w.heap.size gx nn cx (fun p b => [codeR w2.heap.size d m f, ⟨some ⟨gv, 0, none⟩, nn, cw, 5, bys V⟩, ⟨Al, i, cl, 3, nats E⟩, ⟨some ⟨gx, 0, none⟩, nn, cx, 5, bys (W.set p b)⟩]) 11 u11 v := hP 11 (by show 11 < 12; decide) (by decide)
            have HOs := Lib.hid hGo
            have HDs := Lib.hid hGd
            clear HS hP hGo hGd
            simp only [putL, Act.put, List.setIfInBounds_toArray, List.set_cons_zero, List.set_cons_succ]
            have HF3 : Hid ((W.set p b).length = nn ∧ Sy.oth nn E V (W.set p b) + (k - 1) ≤ mn) := ⟨by rw [List.length_set]; exact HF.out.1, by have h1 := Sy.oth_any (n := nn) (E := E) (V := V) (W := W) p b; have h2 := HF.out.2; omega⟩
            clear HF
            go_wp2_with fail
            go_roundw
            case rel => exact ⟨k - 1, W.set p b, by omega, int_eqv (by omega), HF3.out, HOs.out, HDs.out⟩
            case measure => simp [intOf]; omega
end Go.Proofs.YtnplaejlmbncfaaDoor


/- Sf Nat Dice NatA Np NatD NatE NatF NatS NatH NatJ -/
import Derived.Test.YtnplaejlmbncfaaGreatDoorM01
import Derived.Test.YtnplaejlmbncfaaGreatDoorM03
import Derived.StillTailTactics
import Derived.Outline
import Derived.Test.YtnplaejlmbncfaaGreatDoorChecked
import Derived.RangeFuncNested
import Derived.RangeFuncBound
import Derived.RangeFuncCalls
import Derived.RangeFuncLeaves
import Derived.RangeFuncBox
import Derived.RangeFuncWrites
import Derived.Shelf.Abstract
import Derived.Shelf.RegionOpen
import Derived.WalkKit
import Derived.OwnWalkIn
import Derived.TacticsInMore
import Derived.LoopNIn
import Derived.LoopIn
import Derived.Deep.QuietTactic
import Derived.BigQuiet
import Derived.Deep.Cut
import Derived.RegionIn
import Derived.Lib.IndexBytes
import Derived.Lib.BufferRead
import Derived.RegionTactic
import Derived.ChangeAlike
namespace Go.Proofs.YtnplaejlmbncfaaGreatDoor
namespace Sy
open Gf
set_option linter.unusedVariables false
def Asc (l : List Nat) : Prop := l.Pairwise (· < ·)
theorem asc_ext : ∀ {a b : List Nat}, Asc a → Asc b → (∀ x, x ∈ a ↔ x ∈ b) → a = b := by
  intro a
  induction a with
  | nil =>
    intro b _ _ h
    cases b with
    | nil => rfl
    | cons y b => exact absurd ((h y).2 List.mem_cons_self) (by simp)
  | cons x a ih =>
    intro b ha hb h
    cases b with
    | nil => exact absurd ((h x).1 List.mem_cons_self) (by simp)
    | cons y b =>
      obtain ⟨ha1, ha2⟩ := List.pairwise_cons.1 ha
      obtain ⟨hb1, hb2⟩ := List.pairwise_cons.1 hb
      have e : x = y := by
        rcases List.mem_cons.1 ((h x).1 List.mem_cons_self) with h1 | h1
        · exact h1
        · rcases List.mem_cons.1 ((h y).2 List.mem_cons_self) with h2 | h2
          · exact h2.symm
          · have := hb1 x h1; have := ha1 y h2; omega
      subst e
      congr 1
      refine ih ha2 hb2 fun z => ⟨fun hz => ?_, fun hz => ?_⟩
      · rcases List.mem_cons.1 ((h z).1 (List.mem_cons_of_mem _ hz)) with rfl | h1
        · have := ha1 z hz; omega
        · exact h1
      · rcases List.mem_cons.1 ((h z).2 (List.mem_cons_of_mem _ hz)) with rfl | h1
        · have := hb1 z hz; omega
        · exact h1
theorem asc_filter (n : Nat) (t : Nat → Bool) : Asc ((List.range n).filter t) := List.Pairwise.filter _ (pair_range n)
theorem asc_nodup {l : List Nat} (h : Asc l) : l.Nodup := List.Pairwise.imp (fun {a b} hab e => by omega) h
theorem cnt_split (a b : Nat → Bool) (l : List Nat) : (l.filter a).length = (l.filter fun p => a p && b p).length + (l.filter fun p => a p && !b p).length := by
  induction l with
  | nil => rfl
  | cons x l ih =>
    simp only [List.filter_cons]
    cases a x <;> cases b x <;> simp <;> omega
theorem cnt_mono {a b : Nat → Bool} {l : List Nat} (h : ∀ p ∈ l, a p = true → b p = true) : (l.filter a).length ≤ (l.filter b).length := by
  induction l with
  | nil => exact Nat.le_refl _
  | cons x l ih =>
    have h1 := ih fun p hp => h p (List.mem_cons_of_mem _ hp)
    have h2 := h x List.mem_cons_self
    simp only [List.filter_cons]
    cases ha : a x <;> cases hb : b x <;> simp
    · exact h1
    · omega
    · rw [ha, hb] at h2; exact absurd (h2 rfl) (by simp)
    · exact h1
theorem cnt_or (a b : Nat → Bool) (l : List Nat) : (l.filter fun p => a p || b p).length ≤ (l.filter a).length + (l.filter b).length := by
  induction l with
  | nil => exact Nat.le_refl _
  | cons x l ih =>
    simp only [List.filter_cons]
    cases a x <;> cases b x <;> simp <;> omega
theorem filt_congr {a b : Nat → Bool} {n : Nat} (h : ∀ p, p < n → a p = b p) : (List.range n).filter a = (List.range n).filter b := List.filter_congr fun p hp => h p (List.mem_range.1 hp)
/-- a list of erased places: ascending, within the word, no more than checks -/
structure Ers (E : List Nat) (n m : Nat) : Prop where
  asc : Asc E
  lt : ∀ p ∈ E, p < n
  le : E.length ≤ m
theorem ers_eq {E : List Nat} {n m : Nat} (h : Ers E n m) : (List.range n).filter (fun p => E.contains p) = E :=
  asc_ext (asc_filter _ _) h.asc fun x => by
    rw [List.mem_filter, List.mem_range, List.contains_iff_mem]
    exact ⟨fun h => h.2, fun hx => ⟨h.lt x hx, hx⟩⟩
/-- an element, 0 behind the last one -/
def pl (P : List Nat) (j : Nat) : Nat := P[j]?.getD 0
theorem pl_some {P : List Nat} {j p : Nat} (h : P[j]? = some p) : pl P j = p := by unfold pl; rw [h]; rfl
theorem pl_lt {P : List Nat} {j : Nat} (h : j < P.length) : P[j]? = some (pl P j) := by unfold pl; rw [List.getElem?_eq_getElem h]; rfl
theorem pl_mem {P : List Nat} {j : Nat} (h : j < P.length) : pl P j ∈ P := List.mem_of_getElem? (pl_lt h)
theorem pl_inj {P : List Nat} (hP : Asc P) {i j : Nat} (hi : i < P.length) (hj : j < P.length) (h : pl P i = pl P j) : i = j := by
  have key : ∀ a b, a < b → b < P.length → pl P a < pl P b := fun a b hab hb => by
    have := List.pairwise_iff_getElem.1 hP a b (by omega) hb hab
    rwa [← Option.some.inj ((List.getElem?_eq_getElem (by omega)).symm.trans (pl_lt (show a < P.length by omega))), ← Option.some.inj ((List.getElem?_eq_getElem hb).symm.trans (pl_lt hb))]
  rcases Nat.lt_trichotomy i j with h1 | h1 | h1
  · have := key i j h1 hj; omega
  · exact h1
  · have := key j i h1 hi; omega
theorem ls_map (f : Nat → UInt8) (g : Nat → Nat) (l : List Nat) : ls f (l.map g) = ls (fun j => f (g j)) l := by
  induction l with
  | nil => rfl
  | cons a l ih =>
    show f (g a) ^^^ ls f (l.map g) = f (g a) ^^^ _
    rw [ih]
theorem pl_map (P : List Nat) : (List.range P.length).map (pl P) = P := by
  refine List.ext_getElem? fun i => ?_
  rw [List.getElem?_map]
  rcases Nat.lt_or_ge i P.length with h | h
  · rw [List.getElem?_range h, pl_lt h]; rfl
  · rw [List.getElem?_eq_none (by simpa using h), List.getElem?_eq_none h]; rfl
theorem ls_pl (f : Nat → UInt8) (P : List Nat) : ls f P = ls (fun j => f (pl P j)) (List.range P.length) := by
  have h := ls_map f (pl P) (List.range P.length)
  rw [pl_map] at h
  exact h
theorem ls_sub {P : List Nat} {n : Nat} {t : Nat → Bool} (h : P = (List.range n).filter t) (G : Nat → UInt8) (hG : ∀ p, p ∉ P → G p = 0) : ls G P = ls G (List.range n) := by
  subst h
  exact ls_filter _ _ _ fun p _ ht => hG p fun hm => by rw [(List.mem_filter.1 hm).2] at ht; cases ht
def synL (l : List UInt8) (m : Nat) : List UInt8 := (List.range m).map (syn l)
theorem synL_length (l : List UInt8) (m : Nat) : (synL l m).length = m := by unfold synL; simp
theorem wd_synL (l : List UInt8) {m k : Nat} (h : k < m) : wd (synL l m) k = syn l k := by
  refine wd_some ?_
  unfold synL
  rw [List.getElem?_map, List.getElem?_range h]
  rfl
def strip (x : UInt8) (u : List UInt8) : List UInt8 := (List.range (u.length - 1)).map fun k => wd u (k + 1) ^^^ gmul x (wd u k)
theorem strip_length (x : UInt8) (u : List UInt8) : (strip x u).length = u.length - 1 := by unfold strip; simp
theorem wd_strip (x : UInt8) (u : List UInt8) {k : Nat} (h : k < u.length - 1) : wd (strip x u) k = wd u (k + 1) ^^^ gmul x (wd u k) := by
  refine wd_some ?_
  unfold strip
  rw [List.getElem?_map, List.getElem?_range h]
  rfl
def stripAll (n : Nat) : List UInt8 → List Nat → List UInt8
  | u, [] => u
  | u, p :: ps => stripAll n (strip (loc n p) u) ps
def prE (n : Nat) : List Nat → Nat → UInt8
  | [], _ => 1
  | p :: ps, i => gmul (loc n i ^^^ loc n p) (prE n ps i)
theorem prE_zero {n : Nat} : ∀ {E : List Nat} {i : Nat}, i ∈ E → prE n E i = 0 := by
  intro E
  induction E with
  | nil => intro i h; cases h
  | cons p E ih =>
    intro i h
    show gmul _ (prE n E i) = 0
    rcases List.mem_cons.1 h with rfl | h
    · rw [UInt8.xor_self, zero_gmul]
    · rw [ih h, gmul_zero]
theorem prE_ne {n : Nat} (hn : n ≤ 255) : ∀ {E : List Nat} {i : Nat}, (∀ p ∈ E, p < n) → i < n → i ∉ E → prE n E i ≠ 0 := by
  intro E
  induction E with
  | nil => intro i _ _ _; exact one_ne
  | cons p E ih =>
    intro i hE hi h
    refine gmul_ne _ _ (fun e => h ?_) (ih (fun q hq => hE q (List.mem_cons_of_mem _ hq)) hi fun hm => h (List.mem_cons_of_mem _ hm))
    rw [loc_inj hn hi (hE p List.mem_cons_self) (UInt8.xor_eq_zero_iff.1 e)]
    exact List.mem_cons_self
theorem strip_all {n : Nat} : ∀ (E : List Nat) (u : List UInt8) (D : Nat → UInt8), (∀ k, k < u.length → wd u k = dsyn D n k) → (stripAll n u E).length = u.length - E.length ∧ ∀ k, k < u.length - E.length → wd (stripAll n u E) k = dsyn (fun i => gmul (D i) (prE n E i)) n k := by
  intro E
  induction E with
  | nil => intro u D h; exact ⟨rfl, fun k hk => by rw [show stripAll n u [] = u from rfl, h k hk]; exact dsyn_congr fun i _ => (gmul_one _).symm⟩
  | cons p E ih =>
    intro u D h
    obtain ⟨h1, h2⟩ := ih (strip (loc n p) u) (fun i => gmul (D i) (loc n i ^^^ loc n p)) (fun k hk => by
      rw [strip_length] at hk
      rw [wd_strip _ _ hk, h (k + 1) (by omega), h k (by omega)]
      unfold dsyn
      rw [← ls_mul, ← ls_add]
      refine ls_congr fun i _ => ?_
      rw [gpow_add, gpow_one, gmul_comm (gpow _ _), ← gmul_assoc, ← gmul_assoc (loc n p), gmul_comm (loc n p), ← gmul_add', ← gmul_add])
    rw [strip_length] at h1 h2
    refine ⟨by rw [show stripAll n u (p :: E) = stripAll n (strip (loc n p) u) E from rfl, h1, List.length_cons]; omega, fun k hk => ?_⟩
    rw [List.length_cons] at hk
    rw [show stripAll n u (p :: E) = stripAll n (strip (loc n p) u) E from rfl, h2 k (by omega)]
    exact dsyn_congr fun i _ => gmul_assoc _ _ _
def isClean (s : List UInt8) : Bool := !(s.any fun x => x != 0)
theorem clean_iff {l : List UInt8} {m : Nat} : isClean (synL l m) = true ↔ Cw m l := by
  unfold isClean
  rw [Bool.not_eq_true', List.any_eq_false]
  constructor
  · intro h k hk
    have := h (syn l k) (by unfold synL; exact List.mem_map.2 ⟨k, List.mem_range.2 hk, rfl⟩)
    simpa using this
  · intro h x hx
    unfold synL at hx
    obtain ⟨k, hk, rfl⟩ := List.mem_map.1 hx
    rw [h k (List.mem_range.1 hk)]; simp
def placesOf (sg : List UInt8) (n : Nat) (E : List Nat) : List Nat := (List.range n).filter fun p => E.contains p || rootAt sg n p
def locM (s : List UInt8) (n : Nat) (E : List Nat) (most : Nat) : Option (List Nat) :=
  if most < (shortest (stripAll n s E)).length - 1 then none
  else if (placesOf (shortest (stripAll n s E)) n E).length = E.length + ((shortest (stripAll n s E)).length - 1) then some (placesOf (shortest (stripAll n s E)) n E) else none
def rows0 (s : List UInt8) (n : Nat) (P : List Nat) : List (List UInt8) := (List.range s.length).map fun k => (P.map fun p => gpow (loc n p) k) ++ [wd s k]
/-- what is to be added at a place -/
def amt (P : List Nat) (ch : List UInt8) (p : Nat) : UInt8 := ls (fun j => if pl P j = p then wd ch j else 0) (List.range P.length)
def fixW (word : List UInt8) (P : List Nat) (ch : List UInt8) : List UInt8 := (List.range word.length).map fun p => wd word p ^^^ amt P ch p
def chipsOf (P : List Nat) (ch : List UInt8) : List Nat := P.filter fun p => amt P ch p != 0
def decM (m fix : Nat) (word : List UInt8) (E : List Nat) : Nat × List UInt8 × List Nat :=
  if isClean (synL word m) then (0, word, [])
  else match locM (synL word m) word.length E (min fix ((m - E.length) / 2)) with
    | none => (2, [], [])
    | some P => match solve (rows0 (synL word m) word.length P) P.length with
      | none => (2, [], [])
      | some ch => (1, fixW word P ch, chipsOf P ch)
theorem amt_at {P : List Nat} (hP : Asc P) (ch : List UInt8) {j : Nat} (hj : j < P.length) : amt P ch (pl P j) = wd ch j := by
  unfold amt
  rw [ls_single (k := j) hj (fun i hi hne => if_neg (fun e => hne (pl_inj hP hi hj e))), if_pos rfl]
theorem amt_out {P : List Nat} (ch : List UInt8) {p : Nat} (hp : p ∉ P) : amt P ch p = 0 := by
  unfold amt
  exact ls_zero fun j hj => if_neg fun e => hp (by rw [← e]; exact pl_mem (List.mem_range.1 hj))
theorem fixW_length (word : List UInt8) (P : List Nat) (ch : List UInt8) : (fixW word P ch).length = word.length := by unfold fixW; simp
theorem wd_fixW (word : List UInt8) (P : List Nat) (ch : List UInt8) {p : Nat} (h : p < word.length) : wd (fixW word P ch) p = wd word p ^^^ amt P ch p := by
  refine wd_some ?_
  unfold fixW
  rw [List.getElem?_map, List.getElem?_range h]
  rfl
theorem rows0_length (s : List UInt8) (n : Nat) (P : List Nat) : (rows0 s n P).length = s.length := by unfold rows0; simp
theorem rw_rows0 (s : List UInt8) (n : Nat) (P : List Nat) {k : Nat} (h : k < s.length) : rw_ (rows0 s n P) k = (P.map fun p => gpow (loc n p) k) ++ [wd s k] := by
  refine rw_some ?_
  unfold rows0
  rw [List.getElem?_map, List.getElem?_range h]
  rfl
theorem wid_rows0 (s : List UInt8) (n : Nat) (P : List Nat) : Wid (rows0 s n P) (P.length + 1) := fun k hk => by
  rw [rows0_length] at hk
  rw [rw_rows0 s n P hk]
  simp
theorem dot_rows0 (s : List UInt8) (n : Nat) (P : List Nat) {k : Nat} (h : k < s.length) (y : Nat → UInt8) : dot (rw_ (rows0 s n P) k) y (P.length + 1) = ls (fun j => gmul (y j) (gpow (loc n (pl P j)) k)) (List.range P.length) ^^^ gmul (wd s k) (y P.length) := by
  unfold dot
  rw [ls_range_succ, rw_rows0 s n P h]
  congr 1
  · refine ls_congr fun j hj => ?_
    have hj := List.mem_range.1 hj
    rw [wd_left (by simpa using hj), gmul_comm]
    congr 1
    refine wd_some ?_
    rw [List.getElem?_map, pl_lt hj]
    rfl
  · congr 1
    have := wd_right (P.map fun p => gpow (loc n p) k) [wd s k] 0
    rw [List.length_map, Nat.add_zero] at this
    rw [this]; rfl
def diff (n : Nat) (V W : List UInt8) : List Nat := (List.range n).filter fun i => wd V i != wd W i
def oth (n : Nat) (E : List Nat) (V W : List UInt8) : Nat := ((List.range n).filter fun i => (wd V i != wd W i) && !E.contains i).length
/-- a code word that is near -/
structure Near (n m most : Nat) (E : List Nat) (W V : List UInt8) : Prop where
  len : V.length = n
  cw : Cw m V
  few : oth n E V W ≤ most
theorem diff_self (n : Nat) (W : List UInt8) : diff n W W = [] := by
  unfold diff
  rw [List.filter_eq_nil_iff]
  intro i _
  simp
theorem oth_self (n : Nat) (E : List Nat) (W : List UInt8) : oth n E W W = 0 := by
  unfold oth
  rw [List.length_eq_zero_iff, List.filter_eq_nil_iff]
  intro i _
  simp
theorem places_split {sg : List UInt8} {n m : Nat} {E : List Nat} (hE : Ers E n m) : (placesOf sg n E).length = E.length + ((List.range n).filter fun p => rootAt sg n p && !E.contains p).length := by
  unfold placesOf
  rw [cnt_split _ (fun p => E.contains p)]
  congr 1
  · have := congrArg List.length (ers_eq hE)
    rw [← this]
    congr 1
    exact filt_congr fun p _ => by cases E.contains p <;> simp
  · congr 1
    exact filt_congr fun p _ => by cases E.contains p <;> simp
theorem locM_some {s : List UInt8} {n m most : Nat} {E P : List Nat} (hE : Ers E n m) (h : locM s n E most = some P) : Asc P ∧ (∀ p ∈ P, p < n) ∧ ((List.range n).filter fun p => P.contains p && !E.contains p).length ≤ most ∧ ∃ t, P = (List.range n).filter t := by
  unfold locM at h
  split at h
  · cases h
  · rename_i h1
    split at h
    · rename_i h2
      cases h
      refine ⟨asc_filter _ _, fun p hp => List.mem_range.1 (List.mem_filter.1 hp).1, ?_, _, rfl⟩
      have h3 := places_split (sg := shortest (stripAll n s E)) hE
      have e : ((List.range n).filter fun p => (placesOf (shortest (stripAll n s E)) n E).contains p && !E.contains p) = (List.range n).filter fun p => rootAt (shortest (stripAll n s E)) n p && !E.contains p := filt_congr fun p hp => by
        have : (placesOf (shortest (stripAll n s E)) n E).contains p = (E.contains p || rootAt (shortest (stripAll n s E)) n p) := by
          rw [Bool.eq_iff_iff, List.contains_iff_mem]
          unfold placesOf
          rw [List.mem_filter, List.mem_range]
          exact ⟨fun h => h.2, fun h => ⟨hp, h⟩⟩
        rw [this]
        cases E.contains p <;> simp
      rw [e]
      omega
    · cases h
theorem dsyn_at {W : List UInt8} {n m : Nat} (hl : W.length = n) {k : Nat} (hk : k < m) : wd (synL W m) k = dsyn (wd W) n k := by
  rw [wd_synL _ hk, syn_eq, hl]
/-- what decoding gives is a near code word, and what it tells of it is so -/
theorem dec_sound {W : List UInt8} {n m fix : Nat} {E : List Nat} (hl : W.length = n) (hE : Ers E n m) : decM m fix W E = (2, [], []) ∨ ∃ V, Near n m (min fix ((m - E.length) / 2)) E W V ∧ decM m fix W E = (if V = W then 0 else 1, V, diff n V W) := by
  unfold decM
  cases hc : isClean (synL W m) with
  | true =>
    refine .inr ⟨W, ⟨hl, clean_iff.1 hc, by rw [oth_self]; exact Nat.zero_le _⟩, ?_⟩
    rw [if_pos rfl, if_pos rfl, diff_self]
  | false =>
    rw [if_neg (by simp), hl]
    cases h1 : locM (synL W m) n E (min fix ((m - E.length) / 2)) with
    | none => exact .inl rfl
    | some P =>
      dsimp only
      cases h2 : solve (rows0 (synL W m) n P) P.length with
      | none => exact .inl rfl
      | some ch =>
        dsimp only
        obtain ⟨p1, p2, p3, t, p4⟩ := locM_some hE h1
        obtain ⟨q1, q2⟩ := solve_sound (wid_rows0 _ _ _) h2
        have hcw : Cw m (fixW W P ch) := fun k hk => by
          have hq := q2 k (by rw [rows0_length, synL_length]; exact hk)
          rw [dot_rows0 _ _ _ (by rw [synL_length]; exact hk)] at hq
          rw [if_pos rfl, gmul_one] at hq
          rw [syn_eq, fixW_length, hl, dsyn_congr (E := fun p => wd W p ^^^ amt P ch p) (fun p hp => wd_fixW W P ch (by omega)), dsyn_add, ← dsyn_at hl hk]
          have e : dsyn (amt P ch) n k = ls (fun j => gmul (if j = P.length then 1 else wd ch j) (gpow (loc n (pl P j)) k)) (List.range P.length) := by
            unfold dsyn
            have e1 := ls_sub p4 (fun p => gmul (amt P ch p) (gpow (loc n p) k)) (fun p hp => by rw [amt_out ch hp, zero_gmul])
            rw [← e1, ls_pl]
            refine ls_congr fun j hj => ?_
            have hj := List.mem_range.1 hj
            rw [amt_at p1 ch hj, if_neg (by omega)]
          rw [e, UInt8.xor_comm]
          exact hq
        have hne : ∀ i, i < n → ((wd (fixW W P ch) i != wd W i) = (amt P ch i != 0)) := fun i hi => by
          rw [wd_fixW W P ch (by omega), Bool.eq_iff_iff, bne_iff_ne, bne_iff_ne]
          refine not_congr ⟨fun e => ?_, fun e => by rw [e, UInt8.xor_zero]⟩
          have := congrArg (fun x => wd W i ^^^ x) e
          simp only [← UInt8.xor_assoc, UInt8.xor_self, UInt8.zero_xor] at this
          exact this
        refine .inr ⟨fixW W P ch, ⟨by rw [fixW_length, hl], hcw, ?_⟩, ?_⟩
        · refine Nat.le_trans (cnt_mono fun p hp h => ?_) p3
          rw [Bool.and_eq_true] at h ⊢
          refine ⟨?_, h.2⟩
          rw [hne p (List.mem_range.1 hp), bne_iff_ne] at h
          rw [List.contains_iff_mem]
          rcases Classical.em (p ∈ P) with hm | hm
          · exact hm
          · exact absurd (amt_out ch hm) h.1
        · have hW : fixW W P ch ≠ W := fun e => by
            rw [e] at hcw
            rw [clean_iff.2 hcw] at hc
            cases hc
          rw [if_neg hW]
          congr 2
          unfold chipsOf diff
          conv => lhs; rw [p4]
          rw [List.filter_filter]
          refine filt_congr fun i hi => ?_
          rw [hne i hi]
          rw [← p4]
          cases ha : amt P ch i != 0 with
          | false => rfl
          | true =>
            rw [Bool.true_and]
            rcases Classical.em (i ∈ P) with hm | hm
            · rw [p4] at hm; exact (List.mem_filter.1 hm).2
            · rw [amt_out ch hm] at ha; cases ha
/-- no two near code words -/
theorem near_only {W V V' : List UInt8} {n m most : Nat} {E : List Nat} (hn : n ≤ 255) (hE : Ers E n m) (h2 : 2 * most + E.length ≤ m) (h : Near n m most E W V) (h' : Near n m most E W V') : V = V' := by
  refine wd_ext (by rw [h.len, h'.len]) fun i hi => ?_
  have hD := dist (D := fun i => wd V i ^^^ wd V' i) (n := n) (m := m) hn ?_ (fun k hk => by
    rw [dsyn_add]
    have e1 := syn_eq V k
    have e2 := syn_eq V' k
    rw [h.len] at e1
    rw [h'.len] at e2
    rw [← e1, ← e2, h.cw k hk, h'.cw k hk]; rfl) i (by have := h.len; omega)
  · exact UInt8.xor_eq_zero_iff.1 hD
  · unfold wt
    rw [List.countP_eq_length_filter]
    have a1 := h.few
    have a2 := h'.few
    have a3 : (List.filter (fun i => wd V i ^^^ wd V' i != 0) (List.range n)).length ≤ (List.filter (fun i => E.contains i || ((wd V i != wd W i) && !E.contains i || (wd V' i != wd W i) && !E.contains i)) (List.range n)).length := cnt_mono fun p hp hx => by
      cases he : E.contains p with
      | true => rfl
      | false =>
        simp only [Bool.false_or, Bool.not_false, Bool.and_true]
        rw [Bool.or_eq_true, bne_iff_ne, bne_iff_ne]
        rcases Classical.em (wd V p = wd W p) with e | e
        · right
          intro e'
          rw [e, e', UInt8.xor_self] at hx
          cases hx
        · exact .inl e
    have a4 := cnt_or (fun i => E.contains i) (fun i => (wd V i != wd W i) && !E.contains i || (wd V' i != wd W i) && !E.contains i) (List.range n)
    have a5 := cnt_or (fun i => (wd V i != wd W i) && !E.contains i) (fun i => (wd V' i != wd W i) && !E.contains i) (List.range n)
    have a6 : (List.filter (fun i => E.contains i) (List.range n)).length = E.length := congrArg List.length (ers_eq hE)
    unfold oth at a1 a2
    refine Nat.le_trans a3 ?_
    omega
/-- a near code word is found -/
theorem dec_complete {W V : List UInt8} {n m fix : Nat} {E : List Nat} (hn : n ≤ 255) (hm : m ≤ 250) (hl : W.length = n) (hE : Ers E n m) (h : Near n m (min fix ((m - E.length) / 2)) E W V) : decM m fix W E ≠ (2, [], []) := by
  unfold decM
  cases hc : isClean (synL W m) with
  | true => rw [if_pos rfl]; intro e; cases e
  | false =>
    rw [if_neg (by simp), hl]
    have hle := hE.le
    have hmost : 2 * min fix ((m - E.length) / 2) ≤ m - E.length := by omega
    generalize min fix ((m - E.length) / 2) = most at *
    -- what is wrong
    have hD : ∀ k, k < m → wd (synL W m) k = dsyn (fun i => wd V i ^^^ wd W i) n k := fun k hk => by
      have e1 := syn_eq V k
      rw [h.len] at e1
      rw [dsyn_add, ← e1, h.cw k hk, UInt8.zero_xor, dsyn_at hl hk]
    obtain ⟨T, hT⟩ : ∃ T, T = (List.range n).filter fun i => (wd V i != wd W i) && !E.contains i := ⟨_, rfl⟩
    have hTl : T.length ≤ most := by rw [hT]; exact h.few
    have hTm : ∀ i, i ∈ T ↔ i < n ∧ wd V i ≠ wd W i ∧ i ∉ E := fun i => by
      rw [hT, List.mem_filter, List.mem_range, Bool.and_eq_true, bne_iff_ne, Bool.not_eq_true', ← Bool.not_eq_true, List.contains_iff_mem]
    have hTa : Asc T := by rw [hT]; exact asc_filter _ _
    obtain ⟨u1, u2⟩ := strip_all E (synL W m) (fun i => wd V i ^^^ wd W i) (fun k hk => by rw [synL_length] at hk; exact hD k hk)
    rw [synL_length] at u1 u2
    obtain ⟨r1, r2⟩ := shortest_roots hn (M := m - E.length) u1 (f := fun i => gmul (wd V i ^^^ wd W i) (prE n E i)) (asc_nodup hTa) (fun p hp => ((hTm p).1 hp).1) (fun p hp => by
        obtain ⟨b1, b2, b3⟩ := (hTm p).1 hp
        exact gmul_ne _ _ (fun e => b2 (UInt8.xor_eq_zero_iff.1 e)) (prE_ne hn hE.lt b1 b3)) (fun k hk => by
        rw [u2 k hk]
        unfold dsyn
        rw [hT, ls_filter _ _ _ (fun p hp ht => ?_)]
        rw [Bool.and_eq_false_iff] at ht
        rcases ht with ht | ht
        · have e : wd V p = wd W p := by simpa using ht
          rw [e, UInt8.xor_self, zero_gmul, zero_gmul]
        · have e : p ∈ E := by rw [Bool.not_eq_false', List.contains_iff_mem] at ht; exact ht
          rw [prE_zero e, gmul_zero, zero_gmul]) (by omega) (by omega)
    have hroot : ((List.range n).filter fun p => rootAt (shortest (stripAll n (synL W m) E)) n p && !E.contains p) = T := asc_ext (asc_filter _ _) hTa fun p => by
      rw [List.mem_filter, List.mem_range, Bool.and_eq_true, Bool.not_eq_true', ← Bool.not_eq_true, List.contains_iff_mem]
      exact ⟨fun ⟨b1, b2, b3⟩ => (r2 p b1).1 b2, fun hp => ⟨((hTm p).1 hp).1, (r2 p ((hTm p).1 hp).1).2 hp, ((hTm p).1 hp).2.2⟩⟩
    have hlen := places_split (sg := shortest (stripAll n (synL W m) E)) hE
    rw [hroot] at hlen
    have hloc : locM (synL W m) n E most = some (placesOf (shortest (stripAll n (synL W m) E)) n E) := by
      unfold locM
      rw [if_neg (by omega), if_pos (by omega)]
    rw [hloc]
    dsimp only
    obtain ⟨P, hP⟩ : ∃ P, P = placesOf (shortest (stripAll n (synL W m) E)) n E := ⟨_, rfl⟩
    rw [← hP] at hlen ⊢
    have hPa : Asc P := by rw [hP]; exact asc_filter _ _
    have hPm : ∀ i, i ∈ P ↔ i < n ∧ (i ∈ E ∨ i ∈ T) := fun i => by
      rw [hP]
      unfold placesOf
      rw [List.mem_filter, List.mem_range, Bool.or_eq_true, List.contains_iff_mem]
      refine and_congr_right fun hi => or_congr_right (r2 i hi)
    have hPlt : ∀ j, j < P.length → pl P j < n := fun j hj => ((hPm _).1 (pl_mem hj)).1
    obtain ⟨x, hx, _⟩ := solve_one (rows := rows0 (synL W m) n P) (w := P.length) (wid_rows0 _ _ _) (fun y hy hy0 j hj => by
        refine vand (fun j => loc n (pl P j)) (List.range P.length) y ?_ (fun k hk => ?_) j (List.mem_range.2 hj)
        · refine List.Pairwise.imp_of_mem ?_ (pair_range P.length)
          intro a b ha hb hab e
          have ha := List.mem_range.1 ha
          have hb := List.mem_range.1 hb
          have := pl_inj hPa ha hb (loc_inj hn (hPlt a ha) (hPlt b hb) e)
          omega
        · rw [List.length_range] at hk
          have := hy k (by rw [rows0_length, synL_length]; omega)
          rw [dot_rows0 _ _ _ (by rw [synL_length]; omega), hy0, gmul_zero, UInt8.xor_zero] at this
          exact this) (y := fun j => if j = P.length then 1 else wd V (pl P j) ^^^ wd W (pl P j)) (fun k hk => by
        rw [rows0_length, synL_length] at hk
        rw [dot_rows0 _ _ _ (by rw [synL_length]; exact hk)]
        rw [if_pos rfl, gmul_one, hD k hk]
        have e : ls (fun j => gmul (if j = P.length then 1 else wd V (pl P j) ^^^ wd W (pl P j)) (gpow (loc n (pl P j)) k)) (List.range P.length) = dsyn (fun i => wd V i ^^^ wd W i) n k := by
          rw [ls_congr (g := fun j => gmul (wd V (pl P j) ^^^ wd W (pl P j)) (gpow (loc n (pl P j)) k)) (fun j hj => by have := List.mem_range.1 hj; rw [if_neg (by omega)]), ← ls_pl (fun i => gmul (wd V i ^^^ wd W i) (gpow (loc n i) k)) P]
          unfold dsyn
          have e2 : P = (List.range n).filter fun p => E.contains p || rootAt (shortest (stripAll n (synL W m) E)) n p := hP
          rw [e2, ls_filter _ _ _ (fun p hp ht => ?_)]
          rw [Bool.or_eq_false_iff] at ht
          have hpn := List.mem_range.1 hp
          have hpE : p ∉ E := fun hm => by rw [List.contains_iff_mem.2 hm] at ht; cases ht.1
          have hpT : p ∉ T := fun hm => by rw [(r2 p hpn).2 hm] at ht; cases ht.2
          have e3 : wd V p = wd W p := by
            rcases Classical.em (wd V p = wd W p) with e | e
            · exact e
            · exact absurd ((hTm p).2 ⟨hpn, e, hpE⟩) hpT
          rw [e3, UInt8.xor_self, zero_gmul]
        rw [e, UInt8.xor_self]) (if_pos rfl)
    rw [hx]
    dsimp only
    intro e
    cases e
/-- decoding finds the near code word -/
theorem dec_near {W V : List UInt8} {n m fix : Nat} {E : List Nat} (hn : n ≤ 255) (hm : m ≤ 250) (hl : W.length = n) (hE : Ers E n m) (h : Near n m (min fix ((m - E.length) / 2)) E W V) : decM m fix W E = (if V = W then 0 else 1, V, diff n V W) := by
  rcases dec_sound (fix := fix) hl hE with h1 | ⟨V', h1, h2⟩
  · exact absurd h1 (dec_complete hn hm hl hE h)
  · have hle := hE.le
    rw [near_only hn hE (by omega) h h1]
    exact h2
end Sy
end Go.Proofs.YtnplaejlmbncfaaGreatDoor

namespace Go.Proofs.YtnplaejlmbncfaaGreatDoor
set_option linter.unusedVariables false
namespace Na
/-- the number of some limbs -/
def val : List Nat → Nat
  | [] => 0
  | a :: l => a + 16777216 * val l
/-- limbs are small -/
def Lim (l : List Nat) : Prop := ∀ a ∈ l, a < 16777216
theorem Lim.tail {a : Nat} {l : List Nat} (h : Lim (a :: l)) : Lim l := fun b hb => h b (List.mem_cons_of_mem _ hb)
theorem Lim.head {a : Nat} {l : List Nat} (h : Lim (a :: l)) : a < 16777216 := h a (List.mem_cons_self ..)
theorem Lim.at {l : List Nat} (h : Lim l) {k a : Nat} (hk : l[k]? = some a) : a < 16777216 := h a (List.mem_of_getElem? hk)
theorem Lim.nil : Lim [] := fun a h => by cases h
theorem Lim.cons {a : Nat} {l : List Nat} (h : a < 16777216) (hl : Lim l) : Lim (a :: l) := fun b hb => by
  rcases List.mem_cons.1 hb with rfl | hb
  · exact h
  · exact hl b hb
theorem Lim.append {l m : List Nat} (h : Lim l) (hm : Lim m) : Lim (l ++ m) := fun b hb => by
  rcases List.mem_append.1 hb with hb | hb
  · exact h b hb
  · exact hm b hb
theorem Lim.one {a : Nat} (h : a < 16777216) : Lim [a] := Lim.cons h Lim.nil
theorem Lim.take {l : List Nat} (h : Lim l) (k : Nat) : Lim (l.take k) := fun b hb => h b (List.mem_of_mem_take hb)
theorem Lim.drop {l : List Nat} (h : Lim l) (k : Nat) : Lim (l.drop k) := fun b hb => h b (List.mem_of_mem_drop hb)
theorem Lim.set {l : List Nat} (h : Lim l) (k : Nat) {a : Nat} (ha : a < 16777216) : Lim (l.set k a) := fun b hb => by
  rcases List.mem_or_eq_of_mem_set hb with hb | rfl
  · exact h b hb
  · exact ha
theorem Lim.zeros (n : Nat) : Lim (List.replicate n 0) := fun b hb => by
  have := List.eq_of_mem_replicate hb
  omega
/-- the length without zeros at the end -/
def tl (l : List Nat) : Nat → Nat
  | 0 => 0
  | n + 1 => if l[n]? = some 0 then tl l n else n + 1
theorem tl_le (l : List Nat) : ∀ n, tl l n ≤ n := by
  intro n
  induction n with
  | zero => exact Nat.le_refl _
  | succ n ih =>
    unfold tl
    split
    · omega
    · exact Nat.le_refl _
theorem tl_zero (l : List Nat) (n : Nat) (h : l[n]? = some 0) : tl l (n + 1) = tl l n := by rw [tl, if_pos h]
theorem tl_stop (l : List Nat) (n : Nat) (h : l[n]? ≠ some 0) : tl l (n + 1) = n + 1 := by rw [tl, if_neg h]
theorem tl_last (l : List Nat) : ∀ n, tl l n = 0 ∨ l[tl l n - 1]? ≠ some 0 := by
  intro n
  induction n with
  | zero => exact .inl rfl
  | succ n ih =>
    by_cases h : l[n]? = some 0
    · rw [tl_zero l n h]
      exact ih
    · rw [tl_stop l n h]
      exact .inr h
def trim (l : List Nat) : List Nat := l.take (tl l l.length)
theorem trim_length (l : List Nat) : (trim l).length = tl l l.length := by
  unfold trim
  rw [List.length_take]
  have := tl_le l l.length
  omega
/-- the limit -/
def top : Nat := 16777216 ^ 200
/-- ints as limbs: P1.1 -/
def lim (z : Int) : Bool := decide (0 ≤ z) && decide (z < 16777216)
def vld (zs : List Int) : Bool := zs.all lim && (decide (zs.length ≤ 200) && (zs.getLast? != some 0))
end Na
end Go.Proofs.YtnplaejlmbncfaaGreatDoor

namespace Go.Proofs.YtnplaejlmbncfaaGreatDoor
open Go.RowKit
set_option linter.unusedVariables false
set_option maxRecDepth 100000

/-- ints as values -/
def encI (n : Int) : Value := .int .i64 n
def ints (l : List Int) : List Value := l.map encI
theorem ints_length (l : List Int) : (ints l).length = l.length := List.length_map _
theorem Sl.int {w : World} {B : Nat} {A : Option Addr} {l : List Int} (h : Sl w B A (ints l)) {k : Nat} {b : Int} (hk : l[k]? = some b) : ∃ ad, A = some ad ∧ ad.block < B ∧ w.cell? (ad.add k) = some (.int .i64 b) := by
  have hlt : k < l.length := by
    rcases Nat.lt_or_ge k l.length with h | h
    · exact h
    · rw [List.getElem?_eq_none h] at hk; cases hk
  obtain ⟨ad, e, hb, hc⟩ := h (by rw [ints_length]; omega)
  exact ⟨ad, e, hb, hc k _ (by unfold ints; rw [List.getElem?_map, hk]; rfl)⟩
theorem int_at (l : List Int) (k : Nat) (h : k < l.length) : ∃ b : Int, l[k]? = some b := ⟨_, List.getElem?_eq_getElem h⟩

/-- Dice lie in block g: a list of numbers below block B, and how many are given out. -/
def Dice (w : World) (g B : Nat) : Prop :=
  ∃ (A : Option Addr) (n c at_ : Nat) (ts : List Int), w.heap[g]? = some (.cells #[.slice A n c, .int .i64 (at_ : Int)] 87 (0, 0)) ∧ ts.length = n ∧ at_ ≤ n ∧ n ≤ 140737488355328 ∧ Sl w B A (ints ts) ∧ B ≤ g
theorem Dice.lt {w : World} {g B : Nat} (h : Dice w g B) : g < w.heap.size := by
  obtain ⟨A, n, c, at_, ts, hh, _⟩ := h
  rcases Nat.lt_or_ge g w.heap.size with hlt | hge
  · exact hlt
  · rw [Array.getElem?_eq_none hge] at hh; cases hh
theorem Dice.keep {w w' : World} {g B : Nat} (h : Dice w g B) (hk : ∀ b, b ≤ g → w'.heap[b]? = w.heap[b]?) : Dice w' g B := by
  obtain ⟨A, n, c, at_, ts, hh, h1, h2, h3, hs, hB⟩ := h
  exact ⟨A, n, c, at_, ts, (hk g (Nat.le_refl _)).trans hh, h1, h2, h3, hs.keep fun p hp => World.cell?_of_block (hk p.block (by omega)), hB⟩
theorem Dice.below {w w' : World} {g B : Nat} (h : Dice w g B) (hb : Below w.heap.size w w') : Dice w' g B := h.keep fun b hb' => hb.block b (by have := h.lt; omega)
theorem Dice.drewN {w : World} {g B : Nat} (h : Dice w g B) (k : Nat) : Dice (w.drewN k) g B := h
theorem Dice.drew {w : World} {g B : Nat} (h : Dice w g B) : Dice w.drew g B := h
theorem Dice.grown {w w' : World} {g B : Nat} (h : Dice w g B) {row : Option Nat} (hg : w.grownBy w' row) (hr : ∀ k, row = some k → g < k) : Dice w' g B := h.keep fun b hb' => hg.block b (by have := h.lt; omega) (fun e => by have := hr b e.symm; omega)

theorem light_any (A : Option Addr) (n c : Nat) (w : World) (hl : n ≤ 9223372036854775807) : Calls Tryz.prog 11 #[.slice A n c] w fun e w' => e = .returned (.bool (decide ((n : Int) ≤ 400))) ∧ w = w' := by
  go_enter Tryz.func11, Tryz.ntmps11
  go_wp2_with fail
  go_ret
  exact ⟨rfl, rfl⟩
/-- what a number given out leaves -/
def Gave (w : World) (g B : Nat) (m : Int) (e : Ending) (w' : World) : Prop := ∃ r : Int, e = .returned (.int .i64 r) ∧ 0 ≤ r ∧ r < m ∧ Dice w' g B ∧ w.grownBy w' (some g)
theorem next_any (g B : Nat) (m : Int) (w : World) (hm : 1 ≤ m) (hm2 : m ≤ 9223372036854775807) (hd : Dice w g B) : Calls Tryz.prog 17 #[.pointer (some ⟨g, 0, none⟩), .int .i64 m] w (Gave w g B m) := by
  obtain ⟨A, n, c, k, ts, hh, hts, hk, hn, hs, hB⟩ := hd
  have hc0 : w.cell? ⟨g, 0, none⟩ = some (.slice A n c) := cell_of_row w g 0 _ _ _ hh
  have hc1 : w.cell? ⟨g, 1, none⟩ = some (.int .i64 (k : Int)) := cell_of_row w g 1 _ _ _ hh
  have hf1 : w.frozen? ⟨g, 1, none⟩ = false := frozen_of_row w g 1 _ _ hh
  have HD : Hid (Dice w g B) := ⟨A, n, c, k, ts, hh, hts, hk, hn, hs, hB⟩
  rcases Nat.lt_or_ge k n with hlt | hge
  · obtain ⟨x, hx⟩ := int_at ts k (by omega)
    obtain ⟨ad, rfl, hbk, hcx⟩ := hs.int hx
    have hcx' : (w.setCell ⟨g, 1, none⟩ (.int .i64 ((k : Int) + 1))).cell? (ad.add k) = some (.int .i64 x) := by
      rw [World.cell?_setCell_other _ _ _ _ (fun e => by have := congrArg Addr.block e; rw [add_block] at this; simp at this; omega)]
      exact hcx
    have HD1 : Hid (Dice (w.setCell ⟨g, 1, none⟩ (.int .i64 ((k : Int) + 1))) g B) :=
      ⟨some ad, n, c, k + 1, ts, by rw [heap_setCell_same w g 1 _ _ _ hh]; rfl, hts, by omega, hn, hs.below ((Below.refl B w).setCell (p := ⟨g, 1, none⟩) hB _), hB⟩
    have HG : Hid (w.grownBy (w.setCell ⟨g, 1, none⟩ (.int .i64 ((k : Int) + 1))) (some g)) :=
      ⟨rfl, rfl, rfl, by simp [World.setCell], fun i hi hne => Below.heap_setCell _ _ _ _ (fun e => hne (by rw [e]))⟩
    have hc0' : (w.setCell ⟨g, 1, none⟩ (.int .i64 ((k : Int) + 1))).cell? ⟨g, 0, none⟩ = some (.slice (some ad) n c) := by
      rw [World.cell?_setCell_other _ _ _ _ (by simp)]
      exact hc0
    have hc1' : (w.setCell ⟨g, 1, none⟩ (.int .i64 ((k : Int) + 1))).cell? ⟨g, 1, none⟩ = some (.int .i64 ((k : Int) + 1)) := World.cell?_setCell_same' _ _ _ (by rw [hc1]; rfl)
    have HF : Hid (∀ nq : Nat, ∃ w2, ((w.drewN nq).setCell ⟨g, 1, none⟩ (.int .i64 ((k : Int) + 1))) = w2 ∧ w2.cell? ⟨g, 0, none⟩ = some (.slice (some ad) n c) ∧ w2.cell? ⟨g, 1, none⟩ = some (.int .i64 ((k : Int) + 1)) ∧ w2.cell? (ad.add k) = some (.int .i64 x) ∧ Hid (Dice w2 g B) ∧ Hid (w.grownBy w2 (some g))) :=
      fun nq => ⟨_, rfl, hc0', hc1', hcx', HD1.drewN nq, grown_drewN HG nq⟩
    clear hh hts hx hs hcx HD hc0' hc1' hcx' HD1 HG
    go_enter Tryz.func17, Tryz.ntmps17
    go_wp2_with fail
    go_quiet (fail)
    go_wp2_with fail
    obtain ⟨w2, hw2, d0, d1, dx, HD, HG⟩ := HF.out nq
    rw [hw2]
    clear hw2 hc0 hc1 hf1 HF
    have s1 : IntKind.i64.wrap (k : Int) = (k : Int) := IntWalk.i64_in _ (by omega)
    have s2 : (k : Int) < (n : Int) := by omega
    go_quiet ((go_at_call 34; with_reducible exact quiet_left (mod_any _ _ _ hm hm2)))
    go_wp2_with fail
    go_ret
    exact ⟨x % m, rfl, Int.emod_nonneg _ (by omega), Int.emod_lt_of_pos _ (by omega), HD.out.drewN _, grown_drewN HG.out _⟩
  · have hz : (n : Int) ≤ (k : Int) := by omega
    have hz' : decide (n ≤ k) = true := decide_eq_true hge
    clear hh hts hs hge
    go_enter Tryz.func17, Tryz.ntmps17
    go_wp2_with fail
    go_quiet (fail)
    go_wp2_with fail
    go_ret
    exact ⟨0, rfl, Int.le_refl _, by omega, HD.out.drewN _, grown_drewN (World.grownBy.refl _ _) _⟩
end Go.Proofs.YtnplaejlmbncfaaGreatDoor

namespace Go.Proofs.YtnplaejlmbncfaaGreatDoor
open Go.RowKit
set_option linter.unusedVariables false
set_option maxRecDepth 100000

/-- limbs as values -/
def encN (n : Nat) : Value := .int .i64 (n : Int)
def nats (l : List Nat) : List Value := l.map encN
theorem nats_length (l : List Nat) : (nats l).length = l.length := List.length_map _
theorem nats_one (l : List Nat) : ∀ u ∈ nats l, u.oneCell' = true := by
  intro u hu
  obtain ⟨b, _, rfl⟩ := List.mem_map.1 hu
  rfl
theorem nats_snoc (l : List Nat) (b : Nat) : nats l ++ [.int .i64 (b : Int)] = nats (l ++ [b]) := by simp [nats, encN]
theorem nats_set (l : List Nat) (k b : Nat) : (nats l).set k (.int .i64 (b : Int)) = nats (l.set k b) := by unfold nats; rw [List.map_set]; rfl
theorem get_lt {α : Type} {l : List α} {k : Nat} {b : α} (hk : l[k]? = some b) : k < l.length := by
  rcases Nat.lt_or_ge k l.length with h | h
  · exact h
  · rw [List.getElem?_eq_none h] at hk; cases hk
theorem Sl.nat {w : World} {B : Nat} {A : Option Addr} {l : List Nat} (h : Sl w B A (nats l)) {k : Nat} {b : Nat} (hk : l[k]? = some b) : ∃ ad, A = some ad ∧ ad.block < B ∧ w.cell? (ad.add k) = some (.int .i64 (b : Int)) := by
  have hlt := get_lt hk
  obtain ⟨ad, e, hb, hc⟩ := h (by rw [nats_length]; omega)
  exact ⟨ad, e, hb, hc k _ (by unfold nats; rw [List.getElem?_map, hk]; rfl)⟩
theorem infoI : (Tryz.prog.info? 3).map (fun i => (i.zero, i.size, i.bytes)) = some (some (.int .i64 0), 1, 8) := by kernel_rfl
/-- what a call leaves that hands back limbs alone -/
def FreshN (w : World) (l : List Nat) (en : Ending) (w' : World) : Prop :=
  ∃ (A : Option Addr) (n c : Nat), en = .returned (.slice A n c) ∧ l.length = n ∧ w'.ownsRow w.heap.size 3 1 (.slice A n c) n (nats l) ∧ Below w.heap.size w w'
namespace Na
theorem vld_nil : vld [] = true := by rfl
end Na
theorem own_box1 (w : World) (o : Obj) : Below w.heap.size w (w.alloc o) := (Below.refl _ _).alloc (Nat.le_refl _) _
def resE (x : Nat) : Int := if x < Na.top then 0 else 3
theorem grown_set (w : World) (a : Addr) (v : Value) : w.grownBy (w.setCell a v) (some a.block) := ⟨rfl, rfl, rfl, by simp [World.setCell], fun i hi hne => Below.heap_setCell _ _ _ _ (fun e => hne (by rw [e]))⟩
theorem cell_of_set {w : World} {a : Addr} {u : Value} (v : Value) (h : w.cell? a = some u) : (w.setCell a v).cell? a = some v := World.cell?_setCell_same' _ _ _ (by rw [h]; rfl)
end Go.Proofs.YtnplaejlmbncfaaGreatDoor

namespace Go.Proofs.YtnplaejlmbncfaaGreatDoor
set_option linter.unusedVariables false
namespace Na
end Na
end Go.Proofs.YtnplaejlmbncfaaGreatDoor

namespace Go.Proofs.YtnplaejlmbncfaaGreatDoor
set_option linter.unusedVariables false
namespace Na
end Na
end Go.Proofs.YtnplaejlmbncfaaGreatDoor

namespace Go.Proofs.YtnplaejlmbncfaaGreatDoor
set_option linter.unusedVariables false
namespace De
/-- the number of some digits -/
def val : List Nat → Nat
  | [] => 0
  | a :: l => a + 10 * val l
/-- digits are small -/
def Lim (l : List Nat) : Prop := ∀ a ∈ l, a < 10
theorem Lim.tail {a : Nat} {l : List Nat} (h : Lim (a :: l)) : Lim l := fun b hb => h b (List.mem_cons_of_mem _ hb)
theorem Lim.head {a : Nat} {l : List Nat} (h : Lim (a :: l)) : a < 10 := h a (List.mem_cons_self ..)
theorem Lim.at {l : List Nat} (h : Lim l) {k a : Nat} (hk : l[k]? = some a) : a < 10 := h a (List.mem_of_getElem? hk)
theorem Lim.nil : Lim [] := fun a h => by cases h
theorem Lim.cons {a : Nat} {l : List Nat} (h : a < 10) (hl : Lim l) : Lim (a :: l) := fun b hb => by
  rcases List.mem_cons.1 hb with rfl | hb
  · exact h
  · exact hl b hb
theorem Lim.append {l m : List Nat} (h : Lim l) (hm : Lim m) : Lim (l ++ m) := fun b hb => by
  rcases List.mem_append.1 hb with hb | hb
  · exact h b hb
  · exact hm b hb
theorem Lim.one {a : Nat} (h : a < 10) : Lim [a] := Lim.cons h Lim.nil
theorem Lim.take {l : List Nat} (h : Lim l) (k : Nat) : Lim (l.take k) := fun b hb => h b (List.mem_of_mem_take hb)
theorem Lim.drop {l : List Nat} (h : Lim l) (k : Nat) : Lim (l.drop k) := fun b hb => h b (List.mem_of_mem_drop hb)
theorem Lim.set {l : List Nat} (h : Lim l) (k : Nat) {a : Nat} (ha : a < 10) : Lim (l.set k a) := fun b hb => by
  rcases List.mem_or_eq_of_mem_set hb with hb | rfl
  · exact h b hb
  · exact ha
theorem Lim.zeros (n : Nat) : Lim (List.replicate n 0) := fun b hb => by
  have := List.eq_of_mem_replicate hb
  omega
/-- the length without zeros at the end -/
def tl (l : List Nat) : Nat → Nat
  | 0 => 0
  | n + 1 => if l[n]? = some 0 then tl l n else n + 1
theorem tl_le (l : List Nat) : ∀ n, tl l n ≤ n := by
  intro n
  induction n with
  | zero => exact Nat.le_refl _
  | succ n ih =>
    unfold tl
    split
    · omega
    · exact Nat.le_refl _
theorem tl_zero (l : List Nat) (n : Nat) (h : l[n]? = some 0) : tl l (n + 1) = tl l n := by rw [tl, if_pos h]
theorem tl_stop (l : List Nat) (n : Nat) (h : l[n]? ≠ some 0) : tl l (n + 1) = n + 1 := by rw [tl, if_neg h]
theorem tl_last (l : List Nat) : ∀ n, tl l n = 0 ∨ l[tl l n - 1]? ≠ some 0 := by
  intro n
  induction n with
  | zero => exact .inl rfl
  | succ n ih =>
    by_cases h : l[n]? = some 0
    · rw [tl_zero l n h]
      exact ih
    · rw [tl_stop l n h]
      exact .inr h
def trim (l : List Nat) : List Nat := l.take (tl l l.length)
theorem trim_length (l : List Nat) : (trim l).length = tl l l.length := by
  unfold trim
  rw [List.length_take]
  have := tl_le l l.length
  omega
/-- a digit as a letter -/
def asc (d : Nat) : UInt8 := UInt8.ofNat (48 + d)
/-- without zeros in front -/
def strip : List UInt8 → List UInt8
  | [] => []
  | c :: l => if c = 48 then strip l else c :: l
end De
end Go.Proofs.YtnplaejlmbncfaaGreatDoor

namespace Go.Proofs.YtnplaejlmbncfaaGreatDoor
open Go.RowKit
set_option linter.unusedVariables false
set_option maxRecDepth 100000
theorem nclone_any (A : Option Addr) (n c B : Nat) (l : List Nat) (w : World) (hn : l.length = n) (hs : Sl w B A (nats l)) (hB : B ≤ w.heap.size) (hl : n ≤ 17592186044416) :
    Calls Tryz.prog 141 #[.slice A n c] w (FreshN w l) := by
  obtain ⟨i0, hi, hz0, hz1, hz2⟩ := info_parts infoI
  cases A with
  | none =>
    have h0 : n = 0 := by
      rcases Nat.eq_zero_or_pos n with h | h
      · exact h
      · obtain ⟨ad, h, _⟩ := hs (by rw [nats_length]; omega)
        cases h
    subst h0
    have hl0 : l = [] := List.eq_nil_of_length_eq_zero hn
    subst hl0
    have heq := fun w => Lib.run_eql_slice_nil (P := Tryz.prog) w 22 3 none 0 c 0 0 Tryz.underlying22
    clear hs hn
    go_enter Tryz.func141, Tryz.ntmps141
    go_wp2_with fail
    go_ret
    exact ⟨none, 0, 0, rfl, rfl, World.ownsRow_nil _ _ _ _, Below.refl _ _⟩
  | some ad =>
    have heq := fun w => Lib.run_eql_slice_nil (P := Tryz.prog) w 22 3 (some ad) n c 0 0 Tryz.underlying22
    have HN := Lib.hid ((nats_length l).trans hn)
    have HN2 := Lib.hid hn
    have hbw := (Below.refl w.heap.size w).alloc (Nat.le_refl _) (.cells #[] 3)
    have HS : Hid (Sl (w.alloc (.cells #[] 3)) B (some ad) (nats l)) := hs.alloc hB _
    have HO := Lib.hid (own_empty w 3)
    clear hn hs
    go_enter Tryz.func141, Tryz.ntmps141
    go_wp2_with (at_builtin; refine wpList_append_sl _ rfl (.tmp 5) (.tmp 6) 22 rfl w.heap.size 3 i0 (.int .i64 0) 8 Tryz.underlying22 hi hz0 hz1 hz2 rfl _ _ _ _ rfl HO.out B _ _ _ _ rfl HN.out HS.out (nats_one l) (by unfold maxLen; omega) (by omega) (by simp) ?_; intro A' c' w1 hown hgrow hblk)
    go_ret
    rw [Nat.zero_add] at hown
    exact ⟨_, _, _, rfl, HN2.out, hown, hbw.grown hgrow (by simp) (fun g hg => by cases hg; exact Nat.le_refl _)⟩
/-- what a sum of two lists is -/
def num (zs : List Int) : Nat := Na.val (zs.map Int.toNat)
end Go.Proofs.YtnplaejlmbncfaaGreatDoor

namespace Go.Proofs.YtnplaejlmbncfaaGreatDoor
open Go.RowKit
set_option linter.unusedVariables false
set_option maxRecDepth 100000
theorem own_put {W : World} {base n c g : Nat} {e : TypeId} {xs : List Value} (h : W.ownsRow base e 1 (.slice (some ⟨g, 0, none⟩) n c) n xs) (k : Nat) (v : Value) : (W.setCell ⟨g, k, none⟩ v).ownsRow base e 1 (.slice (some ⟨g, 0, none⟩) n c) n (xs.set k v) := (h.stored k v).1

end Go.Proofs.YtnplaejlmbncfaaGreatDoor

namespace Go.Proofs.YtnplaejlmbncfaaGreatDoor
open Go.RowKit
set_option linter.unusedVariables false
set_option maxRecDepth 100000
def mulE (zs ys : List Int) : Int := if Na.vld zs && Na.vld ys then resE (num zs * num ys) else 1
end Go.Proofs.YtnplaejlmbncfaaGreatDoor

namespace Go.Proofs.YtnplaejlmbncfaaGreatDoor
open Go.RowKit Go.Shelf
attribute [local go_sem] Oper.semAt_some
set_option linter.unusedVariables false
set_option maxRecDepth 100000
namespace Na
end Na
theorem add_zero (b j : Nat) : (⟨b, 0, none⟩ : Addr).add j = ⟨b, j, none⟩ := by
  unfold Addr.add
  split
  · rename_i h
    rw [h]
  · simp
end Go.Proofs.YtnplaejlmbncfaaGreatDoor

namespace Go.Proofs.YtnplaejlmbncfaaGreatDoor
open Go.RowKit
set_option linter.unusedVariables false
set_option maxRecDepth 100000
namespace De
/-- so many places at both ends exchanged -/
def rv (l : List UInt8) (k : Nat) : List UInt8 := (l.reverse.take k) ++ ((l.drop k).take (l.length - 2 * k)) ++ (l.reverse.drop (l.length - k))
theorem rv_length (l : List UInt8) (k : Nat) (h : 2 * k ≤ l.length) : (rv l k).length = l.length := by
  unfold rv
  simp
  omega
theorem rv_get (l : List UInt8) (k i : Nat) (h : 2 * k ≤ l.length) (hi : i < l.length) : (rv l k)[i]? = if i < k ∨ l.length - k ≤ i then l[l.length - 1 - i]? else l[i]? := by
  unfold rv
  rcases Nat.lt_or_ge i k with h1 | h1
  · rw [if_pos (.inl h1), List.getElem?_append_left (by simp; omega), List.getElem?_append_left (by simp; omega), List.getElem?_take, if_pos h1, List.getElem?_reverse hi]
  · rcases Nat.lt_or_ge i (l.length - k) with h2 | h2
    · rw [if_neg (by omega), List.getElem?_append_left (by simp; omega), List.getElem?_append_right (by simp; omega), List.getElem?_take, if_pos (by simp; omega), List.getElem?_drop]
      congr 1
      simp
      omega
    · rw [if_pos (.inr h2), List.getElem?_append_right (by simp; omega), List.getElem?_drop, List.getElem?_reverse (by simp; omega)]
      congr 1
      simp
      omega
theorem rv_zero (l : List UInt8) : rv l 0 = l := by unfold rv; simp
theorem rv_next (l : List UInt8) (k : Nat) (a b : UInt8) (h : 2 * (k + 1) ≤ l.length) (ha : l[k]? = some a) (hb : l[l.length - 1 - k]? = some b) : ((rv l k).set k b).set (l.length - 1 - k) a = rv l (k + 1) := by
  apply List.ext_getElem?
  intro i
  rcases Nat.lt_or_ge i l.length with hi | hi
  · rw [rv_get l (k + 1) i h hi]
    by_cases h1 : i = l.length - 1 - k
    · subst h1
      rw [List.getElem?_set_self (by rw [List.length_set, rv_length l k (by omega)]; omega), if_pos (.inr (by omega)), show l.length - 1 - (l.length - 1 - k) = k by omega, ha]
    · rw [List.getElem?_set_ne (fun e => h1 e.symm)]
      by_cases h2 : i = k
      · subst h2
        rw [List.getElem?_set_self (by rw [rv_length l i (by omega)]; omega), if_pos (.inl (by omega)), hb]
      · rw [List.getElem?_set_ne (fun e => h2 e.symm), rv_get l k i (by omega) hi]
        by_cases h3 : i < k ∨ l.length - k ≤ i
        · rw [if_pos h3, if_pos (by omega)]
        · rw [if_neg h3, if_neg (by omega)]
  · rw [List.getElem?_eq_none (by rw [List.length_set, List.length_set, rv_length l k (by omega)]; exact hi), List.getElem?_eq_none (by rw [rv_length l (k + 1) h]; exact hi)]
theorem rv_end (l : List UInt8) (k : Nat) (h : 2 * k ≤ l.length) (h2 : l.length ≤ 2 * k + 1) : rv l k = l.reverse := by
  apply List.ext_getElem?
  intro i
  rcases Nat.lt_or_ge i l.length with hi | hi
  · rw [rv_get l k i h hi, List.getElem?_reverse hi]
    by_cases h3 : i < k ∨ l.length - k ≤ i
    · rw [if_pos h3]
    · rw [if_neg h3, show l.length - 1 - i = i by omega]
  · rw [List.getElem?_eq_none (by rw [rv_length l k h]; exact hi), List.getElem?_eq_none (by simp; exact hi)]
end De
theorem bys_set (l : List UInt8) (k : Nat) (b : UInt8) : (bys l).set k (.int .u8 (b.toNat : Int)) = bys (l.set k b) := by unfold bys; rw [List.map_set]; rfl
set_option maxHeartbeats 2000000 in
theorem reverse_any (A : Option Addr) (n c base : Nat) (l : List UInt8) (w : World) (hn : l.length = n) (ho : w.ownsRow base 5 1 (.slice A n c) n (bys l)) (hl : n ≤ 140737488355328) (hbase : base ≤ w.heap.size) :
    Calls Tryz.prog 88 #[.slice A n c] w fun e w' => e = .returned (.tuple #[]) ∧ w'.ownsRow base 5 1 (.slice A n c) n (bys l.reverse) ∧ Below base w w' := by
  have HN := Lib.hid hn
  have HO0 := Lib.hid ho
  clear hn ho
  go_enter Tryz.func88, Tryz.ntmps88
  go_wp2_with fail
  go_loopw [2, 3] (fun i j wr => ∃ k : Nat, 2 * k ≤ n ∧ i = .int .i64 (k : Int) ∧ j = .int .i64 ((n : Int) - 1 - k) ∧ wr.ownsRow base 5 1 (.slice A n c) n (bys (De.rv l k)) ∧ Below base w wr ∧ base ≤ wr.heap.size) (fun i _ _ => n - (intOf i).toNat)
  case atStart => exact ⟨0, Nat.zero_le _, rfl, by simp, by rw [De.rv_zero]; exact HO0.out, Below.refl _ _, hbase⟩
  case round =>
    clear HO0 hbase
    obtain ⟨k, hk, rfl, rfl, ho, hb, hbs⟩ := hrel
    have HB := Lib.hid hb
    have HBS := Lib.hid hbs
    rcases Nat.lt_or_ge (2 * k + 1) n with hlt | hge
    · obtain ⟨g, rfl, hgb, hgw⟩ := own_form ho (by omega)
      obtain ⟨j, hj⟩ : ∃ j, n - 1 - k = j := ⟨_, rfl⟩
      have hj1 : (n : Int) - 1 - (k : Int) = (j : Int) := by omega
      obtain ⟨a, ha⟩ := byte_at l k (by rw [HN.out]; omega)
      obtain ⟨b, hbb⟩ := byte_at l j (by rw [HN.out]; omega)
      have hca := own_byte ho (k := k) (b := a) (by rw [De.rv_get l k k (by rw [HN.out]; omega) (by rw [HN.out]; omega), if_neg (by rw [HN.out]; omega)]; exact ha)
      have hcb := own_byte ho (k := j) (b := b) (by rw [De.rv_get l k j (by rw [HN.out]; omega) (by rw [HN.out]; omega), if_neg (by rw [HN.out]; omega)]; exact hbb)
      have hf1 := ho.frozenAt k
      have hf2 := ho.frozenAt j
      have HNx := Lib.hid (De.rv_next l k a b (by rw [HN.out]; omega) ha (by rw [HN.out, hj]; exact hbb))
      rw [HN.out, hj] at HNx
      have HO := Lib.hid ho
      have hkn : (k : Int) < (n : Int) := by omega
      have hjn : (j : Int) < (n : Int) := by omega
      have hkj : k < j := by omega
      have hkj1 : (k : Int) < (j : Int) := by omega
      have HJ := Lib.hid hj
      rw [hj1]
      clear ho hb hbs ha hbb hj hj1
      go_wp2_with fail
      go_region
      all_goals
        go_wp2_with fail
        go_roundw
        case rel =>
          have o1 := own_put (own_put HO.out k (.int .u8 (b.toNat : Int))) j (.int .u8 (a.toNat : Int))
          rw [bys_set, bys_set, HNx.out] at o1
          have b1 := (HB.out.setCell (p := ⟨g, k, none⟩) hgb (.int .u8 (b.toNat : Int))).setCell (p := ⟨g, j, none⟩) hgb (.int .u8 (a.toNat : Int))
          have hj := HJ.out
          exact ⟨k + 1, by omega, by go_num, int_eqv (by omega), o1.drew, b1.drew, by simpa [World.setCell] using HBS.out⟩
        case measure => simp [intOf]; omega
    · have hjk : (n : Int) - 1 - (k : Int) ≤ (k : Int) := by omega
      have HEnd := Lib.hid (De.rv_end l k (by rw [HN.out]; omega) (by rw [HN.out]; omega))
      have HO := Lib.hid ho
      clear ho hb hbs
      go_wp2_with fail
      go_end0
      exact ⟨rfl, by rw [← HEnd.out]; exact HO.out, HB.out⟩
end Go.Proofs.YtnplaejlmbncfaaGreatDoor

namespace Go.Proofs.YtnplaejlmbncfaaGreatDoor
open Go.RowKit
set_option linter.unusedVariables false
set_option maxRecDepth 100000
namespace De
end De
def Apart (a b : Value) : Prop := a.ownBlock = none ∨ a.ownBlock ≠ b.ownBlock
theorem Apart.symm {a b : Value} (h : Apart a b) : Apart b a := by
  rcases h with h | h
  · by_cases hb : b.ownBlock = none
    · exact .inl hb
    · exact .inr (by rw [h]; exact hb)
  · exact .inr (fun e => h e.symm)
/-- an append leaves its row apart from another one -/
theorem Apart.next {w : World} {base n c n1 c1 n2 c2 : Nat} {e : TypeId} {A B B' : Option Addr} {xs : List Value} (h : Apart (.slice A n c) (.slice B n1 c1)) (ho : w.ownsRow base e 1 (.slice A n c) n xs) (hb : (Value.slice B' n2 c2).ownBlock = (Value.slice B n1 c1).ownBlock ∨ (Value.slice B' n2 c2).ownBlock = some w.heap.size) : Apart (.slice A n c) (.slice B' n2 c2) := by
  rcases hb with hb | hb
  · rcases h with h | h
    · exact .inl h
    · exact .inr (by rw [hb]; exact h)
  · by_cases ha : (Value.slice A n c).ownBlock = none
    · exact .inl ha
    · refine .inr fun e1 => ?_
      rw [hb] at e1
      have := (ho.lt _ e1).2
      omega
end Go.Proofs.YtnplaejlmbncfaaGreatDoor

/- Sf Sg FieldC Sh Si Sk RegMono Sm -/
import Derived.Test.YtdjfbbfbdgiblaaGreatDoorS04
import Derived.Test.YtdjfbbfbdgiblaaGreatDoorS09
import Derived.Test.YtdjfbbfbdgiblaaGreatDoorS10
import Derived.Test.YtdjfbbfbdgiblaaGreatDoorS11
import Derived.Lib.AppendZeros
import Derived.BigQuiet
import Derived.RegionTactic
import Derived.ChangeAlike
namespace Go.Proofs.YtdjfbbfbdgiblaaGreatDoor
namespace Sy
open Gf
set_option linter.unusedVariables false
def Asc (l : List Nat) : Prop := l.Pairwise (· < ·)
theorem asc_ext : ∀ {a b : List Nat}, Asc a → Asc b → (∀ x, x ∈ a ↔ x ∈ b) → a = b := by
  intro a
  induction a with
  | nil =>
    intro b _ _ h
    cases b with
    | nil => rfl
    | cons y b => exact absurd ((h y).2 List.mem_cons_self) (by simp)
  | cons x a ih =>
    intro b ha hb h
    cases b with
    | nil => exact absurd ((h x).1 List.mem_cons_self) (by simp)
    | cons y b =>
      obtain ⟨ha1, ha2⟩ := List.pairwise_cons.1 ha
      obtain ⟨hb1, hb2⟩ := List.pairwise_cons.1 hb
      have e : x = y := by
        rcases List.mem_cons.1 ((h x).1 List.mem_cons_self) with h1 | h1
        · exact h1
        · rcases List.mem_cons.1 ((h y).2 List.mem_cons_self) with h2 | h2
          · exact h2.symm
          · have := hb1 x h1; have := ha1 y h2; omega
      subst e
      congr 1
      refine ih ha2 hb2 fun z => ⟨fun hz => ?_, fun hz => ?_⟩
      · rcases List.mem_cons.1 ((h z).1 (List.mem_cons_of_mem _ hz)) with rfl | h1
        · have := ha1 z hz; omega
        · exact h1
      · rcases List.mem_cons.1 ((h z).2 (List.mem_cons_of_mem _ hz)) with rfl | h1
        · have := hb1 z hz; omega
        · exact h1
theorem asc_filter (n : Nat) (t : Nat → Bool) : Asc ((List.range n).filter t) := List.Pairwise.filter _ (pair_range n)
theorem asc_nodup {l : List Nat} (h : Asc l) : l.Nodup := List.Pairwise.imp (fun {a b} hab e => by omega) h
theorem cnt_split (a b : Nat → Bool) (l : List Nat) : (l.filter a).length = (l.filter fun p => a p && b p).length + (l.filter fun p => a p && !b p).length := by
  induction l with
  | nil => rfl
  | cons x l ih =>
    simp only [List.filter_cons]
    cases a x <;> cases b x <;> simp <;> omega
theorem cnt_mono {a b : Nat → Bool} {l : List Nat} (h : ∀ p ∈ l, a p = true → b p = true) : (l.filter a).length ≤ (l.filter b).length := by
  induction l with
  | nil => exact Nat.le_refl _
  | cons x l ih =>
    have h1 := ih fun p hp => h p (List.mem_cons_of_mem _ hp)
    have h2 := h x List.mem_cons_self
    simp only [List.filter_cons]
    cases ha : a x <;> cases hb : b x <;> simp
    · exact h1
    · omega
    · rw [ha, hb] at h2; exact absurd (h2 rfl) (by simp)
    · exact h1
theorem cnt_or (a b : Nat → Bool) (l : List Nat) : (l.filter fun p => a p || b p).length ≤ (l.filter a).length + (l.filter b).length := by
  induction l with
  | nil => exact Nat.le_refl _
  | cons x l ih =>
    simp only [List.filter_cons]
    cases a x <;> cases b x <;> simp <;> omega
theorem filt_congr {a b : Nat → Bool} {n : Nat} (h : ∀ p, p < n → a p = b p) : (List.range n).filter a = (List.range n).filter b := List.filter_congr fun p hp => h p (List.mem_range.1 hp)
/-- a list of erased places: ascending, within the word, no more than checks -/
structure Ers (E : List Nat) (n m : Nat) : Prop where
  asc : Asc E
  lt : ∀ p ∈ E, p < n
  le : E.length ≤ m
theorem ers_eq {E : List Nat} {n m : Nat} (h : Ers E n m) : (List.range n).filter (fun p => E.contains p) = E :=
  asc_ext (asc_filter _ _) h.asc fun x => by
    rw [List.mem_filter, List.mem_range, List.contains_iff_mem]
    exact ⟨fun h => h.2, fun hx => ⟨h.lt x hx, hx⟩⟩
/-- an element, 0 behind the last one -/
def pl (P : List Nat) (j : Nat) : Nat := P[j]?.getD 0
theorem pl_some {P : List Nat} {j p : Nat} (h : P[j]? = some p) : pl P j = p := by unfold pl; rw [h]; rfl
theorem pl_lt {P : List Nat} {j : Nat} (h : j < P.length) : P[j]? = some (pl P j) := by unfold pl; rw [List.getElem?_eq_getElem h]; rfl
theorem pl_mem {P : List Nat} {j : Nat} (h : j < P.length) : pl P j ∈ P := List.mem_of_getElem? (pl_lt h)
theorem pl_inj {P : List Nat} (hP : Asc P) {i j : Nat} (hi : i < P.length) (hj : j < P.length) (h : pl P i = pl P j) : i = j := by
  have key : ∀ a b, a < b → b < P.length → pl P a < pl P b := fun a b hab hb => by
    have := List.pairwise_iff_getElem.1 hP a b (by omega) hb hab
    rwa [← Option.some.inj ((List.getElem?_eq_getElem (by omega)).symm.trans (pl_lt (show a < P.length by omega))), ← Option.some.inj ((List.getElem?_eq_getElem hb).symm.trans (pl_lt hb))]
  rcases Nat.lt_trichotomy i j with h1 | h1 | h1
  · have := key i j h1 hj; omega
  · exact h1
  · have := key j i h1 hi; omega
theorem ls_map (f : Nat → UInt8) (g : Nat → Nat) (l : List Nat) : ls f (l.map g) = ls (fun j => f (g j)) l := by
  induction l with
  | nil => rfl
  | cons a l ih =>
    show f (g a) ^^^ ls f (l.map g) = f (g a) ^^^ _
    rw [ih]
theorem pl_map (P : List Nat) : (List.range P.length).map (pl P) = P := by
  refine List.ext_getElem? fun i => ?_
  rw [List.getElem?_map]
  rcases Nat.lt_or_ge i P.length with h | h
  · rw [List.getElem?_range h, pl_lt h]; rfl
  · rw [List.getElem?_eq_none (by simpa using h), List.getElem?_eq_none h]; rfl
theorem ls_pl (f : Nat → UInt8) (P : List Nat) : ls f P = ls (fun j => f (pl P j)) (List.range P.length) := by
  have h := ls_map f (pl P) (List.range P.length)
  rw [pl_map] at h
  exact h
theorem ls_sub {P : List Nat} {n : Nat} {t : Nat → Bool} (h : P = (List.range n).filter t) (G : Nat → UInt8) (hG : ∀ p, p ∉ P → G p = 0) : ls G P = ls G (List.range n) := by
  subst h
  exact ls_filter _ _ _ fun p _ ht => hG p fun hm => by rw [(List.mem_filter.1 hm).2] at ht; cases ht
def synL (l : List UInt8) (m : Nat) : List UInt8 := (List.range m).map (syn l)
theorem synL_length (l : List UInt8) (m : Nat) : (synL l m).length = m := by unfold synL; simp
theorem wd_synL (l : List UInt8) {m k : Nat} (h : k < m) : wd (synL l m) k = syn l k := by
  refine wd_some ?_
  unfold synL
  rw [List.getElem?_map, List.getElem?_range h]
  rfl
def strip (x : UInt8) (u : List UInt8) : List UInt8 := (List.range (u.length - 1)).map fun k => wd u (k + 1) ^^^ gmul x (wd u k)
theorem strip_length (x : UInt8) (u : List UInt8) : (strip x u).length = u.length - 1 := by unfold strip; simp
theorem wd_strip (x : UInt8) (u : List UInt8) {k : Nat} (h : k < u.length - 1) : wd (strip x u) k = wd u (k + 1) ^^^ gmul x (wd u k) := by
  refine wd_some ?_
  unfold strip
  rw [List.getElem?_map, List.getElem?_range h]
  rfl
def stripAll (n : Nat) : List UInt8 → List Nat → List UInt8
  | u, [] => u
  | u, p :: ps => stripAll n (strip (loc n p) u) ps
def prE (n : Nat) : List Nat → Nat → UInt8
  | [], _ => 1
  | p :: ps, i => gmul (loc n i ^^^ loc n p) (prE n ps i)
theorem prE_zero {n : Nat} : ∀ {E : List Nat} {i : Nat}, i ∈ E → prE n E i = 0 := by
  intro E
  induction E with
  | nil => intro i h; cases h
  | cons p E ih =>
    intro i h
    show gmul _ (prE n E i) = 0
    rcases List.mem_cons.1 h with rfl | h
    · rw [UInt8.xor_self, zero_gmul]
    · rw [ih h, gmul_zero]
theorem prE_ne {n : Nat} (hn : n ≤ 255) : ∀ {E : List Nat} {i : Nat}, (∀ p ∈ E, p < n) → i < n → i ∉ E → prE n E i ≠ 0 := by
  intro E
  induction E with
  | nil => intro i _ _ _; exact one_ne
  | cons p E ih =>
    intro i hE hi h
    refine gmul_ne _ _ (fun e => h ?_) (ih (fun q hq => hE q (List.mem_cons_of_mem _ hq)) hi fun hm => h (List.mem_cons_of_mem _ hm))
    rw [loc_inj hn hi (hE p List.mem_cons_self) (UInt8.xor_eq_zero_iff.1 e)]
    exact List.mem_cons_self
theorem strip_all {n : Nat} : ∀ (E : List Nat) (u : List UInt8) (D : Nat → UInt8), (∀ k, k < u.length → wd u k = dsyn D n k) → (stripAll n u E).length = u.length - E.length ∧ ∀ k, k < u.length - E.length → wd (stripAll n u E) k = dsyn (fun i => gmul (D i) (prE n E i)) n k := by
  intro E
  induction E with
  | nil => intro u D h; exact ⟨rfl, fun k hk => by rw [show stripAll n u [] = u from rfl, h k hk]; exact dsyn_congr fun i _ => (gmul_one _).symm⟩
  | cons p E ih =>
    intro u D h
    obtain ⟨h1, h2⟩ := ih (strip (loc n p) u) (fun i => gmul (D i) (loc n i ^^^ loc n p)) (fun k hk => by
      rw [strip_length] at hk
      rw [wd_strip _ _ hk, h (k + 1) (by omega), h k (by omega)]
      unfold dsyn
      rw [← ls_mul, ← ls_add]
      refine ls_congr fun i _ => ?_
      rw [gpow_add, gpow_one, gmul_comm (gpow _ _), ← gmul_assoc, ← gmul_assoc (loc n p), gmul_comm (loc n p), ← gmul_add', ← gmul_add])
    rw [strip_length] at h1 h2
    refine ⟨by rw [show stripAll n u (p :: E) = stripAll n (strip (loc n p) u) E from rfl, h1, List.length_cons]; omega, fun k hk => ?_⟩
    rw [List.length_cons] at hk
    rw [show stripAll n u (p :: E) = stripAll n (strip (loc n p) u) E from rfl, h2 k (by omega)]
    exact dsyn_congr fun i _ => gmul_assoc _ _ _
def isClean (s : List UInt8) : Bool := !(s.any fun x => x != 0)
theorem clean_iff {l : List UInt8} {m : Nat} : isClean (synL l m) = true ↔ Cw m l := by
  unfold isClean
  rw [Bool.not_eq_true', List.any_eq_false]
  constructor
  · intro h k hk
    have := h (syn l k) (by unfold synL; exact List.mem_map.2 ⟨k, List.mem_range.2 hk, rfl⟩)
    simpa using this
  · intro h x hx
    unfold synL at hx
    obtain ⟨k, hk, rfl⟩ := List.mem_map.1 hx
    rw [h k (List.mem_range.1 hk)]; simp
def placesOf (sg : List UInt8) (n : Nat) (E : List Nat) : List Nat := (List.range n).filter fun p => E.contains p || rootAt sg n p
def locM (s : List UInt8) (n : Nat) (E : List Nat) (most : Nat) : Option (List Nat) :=
  if most < (shortest (stripAll n s E)).length - 1 then none
  else if (placesOf (shortest (stripAll n s E)) n E).length = E.length + ((shortest (stripAll n s E)).length - 1) then some (placesOf (shortest (stripAll n s E)) n E) else none
def rows0 (s : List UInt8) (n : Nat) (P : List Nat) : List (List UInt8) := (List.range s.length).map fun k => (P.map fun p => gpow (loc n p) k) ++ [wd s k]
/-- what is to be added at a place -/
def amt (P : List Nat) (ch : List UInt8) (p : Nat) : UInt8 := ls (fun j => if pl P j = p then wd ch j else 0) (List.range P.length)
def fixW (word : List UInt8) (P : List Nat) (ch : List UInt8) : List UInt8 := (List.range word.length).map fun p => wd word p ^^^ amt P ch p
def chipsOf (P : List Nat) (ch : List UInt8) : List Nat := P.filter fun p => amt P ch p != 0
def decM (m fix : Nat) (word : List UInt8) (E : List Nat) : Nat × List UInt8 × List Nat :=
  if isClean (synL word m) then (0, word, [])
  else match locM (synL word m) word.length E (min fix ((m - E.length) / 2)) with
    | none => (2, [], [])
    | some P => match solve (rows0 (synL word m) word.length P) P.length with
      | none => (2, [], [])
      | some ch => (1, fixW word P ch, chipsOf P ch)
theorem amt_at {P : List Nat} (hP : Asc P) (ch : List UInt8) {j : Nat} (hj : j < P.length) : amt P ch (pl P j) = wd ch j := by
  unfold amt
  rw [ls_single (k := j) hj (fun i hi hne => if_neg (fun e => hne (pl_inj hP hi hj e))), if_pos rfl]
theorem amt_out {P : List Nat} (ch : List UInt8) {p : Nat} (hp : p ∉ P) : amt P ch p = 0 := by
  unfold amt
  exact ls_zero fun j hj => if_neg fun e => hp (by rw [← e]; exact pl_mem (List.mem_range.1 hj))
theorem fixW_length (word : List UInt8) (P : List Nat) (ch : List UInt8) : (fixW word P ch).length = word.length := by unfold fixW; simp
theorem wd_fixW (word : List UInt8) (P : List Nat) (ch : List UInt8) {p : Nat} (h : p < word.length) : wd (fixW word P ch) p = wd word p ^^^ amt P ch p := by
  refine wd_some ?_
  unfold fixW
  rw [List.getElem?_map, List.getElem?_range h]
  rfl
theorem rows0_length (s : List UInt8) (n : Nat) (P : List Nat) : (rows0 s n P).length = s.length := by unfold rows0; simp
theorem rw_rows0 (s : List UInt8) (n : Nat) (P : List Nat) {k : Nat} (h : k < s.length) : rw_ (rows0 s n P) k = (P.map fun p => gpow (loc n p) k) ++ [wd s k] := by
  refine rw_some ?_
  unfold rows0
  rw [List.getElem?_map, List.getElem?_range h]
  rfl
theorem wid_rows0 (s : List UInt8) (n : Nat) (P : List Nat) : Wid (rows0 s n P) (P.length + 1) := fun k hk => by
  rw [rows0_length] at hk
  rw [rw_rows0 s n P hk]
  simp
theorem dot_rows0 (s : List UInt8) (n : Nat) (P : List Nat) {k : Nat} (h : k < s.length) (y : Nat → UInt8) : dot (rw_ (rows0 s n P) k) y (P.length + 1) = ls (fun j => gmul (y j) (gpow (loc n (pl P j)) k)) (List.range P.length) ^^^ gmul (wd s k) (y P.length) := by
  unfold dot
  rw [ls_range_succ, rw_rows0 s n P h]
  congr 1
  · refine ls_congr fun j hj => ?_
    have hj := List.mem_range.1 hj
    rw [wd_left (by simpa using hj), gmul_comm]
    congr 1
    refine wd_some ?_
    rw [List.getElem?_map, pl_lt hj]
    rfl
  · congr 1
    have := wd_right (P.map fun p => gpow (loc n p) k) [wd s k] 0
    rw [List.length_map, Nat.add_zero] at this
    rw [this]; rfl
def diff (n : Nat) (V W : List UInt8) : List Nat := (List.range n).filter fun i => wd V i != wd W i
def oth (n : Nat) (E : List Nat) (V W : List UInt8) : Nat := ((List.range n).filter fun i => (wd V i != wd W i) && !E.contains i).length
/-- a code word that is near -/
structure Near (n m most : Nat) (E : List Nat) (W V : List UInt8) : Prop where
  len : V.length = n
  cw : Cw m V
  few : oth n E V W ≤ most
theorem diff_self (n : Nat) (W : List UInt8) : diff n W W = [] := by
  unfold diff
  rw [List.filter_eq_nil_iff]
  intro i _
  simp
theorem oth_self (n : Nat) (E : List Nat) (W : List UInt8) : oth n E W W = 0 := by
  unfold oth
  rw [List.length_eq_zero_iff, List.filter_eq_nil_iff]
  intro i _
  simp
theorem places_split {sg : List UInt8} {n m : Nat} {E : List Nat} (hE : Ers E n m) : (placesOf sg n E).length = E.length + ((List.range n).filter fun p => rootAt sg n p && !E.contains p).length := by
  unfold placesOf
  rw [cnt_split _ (fun p => E.contains p)]
  congr 1
  · have := congrArg List.length (ers_eq hE)
    rw [← this]
    congr 1
    exact filt_congr fun p _ => by cases E.contains p <;> simp
  · congr 1
    exact filt_congr fun p _ => by cases E.contains p <;> simp
theorem locM_some {s : List UInt8} {n m most : Nat} {E P : List Nat} (hE : Ers E n m) (h : locM s n E most = some P) : Asc P ∧ (∀ p ∈ P, p < n) ∧ ((List.range n).filter fun p => P.contains p && !E.contains p).length ≤ most ∧ ∃ t, P = (List.range n).filter t := by
  unfold locM at h
  split at h
  · cases h
  · rename_i h1
    split at h
    · rename_i h2
      cases h
      refine ⟨asc_filter _ _, fun p hp => List.mem_range.1 (List.mem_filter.1 hp).1, ?_, _, rfl⟩
      have h3 := places_split (sg := shortest (stripAll n s E)) hE
      have e : ((List.range n).filter fun p => (placesOf (shortest (stripAll n s E)) n E).contains p && !E.contains p) = (List.range n).filter fun p => rootAt (shortest (stripAll n s E)) n p && !E.contains p := filt_congr fun p hp => by
        have : (placesOf (shortest (stripAll n s E)) n E).contains p = (E.contains p || rootAt (shortest (stripAll n s E)) n p) := by
          rw [Bool.eq_iff_iff, List.contains_iff_mem]
          unfold placesOf
          rw [List.mem_filter, List.mem_range]
          exact ⟨fun h => h.2, fun h => ⟨hp, h⟩⟩
        rw [this]
        cases E.contains p <;> simp
      rw [e]
      omega
    · cases h
theorem dsyn_at {W : List UInt8} {n m : Nat} (hl : W.length = n) {k : Nat} (hk : k < m) : wd (synL W m) k = dsyn (wd W) n k := by
  rw [wd_synL _ hk, syn_eq, hl]
/-- what decoding gives is a near code word, and what it tells of it is so -/
theorem dec_sound {W : List UInt8} {n m fix : Nat} {E : List Nat} (hl : W.length = n) (hE : Ers E n m) : decM m fix W E = (2, [], []) ∨ ∃ V, Near n m (min fix ((m - E.length) / 2)) E W V ∧ decM m fix W E = (if V = W then 0 else 1, V, diff n V W) := by
  unfold decM
  cases hc : isClean (synL W m) with
  | true =>
    refine .inr ⟨W, ⟨hl, clean_iff.1 hc, by rw [oth_self]; exact Nat.zero_le _⟩, ?_⟩
    rw [if_pos rfl, if_pos rfl, diff_self]
  | false =>
    rw [if_neg (by simp), hl]
    cases h1 : locM (synL W m) n E (min fix ((m - E.length) / 2)) with
    | none => exact .inl rfl
    | some P =>
      dsimp only
      cases h2 : solve (rows0 (synL W m) n P) P.length with
      | none => exact .inl rfl
      | some ch =>
        dsimp only
        obtain ⟨p1, p2, p3, t, p4⟩ := locM_some hE h1
        obtain ⟨q1, q2⟩ := solve_sound (wid_rows0 _ _ _) h2
        have hcw : Cw m (fixW W P ch) := fun k hk => by
          have hq := q2 k (by rw [rows0_length, synL_length]; exact hk)
          rw [dot_rows0 _ _ _ (by rw [synL_length]; exact hk)] at hq
          rw [if_pos rfl, gmul_one] at hq
          rw [syn_eq, fixW_length, hl, dsyn_congr (E := fun p => wd W p ^^^ amt P ch p) (fun p hp => wd_fixW W P ch (by omega)), dsyn_add, ← dsyn_at hl hk]
          have e : dsyn (amt P ch) n k = ls (fun j => gmul (if j = P.length then 1 else wd ch j) (gpow (loc n (pl P j)) k)) (List.range P.length) := by
            unfold dsyn
            have e1 := ls_sub p4 (fun p => gmul (amt P ch p) (gpow (loc n p) k)) (fun p hp => by rw [amt_out ch hp, zero_gmul])
            rw [← e1, ls_pl]
            refine ls_congr fun j hj => ?_
            have hj := List.mem_range.1 hj
            rw [amt_at p1 ch hj, if_neg (by omega)]
          rw [e, UInt8.xor_comm]
          exact hq
        have hne : ∀ i, i < n → ((wd (fixW W P ch) i != wd W i) = (amt P ch i != 0)) := fun i hi => by
          rw [wd_fixW W P ch (by omega), Bool.eq_iff_iff, bne_iff_ne, bne_iff_ne]
          refine not_congr ⟨fun e => ?_, fun e => by rw [e, UInt8.xor_zero]⟩
          have := congrArg (fun x => wd W i ^^^ x) e
          simp only [← UInt8.xor_assoc, UInt8.xor_self, UInt8.zero_xor] at this
          exact this
        refine .inr ⟨fixW W P ch, ⟨by rw [fixW_length, hl], hcw, ?_⟩, ?_⟩
        · refine Nat.le_trans (cnt_mono fun p hp h => ?_) p3
          rw [Bool.and_eq_true] at h ⊢
          refine ⟨?_, h.2⟩
          rw [hne p (List.mem_range.1 hp), bne_iff_ne] at h
          rw [List.contains_iff_mem]
          rcases Classical.em (p ∈ P) with hm | hm
          · exact hm
          · exact absurd (amt_out ch hm) h.1
        · have hW : fixW W P ch ≠ W := fun e => by
            rw [e] at hcw
            rw [clean_iff.2 hcw] at hc
            cases hc
          rw [if_neg hW]
          congr 2
          unfold chipsOf diff
          conv => lhs; rw [p4]
          rw [List.filter_filter]
          refine filt_congr fun i hi => ?_
          rw [hne i hi]
          rw [← p4]
          cases ha : amt P ch i != 0 with
          | false => rfl
          | true =>
            rw [Bool.true_and]
            rcases Classical.em (i ∈ P) with hm | hm
            · rw [p4] at hm; exact (List.mem_filter.1 hm).2
            · rw [amt_out ch hm] at ha; cases ha
/-- no two near code words -/
theorem near_only {W V V' : List UInt8} {n m most : Nat} {E : List Nat} (hn : n ≤ 255) (hE : Ers E n m) (h2 : 2 * most + E.length ≤ m) (h : Near n m most E W V) (h' : Near n m most E W V') : V = V' := by
  refine wd_ext (by rw [h.len, h'.len]) fun i hi => ?_
  have hD := dist (D := fun i => wd V i ^^^ wd V' i) (n := n) (m := m) hn ?_ (fun k hk => by
    rw [dsyn_add]
    have e1 := syn_eq V k
    have e2 := syn_eq V' k
    rw [h.len] at e1
    rw [h'.len] at e2
    rw [← e1, ← e2, h.cw k hk, h'.cw k hk]; rfl) i (by have := h.len; omega)
  · exact UInt8.xor_eq_zero_iff.1 hD
  · unfold wt
    rw [List.countP_eq_length_filter]
    have a1 := h.few
    have a2 := h'.few
    have a3 : (List.filter (fun i => wd V i ^^^ wd V' i != 0) (List.range n)).length ≤ (List.filter (fun i => E.contains i || ((wd V i != wd W i) && !E.contains i || (wd V' i != wd W i) && !E.contains i)) (List.range n)).length := cnt_mono fun p hp hx => by
      cases he : E.contains p with
      | true => rfl
      | false =>
        simp only [Bool.false_or, Bool.not_false, Bool.and_true]
        rw [Bool.or_eq_true, bne_iff_ne, bne_iff_ne]
        rcases Classical.em (wd V p = wd W p) with e | e
        · right
          intro e'
          rw [e, e', UInt8.xor_self] at hx
          cases hx
        · exact .inl e
    have a4 := cnt_or (fun i => E.contains i) (fun i => (wd V i != wd W i) && !E.contains i || (wd V' i != wd W i) && !E.contains i) (List.range n)
    have a5 := cnt_or (fun i => (wd V i != wd W i) && !E.contains i) (fun i => (wd V' i != wd W i) && !E.contains i) (List.range n)
    have a6 : (List.filter (fun i => E.contains i) (List.range n)).length = E.length := congrArg List.length (ers_eq hE)
    unfold oth at a1 a2
    refine Nat.le_trans a3 ?_
    omega
/-- a near code word is found -/
theorem dec_complete {W V : List UInt8} {n m fix : Nat} {E : List Nat} (hn : n ≤ 255) (hm : m ≤ 250) (hl : W.length = n) (hE : Ers E n m) (h : Near n m (min fix ((m - E.length) / 2)) E W V) : decM m fix W E ≠ (2, [], []) := by
  unfold decM
  cases hc : isClean (synL W m) with
  | true => rw [if_pos rfl]; intro e; cases e
  | false =>
    rw [if_neg (by simp), hl]
    have hle := hE.le
    have hmost : 2 * min fix ((m - E.length) / 2) ≤ m - E.length := by omega
    generalize min fix ((m - E.length) / 2) = most at *
    -- what is wrong
    have hD : ∀ k, k < m → wd (synL W m) k = dsyn (fun i => wd V i ^^^ wd W i) n k := fun k hk => by
      have e1 := syn_eq V k
      rw [h.len] at e1
      rw [dsyn_add, ← e1, h.cw k hk, UInt8.zero_xor, dsyn_at hl hk]
    obtain ⟨T, hT⟩ : ∃ T, T = (List.range n).filter fun i => (wd V i != wd W i) && !E.contains i := ⟨_, rfl⟩
    have hTl : T.length ≤ most := by rw [hT]; exact h.few
    have hTm : ∀ i, i ∈ T ↔ i < n ∧ wd V i ≠ wd W i ∧ i ∉ E := fun i => by
      rw [hT, List.mem_filter, List.mem_range, Bool.and_eq_true, bne_iff_ne, Bool.not_eq_true', ← Bool.not_eq_true, List.contains_iff_mem]
    have hTa : Asc T := by rw [hT]; exact asc_filter _ _
    obtain ⟨u1, u2⟩ := strip_all E (synL W m) (fun i => wd V i ^^^ wd W i) (fun k hk => by rw [synL_length] at hk; exact hD k hk)
    rw [synL_length] at u1 u2
    obtain ⟨r1, r2⟩ := shortest_roots hn (M := m - E.length) u1 (f := fun i => gmul (wd V i ^^^ wd W i) (prE n E i)) (asc_nodup hTa) (fun p hp => ((hTm p).1 hp).1) (fun p hp => by
        obtain ⟨b1, b2, b3⟩ := (hTm p).1 hp
        exact gmul_ne _ _ (fun e => b2 (UInt8.xor_eq_zero_iff.1 e)) (prE_ne hn hE.lt b1 b3)) (fun k hk => by
        rw [u2 k hk]
        unfold dsyn
        rw [hT, ls_filter _ _ _ (fun p hp ht => ?_)]
        rw [Bool.and_eq_false_iff] at ht
        rcases ht with ht | ht
        · have e : wd V p = wd W p := by simpa using ht
          rw [e, UInt8.xor_self, zero_gmul, zero_gmul]
        · have e : p ∈ E := by rw [Bool.not_eq_false', List.contains_iff_mem] at ht; exact ht
          rw [prE_zero e, gmul_zero, zero_gmul]) (by omega) (by omega)
    have hroot : ((List.range n).filter fun p => rootAt (shortest (stripAll n (synL W m) E)) n p && !E.contains p) = T := asc_ext (asc_filter _ _) hTa fun p => by
      rw [List.mem_filter, List.mem_range, Bool.and_eq_true, Bool.not_eq_true', ← Bool.not_eq_true, List.contains_iff_mem]
      exact ⟨fun ⟨b1, b2, b3⟩ => (r2 p b1).1 b2, fun hp => ⟨((hTm p).1 hp).1, (r2 p ((hTm p).1 hp).1).2 hp, ((hTm p).1 hp).2.2⟩⟩
    have hlen := places_split (sg := shortest (stripAll n (synL W m) E)) hE
    rw [hroot] at hlen
    have hloc : locM (synL W m) n E most = some (placesOf (shortest (stripAll n (synL W m) E)) n E) := by
      unfold locM
      rw [if_neg (by omega), if_pos (by omega)]
    rw [hloc]
    dsimp only
    obtain ⟨P, hP⟩ : ∃ P, P = placesOf (shortest (stripAll n (synL W m) E)) n E := ⟨_, rfl⟩
    rw [← hP] at hlen ⊢
    have hPa : Asc P := by rw [hP]; exact asc_filter _ _
    have hPm : ∀ i, i ∈ P ↔ i < n ∧ (i ∈ E ∨ i ∈ T) := fun i => by
      rw [hP]
      unfold placesOf
      rw [List.mem_filter, List.mem_range, Bool.or_eq_true, List.contains_iff_mem]
      refine and_congr_right fun hi => or_congr_right (r2 i hi)
    have hPlt : ∀ j, j < P.length → pl P j < n := fun j hj => ((hPm _).1 (pl_mem hj)).1
    obtain ⟨x, hx, _⟩ := solve_one (rows := rows0 (synL W m) n P) (w := P.length) (wid_rows0 _ _ _) (fun y hy hy0 j hj => by
        refine vand (fun j => loc n (pl P j)) (List.range P.length) y ?_ (fun k hk => ?_) j (List.mem_range.2 hj)
        · refine List.Pairwise.imp_of_mem ?_ (pair_range P.length)
          intro a b ha hb hab e
          have ha := List.mem_range.1 ha
          have hb := List.mem_range.1 hb
          have := pl_inj hPa ha hb (loc_inj hn (hPlt a ha) (hPlt b hb) e)
          omega
        · rw [List.length_range] at hk
          have := hy k (by rw [rows0_length, synL_length]; omega)
          rw [dot_rows0 _ _ _ (by rw [synL_length]; omega), hy0, gmul_zero, UInt8.xor_zero] at this
          exact this) (y := fun j => if j = P.length then 1 else wd V (pl P j) ^^^ wd W (pl P j)) (fun k hk => by
        rw [rows0_length, synL_length] at hk
        rw [dot_rows0 _ _ _ (by rw [synL_length]; exact hk)]
        rw [if_pos rfl, gmul_one, hD k hk]
        have e : ls (fun j => gmul (if j = P.length then 1 else wd V (pl P j) ^^^ wd W (pl P j)) (gpow (loc n (pl P j)) k)) (List.range P.length) = dsyn (fun i => wd V i ^^^ wd W i) n k := by
          rw [ls_congr (g := fun j => gmul (wd V (pl P j) ^^^ wd W (pl P j)) (gpow (loc n (pl P j)) k)) (fun j hj => by have := List.mem_range.1 hj; rw [if_neg (by omega)]), ← ls_pl (fun i => gmul (wd V i ^^^ wd W i) (gpow (loc n i) k)) P]
          unfold dsyn
          have e2 : P = (List.range n).filter fun p => E.contains p || rootAt (shortest (stripAll n (synL W m) E)) n p := hP
          rw [e2, ls_filter _ _ _ (fun p hp ht => ?_)]
          rw [Bool.or_eq_false_iff] at ht
          have hpn := List.mem_range.1 hp
          have hpE : p ∉ E := fun hm => by rw [List.contains_iff_mem.2 hm] at ht; cases ht.1
          have hpT : p ∉ T := fun hm => by rw [(r2 p hpn).2 hm] at ht; cases ht.2
          have e3 : wd V p = wd W p := by
            rcases Classical.em (wd V p = wd W p) with e | e
            · exact e
            · exact absurd ((hTm p).2 ⟨hpn, e, hpE⟩) hpT
          rw [e3, UInt8.xor_self, zero_gmul]
        rw [e, UInt8.xor_self]) (if_pos rfl)
    rw [hx]
    dsimp only
    intro e
    cases e
/-- decoding finds the near code word -/
theorem dec_near {W V : List UInt8} {n m fix : Nat} {E : List Nat} (hn : n ≤ 255) (hm : m ≤ 250) (hl : W.length = n) (hE : Ers E n m) (h : Near n m (min fix ((m - E.length) / 2)) E W V) : decM m fix W E = (if V = W then 0 else 1, V, diff n V W) := by
  rcases dec_sound (fix := fix) hl hE with h1 | ⟨V', h1, h2⟩
  · exact absurd h1 (dec_complete hn hm hl hE h)
  · have hle := hE.le
    rw [near_only hn hE (by omega) h h1]
    exact h2
end Sy
end Go.Proofs.YtdjfbbfbdgiblaaGreatDoor

namespace Go.Proofs.YtdjfbbfbdgiblaaGreatDoor
open Go.RowKit
set_option linter.unusedVariables false
set_option maxRecDepth 100000
theorem zeroCells_one (z : Value) (m : Nat) : Builtin.zeroCells #[z] m = (List.replicate m z).toArray := by
  apply Array.ext
  · simp [Builtin.zeroCells]
  · intro i h1 h2
    simp [Builtin.zeroCells, Nat.mod_one]
section
variable {P : Program} {w w' : World}
theorem own_fresh_more {w1 : World} {e : TypeId} {xs ys : List Value} {n c : Nat} {cs : Array Value} (hc : cs.size = c) (hn : n ≤ c) (hm : c ≤ maxLen) (ht : cs.toList.take n = xs) :
    (w1.alloc (.cells cs e)).ownsRow w1.heap.size e 1 (.slice (some ⟨w1.heap.size, 0, none⟩) n c) n xs := by
  have h1 := World.ownsRow_lit (base := w1.heap.size) (e := e) (size := 1) w1 cs c (Nat.le_refl _) hm (by omega)
  have h2 := own_take h1 hn
  rw [ht] at h2
  exact h2
theorem grownCap_le (w : World) (need old : Nat) (e : TypeId) (h : need ≤ maxLen) : grownCap w need old e ≤ maxLen := grownCap_le_maxLen w need old e h
theorem run_append_zeros (w : World) (base : Nat) (t tn ty e : TypeId) (i : TypeInfo) (z : Value) (bytes : Nat) (ht : P.underlying t = some (.slice e)) (htn : P.underlying tn = some (.int .i64)) (hi : P.info? e = some i) (hz : i.zero = some z)
    (hsize : i.size = 1) (hby : i.bytes = bytes) (hzc : z.cells = #[z]) (hz1 : z.oneCell' = true) (A : Option Addr) (n c : Nat) (xs : List Value) (hown : w.ownsRow base e 1 (.slice A n c) n xs) (m : Nat)
    (h63 : n + m ≤ maxLen) (hbytes : (n + m) * bytes ≤ 140737488355328) (hbase : base ≤ w.heap.size) :
    ∃ A' c' w', (Builtin.append_ #[t, tn] ty #[.slice A n c, .int .i64 (m : Int)]).run P w = .ok (.slice A' (n + m) c') w' ∧ w'.ownsRow base e 1 (.slice A' (n + m) c') (n + m) (xs ++ List.replicate m z) ∧ w.grownBy w' (Value.slice A n c).ownBlock ∧
      ((Value.slice A' (n + m) c').ownBlock = (Value.slice A n c).ownBlock ∨ (Value.slice A' (n + m) c').ownBlock = some w.heap.size) := by
  have hcap := own_cap hown
  have hlen := own_len hown
  subst hby
  have hmax : (maxLen : Nat) = 9223372036854775807 := rfl
  have hw : IntKind.i64.wrap (m : Int) = m := by rw [IntKind.wrap_i64]; omega
  have hneg : ¬ ((m : Int) < 0) := by omega
  have hmb : m * i.bytes ≤ 140737488355328 := Nat.le_trans (Nat.mul_le_mul_right _ (Nat.le_add_left m n)) hbytes
  have h48i : ¬ (281474976710656 < (m : Int) * (i.bytes : Int)) := by
    rw [← Int.natCast_mul]
    omega
  rcases Nat.eq_zero_or_pos m with h0 | h0
  · subst h0
    refine ⟨A, c, w, ?_, by simpa using hown, World.grownBy.refl w _, .inl rfl⟩
    have hw0 : IntKind.i64.wrap 0 = 0 := by rw [IntKind.wrap_i64]; rfl
    rcases A with _ | ad <;> simp [Builtin.append_, run_underlying ht, run_underlying htn, sizeOf, typeInfo, hi, hw0, asInt, asIntOf, hcap.1, storeCells]
  · rcases A with _ | ad
    · have hn0 : n = 0 ∧ c = 0 := by
        rcases hown.2 with ⟨h', h0'⟩ | ⟨g, cap, cur, h', _⟩
        · injection h' with a1 a2 a3
          exact ⟨a2, a3⟩
        · injection h' with a1
          cases a1
      obtain ⟨rfl, rfl⟩ := hn0
      have hx : xs = [] := List.eq_nil_of_length_eq_zero hlen
      subst hx
      have hr := Lib.run_append_nil_zeros (P := P) w t tn ty e i z .i64 .i64 ht htn hi hz m h0 (by omega) (by omega) (by omega)
      have hge := grownCap_ge w m 0 e
      have hle := grownCap_le w m 0 e (by omega)
      rw [Nat.zero_add]
      refine ⟨_, _, _, hr, ?_, ?_, .inr rfl⟩
      · rw [hzc, zeroCells_one, zeroCells_one]
        exact own_more (own_fresh_more (w1 := w.drew) (ys := []) (by simp; omega) hge hle (by simp)) hbase
      · exact ⟨rfl, rfl, rfl, by simp, fun k hk _ => heap_alloc_old w.drew _ (h := hk)⟩
    · obtain ⟨hl, ⟨h', _⟩ | ⟨g, cap, cur, h', hbg, hg, hnc, hcm, hcs, htake⟩⟩ := hown
      · cases h'
      · injection h' with a1 a2 a3
        obtain rfl := Option.some.inj a1
        subst a3
        have hn : ¬ (m = 0) := by omega
        by_cases hroom : n + m ≤ c
        · have hst := run_storeCells_at P g (n * 1) e (List.replicate m z) 0 cur w hg (by rw [List.length_replicate, hcs]; omega) (fun u hu => by rw [List.eq_of_mem_replicate hu]; exact hz1)
          simp only [Nat.add_zero] at hst
          refine ⟨some ⟨g, 0, none⟩, c, w.setRow g (cur.toList.take (n * 1) ++ List.replicate m z ++ cur.toList.drop (n * 1 + (List.replicate m z).length)).toArray, ?_, ⟨?_, .inr ⟨g, c, _, rfl, hbg, setRow_heap w g cur _ e _ hg, hroom, hcm, ?_, ?_⟩⟩, ⟨rfl, rfl, rfl, by simp [World.setRow], fun q hq hne => setRow_other _ _ _ _ (fun e' => hne (by rw [e']; rfl))⟩, .inl rfl⟩
          · simp only [Nat.mul_one] at hst
            simp [Builtin.append_, run_underlying ht, run_underlying htn, sizeOf, typeInfo, zeroValue, hi, hz, hsize, hw, hneg, h48i, hn, asInt, asIntOf, hroom, hzc, zeroCells_one, Addr.add_lit, hst]
          · rw [List.length_append, List.length_replicate, hlen]; omega
          · simp only [List.size_toArray, List.length_append, List.length_take, List.length_drop, Array.length_toList, List.length_replicate]
            omega
          · rw [htake]
            have e1 : (n + m) * 1 = (xs ++ List.replicate m z).length := by rw [List.length_append, List.length_replicate, hlen]; omega
            rw [e1]
            exact List.take_left
        · have holds : ∀ j v, xs[j]? = some v → w.cell? ((⟨g, 0, none⟩ : Addr).add j) = some v := by
            have ho : w.ownsRow base e 1 (.slice (some ⟨g, 0, none⟩) n c) n xs := ⟨hl, .inr ⟨g, c, cur, rfl, hbg, hg, hnc, hcm, hcs, htake⟩⟩
            exact ho.cells (g := g) rfl
          have hfo := run_firstCells_some (P := P) w.drew 1 n ⟨g, 0, none⟩ n c xs (by omega) (by simpa using holds)
          have h48' : ¬ (281474976710656 < Builtin.nextslicecap (n + m) c * i.bytes) := by
            have := growslice_fits (need := n + m) (old := c) (by omega) hbytes
            omega
          have h63' : ¬ (9223372036854775807 < ((n : Int) + (m : Int))) := by omega
          have hge := grownCap_ge w (n + m) c e
          have hle := grownCap_le w (n + m) c e (by omega)
          refine ⟨some ⟨w.heap.size, 0, none⟩, grownCap w (n + m) c e, w.drew.alloc (.cells (xs ++ List.replicate m z ++ List.replicate (grownCap w (n + m) c e - (n + m)) z).toArray e), ?_, ?_, ⟨rfl, rfl, rfl, by simp, fun k hk _ => heap_alloc_old w.drew _ (h := hk)⟩, .inr rfl⟩
          · simp [Builtin.append_, run_underlying ht, run_underlying htn, sizeOf, typeInfo, zeroValue, hi, hz, hsize, hw, hneg, h48i, hn, asInt, asIntOf, hroom, h63', h48', hzc, zeroCells_one, Question.forced, hfo, newRow, grownCap]
            congr 2
            apply Array.ext'
            simp
          · refine own_more (own_fresh_more (w1 := w.drew) (ys := []) ?_ hge hle ?_) hbase
            · simp; omega
            · rw [List.toList_toArray, List.take_append_of_le_length (by simp; omega)]
              refine List.take_of_length_le ?_
              simp; omega
end
section
variable {P : Program} {w0 w : World} {g : Option Nat} {M : List (Nat × Value)} {L : List Ob} {O : List Rw} {t tn e : TypeId} {z : Value} {bytes : Nat}
theorem owp_append_zeros {o : Oper} {a : Act} {K : Act → World → Prop} {Q : Exit → Act → World → Prop} (hE : Elem P t e z bytes) (htn : P.underlying tn = some (.int .i64)) (hz1 : z.oneCell' = true) (h : Ow w0 w g M L O) (i : Nat) (s x : Operand) {A : Option Addr} {n c : Nat} {xs : List Value} (hi : O[i]? = some ⟨A, n, c, e, xs⟩)
    (m : Nat) (h63 : n + m ≤ maxLen) (hbytes : (n + m) * bytes ≤ 140737488355328) {mv : Int} (hm : mv = (m : Int))
    (ho : o.op = .call { callee := .builtin .append, args := #[s, x], argTypes := #[t, tn] }) (hs : a.eval s = .slice A n c) (hx : a.eval x = .int .i64 mv)
    (hk : ∀ A' c' w', Ow w0 w' g M L (O.set i ⟨A', n + m, c', e, xs ++ List.replicate m z⟩) → K (a.put o.dst (.slice A' (n + m) c')) w') : o.wp P a w K Q := by
  subst hm
  obtain ⟨ht, hzc, inf, hi0, hz, hsz, hby⟩ := hE
  obtain ⟨A', c', w', hrun, h2, h3, h4⟩ := run_append_zeros (P := P) w w0.heap.size t tn o.type e inf z bytes ht htn hi0 hz hsz hby hzc hz1 A n c xs (h.own i _ hi) m h63 hbytes h.size
  exact Lib.wp_append_run w s x t tn ho _ _ hs hx _ w' hrun (hk A' c' w' (h.turn i hi (r' := ⟨A', n + m, c', e, xs ++ List.replicate m z⟩) h3 h2 h4))
theorem ow_append_zeros {ops : Array Oper} {rest : List Oper} {o : Oper} {a : Act} {Q : Exit → Act → World → Prop} (hE : Elem P t e z bytes) (htn : P.underlying tn = some (.int .i64)) (hz1 : z.oneCell' = true) (h : Ow w0 w g M L O) (i : Nat) (s x : Operand) {A : Option Addr} {n c : Nat} {xs : List Value} (hi : O[i]? = some ⟨A, n, c, e, xs⟩)
    (m : Nat) (h63 : n + m ≤ maxLen) (hbytes : (n + m) * bytes ≤ 140737488355328) {mv : Int} (hm : mv = (m : Int)) (hgd : o.guard = none)
    (ho : o.op = .call { callee := .builtin .append, args := #[s, x], argTypes := #[t, tn] }) (hs : a.eval s = .slice A n c) (hx : a.eval x = .int .i64 mv)
    (hk : ∀ A' c' w', Ow w0 w' g M L (O.set i ⟨A', n + m, c', e, xs ++ List.replicate m z⟩) → wpList P ops Q rest (a.put o.dst (.slice A' (n + m) c')) w') : wpList P ops Q (o :: rest) a w :=
  wpList_plain hgd fun _ hK => owp_append_zeros hE htn hz1 h i s x hi m h63 hbytes hm ho hs hx fun A' c' w' how => hK _ _ (hk A' c' w' how)
end
theorem elemB : Elem Tryz.prog 46 5 (.int .u8 0) 1 := by
  obtain ⟨i0, hi, hz0, hz1, hz2⟩ := info_parts infoB
  exact ⟨Tryz.underlying46, rfl, i0, hi, hz0, hz1, hz2⟩
theorem bys_zeros (m : Nat) : List.replicate m (Value.int .u8 0) = bys (List.replicate m 0) := by simp [bys, encB]
theorem bys_app (a b : List UInt8) : bys a ++ bys b = bys (a ++ b) := by simp [bys]
end Go.Proofs.YtdjfbbfbdgiblaaGreatDoor

namespace Go.Proofs.YtdjfbbfbdgiblaaGreatDoor
open Go.RowKit
set_option linter.unusedVariables false
set_option maxRecDepth 100000

namespace Gf
/-- the error of a division by a: ErrZero, or none -/
def ez (a : UInt8) : Int := if a = 0 then 4 else 0
theorem ez_ne (a : UInt8) (h : a ≠ 0) : ez a = 0 := if_neg h
/-- a power as the packages give it -/
def pw (a : UInt8) (n : Int) : UInt8 := if a = 0 then (if n = 0 then 1 else 0) else zpow a n
def epw (a : UInt8) (n : Int) : Int := if a = 0 ∧ n < 0 then 4 else 0
def lg (a : UInt8) : Int := if a = 0 then 0 else (glog a : Int)
end Gf

theorem ret2_eq {k l : IntKind} {a b c d : Int} (h : a = b) (h' : c = d) : Ending.returned (.tuple #[.int k a, .int l c]) = .returned (.tuple #[.int k b, .int l d]) := by rw [h, h']
theorem zero_or (a : UInt8) : a = 0 ∨ (a ≠ 0 ∧ ((a.toNat : Int) == 0) = false) := by
  by_cases h : a = 0
  · exact .inl h
  · exact .inr ⟨h, by have := u8_pos h; rw [beq_eq_false_iff_ne]; omega⟩

theorem inverse_any (a : UInt8) (w : World) : Calls Tryz.prog 108 #[.int .u8 (a.toNat : Int)] w fun e w' => e = .returned (.tuple #[.int .u8 ((Gf.ginv a).toNat : Int), .int .i64 (Gf.ez a)]) ∧ w = w' := by
  rcases zero_or a with rfl | ⟨h, h1⟩
  · go_enter Tryz.func108, Tryz.ntmps108
    go_wp2_with fail
    go_ret2
    exact ⟨ret2_eq (by rw [Gf.ginv_zero]; rfl) rfl, rfl⟩
  · have H := Lib.hid (Gf.ez_ne a h)
    clear h
    have hl := u8_lt a
    go_enter Tryz.func108, Tryz.ntmps108
    go_wp2_with (go_at_call 137; refine (raise_any _ _ (by omega) (by omega) _).mono ?_; rintro e w' ⟨rfl, rfl⟩)
    go_ret2
    exact ⟨ret2_eq rfl H.out.symm, rfl⟩

theorem divide_any (a c : UInt8) (w : World) : Calls Tryz.prog 141 #[.int .u8 (a.toNat : Int), .int .u8 (c.toNat : Int)] w fun e w' => e = .returned (.tuple #[.int .u8 ((Gf.gmul a (Gf.ginv c)).toNat : Int), .int .i64 (Gf.ez c)]) ∧ w = w' := by
  have hl := u8_lt a
  go_enter Tryz.func141, Tryz.ntmps141
  go_wp2_with (first | (go_at_call 108; refine (inverse_any _ _).mono ?_; rintro e w' ⟨rfl, rfl⟩) | (go_at_call 103; refine (mul_any _ _ _).mono ?_; rintro e w' ⟨rfl, rfl⟩))
  go_ret2
  exact ⟨rfl, rfl⟩

theorem exp_any (n : Int) (w : World) : Calls Tryz.prog 102 #[.int .i64 n] w fun e w' => e = .returned (.int .u8 ((Gf.zpow 2 n).toNat : Int)) ∧ w = w' := by
  have hl := Gf.emod_lt n
  have H : Hid (Gf.gpow 2 (Gf.emod n) = Gf.zpow 2 n) := rfl
  go_enter Tryz.func102, Tryz.ntmps102
  go_wp2_with (go_at_call 138; refine (turn_any _ _).mono ?_; rintro e w' ⟨rfl, rfl⟩)
  refine (raise_any 2 _ (by omega) (by omega) _).mono ?_; rintro e w' ⟨rfl, rfl⟩
  go_wp2_with fail
  go_ret
  exact ⟨ret_u8 H.out, rfl⟩

theorem power_any (a : UInt8) (n : Int) (w : World) : Calls Tryz.prog 112 #[.int .u8 (a.toNat : Int), .int .i64 n] w fun e w' => e = .returned (.tuple #[.int .u8 ((Gf.pw a n).toNat : Int), .int .i64 (Gf.epw a n)]) ∧ w = w' := by
  rcases Int.lt_trichotomy n 0 with hn | hn | hn
  · rcases zero_or a with rfl | ⟨h, h1⟩
    · have H1 : Hid (Gf.pw 0 n = 0) := by unfold Hid Gf.pw; rw [if_pos rfl, if_neg (by omega)]
      have H2 : Hid (Gf.epw 0 n = 4) := by unfold Hid Gf.epw; rw [if_pos ⟨rfl, hn⟩]
      go_enter Tryz.func112, Tryz.ntmps112
      go_wp2_with fail
      go_ret2
      exact ⟨ret2_eq (by rw [H1.out]; rfl) H2.out.symm, rfl⟩
    · have hl := Gf.emod_lt n
      have H1 : Hid (Gf.pw a n = Gf.gpow a (Gf.emod n)) := by unfold Hid Gf.pw; rw [if_neg h]; rfl
      have H2 : Hid (Gf.epw a n = 0) := by unfold Hid Gf.epw; rw [if_neg (fun x => h x.1)]
      clear h
      go_enter Tryz.func112, Tryz.ntmps112
      go_wp2_with (first | (go_at_call 138; refine (turn_any _ _).mono ?_; rintro e w' ⟨rfl, rfl⟩) | (go_at_call 137; refine (raise_any _ _ (by omega) (by omega) _).mono ?_; rintro e w' ⟨rfl, rfl⟩))
      go_ret2
      exact ⟨ret2_eq (by rw [H1.out]) H2.out.symm, rfl⟩
  · subst hn
    have H1 : Hid (Gf.pw a 0 = 1) := by
      unfold Hid Gf.pw
      split <;> rfl
    have H2 : Hid (Gf.epw a 0 = 0) := by unfold Hid Gf.epw; rw [if_neg (fun x => by omega)]
    go_enter Tryz.func112, Tryz.ntmps112
    go_wp2_with fail
    go_ret2
    exact ⟨ret2_eq (by rw [H1.out]; rfl) H2.out.symm, rfl⟩
  · rcases zero_or a with rfl | ⟨h, h1⟩
    · have H1 : Hid (Gf.pw 0 n = 0) := by unfold Hid Gf.pw; rw [if_pos rfl, if_neg (by omega)]
      have H2 : Hid (Gf.epw 0 n = 0) := by unfold Hid Gf.epw; rw [if_neg (fun x => by omega)]
      have hn' : 0 ≤ n := by omega
      go_enter Tryz.func112, Tryz.ntmps112
      go_wp2_with fail
      go_ret2
      exact ⟨ret2_eq (by rw [H1.out]; rfl) H2.out.symm, rfl⟩
    · have hl := Gf.emod_lt n
      have H1 : Hid (Gf.pw a n = Gf.gpow a (Gf.emod n)) := by unfold Hid Gf.pw; rw [if_neg h]; rfl
      have H2 : Hid (Gf.epw a n = 0) := by unfold Hid Gf.epw; rw [if_neg (fun x => h x.1)]
      clear h
      go_enter Tryz.func112, Tryz.ntmps112
      go_wp2_with (first | (go_at_call 138; refine (turn_any _ _).mono ?_; rintro e w' ⟨rfl, rfl⟩) | (go_at_call 137; refine (raise_any _ _ (by omega) (by omega) _).mono ?_; rintro e w' ⟨rfl, rfl⟩))
      go_ret2
      exact ⟨ret2_eq (by rw [H1.out]) H2.out.symm, rfl⟩

end Go.Proofs.YtdjfbbfbdgiblaaGreatDoor

namespace Go.Proofs.YtdjfbbfbdgiblaaGreatDoor
open Go.RowKit
set_option linter.unusedVariables false
set_option maxRecDepth 100000
section
variable {w0 w w' : World} {g : Option Nat} {M : List (Nat × Value)} {L : List Ob} {O : List Rw} {A : Option Addr} {n c gb k : Nat} {e : TypeId} {l : List UInt8} {b : UInt8}
theorem Ow.byteO (h : Ow w0 w g M L O) (i : Nat) (hi : O[i]? = some ⟨some ⟨gb, 0, none⟩, n, c, e, bys l⟩) (hk : l[k]? = some b) : w.cell? ⟨gb, k, none⟩ = some (.int .u8 (b.toNat : Int)) := own_byte (h.row i hi) hk
theorem Ow.frzO (h : Ow w0 w g M L O) (i : Nat) {vs : List Value} (hi : O[i]? = some ⟨some ⟨gb, 0, none⟩, n, c, e, vs⟩) (k : Nat) : w.frozen? ⟨gb, k, none⟩ = false := (h.row i hi).frozenAt k
theorem Ow.byteL (h : Ow w0 w g M L O) (i : Nat) (hi : L[i]? = some ⟨A, n, c, bys l⟩) (hk : l[k]? = some b) : ∃ ad, A = some ad ∧ w.cell? (ad.add k) = some (.int .u8 (b.toNat : Int)) := by
  obtain ⟨ad, e, _, h⟩ := (h.sl hi).2.2.2.byte hk
  exact ⟨ad, e, h⟩
theorem Ow.putB (h : Ow w0 w g M L O) (i : Nat) (hi : O[i]? = some ⟨some ⟨gb, 0, none⟩, n, c, e, bys l⟩) (k : Nat) (b : UInt8) : Ow w0 (w.setCell ⟨gb, k, none⟩ (.int .u8 (b.toNat : Int))) g M L (O.set i ⟨some ⟨gb, 0, none⟩, n, c, e, bys (l.set k b)⟩) := by
  have := h.put i hi k (.int .u8 (b.toNat : Int))
  unfold bys at this ⊢
  rw [List.map_set]
  exact this
theorem freshB_of (h : Ow w w' g M L O) (i : Nat) (hi : O[i]? = some ⟨A, n, c, 5, bys l⟩) : FreshB w l (.returned (.slice A n c)) w' := by
  have ho := h.row i hi
  have := own_len ho
  rw [bys_length] at this
  exact ⟨A, n, c, rfl, this, ho, h.below⟩
end
namespace Sy
theorem zpow_nat {k : Nat} (h : k < 255) : Gf.zpow 2 (k : Int) = Gf.gpow 2 k := by
  unfold Gf.zpow Gf.emod
  congr 1
  omega
/-- so many values are known -/
def synP (l : List UInt8) (m k : Nat) : List UInt8 := (List.range m).map fun j => if j < k then syn l j else 0
theorem synP_length (l : List UInt8) (m k : Nat) : (synP l m k).length = m := by unfold synP; simp
theorem synP_get (l : List UInt8) {m k j : Nat} (h : j < m) : (synP l m k)[j]? = some (if j < k then syn l j else 0) := by
  unfold synP
  rw [List.getElem?_map, List.getElem?_range h]
  rfl
theorem synP_zero (l : List UInt8) (m : Nat) : synP l m 0 = List.replicate m 0 := by
  refine List.ext_getElem? fun j => ?_
  rcases Nat.lt_or_ge j m with h | h
  · rw [synP_get l h, if_neg (by omega), List.getElem?_replicate, if_pos h]
  · rw [List.getElem?_eq_none (by rw [synP_length]; exact h), List.getElem?_eq_none (by simpa using h)]
theorem synP_succ (l : List UInt8) {m k : Nat} (h : k < m) : (synP l m k).set k (syn l k) = synP l m (k + 1) := by
  refine List.ext_getElem? fun j => ?_
  rw [List.getElem?_set]
  rcases Nat.lt_or_ge j m with h1 | h1
  · rw [synP_get l h1, synP_get l h1]
    by_cases e : k = j
    · subst e; rw [if_pos rfl, if_pos (by rw [synP_length]; exact h), if_pos (by omega)]
    · rw [if_neg e]
      by_cases e2 : j < k
      · rw [if_pos e2, if_pos (by omega)]
      · rw [if_neg e2, if_neg (by omega)]
  · rw [List.getElem?_eq_none (by rw [synP_length]; exact h1), List.getElem?_eq_none (by rw [synP_length]; exact h1)]
    split
    · rename_i e
      rw [if_neg (by rw [synP_length]; omega)]
    · rfl
theorem synP_all (l : List UInt8) (m : Nat) : synP l m m = synL l m := by
  refine List.ext_getElem? fun j => ?_
  rcases Nat.lt_or_ge j m with h | h
  · rw [synP_get l h, if_pos h, wd_lt (by rw [synL_length]; exact h), wd_synL l h]
  · rw [List.getElem?_eq_none (by rw [synP_length]; exact h), List.getElem?_eq_none (by rw [synL_length]; exact h)]
theorem hor_step (x : UInt8) (l : List UInt8) {i : Nat} {b : UInt8} (h : l[i]? = some b) : hor x (l.take (i + 1)) = Gf.gmul (hor x (l.take i)) x ^^^ b := by
  rw [List.take_add_one, h]
  exact hor_snoc x _ b
end Sy
def RSyn (w : World) (L : List Ob) (word : List UInt8) (m : Nat) (v : Value) (wr : World) : Prop := ∃ k : Nat, k ≤ m ∧ v = .int .i64 (k : Int) ∧ Hid (Ow w wr none [] L [⟨some ⟨w.heap.size, 0, none⟩, m, m, 5, bys (Sy.synP word m k)⟩])
def RSyn2 (w : World) (L : List Ob) (word : List UInt8) (m k n : Nat) (v : Value) (wr : World) : Prop := ∃ i : Nat, i ≤ n ∧ v = .int .i64 (i : Int) ∧ Hid (Ow w wr none [] L [⟨some ⟨w.heap.size, 0, none⟩, m, m, 5, bys ((Sy.synP word m k).set k (Sy.hor (Gf.gpow 2 k) (word.take i)))⟩])
set_option maxHeartbeats 2000000 in
theorem syndromes_any (A : Option Addr) (n c m : Nat) (word : List UInt8) (w : World) (hn : word.length = n) (hs : Sl w w.heap.size A (bys word)) (hnc : n ≤ c) (hl : n ≤ 1000) (hm : m ≤ 200) :
    Calls Tryz.prog 71 #[.slice A n c, .int .i64 (m : Int)] w (FreshB w (Sy.synL word m)) := by
  have H1 := ((Ow.of (St.refl w)).old hs (by rw [bys_length]; exact hn) hnc hl).made 5 (.int .u8 0) m m rfl (Nat.le_refl _) (by unfold maxLen; omega)
  rw [bys_zeros, ← Sy.synP_zero word m] at H1
  have HH := Lib.hid H1
  have HN := Lib.hid hn
  have hmk := elemB.make .i64 .i64 (m : Int) (m : Int) m m rfl rfl (Nat.le_refl _) (by omega) (by omega) w
  clear H1 hs hn
  go_enter Tryz.func71, Tryz.ntmps71
  go_wp2_with fail
  go_loopw [14] (fun v wr => RSyn w [⟨A, n, c, bys word⟩] word m v wr) (fun v _ => m - (intOf v).toNat)
  case atStart => exact ⟨0, Nat.zero_le _, rfl, HH.out⟩
  case round =>
    obtain ⟨k, hk, rfl, HO⟩ := hrel
    clear hmk
    rcases Nat.lt_or_ge k m with h | h
    · have hd : decide ((k : Int) < (m : Int)) = true := decide_eq_true (by omega)
      have HZ := Lib.hid (Sy.zpow_nat (show k < 255 by omega))
      go_wp2_with (go_at_call 102; ((with_reducible refine (exp_any _ _).mono ?_); rw [HZ.out]; rintro e w' ⟨rfl, rfl⟩))
      go_loopw [21] (fun v wr2 => RSyn2 w [⟨A, n, c, bys word⟩] word m k n v wr2) (fun v _ => n - (intOf v).toNat)
      case atStart =>
        refine ⟨0, Nat.zero_le _, rfl, ?_⟩
        have e : (Sy.synP word m k).set k (Sy.hor (Gf.gpow 2 k) (word.take 0)) = Sy.synP word m k := by
          have h1 := Sy.synP_get word (m := m) (k := k) h
          rw [if_neg (by omega)] at h1
          obtain ⟨h2, h3⟩ := List.getElem?_eq_some_iff.1 h1
          show (Sy.synP word m k).set k 0 = _
          conv => lhs; rw [← h3]
          exact List.set_getElem_self h2
        rw [e]
        exact HO.out
      case round =>
        obtain ⟨i, hi, rfl, HI⟩ := hrel
        rcases Nat.lt_or_ge i n with h2 | h2
        · have hd2 : decide ((i : Int) < (n : Int)) = true := decide_eq_true (by omega)
          obtain ⟨b, hb⟩ := byte_at word i (by rw [HN.out]; exact h2)
          obtain ⟨ad, rfl, hcx⟩ := HI.out.byteL 0 rfl hb
          obtain ⟨v, hv⟩ : ∃ v, v = Sy.hor (Gf.gpow 2 k) (word.take i) := ⟨_, rfl⟩
          rw [← hv] at HI
          have hck := HI.out.byteO 0 rfl (k := k) (b := v) (by rw [List.getElem?_set_self (by rw [Sy.synP_length]; exact h)])
          have hfk := HI.out.frzO 0 rfl k
          obtain ⟨z, hz, HZ2⟩ := xor_ex (Gf.gmul v (Gf.gpow 2 k)) b
          have HS := Lib.hid (Sy.hor_step (Gf.gpow 2 k) word hb)
          have HV := Lib.hid hv
          clear hb hv
          go_wp2_with (go_at_call 103; ((with_reducible refine (mul_any _ _ _).mono ?_); rintro e w' ⟨rfl, rfl⟩))
          go_roundw
          case rel =>
            refine ⟨i + 1, by omega, by go_num, ?_⟩
            have h5 := HI.out.putB 0 rfl k z
            rw [HS.out, ← HV.out, ← HZ2.out]
            rw [List.set_set] at h5
            exact h5
          case measure => simp [intOf]; omega
        · have hd2 : decide ((i : Int) < (n : Int)) = false := decide_eq_false (by omega)
          have hin : i = n := by omega
          go_wp2_with fail
          go_roundw
          case rel =>
            refine ⟨k + 1, by omega, by go_num, ?_⟩
            have h5 := HI.out
            rw [hin, List.take_of_length_le (by rw [HN.out]; exact Nat.le_refl _)] at h5
            rw [← Sy.synP_succ word h]
            exact h5
          case measure => simp [intOf]; omega
    · have hd : decide ((k : Int) < (m : Int)) = false := decide_eq_false (by omega)
      have hkm : k = m := by omega
      go_wp2_with fail
      go_ret
      have h5 := HO.out
      rw [hkm, Sy.synP_all] at h5
      exact freshB_of h5 0 rfl
end Go.Proofs.YtdjfbbfbdgiblaaGreatDoor

namespace Go.Proofs.YtdjfbbfbdgiblaaGreatDoor
open Go.RowKit
set_option linter.unusedVariables false
set_option maxRecDepth 100000
/-- the cells of a code in a variable -/
structure Cd (d m f : Nat) : Prop where
  d1 : 1 ≤ d
  d2 : d ≤ 32
  m1 : 1 ≤ m
  m2 : m ≤ 8
  f2 : f ≤ 100
def cdv (d m f : Nat) : Array Value := #[.int .i64 2, .int .i64 (d : Int), .int .i64 (m : Int), .int .i64 (f : Int)]
set_option maxHeartbeats 2000000 in
theorem validcode_any {d m f : Nat} (h : Cd d m f) (w : World) : Calls Tryz.prog 83 #[.agg #[.int .i64 2, .int .i64 (d : Int), .int .i64 (m : Int), .int .i64 (f : Int)]] w fun e w' => e = .returned (.bool (decide (f ≤ m / 2))) ∧ Below w.heap.size w w' := by
  obtain ⟨h1, h2, h3, h4, h5⟩ := h
  have H1 := (Ow.of (St.refl w)).arr (cdv d m f) 4 rfl (by omega) 26
  have hc0 : (w.alloc (.cells #[.int .i64 2, .int .i64 (d : Int), .int .i64 (m : Int), .int .i64 (f : Int)] 26)).cell? ⟨w.heap.size, 0, none⟩ = some (.int .i64 2) := (H1.row 0 rfl).cellAt 0 (by decide)
  have hc1 : (w.alloc (.cells #[.int .i64 2, .int .i64 (d : Int), .int .i64 (m : Int), .int .i64 (f : Int)] 26)).cell? ⟨w.heap.size, 1, none⟩ = some (.int .i64 (d : Int)) := (H1.row 0 rfl).cellAt 1 (by decide)
  have hc2 : (w.alloc (.cells #[.int .i64 2, .int .i64 (d : Int), .int .i64 (m : Int), .int .i64 (f : Int)] 26)).cell? ⟨w.heap.size, 2, none⟩ = some (.int .i64 (m : Int)) := (H1.row 0 rfl).cellAt 2 (by decide)
  have hc3 : (w.alloc (.cells #[.int .i64 2, .int .i64 (d : Int), .int .i64 (m : Int), .int .i64 (f : Int)] 26)).cell? ⟨w.heap.size, 3, none⟩ = some (.int .i64 (f : Int)) := (H1.row 0 rfl).cellAt 3 (by decide)
  have HB : Hid (Below w.heap.size w (w.alloc (.cells #[.int .i64 2, .int .i64 (d : Int), .int .i64 (m : Int), .int .i64 (f : Int)] 26))) := H1.below
  have t1 : decide ((1 : Int) ≤ (d : Int)) = true := decide_eq_true (by omega)
  have t2 : decide ((d : Int) ≤ 32) = true := decide_eq_true (by omega)
  have t3 : decide ((1 : Int) ≤ (m : Int)) = true := decide_eq_true (by omega)
  have t4 : decide ((m : Int) ≤ 8) = true := decide_eq_true (by omega)
  have t5 : decide ((0 : Int) ≤ (f : Int)) = true := decide_eq_true (by omega)
  have HD : Hid (decide ((f : Int) ≤ (m : Int) / 2) = decide (f ≤ m / 2)) := by
    unfold Hid
    rw [decide_eq_decide]
    omega
  clear H1
  go_enter Tryz.func83, Tryz.ntmps83
  go_wp2_with fail
  go_ret
  exact ⟨ret_bool HD.out, HB.out⟩
section
variable {w0 w w' : World} {g : Option Nat} {M : List (Nat × Value)} {L : List Ob} {O : List Rw}
theorem Ow.code (h : Ow w0 w g M L O) (d m f : Nat) : Ow w0 (w.alloc (.cells #[.int .i64 2, .int .i64 (d : Int), .int .i64 (m : Int), .int .i64 (f : Int)] 26)) g M L (O ++ [⟨some ⟨w.heap.size, 0, none⟩, 4, 4, 26, (cdv d m f).toList⟩]) := h.arr (cdv d m f) 4 rfl (by omega) _
theorem Ow.cdc (h : Ow w0 w g M L O) (i : Nat) {b d m f : Nat} (hi : O[i]? = some ⟨some ⟨b, 0, none⟩, 4, 4, 26, (cdv d m f).toList⟩) : w.cell? ⟨b, 0, none⟩ = some (.int .i64 2) ∧ w.cell? ⟨b, 1, none⟩ = some (.int .i64 (d : Int)) ∧ w.cell? ⟨b, 2, none⟩ = some (.int .i64 (m : Int)) ∧ w.cell? ⟨b, 3, none⟩ = some (.int .i64 (f : Int)) :=
  ⟨(h.row i hi).cellAt 0 (by decide), (h.row i hi).cellAt 1 (by decide), (h.row i hi).cellAt 2 (by decide), (h.row i hi).cellAt 3 (by decide)⟩
end
set_option maxHeartbeats 2000000 in
theorem good_any {d m f : Nat} (h : Cd d m f) (w : World) : Calls Tryz.prog 69 #[.agg #[.int .i64 2, .int .i64 (d : Int), .int .i64 (m : Int), .int .i64 (f : Int)]] w fun e w' => e = .returned (.bool (decide (f ≤ m / 2))) ∧ Below w.heap.size w w' := by
  have H1 := (Ow.of (St.refl w)).code d m f
  obtain ⟨hc0, hc1, hc2, hc3⟩ := H1.cdc 0 rfl
  have HO := Lib.hid H1
  have HV := Lib.hid (fun W => validcode_any h W)
  clear H1 h
  rcases Nat.lt_or_ge (m / 2) f with hf | hf
  · have hd : decide (f ≤ m / 2) = false := decide_eq_false (by omega)
    rw [hd] at HV ⊢
    go_enter Tryz.func69, Tryz.ntmps69
    go_wp2_with (go_at_call 83; refine (HV.out _).mono ?_; rintro e w' ⟨rfl, hb⟩; have HB := Lib.hid (HO.out.go hb); obtain ⟨hd0, hd1, hd2, hd3⟩ := HB.out.cdc 0 rfl; clear hb)
    go_ret
    exact ⟨rfl, HB.out.below⟩
  · have hd : decide (f ≤ m / 2) = true := decide_eq_true (by omega)
    rw [hd] at HV ⊢
    go_enter Tryz.func69, Tryz.ntmps69
    go_wp2_with (go_at_call 83; refine (HV.out _).mono ?_; rintro e w' ⟨rfl, hb⟩; have HB := Lib.hid (HO.out.go hb); obtain ⟨hd0, hd1, hd2, hd3⟩ := HB.out.cdc 0 rfl; clear hb)
    go_ret
    exact ⟨rfl, HB.out.below⟩
end Go.Proofs.YtdjfbbfbdgiblaaGreatDoor

namespace Go.Proofs.YtdjfbbfbdgiblaaGreatDoor
open Go.RowKit
set_option linter.unusedVariables false
set_option maxRecDepth 100000
theorem nonzero_any (b : UInt8) (w : World) : Calls Tryz.prog 105 #[.int .u8 (b.toNat : Int)] w fun e w' => e = .returned (.bool (b != 0)) ∧ w = w' := by
  have H : Hid (((b.toNat : Int) != 0) = (b != 0)) := u8_bne0 b
  have hb := u8_lt b
  go_enter Tryz.func105, Tryz.ntmps105
  go_wp2_with fail
  go_ret
  exact ⟨ret_bool H.out, rfl⟩
set_option maxHeartbeats 2000000 in
theorem indexB_any (A : Option Addr) (n c : Nat) (l : List UInt8) (w : World) (hn : l.length = n) (hs : Sl w w.heap.size A (bys l)) (hl : n ≤ 1000) :
    Calls Tryz.prog 140 #[.slice A n c, .func (.func 105) #[] #[]] w fun e w' => ∃ z : Int, e = .returned (.int .i64 z) ∧ -1 ≤ z ∧ z ≤ 1000 ∧ decide (0 ≤ z) = l.any (fun x => x != 0) ∧ w = w' := by
  have HN := Lib.hid hn
  have HS := Lib.hid hs
  have HF := Lib.hid nonzero_any
  clear hn hs
  go_enter Tryz.func140, Tryz.ntmps140
  go_wp2_with fail
  go_loopw [8] (fun v wr => ∃ k : Nat, k ≤ n ∧ v = .int .i64 (k : Int) ∧ wr = w ∧ Hid ((l.take k).any (fun x => x != 0) = false)) (fun v _ => n - (intOf v).toNat)
  case atStart => exact ⟨0, Nat.zero_le _, rfl, rfl, rfl⟩
  case round =>
    obtain ⟨k, hk, rfl, rfl, HK⟩ := hrel
    rcases Nat.lt_or_ge k n with h | h
    · have hd : decide ((k : Int) < (n : Int)) = true := decide_eq_true (by omega)
      obtain ⟨b, hb⟩ := byte_at l k (by rw [HN.out]; exact h)
      obtain ⟨ad, rfl, -, hc⟩ := HS.out.byte hb
      have HT : Hid (l.take (k + 1) = l.take k ++ [b]) := by unfold Hid; rw [List.take_add_one, hb]; rfl
      have HB := Lib.hid hb
      clear hb
      cases hz : (b != 0) with
      | true =>
        have HZ := Lib.hid hz
        clear hz
        go_wp2_with (refine (HF.out b _).mono ?_; rw [HZ.out]; rintro e w' ⟨rfl, rfl⟩)
        go_ret
        refine ⟨(k : Int), rfl, by omega, by omega, ?_, rfl⟩
        rw [decide_eq_true (by omega)]
        symm
        rw [List.any_eq_true]
        exact ⟨b, List.mem_of_getElem? HB.out, HZ.out⟩
      | false =>
        have HZ := Lib.hid hz
        clear hz
        go_wp2_with (refine (HF.out b _).mono ?_; rw [HZ.out]; rintro e w' ⟨rfl, rfl⟩)
        go_roundw
        case rel =>
          refine ⟨k + 1, by omega, by go_num, by first | exact trivial | rfl, ?_⟩
          unfold Hid
          rw [HT.out, List.any_append, HK.out]
          simp only [List.any_cons, List.any_nil, HZ.out]
          rfl
        case measure => simp [intOf]; omega
    · have hd : decide ((k : Int) < (n : Int)) = false := decide_eq_false (by omega)
      go_wp2_with fail
      go_ret
      refine ⟨-1, rfl, by omega, by omega, ?_, rfl⟩
      have h5 := HK.out
      rw [List.take_of_length_le (by rw [HN.out]; exact h)] at h5
      rw [h5]
      rfl
theorem clean_any (A : Option Addr) (n c : Nat) (l : List UInt8) (w : World) (hn : l.length = n) (hs : Sl w w.heap.size A (bys l)) (hl : n ≤ 1000) :
    Calls Tryz.prog 72 #[.slice A n c] w fun e w' => e = .returned (.bool (Sy.isClean l)) ∧ w = w' := by
  have HI := Lib.hid (indexB_any A n c l w hn hs hl)
  have HC : Hid (Calls Tryz.prog 104 #[.slice A n c, .func (.func 105) #[] #[]] w fun e w' => e = .returned (.bool (l.any fun x => x != 0)) ∧ w = w') := by
    unfold Hid
    clear hn hs
    go_enter Tryz.func104, Tryz.ntmps104
    go_wp2_with fail
    refine HI.out.mono ?_
    rintro e w' ⟨z, rfl, h1, h2, h3, rfl⟩
    have H3 := Lib.hid h3
    clear h3
    go_wp2_with fail
    go_ret
    exact ⟨ret_bool H3.out, rfl⟩
  clear hn hs HI
  go_enter Tryz.func72, Tryz.ntmps72
  go_wp2_with fail
  refine HC.out.mono ?_
  rintro e w' ⟨rfl, rfl⟩
  go_wp2_with fail
  go_ret
  exact ⟨rfl, rfl⟩
theorem locator_any (n p : Nat) (hn : n ≤ 255) (hp : p < n) (w : World) : Calls Tryz.prog 106 #[.int .i64 (n : Int), .int .i64 (p : Int)] w fun e w' => e = .returned (.int .u8 ((Sy.loc n p).toNat : Int)) ∧ w = w' := by
  have HE : Hid (Gf.zpow 2 ((n : Int) - 1 - (p : Int)) = Sy.loc n p) := by
    unfold Hid
    rw [show (n : Int) - 1 - (p : Int) = ((n - 1 - p : Nat) : Int) by omega, Sy.zpow_nat (by omega)]
    rfl
  go_enter Tryz.func106, Tryz.ntmps106
  go_wp2_with (go_at_call 102; ((with_reducible refine (exp_any _ _).mono ?_); rw [HE.out]; rintro e w' ⟨rfl, rfl⟩))
  go_ret
  exact ⟨rfl, rfl⟩
end Go.Proofs.YtdjfbbfbdgiblaaGreatDoor

namespace Go.Proofs.YtdjfbbfbdgiblaaGreatDoor
set_option linter.unusedVariables false
set_option maxRecDepth 100000
/-- slots that hold so many values -/
def putL : Act → List (Option Nat) → List Value → Act
  | a, d :: ds, u :: us => putL (a.put d u) ds us
  | a, _, _ => a
def ndO : List (Option Nat) → Bool
  | [] => true
  | d :: ds => (d.isNone || !ds.contains d) && ndO ds
theorem put_put (a : Act) (d : Option Nat) (u x : Value) : (a.put d u).put d x = a.put d x := by
  cases d with
  | none => rfl
  | some d => simp [Act.put]
theorem put_comm (a : Act) (d e : Option Nat) (u x : Value) (h : d = none ∨ d ≠ e) : (a.put d u).put e x = (a.put e x).put d u := by
  cases d with
  | none => rfl
  | some d =>
    cases e with
    | none => rfl
    | some e =>
      have hne : d ≠ e := by
        rcases h with h | h
        · cases h
        · exact fun e' => h (by rw [e'])
      simp only [Act.put]
      congr 1
      exact Array.setIfInBounds_comm u x hne
theorem putL_comm : ∀ (ds : List (Option Nat)) (us : List Value) (a : Act) (e : Option Nat) (x : Value), (e = none ∨ ds.contains e = false) → putL (a.put e x) ds us = (putL a ds us).put e x
  | [], us, a, e, x, _ => by cases us <;> rfl
  | d :: ds, [], a, e, x, _ => rfl
  | d :: ds, u :: us, a, e, x, h => by
    show putL ((a.put e x).put d u) ds us = (putL (a.put d u) ds us).put e x
    have h' : e = none ∨ ds.contains e = false := by
      rcases h with h | h
      · exact .inl h
      · rw [List.contains_cons, Bool.or_eq_false_iff] at h
        exact .inr h.2
    rw [← putL_comm ds us (a.put d u) e x h']
    congr 1
    refine put_comm a e d x u ?_
    rcases h with h | h
    · exact .inl h
    · rw [List.contains_cons, Bool.or_eq_false_iff] at h
      exact .inr fun e' => by rw [e'] at h; simp at h
theorem putL_put : ∀ (ds : List (Option Nat)) (us : List Value) (a : Act) (j : Nat) (x : Value), ndO ds = true → us.length = ds.length → j < ds.length → (putL a ds us).put (ds.getD j none) x = putL a ds (us.set j x)
  | [], us, a, j, x, _, _, hj => by simp at hj
  | d :: ds, [], a, j, x, _, hl, _ => by simp at hl
  | d :: ds, u :: us, a, 0, x, hn, hl, _ => by
    show (putL (a.put d u) ds us).put d x = putL (a.put d x) ds us
    have hn' : (d.isNone || !ds.contains d) = true := (Bool.and_eq_true_iff.1 hn).1
    rw [← putL_comm ds us (a.put d u) d x (by
      rcases Bool.or_eq_true_iff.1 hn' with h | h
      · exact .inl (Option.isNone_iff_eq_none.1 h)
      · exact .inr (by simpa using h)), put_put]
  | d :: ds, u :: us, a, j + 1, x, hn, hl, hj => by
    show (putL (a.put d u) ds us).put (ds.getD j none) x = putL (a.put d u) ds (us.set j x)
    exact putL_put ds us (a.put d u) j x (Bool.and_eq_true_iff.1 hn).2 (by simpa using hl) (by simpa using hj)
theorem putL_self (a : Act) : ∀ ds : List (Option Nat), ∃ us : List Value, us.length = ds.length ∧ putL a ds us = a
  | [] => ⟨[], rfl, rfl⟩
  | d :: ds => by
    obtain ⟨us, hl, hp⟩ := putL_self a ds
    refine ⟨(match d with | some d => a.tmps.getD d undef | none => undef) :: us, by simp [hl], ?_⟩
    have e : a.put d (match d with | some d => a.tmps.getD d undef | none => undef) = a := by
      cases d with
      | none => rfl
      | some d =>
        show ({ a with tmps := a.tmps.setIfInBounds d (a.tmps.getD d undef) } : Act) = a
        have : a.tmps.setIfInBounds d (a.tmps.getD d undef) = a.tmps := by
          apply Array.ext
          · simp
          · intro i h1 h2
            rw [Array.getElem_setIfInBounds]
            split
            · rename_i e
              subst e
              rw [Array.getD_eq_getD_getElem?, Array.getElem?_eq_getElem h2]
              rfl
            · rfl
        rw [this]
    show putL (a.put d _) ds us = a
    rw [e]
    exact hp
theorem us_cons {us : List Value} {n : Nat} (h : us.length = n + 1) : ∃ u us', us = u :: us' ∧ us'.length = n := by
  cases us with
  | nil => simp at h
  | cons u us' => exact ⟨u, us', rfl, by simpa using h⟩
theorem us_nil {us : List Value} (h : us.length = 0) : us = [] := List.eq_nil_of_length_eq_zero h
section
variable {P : Program} {ops : Array Oper} {Q : Exit → Act → World → Prop}
/-- must be done before, through others too -/
def anc (ops : Array Oper) : Nat → Nat → Nat → Bool
  | 0, _, _ => false
  | f + 1, k, j => (preds .any ops k).elem j || (preds .any ops k).any fun i => anc ops f i j
theorem anc_done {L : Nat → Bool} (hc : Closed ops L) : ∀ f k j, anc ops f k j = true → L k = true → L j = true
  | 0, _, _, h, _ => by cases h
  | f + 1, k, j, h, hk => by
    unfold anc at h
    rcases Bool.or_eq_true_iff.1 h with h | h
    · exact hc k j hk h
    · obtain ⟨i, hi, h2⟩ := List.any_eq_true.1 h
      exact anc_done hc f i j h2 (hc k i hk (List.elem_eq_true_of_mem hi))
/-- the rule, with something that always holds -/
theorem reg_monoT {id : Nat} {a : Act} {w : World} (ds : List (Option Nat)) (T S : World → Prop) (kS : Nat) (kill : Nat → Nat) (Pr : Nat → Value → World → Prop)
    (hm : P.follows .mixedOrders = true) (hb : backE .any ops = true) (hds : (decide (ds.length = ops.size) && ndO ds) = true) (h0T : T w.drew) (h0 : S w.drew)
    (hstep : ∀ (j : Nat) (us : List Value) (v : World), j < ops.size → us.length = ops.size → T v → (anc ops ops.size kS j = true ∨ j = kS ∨ ops.size ≤ kS → S v) →
      (∀ i, (preds .any ops j).elem i = true → (kill i = j ∨ ops.size ≤ kill i) → Pr i (us.getD i undef) v) →
      wpOp P ops Q j (fun b' v' => ∃ x, b' = (putL a ds us).put (ds.getD j none) x ∧ T v' ∧ (j ≠ kS → anc ops ops.size j kS = false → S v → S v') ∧ Pr j x v' ∧ ∀ i y, i ≠ j → kill i ≠ j → anc ops ops.size i j = false → anc ops ops.size j (kill i) = false → Pr i y v → Pr i y v') (putL a ds us) v)
    (hend : ∀ (us : List Value) (v : World), us.length = ops.size → T v → (ops.size ≤ kS → S v) → (∀ i, i < ops.size → ops.size ≤ kill i → Pr i (us.getD i undef) v) → Q .normal (putL a ds us) v) :
    (Code.region id ops true).wp P Q a w := by
  rw [Bool.and_eq_true, decide_eq_true_eq] at hds
  obtain ⟨hdl, hdn⟩ := hds
  refine reg_inv34 (fun a L b v => ∃ us : List Value, us.length = ops.size ∧ b = putL a ds us ∧ T v ∧ (L kS = false → S v) ∧ (∀ k, ops.size ≤ k → L k = false) ∧ (∀ i, i < ops.size → L i = true → L (kill i) = false → Pr i (us.getD i undef) v)) hm hb ?_ ?_ ?_
  · obtain ⟨us, h1, h2⟩ := putL_self a ds
    exact ⟨us, by omega, h2.symm, h0T, fun _ => h0, fun _ _ => rfl, fun i _ h => by cases h⟩
  · rintro j L b v hj hf hcl hp ⟨us, hl, rfl, hT, hS, hbig, hPr⟩
    have hsv : anc ops ops.size kS j = true ∨ j = kS ∨ ops.size ≤ kS → L kS = false := fun h => by
      rcases h with h | rfl | h
      · cases e : L kS with
        | false => rfl
        | true => rw [anc_done hcl _ _ _ h e] at hf; cases hf
      · exact hf
      · exact hbig kS h
    have hno : ∀ q, L q = false → anc ops ops.size j q = false := fun q h => by
      cases ea : anc ops ops.size j q with
      | false => rfl
      | true =>
        have : L q = true := by
          generalize ops.size = f at ea
          cases f with
          | zero => cases ea
          | succ f =>
            unfold anc at ea
            rcases Bool.or_eq_true_iff.1 ea with h5 | h5
            · exact hp q h5
            · obtain ⟨i, hi, h6⟩ := List.any_eq_true.1 h5
              exact anc_done hcl f i q h6 (hp i (List.elem_eq_true_of_mem hi))
        rw [this] at h
        cases h
    refine wpOp_mono ?_ (hstep j us v hj hl hT (fun h => hS (hsv h)) (fun i hi hk => hPr i ?_ (hp i hi) ?_))
    · rintro b' v' ⟨x, rfl, hT', h1, h2, h3⟩
      refine ⟨us.set j x, by rw [List.length_set]; exact hl, putL_put ds us a j x hdn (by omega) (by omega), hT', fun h => ?_, fun k hk => ?_, fun i hi hLi hk => ?_⟩
      · unfold dset at h
        by_cases e : kS = j
        · rw [if_pos e] at h; cases h
        · rw [if_neg e] at h
          exact h1 (fun e' => e e'.symm) (hno kS h) (hS h)
      · unfold dset
        rw [if_neg (by omega)]
        exact hbig k hk
      · unfold dset at hLi hk
        by_cases e : i = j
        · subst e
          rw [List.getD_eq_getElem?_getD, List.getElem?_set_self (by omega)]
          exact h2
        · rw [if_neg e] at hLi
          rw [List.getD_eq_getElem?_getD, List.getElem?_set_ne (fun e' => e e'.symm), ← List.getD_eq_getElem?_getD]
          by_cases e2 : kill i = j
          · rw [if_pos e2] at hk; cases hk
          · rw [if_neg e2] at hk
            refine h3 i _ e e2 ?_ (hno _ hk) (hPr i hi hLi hk)
            cases ea : anc ops ops.size i j with
            | false => rfl
            | true => rw [anc_done hcl _ _ _ ea hLi] at hf; cases hf
    · have h5 := hp i hi
      rcases Nat.lt_or_ge i ops.size with h6 | h6
      · exact h6
      · rw [hbig i h6] at h5; cases h5
    · rcases hk with hk | hk
      · rw [hk]; exact hf
      · exact hbig _ hk
  · rintro L b v hL ⟨us, hl, rfl, hT, hS, hbig, hPr⟩
    exact hend us v hl hT (fun h => hS (hbig _ h)) fun i hi hk => hPr i hi (hL i hi) (hbig _ hk)
/-- the rule -/
theorem reg_mono {id : Nat} {a : Act} {w : World} (ds : List (Option Nat)) (S : World → Prop) (kS : Nat) (kill : Nat → Nat) (Pr : Nat → Value → World → Prop)
    (hm : P.follows .mixedOrders = true) (hb : backE .any ops = true) (hds : (decide (ds.length = ops.size) && ndO ds) = true) (h0 : S w.drew)
    (hstep : ∀ (j : Nat) (us : List Value) (v : World), j < ops.size → us.length = ops.size → (anc ops ops.size kS j = true ∨ j = kS ∨ ops.size ≤ kS → S v) →
      (∀ i, (preds .any ops j).elem i = true → (kill i = j ∨ ops.size ≤ kill i) → Pr i (us.getD i undef) v) →
      wpOp P ops Q j (fun b' v' => ∃ x, b' = (putL a ds us).put (ds.getD j none) x ∧ (j ≠ kS → anc ops ops.size j kS = false → S v → S v') ∧ Pr j x v' ∧ ∀ i y, i ≠ j → kill i ≠ j → anc ops ops.size i j = false → anc ops ops.size j (kill i) = false → Pr i y v → Pr i y v') (putL a ds us) v)
    (hend : ∀ (us : List Value) (v : World), us.length = ops.size → (ops.size ≤ kS → S v) → (∀ i, i < ops.size → ops.size ≤ kill i → Pr i (us.getD i undef) v) → Q .normal (putL a ds us) v) :
    (Code.region id ops true).wp P Q a w := reg_monoT ds (fun _ => True) S kS kill Pr hm hb hds trivial h0
    (fun j us v hj hl _ hS hp => wpOp_mono (fun b' v' ⟨x, h1, h2, h3, h4⟩ => ⟨x, h1, trivial, h2, h3, h4⟩) (hstep j us v hj hl hS hp)) (fun us v hl _ hS hP => hend us v hl hS hP)
end
end Go.Proofs.YtdjfbbfbdgiblaaGreatDoor

namespace Go.Proofs.YtdjfbbfbdgiblaaGreatDoor
open Go.RowKit
set_option linter.unusedVariables false
set_option maxRecDepth 100000
namespace Sy
/-- the first i elements are in order, but for the one at j -/
def Srt (l : List Nat) (i j : Nat) : Prop := ∀ a b, a < b → b < i → b ≠ j → pl l a ≤ pl l b
theorem pl_set (l : List Nat) (k x a : Nat) (h : k < l.length) : pl (l.set k x) a = if a = k then x else pl l a := by
  unfold pl
  rw [List.getElem?_set]
  by_cases e : k = a
  · subst e; rw [if_pos rfl, if_pos h, if_pos rfl]; rfl
  · rw [if_neg e, if_neg (fun e' => e e'.symm)]
def swp (l : List Nat) (j : Nat) : List Nat := (l.set j (pl l (j - 1))).set (j - 1) (pl l j)
theorem pl_swp {l : List Nat} {j : Nat} (h0 : 0 < j) (hj : j < l.length) (a : Nat) : pl (swp l j) a = if a = j - 1 then pl l j else if a = j then pl l (j - 1) else pl l a := by
  unfold swp
  rw [pl_set _ _ _ _ (by rw [List.length_set]; omega)]
  by_cases e : a = j - 1
  · rw [if_pos e, if_pos e]
  · rw [if_neg e, if_neg e, pl_set _ _ _ _ hj]
theorem swp_perm {l : List Nat} {j : Nat} (h0 : 0 < j) (hj : j < l.length) : (swp l j).Perm l := by
  have e1 := List.getElem?_eq_some_iff.1 (pl_lt hj)
  have e2 := List.getElem?_eq_some_iff.1 (pl_lt (show j - 1 < l.length by omega))
  obtain ⟨h1, h2⟩ := e1
  obtain ⟨h3, h4⟩ := e2
  unfold swp
  rw [← h2, ← h4]
  exact List.set_set_perm h1 h3
theorem srt_swap {l : List Nat} {i j : Nat} (h0 : 0 < j) (hj : j < i) (hi : i ≤ l.length) (h : Srt l i j) (hlt : pl l j < pl l (j - 1)) : Srt (swp l j) i (j - 1) := by
  intro a b hab hb hne
  rw [pl_swp h0 (by omega), pl_swp h0 (by omega), if_neg hne]
  by_cases e1 : b = j
  · rw [if_pos e1]
    by_cases e2 : a = j - 1
    · rw [if_pos e2]; omega
    · rw [if_neg e2, if_neg (by omega)]
      exact h a (j - 1) (by omega) (by omega) (by omega)
  · rw [if_neg e1]
    by_cases e2 : a = j - 1
    · rw [if_pos e2]; exact h j b (by omega) hb e1
    · rw [if_neg e2]
      by_cases e3 : a = j
      · rw [if_pos e3]; exact h (j - 1) b (by omega) hb e1
      · rw [if_neg e3]; exact h a b hab hb e1
theorem srt_stop {l : List Nat} {i j : Nat} (h : Srt l (i + 1) j) (hj : j = 0 ∨ pl l (j - 1) ≤ pl l j) : Srt l (i + 1) (i + 1) := by
  intro a b hab hb _
  by_cases e : b = j
  · rcases hj with hj | hj
    · omega
    · rw [e]
      by_cases e2 : a = j - 1
      · rw [e2]; exact hj
      · exact Nat.le_trans (h a (j - 1) (by omega) (by omega) (by omega)) hj
  · exact h a b hab hb e
end Sy
theorem isNaN_any (a : Int) (w : World) : Calls Tryz.prog 184 #[.int .i64 a] w fun e w' => e = .returned (.bool false) ∧ w = w' := by
  go_enter Tryz.func184, Tryz.ntmps184
  go_wp2_with fail
  go_ret
  exact ⟨by simp, rfl⟩
theorem cless_any (a b : Int) (w : World) : Calls Tryz.prog 162 #[.int .i64 a, .int .i64 b] w fun e w' => e = .returned (.bool (decide (a < b))) ∧ w = w' := by
  go_enter Tryz.func162, Tryz.ntmps162
  go_wp2_with (go_at_call 184; refine (isNaN_any _ _).mono ?_; rintro e w' ⟨rfl, rfl⟩)
  go_ret
  exact ⟨rfl, rfl⟩
def RIns (w0 : World) (g : Option Nat) (M : List (Nat × Value)) (L : List Ob) (A : Option Addr) (n c : Nat) (l : List Nat) (v : Value) (wr : World) : Prop :=
  ∃ (i : Nat) (l' : List Nat), 1 ≤ i ∧ (i ≤ n ∨ i = 1) ∧ v = .int .i64 (i : Int) ∧ Hid (l'.Perm l ∧ Sy.Srt l' i i) ∧ Hid (Ow w0 wr g M L [⟨A, n, c, 3, nats l'⟩])
def RIns2 (w0 : World) (g : Option Nat) (M : List (Nat × Value)) (L : List Ob) (A : Option Addr) (n c : Nat) (l : List Nat) (i : Nat) (v : Value) (wr : World) : Prop :=
  ∃ (j : Nat) (l' : List Nat), j ≤ i ∧ v = .int .i64 (j : Int) ∧ Hid (l'.Perm l ∧ Sy.Srt l' (i + 1) j) ∧ Hid (Ow w0 wr g M L [⟨A, n, c, 3, nats l'⟩])
section
variable {w0 w w' : World} {g : Option Nat} {M : List (Nat × Value)} {L : List Ob} {O : List Rw} {A : Option Addr} {n c gb k b : Nat} {e : TypeId} {l : List Nat}
theorem nats_at {l : List Nat} {k b : Nat} (h : l[k]? = some b) : (nats l)[k]? = some (.int .i64 (b : Int)) := by
  unfold nats
  rw [List.getElem?_map, h]
  rfl
theorem Ow.natO (h : Ow w0 w g M L O) (i : Nat) (hi : O[i]? = some ⟨some ⟨gb, 0, none⟩, n, c, e, nats l⟩) (hk : l[k]? = some b) : w.cell? ⟨gb, k, none⟩ = some (.int .i64 (b : Int)) := by
  have ho := h.row i hi
  have hl := own_len ho
  rw [nats_length] at hl
  have := get_lt hk
  rw [ho.cellAt k (by omega)]
  exact nats_at hk
end
set_option maxHeartbeats 4000000 in
theorem insert_ow {w0 w : World} {g : Option Nat} {M : List (Nat × Value)} {L : List Ob} {A : Option Addr} {n c : Nat} {l : List Nat} (h : Ow w0 w g M L [⟨A, n, c, 3, nats l⟩]) (hl : l.length = n) (hn : n ≤ 1000) :
    Calls Tryz.prog 156 #[.slice A n c, .int .i64 0, .int .i64 (n : Int)] w fun e w' => e = .returned (.tuple #[]) ∧ ∃ l', l'.Perm l ∧ Sy.Srt l' n n ∧ Ow w0 w' g M L [⟨A, n, c, 3, nats l'⟩] := by
  have HO0 := Lib.hid h
  have HLN := Lib.hid hl
  clear h hl
  go_enter Tryz.func156, Tryz.ntmps156
  go_wp2_with fail
  go_loopw [6] (fun v wr => RIns w0 g M L A n c l v wr) (fun v _ => n - (intOf v).toNat)
  case atStart => exact ⟨1, l, Nat.le_refl _, .inr rfl, rfl, ⟨List.Perm.refl _, fun a b h1 h2 _ => by omega⟩, HO0.out⟩
  case round =>
    clear HO0
    obtain ⟨i, l', hi1, hi2, rfl, HP, HO⟩ := hrel
    rcases Nat.lt_or_ge i n with hin | hin
    · have hd : decide ((i : Int) < (n : Int)) = true := decide_eq_true (by omega)
      go_wp2_with fail
      go_loopw [7] (fun v wr => RIns2 w0 g M L A n c l i v wr) (fun v _ => (intOf v).toNat)
      case atStart => exact ⟨i, l', Nat.le_refl _, rfl, ⟨HP.out.1, fun a b h1 h2 h3 => HP.out.2 a b h1 (by omega) h3⟩, HO.out⟩
      case round =>
        clear HP HO
        obtain ⟨j, l', hj, rfl, HP, HO⟩ := hrel
        have HL : Hid (l'.length = n) := by unfold Hid; rw [HP.out.1.length_eq, HLN.out]
        rcases Nat.eq_zero_or_pos j with rfl | h0
        · have hd0 : decide ((0 : Int) < ((0 : Nat) : Int)) = false := rfl
          have HE : Hid (l'.Perm l ∧ Sy.Srt l' (i + 1) (i + 1)) := ⟨HP.out.1, Sy.srt_stop HP.out.2 (.inl rfl)⟩
          go_wp2_with fail
          go_quiet (fail)
          go_wp2_with fail
          go_roundw
          case rel => exact ⟨i + 1, l', by omega, .inl (by omega), by go_num, HE, HO.out.drewN _⟩
          case measure => simp [intOf]; omega
        · have hd0 : decide ((0 : Int) < (j : Int)) = true := decide_eq_true (by omega)
          obtain ⟨j1, rfl⟩ : ∃ j1, j = j1 + 1 := ⟨j - 1, by omega⟩
          have hjm : ((j1 + 1 : Nat) : Int) - 1 = (j1 : Int) := by omega
          obtain ⟨x, hx⟩ : ∃ x, l'[j1 + 1]? = some x := ⟨_, Sy.pl_lt (by rw [HL.out]; omega)⟩
          obtain ⟨y, hy⟩ : ∃ y, l'[j1]? = some y := ⟨_, Sy.pl_lt (by rw [HL.out]; omega)⟩
          obtain ⟨gb, rfl, -, -⟩ := own_form (HO.out.row 0 rfl) (by omega)
          have hcx := HO.out.natO 0 rfl hx
          have hcy := HO.out.natO 0 rfl hy
          have hfx := HO.out.frzO 0 rfl (j1 + 1)
          have hfy := HO.out.frzO 0 rfl j1
          have HXY : Hid (Sy.pl l' (j1 + 1) = x ∧ Sy.pl l' j1 = y) := ⟨Sy.pl_some hx, Sy.pl_some hy⟩
          have hs1 : (j1 : Int) < (n : Int) := by omega
          have hs2 : (j1 : Int) + 1 < (n : Int) := by omega
          clear hx hy
          rcases Nat.lt_or_ge x y with hlt | hge
          · have hdx : decide ((x : Int) < (y : Int)) = true := decide_eq_true (by omega)
            have HC := Lib.hid (fun W => cless_any (x : Int) (y : Int) W)
            rw [hdx] at HC
            have HE : Hid ((Sy.swp l' (j1 + 1)).Perm l ∧ Sy.Srt (Sy.swp l' (j1 + 1)) (i + 1) j1) := ⟨(Sy.swp_perm (by omega) (by rw [HL.out]; omega)).trans HP.out.1, Sy.srt_swap (by omega) (by omega) (by rw [HL.out]; omega) HP.out.2 (by show Sy.pl l' (j1 + 1) < Sy.pl l' j1; rw [HXY.out.1, HXY.out.2]; exact hlt)⟩
            go_wp2_with fail
            go_quiet ((go_at_call 162; with_reducible exact quiet_left (HC.out _)))
            obtain ⟨wa, hwa⟩ : ∃ wa, wr.drewN nq = wa := ⟨_, rfl⟩
            have HOa := Lib.hid (HO.out.drewN nq)
            rw [hwa] at HOa ⊢
            clear hcx hcy hfx hfy hwa HO
            have hcx := HOa.out.natO 0 rfl (k := j1 + 1) (b := x) (by rw [← HXY.out.1]; exact Sy.pl_lt (by rw [HL.out]; omega))
            have hcy := HOa.out.natO 0 rfl (k := j1) (b := y) (by rw [← HXY.out.2]; exact Sy.pl_lt (by rw [HL.out]; omega))
            have hfx := HOa.out.frzO 0 rfl (j1 + 1)
            have hfy := HOa.out.frzO 0 rfl j1
            go_wp2_with fail
            go_region
            all_goals
              go_wp2_with fail
              go_roundw
              case rel =>
                have h5 := (HOa.out.put 0 rfl (j1 + 1) (.int .i64 (y : Int))).put 0 rfl j1 (.int .i64 (x : Int))
                rw [nats_set, nats_set] at h5
                have e : ((l'.set (j1 + 1) y).set j1 x) = Sy.swp l' (j1 + 1) := by unfold Sy.swp; rw [Nat.add_sub_cancel, HXY.out.1, HXY.out.2]
                rw [e] at h5
                exact ⟨j1, _, by omega, int_eqv (by omega), HE, h5.drew⟩
              case measure => simp [intOf]
          · have hdx : decide ((x : Int) < (y : Int)) = false := decide_eq_false (by omega)
            have HC := Lib.hid (fun W => cless_any (x : Int) (y : Int) W)
            rw [hdx] at HC
            have HE : Hid (l'.Perm l ∧ Sy.Srt l' (i + 1) (i + 1)) := ⟨HP.out.1, Sy.srt_stop HP.out.2 (.inr (by show Sy.pl l' j1 ≤ Sy.pl l' (j1 + 1); rw [HXY.out.1, HXY.out.2]; exact hge))⟩
            go_wp2_with fail
            go_quiet ((go_at_call 162; with_reducible exact quiet_left (HC.out _)))
            go_wp2_with fail
            go_roundw
            case rel => exact ⟨i + 1, l', by omega, .inl (by omega), by go_num, HE, HO.out.drewN _⟩
            case measure => simp [intOf]; omega
    · have hd : decide ((i : Int) < (n : Int)) = false := decide_eq_false (by omega)
      go_wp2_with fail
      go_end0
      refine ⟨rfl, l', HP.out.1, ?_, HO.out⟩
      intro a b h1 h2 _
      exact HP.out.2 a b h1 (by omega) (by omega)
theorem bitsLen_any (n : Nat) (hn : n ≤ 12) (w : World) : Calls Tryz.prog 145 #[.int .u64 (n : Int)] w fun e w' => (∃ z : Int, e = .returned (.int .i64 z)) ∧ w = w' := by
  have HL : Hid (∀ W, Calls Tryz.prog 166 #[.int .u64 (n : Int)] W fun e w' => (∃ z : Int, e = .returned (.int .i64 z)) ∧ W = w') := by
    intro W
    have hc : n = 0 ∨ n = 1 ∨ n = 2 ∨ n = 3 ∨ n = 4 ∨ n = 5 ∨ n = 6 ∨ n = 7 ∨ n = 8 ∨ n = 9 ∨ n = 10 ∨ n = 11 ∨ n = 12 := by omega
    clear hn
    rcases hc with rfl | rfl | rfl | rfl | rfl | rfl | rfl | rfl | rfl | rfl | rfl | rfl | rfl
    all_goals
      go_enter Tryz.func166, Tryz.ntmps166
      go_wp2_with fail
      go_ret
      exact ⟨⟨_, rfl⟩, rfl⟩
  go_enter Tryz.func145, Tryz.ntmps145
  go_wp2_with (go_at_call 166; refine (HL.out _).mono ?_; rintro e w' ⟨⟨z, rfl⟩, rfl⟩)
  go_ret
  exact ⟨⟨_, rfl⟩, rfl⟩
set_option maxHeartbeats 4000000 in
theorem pdq_ow {w0 w : World} {g : Option Nat} {M : List (Nat × Value)} {L : List Ob} {A : Option Addr} {n c : Nat} {l : List Nat} (h : Ow w0 w g M L [⟨A, n, c, 3, nats l⟩]) (hl : l.length = n) (hn : n ≤ 12) (z : Int) :
    Calls Tryz.prog 144 #[.slice A n c, .int .i64 0, .int .i64 (n : Int), .int .i64 z] w fun e w' => e = .returned (.tuple #[]) ∧ ∃ l', l'.Perm l ∧ Sy.Srt l' n n ∧ Ow w0 w' g M L [⟨A, n, c, 3, nats l'⟩] := by
  have HI := Lib.hid (insert_ow h hl (by omega))
  have hd : decide ((n : Int) ≤ 12) = true := decide_eq_true (by omega)
  clear h hl
  go_enter Tryz.func144, Tryz.ntmps144
  go_wp2_with fail
  go_loopw [1, 2] (fun v v2 wr => v = .int .i64 0 ∧ v2 = .int .i64 (n : Int) ∧ wr = w) (fun _ _ _ => 0)
  case atStart => exact ⟨rfl, rfl, rfl⟩
  case round =>
    obtain ⟨rfl, rfl, rfl⟩ := hrel
    go_wp2_with fail
    refine HI.out.mono ?_
    rintro e w' ⟨rfl, h⟩
    have HH := Lib.hid h
    clear h HI
    go_wp2_with fail
    refine bodyPost_ret (results_none rfl _ _ _) rfl ?_
    exact ⟨rfl, HH.out⟩
theorem sort_ow {w0 w : World} {g : Option Nat} {M : List (Nat × Value)} {L : List Ob} {A : Option Addr} {n c : Nat} {l : List Nat} (h : Ow w0 w g M L [⟨A, n, c, 3, nats l⟩]) (hl : l.length = n) (hn : n ≤ 12) :
    Calls Tryz.prog 111 #[.slice A n c] w fun e w' => e = .returned (.tuple #[]) ∧ ∃ l', l'.Perm l ∧ Sy.Srt l' n n ∧ Ow w0 w' g M L [⟨A, n, c, 3, nats l'⟩] := by
  have HP := Lib.hid (pdq_ow h hl hn)
  have HB := Lib.hid (bitsLen_any n hn)
  clear h hl
  go_enter Tryz.func111, Tryz.ntmps111
  go_wp2_with (go_at_call 145; refine (HB.out _).mono ?_; rintro e w' ⟨⟨z, rfl⟩, rfl⟩)
  refine (HP.out _).mono ?_
  rintro e w' ⟨rfl, h⟩
  have HH := Lib.hid h
  clear h HP
  go_wp2_with fail
  go_end0
  exact ⟨rfl, HH.out⟩
namespace Sy
theorem srt_asc {l : List Nat} (h : Srt l l.length l.length) (hn : l.Nodup) : Asc l := by
  refine List.pairwise_iff_getElem.2 fun i j hi hj hij => ?_
  have h1 := h i j hij hj (by omega)
  have e1 : pl l i = l[i] := pl_some (List.getElem?_eq_getElem hi)
  have e2 : pl l j = l[j] := pl_some (List.getElem?_eq_getElem hj)
  rw [e1, e2] at h1
  have h2 : l[i] ≠ l[j] := fun e => by
    have := (List.getElem_inj hn).1 e
    omega
  omega
end Sy
set_option maxHeartbeats 2000000 in
theorem containsI_any (A : Option Addr) (n c : Nat) (l : List Nat) (x : Nat) (w : World) (hx : x ≤ 1000) (hn : l.length = n) (hs : Sl w w.heap.size A (nats l)) (hl : n ≤ 1000) :
    Calls Tryz.prog 110 #[.slice A n c, .int .i64 (x : Int)] w fun e w' => e = .returned (.bool (l.contains x)) ∧ w = w' := by
  have HI : Hid (Calls Tryz.prog 143 #[.slice A n c, .int .i64 (x : Int)] w fun e w' => ∃ z : Int, e = .returned (.int .i64 z) ∧ -1 ≤ z ∧ z ≤ 1000 ∧ decide (0 ≤ z) = l.contains x ∧ w = w') := by
    have HN := Lib.hid hn
    have HS := Lib.hid hs
    clear hn hs
    unfold Hid
    go_enter Tryz.func143, Tryz.ntmps143
    go_wp2_with fail
    go_loopw [8] (fun v wr => ∃ k : Nat, k ≤ n ∧ v = .int .i64 (k : Int) ∧ wr = w ∧ Hid (x ∉ l.take k)) (fun v _ => n - (intOf v).toNat)
    case atStart => exact ⟨0, Nat.zero_le _, rfl, rfl, by unfold Hid; simp⟩
    case round =>
      obtain ⟨k, hk, rfl, rfl, HK⟩ := hrel
      rcases Nat.lt_or_ge k n with h | h
      · have hd : decide ((k : Int) < (n : Int)) = true := decide_eq_true (by omega)
        obtain ⟨b, hb⟩ : ∃ b, l[k]? = some b := ⟨_, Sy.pl_lt (by rw [HN.out]; exact h)⟩
        obtain ⟨ad, rfl, -, hc⟩ := HS.out (by rw [nats_length, HN.out]; omega)
        have hcx := hc k _ (nats_at hb)
        have HT : Hid (l.take (k + 1) = l.take k ++ [b]) := by unfold Hid; rw [List.take_add_one, hb]; rfl
        have HB := Lib.hid hb
        clear hb hc
        rcases Nat.decEq x b with hne | rfl
        · have hz : ((x : Int) == (b : Int)) = false := by rw [beq_eq_false_iff_ne]; omega
          have HNE := Lib.hid hne
          clear hne
          go_wp2_with fail
          go_roundw
          case rel =>
            refine ⟨k + 1, by omega, by go_num, by first | exact trivial | rfl, ?_⟩
            unfold Hid
            rw [HT.out, List.mem_append, List.mem_singleton]
            rintro (h1 | h1)
            · exact HK.out h1
            · exact HNE.out h1
          case measure => simp [intOf]; omega
        · have hz : ((x : Int) == (x : Int)) = true := by simp
          go_wp2_with fail
          go_ret
          refine ⟨(k : Int), rfl, by omega, by omega, ?_, rfl⟩
          rw [decide_eq_true (by omega)]
          symm
          rw [List.contains_iff_mem]
          exact List.mem_of_getElem? HB.out
      · have hd : decide ((k : Int) < (n : Int)) = false := decide_eq_false (by omega)
        go_wp2_with fail
        go_ret
        refine ⟨-1, rfl, by omega, by omega, ?_, rfl⟩
        have h5 := HK.out
        rw [List.take_of_length_le (by rw [HN.out]; exact h)] at h5
        symm
        rw [decide_eq_false (by omega)]
        cases e : l.contains x with
        | false => rfl
        | true => exact absurd (List.contains_iff_mem.1 e) h5
  clear hn hs
  go_enter Tryz.func110, Tryz.ntmps110
  go_wp2_with fail
  refine HI.out.mono ?_
  rintro e w' ⟨z, rfl, h1, h2, h3, rfl⟩
  have H3 := Lib.hid h3
  clear h3 HI
  go_wp2_with fail
  go_ret
  exact ⟨ret_bool H3.out, rfl⟩
end Go.Proofs.YtdjfbbfbdgiblaaGreatDoor

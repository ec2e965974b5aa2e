/- Sz Yg Yl Ym Yn -/
import Derived.Test.YtnplaejlmbncfaaGreatDoorM04
import Derived.Test.YtnplaejlmbncfaaGreatDoorM10
import Derived.Test.YtnplaejlmbncfaaGreatDoorM12
import Derived.Test.YtnplaejlmbncfaaGreatDoorM14
import Derived.Lib.QuietBelow
import Derived.BigQuiet
namespace Go.Proofs.YtnplaejlmbncfaaGreatDoor
namespace Sy
open Gf Po
set_option linter.unusedVariables false
theorem ls_perm (f : Nat → UInt8) {a b : List Nat} (h : a.Perm b) : ls f a = ls f b := by
  induction h with
  | nil => rfl
  | cons x _ ih => show f x ^^^ _ = f x ^^^ _; rw [ih]
  | swap x y l =>
    show f y ^^^ (f x ^^^ ls f l) = f x ^^^ (f y ^^^ ls f l)
    rw [← UInt8.xor_assoc, ← UInt8.xor_assoc, UInt8.xor_comm (f y)]
  | trans _ _ ih1 ih2 => rw [ih1, ih2]
theorem ls_places {P : List Nat} {n : Nat} (hP : P.Nodup) (hlt : ∀ p ∈ P, p < n) (G : Nat → UInt8) (hG : ∀ p, p < n → p ∉ P → G p = 0) : ls G P = ls G (List.range n) := by
  have h1 : P.Perm ((List.range n).filter fun p => P.contains p) := (List.perm_ext_iff_of_nodup hP (List.Nodup.sublist List.filter_sublist List.nodup_range)).2 fun a => by
    rw [List.mem_filter, List.mem_range, List.contains_iff_mem]
    exact ⟨fun h => ⟨hlt a h, h⟩, fun h => h.2⟩
  rw [ls_perm G h1]
  refine ls_filter _ _ _ fun p hp ht => hG p (List.mem_range.1 hp) fun hm => ?_
  rw [List.contains_iff_mem.2 hm] at ht
  cases ht
theorem ls_sumX_range (f : Nat → UInt8) : ∀ N, ls f (List.range N) = sumX f N := by
  intro N
  induction N with
  | zero => rfl
  | succ N ih => rw [ls_range_succ, ih]; rfl
theorem pl_inj' {P : List Nat} (hP : P.Nodup) {i j : Nat} (hi : i < P.length) (hj : j < P.length) (h : pl P i = pl P j) : i = j := by
  have e1 := pl_lt hi
  have e2 := pl_lt hj
  rw [h] at e1
  exact (List.getElem?_inj hi hP).1 (e1.trans e2.symm)
theorem amt_at' {P : List Nat} (hP : P.Nodup) (ch : List UInt8) {j : Nat} (hj : j < P.length) : amt P ch (pl P j) = wd ch j := by
  unfold amt
  rw [ls_single hj (fun i hi hne => by rw [if_neg]; intro e; exact hne (pl_inj' hP hi hj e)), if_pos rfl]
def hank (u : List UInt8) (v : Nat) : List (List UInt8) := (List.range (u.length - v)).map fun i => (u.drop i).take (v + 1)
theorem hank_length (u : List UInt8) (v : Nat) : (hank u v).length = u.length - v := by unfold hank; simp
theorem rw_hank (u : List UInt8) (v : Nat) {i : Nat} (h : i < u.length - v) : rw_ (hank u v) i = (u.drop i).take (v + 1) := by
  refine rw_some ?_
  unfold hank
  rw [List.getElem?_map, List.getElem?_range h]
  rfl
theorem wd_hank (u : List UInt8) {v i j : Nat} (hj : j ≤ v) : wd ((u.drop i).take (v + 1)) j = wd u (i + j) := by
  unfold wd
  rw [List.getElem?_take, if_pos (by omega), List.getElem?_drop]
theorem wid_hank (u : List UInt8) (v : Nat) : Wid (hank u v) (v + 1) := fun k hk => by
  rw [hank_length] at hk
  rw [rw_hank u v hk, List.length_take, List.length_drop]
  omega
theorem dot_hank (u : List UInt8) (v : Nat) {i : Nat} (h : i < u.length - v) (y : Nat → UInt8) : dot (rw_ (hank u v) i) y (v + 1) = sumX (fun j => gmul (wd u (i + j)) (y j)) (v + 1) := by
  unfold dot
  rw [rw_hank u v h, ls_sumX_range]
  exact sumX_congr fun j hj => by rw [wd_hank u (by omega)]
/-- the value of a polynomial below a power -/
def hval (l : List UInt8) (x : UInt8) (v : Nat) : UInt8 := sumX (fun k => gmul (wd l k) (gpow x k)) v
def rootsH (l : List UInt8) (n v : Nat) : List Nat := (List.range n).filter fun i => hval l (loc n i) v == gpow (loc n i) v
def locH (n : Nat) (u : List UInt8) (v : Nat) : Option (List Nat) := match solve (hank u v) v with
  | none => none
  | some l => if (rootsH l n v).length = v then some (rootsH l n v) else none
def meets (E o : List Nat) : Bool := o.any fun p => E.contains p
def tryH (n : Nat) (s u : List UInt8) (E : List Nat) (W : List UInt8) (v : Nat) : Option (List UInt8) := match locH n u v with
  | none => none
  | some o => if meets E o then none else match solve (rows0 s n (E ++ o)) (E ++ o).length with
    | none => none
    | some ad => some (fixW W (E ++ o) ad)
def decH (n : Nat) (s u : List UInt8) (E : List Nat) (W : List UInt8) : Nat → Nat → Option (List UInt8)
  | 0, _ => none
  | k + 1, v => match tryH n s u E W v with
    | some V => some V
    | none => decH n s u E W k (v + 1)
def refDec (m fix : Nat) (W : List UInt8) (E : List Nat) : Nat × List UInt8 × List Nat :=
  match decH W.length (synL W m) (stripAll W.length (synL W m) E) E W (min fix ((m - E.length) / 2) + 1) 0 with
  | none => (2, [], [])
  | some V => (if V = W then 0 else 1, V, diff W.length V W)
/-- the amounts at some places make a code word -/
theorem fix_cw {W ch : List UInt8} {n m : Nat} {P : List Nat} (hl : W.length = n) (hP : P.Nodup) (hlt : ∀ p ∈ P, p < n) (h : solve (rows0 (synL W m) n P) P.length = some ch) : Cw m (fixW W P ch) := fun k hk => by
  obtain ⟨q1, q2⟩ := solve_sound (wid_rows0 _ _ _) h
  have hq := q2 k (by rw [rows0_length, synL_length]; exact hk)
  rw [dot_rows0 _ _ _ (by rw [synL_length]; exact hk)] at hq
  rw [if_pos rfl, gmul_one] at hq
  rw [syn_eq, fixW_length, hl, dsyn_congr (E := fun p => wd W p ^^^ amt P ch p) (fun p hp => wd_fixW W P ch (by omega)), dsyn_add, ← dsyn_at hl hk]
  have e : dsyn (amt P ch) n k = ls (fun j => gmul (if j = P.length then 1 else wd ch j) (gpow (loc n (pl P j)) k)) (List.range P.length) := by
    unfold dsyn
    rw [← ls_places hP hlt (fun p => gmul (amt P ch p) (gpow (loc n p) k)) (fun p _ hp => by rw [amt_out ch hp, zero_gmul]), ls_pl]
    refine ls_congr fun j hj => ?_
    have hj := List.mem_range.1 hj
    rw [amt_at' hP ch hj, if_neg (by omega)]
  rw [e, UInt8.xor_comm]
  exact hq
theorem nodup_both {E o : List Nat} (hE : Asc E) (ho : Asc o) (hm : meets E o = false) : (E ++ o).Nodup := by
  rw [List.nodup_append]
  refine ⟨asc_nodup hE, asc_nodup ho, fun a ha b hb e => ?_⟩
  subst e
  unfold meets at hm
  rw [List.any_eq_false] at hm
  exact hm a hb (List.contains_iff_mem.2 ha)
theorem try_sound {W V u : List UInt8} {n m v : Nat} {E : List Nat} (hl : W.length = n) (hE : Ers E n m) (h : tryH n (synL W m) u E W v = some V) : Near n m v E W V := by
  unfold tryH locH at h
  cases e : solve (hank u v) v with
  | none => rw [e] at h; cases h
  | some l =>
    rw [e] at h
    dsimp only at h
    by_cases h1 : (rootsH l n v).length = v
    · rw [if_pos h1] at h
      dsimp only at h
      cases hm : meets E (rootsH l n v) with
      | true => rw [hm, if_pos rfl] at h; cases h
      | false =>
        rw [hm, if_neg (by simp)] at h
        cases e2 : solve (rows0 (synL W m) n (E ++ rootsH l n v)) (E ++ rootsH l n v).length with
        | none => rw [e2] at h; cases h
        | some ad =>
          rw [e2] at h
          cases h
          have ho : Asc (rootsH l n v) := asc_filter _ _
          have hlt : ∀ p ∈ E ++ rootsH l n v, p < n := fun p hp => by
            rcases List.mem_append.1 hp with hp | hp
            · exact hE.lt p hp
            · exact List.mem_range.1 (List.mem_filter.1 hp).1
          refine ⟨by rw [fixW_length, hl], fix_cw hl (nodup_both hE.asc ho hm) hlt e2, ?_⟩
          have a1 : ((List.range n).filter fun p => (rootsH l n v).contains p) = rootsH l n v := asc_ext (asc_filter _ _) ho fun p => by
            rw [List.mem_filter, List.mem_range, List.contains_iff_mem]
            exact ⟨fun h => h.2, fun h => ⟨hlt p (List.mem_append.2 (.inr h)), h⟩⟩
          have a2 := cnt_mono (a := fun i => (wd (fixW W (E ++ rootsH l n v) ad) i != wd W i) && !E.contains i) (b := fun p => (rootsH l n v).contains p) (l := List.range n) (fun p hp hx => by
            have hp := List.mem_range.1 hp
            rw [Bool.and_eq_true, bne_iff_ne, Bool.not_eq_true', ← Bool.not_eq_true, List.contains_iff_mem] at hx
            rw [List.contains_iff_mem]
            rcases Classical.em (p ∈ E ++ rootsH l n v) with hq | hq
            · exact (List.mem_append.1 hq).resolve_left hx.2
            · exact absurd (by rw [wd_fixW _ _ _ (by omega), amt_out ad hq, UInt8.xor_zero]) hx.1)
          rw [a1, h1] at a2
          exact a2
    · rw [if_neg h1] at h
      cases h
/-- a polynomial of few coefficients with so many roots is 0 -/
theorem few_roots {n t : Nat} (hn : n ≤ 255) {T : List Nat} (hT : T.Nodup) (hlt : ∀ p ∈ T, p < n) (htl : t ≤ T.length) (ht2 : t ≤ 250) (y : Nat → UInt8) (h : ∀ p ∈ T, sumX (fun j => gmul (y j) (gpow (loc n p) j)) t = 0) : ∀ j, j < t → y j = 0 := by
  intro j hj
  obtain ⟨P, hP⟩ : ∃ P, P = (List.range t).map y := ⟨_, rfl⟩
  have hPl : P.length = t := by rw [hP]; simp
  have hco : ∀ i, i < t → co P i = y i := fun i hi => by
    unfold co
    rw [hP, List.getElem?_map, List.getElem?_range hi]
    rfl
  rcases Nat.eq_zero_or_pos (trim P).length with h0 | h0
  · have := co_trim P j
    rw [co_big _ j (by omega), hco j hj] at this
    exact this.symm
  · exfalso
    have hle : (trim P).length ≤ t := by rw [trim_length, hPl]; exact tl_le _ _
    have := roots_lt _ (trim P) (T.map fun p => loc n p) rfl (trim_vld _ (by omega)) h0 (by
      rw [List.Nodup, List.pairwise_map]
      refine List.Pairwise.imp_of_mem ?_ hT
      intro a b ha hb hab e
      exact hab (loc_inj hn (hlt a ha) (hlt b hb) e)) (fun r hr => by
      obtain ⟨p, hp, rfl⟩ := List.mem_map.1 hr
      rw [eval_ext _ _ (co_trim P), ← ev_co P (loc n p) t (by omega)]
      unfold ev'
      rw [← h p hp]
      exact sumX_congr fun i hi => by rw [hco i hi])
    rw [List.length_map] at this
    omega
theorem sumX_rev (f : Nat → UInt8) : ∀ N, sumX f (N + 1) = sumX (fun i => f (N - i)) (N + 1) := by
  intro N
  rw [← ls_sumX_range, ← ls_sumX_range, ← ls_map f (fun i => N - i)]
  refine ls_perm f ?_
  refine (List.perm_ext_iff_of_nodup List.nodup_range ?_).2 fun a => ?_
  · rw [List.Nodup, List.pairwise_map]
    refine List.Pairwise.imp_of_mem ?_ (pair_range (N + 1))
    intro a b ha hb hab e
    have := List.mem_range.1 ha
    have := List.mem_range.1 hb
    omega
  · rw [List.mem_map]
    simp only [List.mem_range]
    exact ⟨fun h => ⟨N - a, by omega, by omega⟩, fun ⟨b, h1, h2⟩ => by omega⟩
theorem sumX_ls (g : Nat → Nat → UInt8) (T : List Nat) (N : Nat) : sumX (fun i => ls (g i) T) N = ls (fun t => sumX (fun i => g i t) N) T := ls_sumX g T N
/-- where a near code word lies, its number of other places leads to it -/
theorem try_complete {W V : List UInt8} {n m t : Nat} {E : List Nat} (hn : n ≤ 255) (hm : m ≤ 250) (hl : W.length = n) (hE : Ers E n m) (hVl : V.length = n) (hVc : Cw m V) (ht : oth n E V W = t) (h2 : 2 * t + E.length ≤ m) : ∃ V', tryH n (synL W m) (stripAll n (synL W m) E) E W t = some V' := by
  have hle := hE.le
  have hD : ∀ k, k < m → wd (synL W m) k = dsyn (fun i => wd V i ^^^ wd W i) n k := fun k hk => by
    have e1 := syn_eq V k
    rw [hVl] at e1
    rw [dsyn_add, ← e1, hVc k hk, UInt8.zero_xor, dsyn_at hl hk]
  obtain ⟨T, hT⟩ : ∃ T, T = (List.range n).filter fun i => (wd V i != wd W i) && !E.contains i := ⟨_, rfl⟩
  have hTl : T.length = t := by rw [hT]; exact ht
  have hTm : ∀ i, i ∈ T ↔ i < n ∧ wd V i ≠ wd W i ∧ i ∉ E := fun i => by
    rw [hT, List.mem_filter, List.mem_range, Bool.and_eq_true, bne_iff_ne, Bool.not_eq_true', ← Bool.not_eq_true, List.contains_iff_mem]
  have hTa : Asc T := by rw [hT]; exact asc_filter _ _
  have hTn := asc_nodup hTa
  have hTlt : ∀ p ∈ T, p < n := fun p hp => ((hTm p).1 hp).1
  obtain ⟨u1, u2⟩ := strip_all E (synL W m) (fun i => wd V i ^^^ wd W i) (fun k hk => by rw [synL_length] at hk; exact hD k hk)
  rw [synL_length] at u1 u2
  obtain ⟨f, hf⟩ : ∃ f : Nat → UInt8, f = fun i => gmul (wd V i ^^^ wd W i) (prE n E i) := ⟨_, rfl⟩
  have hfne : ∀ p ∈ T, f p ≠ 0 := fun p hp => by
    obtain ⟨b1, b2, b3⟩ := (hTm p).1 hp
    rw [hf]
    exact gmul_ne _ _ (fun e => b2 (UInt8.xor_eq_zero_iff.1 e)) (prE_ne hn hE.lt b1 b3)
  obtain ⟨u, hu⟩ : ∃ u, u = stripAll n (synL W m) E := ⟨_, rfl⟩
  rw [← hu] at u1 u2 ⊢
  have hU : ∀ k, k < m - E.length → wd u k = ls (fun p => gmul (f p) (gpow (loc n p) k)) T := fun k hk => by
    rw [u2 k hk]
    unfold dsyn
    rw [hT, ls_filter _ _ _ (fun p hp ht => ?_), hf]
    rw [hf]
    dsimp only
    rw [Bool.and_eq_false_iff] at ht
    rcases ht with ht | ht
    · have e : wd V p = wd W p := by simpa using ht
      rw [e, UInt8.xor_self, zero_gmul, zero_gmul]
    · have e : p ∈ E := by rw [Bool.not_eq_false', List.contains_iff_mem] at ht; exact ht
      rw [prE_zero e, gmul_zero, zero_gmul]
  have hrow : ∀ (y : Nat → UInt8) (i : Nat), i < u.length - t → dot (rw_ (hank u t) i) y (t + 1) = ls (fun p => gmul (gmul (f p) (sumX (fun j => gmul (y j) (gpow (loc n p) j)) (t + 1))) (gpow (loc n p) i)) T := fun y i hi => by
    rw [dot_hank u t hi y, sumX_congr (g := fun j => ls (fun p => gmul (gmul (f p) (gpow (loc n p) i)) (gmul (y j) (gpow (loc n p) j))) T) (fun j hj => by
      rw [hU (i + j) (by omega), gmul_comm, ← ls_mul]
      refine ls_congr fun p _ => ?_
      rw [gpow_add, gmul_comm (y j), gmul_comm (y j), gmul_assoc, gmul_assoc, gmul_assoc]), sumX_ls]
    refine ls_congr fun p _ => ?_
    rw [sumX_mul, gmul_assoc, gmul_comm (gpow _ _), ← gmul_assoc]
  -- the equations have just one solution
  obtain ⟨y, hy⟩ : ∃ y : Nat → UInt8, y = fun j => co (lam (loc n) T) (t - j) := ⟨_, rfl⟩
  have hyt : y t = 1 := by rw [hy]; dsimp only; rw [Nat.sub_self, lam_zero]
  have hyr : ∀ x, sumX (fun j => gmul (y j) (gpow x j)) (t + 1) = rv (lam (loc n) T) t x := fun x => by
    rw [sumX_rev, hy]
    unfold rv
    refine sumX_congr fun i hi => ?_
    dsimp only
    rw [show t - (t - i) = i by omega]
  have hyroot : ∀ p, p < n → (sumX (fun j => gmul (y j) (gpow (loc n p) j)) (t + 1) = 0 ↔ p ∈ T) := fun p hp => by
    rw [hyr, rv_eval (by rw [lam_len, hTl]; omega) (loc_ne _ _)]
    constructor
    · intro h
      rcases Classical.em (p ∈ T) with hm | hm
      · exact hm
      · exfalso
        have h3 : Po.eval (lam (loc n) T) (ginv (loc n p)) = 0 := ((gmul_eq_zero _ _).1 h).resolve_left (gpow_ne _ (loc_ne _ _) _)
        have := root_count hn (sg := lam (loc n) T) (L := t) (by rw [lam_len, hTl]) (by omega) (lam_zero _ _) (P := p :: T) (List.nodup_cons.2 ⟨hm, hTn⟩) (fun q hq => by
          rcases List.mem_cons.1 hq with rfl | hq
          · exact hp
          · exact hTlt q hq) (fun q hq => by
          unfold rootAt
          rw [beq_iff_eq]
          rcases List.mem_cons.1 hq with rfl | hq
          · exact h3
          · exact lam_root _ _ q hq (loc_ne _ _))
        rw [List.length_cons] at this
        omega
    · intro h
      rw [lam_root _ _ p h (loc_ne _ _), gmul_zero]
  obtain ⟨l, hls, hll, hlw⟩ := solve_one (rows := hank u t) (w := t) (wid_hank u t) (fun y' hk h0 => by
    have h3 : ∀ p ∈ T, sumX (fun j => gmul (y' j) (gpow (loc n p) j)) t = 0 := fun p hp => by
      have h4 := vand (loc n) T (fun p => gmul (f p) (sumX (fun j => gmul (y' j) (gpow (loc n p) j)) (t + 1))) (List.Pairwise.imp_of_mem (fun {a b} ha hb hab e => by
        have := loc_inj hn (hTlt a ha) (hTlt b hb) e
        exact hab this) hTn) (fun k hk' => by
        have h5 := hk k (by rw [hank_length, u1]; omega)
        rw [hrow y' k (by rw [u1]; omega)] at h5
        exact h5) p hp
      have h6 := ((gmul_eq_zero _ _).1 h4).resolve_left (hfne p hp)
      have h7 : sumX (fun j => gmul (y' j) (gpow (loc n p) j)) (t + 1) = sumX (fun j => gmul (y' j) (gpow (loc n p) j)) t ^^^ gmul (y' t) (gpow (loc n p) t) := rfl
      rw [h7, h0, zero_gmul, UInt8.xor_zero] at h6
      exact h6
    exact few_roots hn hTn hTlt (by omega) (by omega) y' h3) (y := y) (fun k hk => by
    rw [hank_length] at hk
    rw [hrow y k hk]
    refine ls_zero fun p hp => ?_
    rw [(hyroot p (hTlt p hp)).2 hp, gmul_zero, zero_gmul]) hyt
  have hro : rootsH l n t = T := asc_ext (asc_filter _ _) hTa fun p => by
    unfold rootsH
    rw [List.mem_filter, List.mem_range, beq_iff_eq]
    have e : ∀ p, hval l (loc n p) t = sumX (fun j => gmul (y j) (gpow (loc n p) j)) t := fun p => sumX_congr fun j hj => by rw [hlw j hj]
    have e2 : ∀ p, sumX (fun j => gmul (y j) (gpow (loc n p) j)) (t + 1) = sumX (fun j => gmul (y j) (gpow (loc n p) j)) t ^^^ gmul (y t) (gpow (loc n p) t) := fun p => rfl
    constructor
    · rintro ⟨h3, h4⟩
      refine (hyroot p h3).1 ?_
      rw [e2, hyt, one_gmul, ← e, h4, UInt8.xor_self]
    · intro h3
      refine ⟨hTlt p h3, ?_⟩
      have h4 := (hyroot p (hTlt p h3)).2 h3
      rw [e2, hyt, one_gmul, ← e] at h4
      exact UInt8.xor_eq_zero_iff.1 h4
  have hloc : locH n u t = some T := by
    unfold locH
    rw [hls]
    dsimp only
    rw [hro, if_pos hTl]
  have hme : meets E T = false := by
    unfold meets
    rw [List.any_eq_false]
    intro p hp h
    exact ((hTm p).1 hp).2.2 (List.contains_iff_mem.1 h)
  unfold tryH
  rw [hloc]
  dsimp only
  rw [hme, if_neg (by simp)]
  obtain ⟨P, hP⟩ : ∃ P, P = E ++ T := ⟨_, rfl⟩
  rw [← hP]
  have hPn : P.Nodup := by rw [hP]; exact nodup_both hE.asc hTa hme
  have hPlt : ∀ p ∈ P, p < n := fun p hp => by
    rw [hP] at hp
    rcases List.mem_append.1 hp with hp | hp
    · exact hE.lt p hp
    · exact hTlt p hp
  have hPl : P.length = E.length + t := by rw [hP, List.length_append, hTl]
  obtain ⟨x, hx, _⟩ := solve_one (rows := rows0 (synL W m) n P) (w := P.length) (wid_rows0 _ _ _) (fun y hy hy0 j hj => by
      refine vand (fun j => loc n (pl P j)) (List.range P.length) y ?_ (fun k hk => ?_) j (List.mem_range.2 hj)
      · refine List.Pairwise.imp_of_mem ?_ (pair_range P.length)
        intro a b ha hb hab e
        have ha := List.mem_range.1 ha
        have hb := List.mem_range.1 hb
        have := pl_inj' hPn ha hb (loc_inj hn (hPlt _ (pl_mem ha)) (hPlt _ (pl_mem hb)) e)
        omega
      · rw [List.length_range] at hk
        have := hy k (by rw [rows0_length, synL_length]; omega)
        rw [dot_rows0 _ _ _ (by rw [synL_length]; omega), hy0, gmul_zero, UInt8.xor_zero] at this
        exact this) (y := fun j => if j = P.length then 1 else wd V (pl P j) ^^^ wd W (pl P j)) (fun k hk => by
      rw [rows0_length, synL_length] at hk
      rw [dot_rows0 _ _ _ (by rw [synL_length]; exact hk)]
      rw [if_pos rfl, gmul_one, hD k hk]
      have e : ls (fun j => gmul (if j = P.length then 1 else wd V (pl P j) ^^^ wd W (pl P j)) (gpow (loc n (pl P j)) k)) (List.range P.length) = dsyn (fun i => wd V i ^^^ wd W i) n k := by
        rw [ls_congr (g := fun j => gmul (wd V (pl P j) ^^^ wd W (pl P j)) (gpow (loc n (pl P j)) k)) (fun j hj => by have := List.mem_range.1 hj; rw [if_neg (by omega)]), ← ls_pl (fun i => gmul (wd V i ^^^ wd W i) (gpow (loc n i) k)) P]
        unfold dsyn
        refine ls_places hPn hPlt _ fun p hp hpm => ?_
        rw [hP, List.mem_append, not_or] at hpm
        have e3 : wd V p = wd W p := by
          rcases Classical.em (wd V p = wd W p) with e | e
          · exact e
          · exact absurd ((hTm p).2 ⟨hp, e, hpm.1⟩) hpm.2
        rw [e3, UInt8.xor_self, zero_gmul]
      rw [e, UInt8.xor_self]) (if_pos rfl)
  rw [hx]
  exact ⟨_, rfl⟩
theorem decH_sound {n : Nat} {s u : List UInt8} {E : List Nat} {W V : List UInt8} : ∀ k v, decH n s u E W k v = some V → ∃ j, v ≤ j ∧ j < v + k ∧ tryH n s u E W j = some V
  | 0, _, h => by cases h
  | k + 1, v, h => by
    unfold decH at h
    cases e : tryH n s u E W v with
    | some V' => rw [e] at h; cases h; exact ⟨v, by omega, by omega, e⟩
    | none =>
      rw [e] at h
      obtain ⟨j, h1, h2, h3⟩ := decH_sound k (v + 1) h
      exact ⟨j, by omega, by omega, h3⟩
theorem decH_none {n : Nat} {s u : List UInt8} {E : List Nat} {W : List UInt8} : ∀ k v, decH n s u E W k v = none → ∀ j, v ≤ j → j < v + k → tryH n s u E W j = none
  | 0, _, _ => fun j h1 h2 => by omega
  | k + 1, v, h => fun j h1 h2 => by
    unfold decH at h
    cases e : tryH n s u E W v with
    | some V' => rw [e] at h; cases h
    | none =>
      rw [e] at h
      rcases Nat.eq_or_lt_of_le h1 with rfl | h3
      · exact e
      · exact decH_none k (v + 1) h j (by omega) (by omega)
/-- the document decodes as the program does -/
theorem ref_dec {W : List UInt8} {n m fix : Nat} {E : List Nat} (hn : n ≤ 255) (hm : m ≤ 250) (hl : W.length = n) (hE : Ers E n m) : refDec m fix W E = decM m fix W E := by
  have hle := hE.le
  unfold refDec
  rw [hl]
  cases e : decH n (synL W m) (stripAll n (synL W m) E) E W (min fix ((m - E.length) / 2) + 1) 0 with
  | some V =>
    dsimp only
    obtain ⟨j, -, h2, h3⟩ := decH_sound _ _ e
    have h4 := try_sound hl hE h3
    exact (dec_near hn hm hl hE ⟨h4.len, h4.cw, by have := h4.few; omega⟩).symm
  | none =>
    dsimp only
    rcases dec_sound (fix := fix) hl hE with h1 | ⟨V, h1, _⟩
    · exact h1.symm
    · exfalso
      have h5 := h1.few
      obtain ⟨V', h3⟩ := try_complete hn hm hl hE h1.len h1.cw rfl (by omega)
      rw [decH_none _ _ e _ (Nat.zero_le _) (by omega)] at h3
      cases h3
end Sy
end Go.Proofs.YtnplaejlmbncfaaGreatDoor

namespace Go.Proofs.YtnplaejlmbncfaaGreatDoor
open Go.RowKit Go.Sort
set_option linter.unusedVariables false
set_option maxRecDepth 100000
section
variable {w0 w w' : World} {g : Option Nat} {M : List (Nat × Value)} {L : List Ob} {O : List Rw} {A : Option Addr} {n c k b : Nat} {l : List Nat}
theorem Ow.natL (h : Ow w0 w g M L O) (i : Nat) (hi : L[i]? = some ⟨A, n, c, nats l⟩) (hk : l[k]? = some b) : ∃ ad, A = some ad ∧ w.cell? (ad.add k) = some (.int .i64 (b : Int)) := by
  obtain ⟨ad, e, _, h⟩ := (h.sl hi).2.2.2.nat hk
  exact ⟨ad, e, h⟩
theorem rg_call {P : Program} {f : FuncId} {args : Array Value} {w : World} {v : Value} (h : ∀ W, Below w.heap.size w W → Calls P f args W fun e w' => e = .returned v ∧ Below W.heap.size W w') (d : Nat) (os : Array Obj) : Calls P f args (grow (redrawn w d) os) fun e w'' => e = .returned v ∧ ∃ p : Regrown, w'' = grow (redrawn w p.d) p.os :=
  Calls.regrown_of (h _ (below_regrown w d os))
theorem rg_below {w W : World} (h : ∃ p : Regrown, W = grow (redrawn w p.d) p.os) : Below w.heap.size w W := by
  obtain ⟨p, rfl⟩ := h
  exact below_regrown _ _ _
end
end Go.Proofs.YtnplaejlmbncfaaGreatDoor

namespace Go.Proofs.YtnplaejlmbncfaaGreatDoor
open Go.RowKit
set_option linter.unusedVariables false
set_option maxRecDepth 100000
theorem Sy.zpow_any (k : Nat) : Gf.zpow 2 (k : Int) = Gf.gpow 2 k := by
  unfold Gf.zpow
  have e : Gf.emod (k : Int) = k % 255 := by
    have := Gf.emod_cast (k : Int)
    omega
  rw [e, Gf.gpow_mod 2 (by decide)]
theorem Sy.exp_loc (n p j : Nat) : Gf.gpow 2 (j * (n - 1 - p)) = Gf.gpow (Sy.loc n p) j := by
  unfold Sy.loc
  rw [Nat.mul_comm, Gf.gpow_mul]
/-- a list of lists that grows -/
structure Mz (w0 w : World) (M : List (Nat × Value)) (L : List Ob) (A : Option Addr) (m cap : Nat) (H : List (Option Addr × Nat)) (R : List (List UInt8)) (X : List Rw) : Prop where
  ow : Ow w0 w none M L (⟨A, m, cap, 30, hdrs H R⟩ :: (mkRs H R ++ X))
  hl : H.length = m
  rl : R.length = m
section
variable {w0 w w' : World} {M : List (Nat × Value)} {L : List Ob} {A : Option Addr} {m cap : Nat} {H : List (Option Addr × Nat)} {R : List (List UInt8)} {X : List Rw}
theorem Mz.len (h : Mz w0 w M L A m cap H R X) : (mkRs H R).length = m := by unfold mkRs; rw [List.length_zipWith, h.hl, h.rl]; omega
theorem Mz.x0 {r : Rw} (h : Mz w0 w M L A m cap H R [r]) : (⟨A, m, cap, 30, hdrs H R⟩ :: (mkRs H R ++ [r]) : List Rw)[m + 1]? = some r := by
  rw [List.getElem?_cons_succ, List.getElem?_append_right (by rw [h.len]; exact Nat.le_refl _), h.len, Nat.sub_self]
  rfl
theorem Mz.xset {r s : Rw} (h : Mz w0 w M L A m cap H R [r]) (ho : Ow w0 w' none M L ((⟨A, m, cap, 30, hdrs H R⟩ :: (mkRs H R ++ [r]) : List Rw).set (m + 1) s)) : Mz w0 w' M L A m cap H R [s] := by
  refine ⟨?_, h.hl, h.rl⟩
  rw [List.set_cons_succ, List.set_append_right _ _ (by rw [h.len]; exact Nat.le_refl _), h.len, Nat.sub_self] at ho
  exact ho
theorem Mz.nil (h : Ow w0 w none M L []) : Mz w0 w M L none 0 0 [] [] [] := ⟨h.nil 30, rfl, rfl⟩
theorem Mz.new (h : Mz w0 w M L A m cap H R []) : Mz w0 w M L A m cap H R [⟨none, 0, 0, 5, []⟩] := by
  have := h.ow.nil 5
  rw [List.append_nil] at this
  exact ⟨this, h.hl, h.rl⟩
theorem Mz.grown {B : Option Addr} {k c : Nat} {r : List UInt8} (h : Mz w0 w M L A m cap H R [⟨B, k, c, 5, bys r⟩]) (hr : r.length = k) {A' : Option Addr} {cap' : Nat} (ho : Ow w0 w' none M L ((⟨A, m, cap, 30, hdrs H R⟩ :: (mkRs H R ++ [⟨B, k, c, 5, bys r⟩]) : List Rw).set 0 ⟨A', m + 1, cap', 30, hdrs H R ++ [.slice B k c]⟩)) : Mz w0 w' M L A' (m + 1) cap' (H ++ [(B, c)]) (R ++ [r]) [] := by
  have e1 : hdrs (H ++ [(B, c)]) (R ++ [r]) = hdrs H R ++ [.slice B k c] := by
    unfold hdrs
    rw [List.zipWith_append (by rw [h.hl, h.rl])]
    subst hr
    rfl
  have e2 : mkRs (H ++ [(B, c)]) (R ++ [r]) = mkRs H R ++ [⟨B, k, c, 5, bys r⟩] := by
    unfold mkRs
    rw [List.zipWith_append (by rw [h.hl, h.rl])]
    subst hr
    rfl
  refine ⟨?_, by rw [List.length_append, h.hl]; rfl, by rw [List.length_append, h.rl]; rfl⟩
  rw [e1, e2, List.append_nil]
  exact ho
theorem Mz.my (h : Mz w0 w M L A m cap H R []) (hm : 0 < m) : ∃ g, A = some ⟨g, 0, none⟩ ∧ My w0 w M L g m cap H R [] := by
  obtain ⟨g, rfl, _, _⟩ := own_form (h.ow.row 0 rfl) hm
  exact ⟨g, rfl, ⟨h.ow, h.hl, h.rl⟩⟩
end
theorem magR_of {w w' : World} {L : List Ob} {r : Option (List UInt8)} {en : Ending} (h : SolR w [] L r en w') : MagR w r en w' := by
  obtain ⟨A, k, c, b, he, ⟨hb, l, h1, h2, h3⟩ | ⟨hb, h1, h3⟩⟩ := h
  · exact ⟨A, k, c, b, he, h3.below, .inl ⟨hb, l, h1, h2, h3.row 0 rfl⟩⟩
  · exact ⟨A, k, c, b, he, h3.below, .inr ⟨hb, h1⟩⟩
def RAm1 (w : World) (L : List Ob) (m : Nat) (R : List (List UInt8)) (x y : Value) (wr : World) : Prop :=
  ∃ (j : Nat) (A : Option Addr) (cap : Nat) (H : List (Option Addr × Nat)), j ≤ m ∧ y = .int .i64 (j : Int) ∧ x = .slice A j cap ∧ Hid (Mz w wr [] L A j cap H (R.take j) [])
def RAm2 (w : World) (L : List Ob) (j : Nat) (A : Option Addr) (cap : Nat) (H : List (Option Addr × Nat)) (R : List (List UInt8)) (n np : Nat) (P : List Nat) (x y : Value) (wr : World) : Prop :=
  ∃ (i : Nat) (B : Option Addr) (c : Nat), i ≤ np ∧ y = .int .i64 (i : Int) ∧ x = .slice B i c ∧ Hid (Mz w wr [] L A j cap H R [⟨B, i, c, 5, bys (Sy.powR n (P.take i) j)⟩])
set_option maxHeartbeats 4000000 in
theorem amounts_any (A : Option Addr) (m c n : Nat) (A2 : Option Addr) (np c2 : Nat) (s : List UInt8) (P : List Nat) (w : World) (hm : s.length = m) (hs : Sl w w.heap.size A (bys s)) (hmc : m ≤ c) (hw : P.length = np) (hs2 : Sl w w.heap.size A2 (nats P)) (hnc : np ≤ c2) (h8 : m ≤ 8) (hm1 : 1 ≤ m) (hn : n ≤ 255) (hP : ∀ p ∈ P, p < n) (hnp : np ≤ 20) :
    Calls Tryz.prog 103 #[.int .i64 (n : Int), .slice A m c, .slice A2 np c2] w (MagR w (Sy.solve (Sy.rows0 s n P) np)) := by
  have H0 := ((Ow.of (St.refl w)).old hs (by rw [bys_length]; exact hm) hmc (by omega)).old hs2 (by rw [nats_length]; exact hw) hnc (by omega)
  simp only [List.nil_append, List.cons_append] at H0
  have HH := Lib.hid (Mz.nil H0)
  have HM := Lib.hid hm
  have HW := Lib.hid hw
  have HP := Lib.hid hP
  obtain ⟨R0, hR0⟩ : ∃ R0, Hid (R0 = Sy.rows0 s n P) := ⟨_, rfl⟩
  rw [← hR0.out]
  clear H0 hs hs2 hm hw hP
  go_enter Tryz.func103, Tryz.ntmps103
  go_wp2_with fail
  go_loopw [8, 9] (fun x y wr => RAm1 w [⟨A, m, c, bys s⟩, ⟨A2, np, c2, nats P⟩] m R0 x y wr) (fun _ y _ => m - (intOf y).toNat)
  case atStart => exact ⟨0, none, 0, [], Nat.zero_le _, rfl, rfl, HH.out⟩
  case round =>
    clear HH
    obtain ⟨j, Ao, cap, H, hj, rfl, rfl, HX⟩ := hrel
    rcases Nat.lt_or_ge j m with hjm | hjm
    · have hd : decide ((j : Int) < (m : Int)) = true := decide_eq_true (by omega)
      have HX1 := Lib.hid HX.out.new
      go_wp2_with fail
      go_loopw [10, 11] (fun x y wr => RAm2 w [⟨A, m, c, bys s⟩, ⟨A2, np, c2, nats P⟩] j Ao cap H (R0.take j) n np P x y wr) (fun _ y _ => np - (intOf y).toNat)
      case atStart => exact ⟨0, none, 0, Nat.zero_le _, rfl, rfl, HX1.out⟩
      case round =>
        clear HX HX1
        obtain ⟨i, B, cb, hi, rfl, rfl, HX⟩ := hrel
        have HXi := Lib.hid HX.out.x0
        rcases Nat.lt_or_ge i np with h2 | h2
        · have hd2 : decide ((i : Int) < (np : Int)) = true := decide_eq_true (by omega)
          obtain ⟨p, hp⟩ : ∃ p, P[i]? = some p := ⟨_, Sy.pl_lt (by rw [HW.out]; exact h2)⟩
          obtain ⟨ad2, rfl, hcp⟩ := HX.out.ow.natL 1 rfl hp
          have hpn : p < n := HP.out p (List.mem_of_getElem? hp)
          obtain ⟨z, hz⟩ : ∃ z : Nat, Hid (z = n - 1 - p) := ⟨_, rfl⟩
          have hzI : (n : Int) - 1 - (p : Int) = (z : Int) := by have := hz.out; omega
          have hz255 : z ≤ 255 := by have := hz.out; omega
          obtain ⟨y, hy⟩ : ∃ y, y = Gf.gpow (Sy.loc n p) j := ⟨_, rfl⟩
          have hjz : j * z ≤ 8 * 255 := Nat.mul_le_mul (by omega) hz255
          obtain ⟨jz, hjz2⟩ : ∃ jz : Nat, Hid (jz = j * z) := ⟨_, rfl⟩
          have hjzI : (j : Int) * (z : Int) = (jz : Int) := by rw [hjz2.out]; push_cast; rfl
          have hjzl : jz ≤ 2040 := by rw [hjz2.out]; omega
          have HE : Hid (∀ W, Calls Tryz.prog 50 #[.int .i64 (jz : Int)] W fun e w' => e = .returned (.int .u8 (y.toNat : Int)) ∧ W = w') := fun W => by
            have h5 := refexp_any (jz : Int) W
            rw [Sy.zpow_any, hjz2.out, hz.out, Sy.exp_loc, ← hy] at h5
            rw [hjz2.out, hz.out]
            exact h5
          have HSn : Hid (Sy.powR n (P.take i) j ++ [y] = Sy.powR n (P.take (i + 1)) j) := by unfold Hid; rw [hy]; exact (Sy.powR_snoc n hp j).symm
          clear hy hp hjz
          go_wp2_with (first | (go_at_call 50; refine (HE.out _).mono ?_; rintro e w' ⟨rfl, rfl⟩) | (at_builtin; refine ow_append1 elemB HX.out.ow (j + 1) (.tmp 24) (.tmp 35) _ _ HXi.out rfl (by unfold maxLen; omega) (by omega) rfl rfl rfl rfl ?_; intro A' c' w8 how))
          go_roundw
          case rel =>
            have e1 : bys (Sy.powR n (P.take i) j) ++ [Value.int .u8 (y.toNat : Int)] = bys (Sy.powR n (P.take (i + 1)) j) := by rw [← HSn.out]; simp [bys, encB]
            rw [e1] at how
            exact ⟨i + 1, A', c', by omega, by go_num, rfl, HX.out.xset how⟩
          case measure => simp [intOf]; omega
        · have hd2 : decide ((i : Int) < (np : Int)) = false := decide_eq_false (by omega)
          have hie : i = np := by omega
          subst hie
          obtain ⟨y, hy⟩ := byte_at s j (by rw [HM.out]; exact hjm)
          obtain ⟨ad, rfl, hcy⟩ := HX.out.ow.byteL 0 rfl hy
          have HRow : Hid (R0.take (j + 1) = R0.take j ++ [Sy.powR n P j ++ [y]]) := by
            unfold Hid
            have e : R0[j]? = some (Sy.powR n P j ++ [y]) := by
              rw [hR0.out]
              unfold Sy.rows0 Sy.powR
              rw [List.getElem?_map, List.getElem?_range (by rw [HM.out]; exact hjm), ← Sy.wd_some hy]
              rfl
            rw [List.take_add_one, e]
            rfl
          have HTk : Hid (P.take i = P) := List.take_of_length_le (by rw [HW.out]; exact Nat.le_refl _)
          have hRl : (Sy.powR n P j ++ [y]).length = i + 1 := by rw [List.length_append, Sy.powR_length, HW.out]; rfl
          have HRl := Lib.hid hRl
          have e1 : bys (Sy.powR n (P.take i) j) ++ [Value.int .u8 (y.toNat : Int)] = bys (Sy.powR n P j ++ [y]) := by rw [HTk.out]; simp [bys, encB]
          have E1 := Lib.hid e1
          clear hy hRl e1
          go_wp2_with (first | (at_builtin; refine ow_append1 elemB HX.out.ow (j + 1) (.tmp 38) (.tmp 43) _ _ HXi.out rfl (by unfold maxLen; omega) (by omega) rfl rfl rfl rfl ?_; intro B' cb' w8 how; rw [E1.out] at how; have HY := Lib.hid (HX.out.xset how); clear how) | (at_builtin; refine ow_append1 elemS HY.out.ow 0 (.tmp 37) (.tmp 45) _ _ rfl rfl (by unfold maxLen; omega) (by omega) rfl rfl rfl rfl ?_; intro A' c' w9 how; have HV := Lib.hid (HY.out.grown HRl.out how); clear how))
          go_roundw
          case rel => exact ⟨j + 1, A', c', _, by omega, by go_num, rfl, by rw [HRow.out]; exact HV.out⟩
          case measure => simp [intOf]; omega
    · have hd : decide ((j : Int) < (m : Int)) = false := decide_eq_false (by omega)
      obtain rfl : j = m := by omega
      have hT : R0.take j = R0 := List.take_of_length_le (by rw [hR0.out, Sy.rows0_length, HM.out]; exact Nat.le_refl _)
      rw [hT] at HX
      obtain ⟨g, rfl, HY⟩ := HX.out.my (by omega)
      have HS := Lib.hid (rsolve_any HY (fun k hk => by
        have h5 := Sy.wid_rows0 s n P k (by rw [Sy.rows0_length, HM.out]; exact hk)
        rw [← hR0.out, HW.out] at h5
        exact h5) (by omega) (by omega))
      clear HX HY hT
      go_wp2_with fail
      refine HS.out.mono ?_
      rintro en w5 ⟨Az, kz, cz, bz, rfl, hz⟩
      have hz2 := magR_of ⟨Az, kz, cz, bz, rfl, hz⟩
      have HZ := Lib.hid hz2
      clear hz hz2 HS
      go_wp2_with fail
      go_ret2
      exact HZ.out
theorem solve_nil (w : World) (c : Nat) : Calls Tryz.prog 150 #[.slice none 0 c, .int .i64 0] w fun e w' => e = .returned (.tuple #[.slice none 0 0, .bool true]) ∧ Below w.heap.size w w' := by
  go_enter Tryz.func150, Tryz.ntmps150
  go_wp2_with fail
  go_loopw [6, 7] (fun x y wr => x = .int .i64 0 ∧ y = .int .i64 0 ∧ wr = w) (fun _ _ _ => 0)
  case atStart => exact ⟨rfl, rfl, rfl⟩
  case round =>
    obtain ⟨rfl, rfl, rfl⟩ := hrel
    go_wp2_with fail
    go_loopw [15, 16] (fun x y w2 => x = .slice none 0 0 ∧ y = .int .i64 0 ∧ w2 = wr) (fun _ _ _ => 0)
    case atStart => exact ⟨rfl, rfl, rfl⟩
    case round =>
      obtain ⟨rfl, rfl, rfl⟩ := hrel
      go_wp2_with fail
      go_loopw [17] (fun x w2 => x = .int .i64 0 ∧ w2 = wr) (fun _ _ => 0)
      case atStart => exact ⟨rfl, rfl⟩
      case round =>
        obtain ⟨rfl, rfl⟩ := hrel
        go_wp2_with fail
        go_ret2
        exact ⟨rfl, Below.refl _ _⟩
end Go.Proofs.YtnplaejlmbncfaaGreatDoor

namespace Go.Proofs.YtnplaejlmbncfaaGreatDoor
open Go.RowKit
set_option linter.unusedVariables false
set_option maxRecDepth 100000
def RLo1 (w : World) (L : List Ob) (mu v : Nat) (R : List (List UInt8)) (x y : Value) (wr : World) : Prop :=
  ∃ (i : Nat) (A : Option Addr) (cap : Nat) (H : List (Option Addr × Nat)), i + v ≤ mu ∧ y = .int .i64 (i : Int) ∧ x = .slice A i cap ∧ Hid (i = 0 → A = none) ∧ Hid (Mz w wr [] L A i cap H (R.take i) [])
def RLo2 (w : World) (L : List Ob) (n : Nat) (r : Rw) (T : Nat → Bool) (x y : Value) (wr : World) : Prop :=
  ∃ (i : Nat) (A : Option Addr) (k c : Nat), i ≤ n ∧ k ≤ i ∧ y = .int .i64 (i : Int) ∧ x = .slice A k c ∧ Hid (k = ((List.range i).filter T).length) ∧ Hid (Ow w wr none [] L [r, ⟨A, k, c, 3, nats ((List.range i).filter T)⟩])
def RLo3 (w : World) (L : List Ob) (O : List Rw) (l : List UInt8) (x : UInt8) (v : Nat) (y1 y2 y3 : Value) (wr : World) : Prop :=
  ∃ k : Nat, k ≤ v ∧ y3 = .int .i64 (k : Int) ∧ y1 = .int .u8 ((Sy.hval l x k).toNat : Int) ∧ y2 = .int .u8 ((Gf.gpow x k).toNat : Int) ∧ Hid (Ow w wr none [] L O)
theorem hval_succ (l : List UInt8) (x : UInt8) (k : Nat) : Sy.hval l x (k + 1) = Sy.hval l x k ^^^ Gf.gmul (Sy.wd l k) (Gf.gpow x k) := rfl
theorem gpow_suc (x : UInt8) (k : Nat) : Gf.gpow x (k + 1) = Gf.gmul (Gf.gpow x k) x := by rw [Gf.gpow_add, Gf.gpow_one]
theorem solve_empty : Sy.solve [] 0 = some [] := rfl
set_option maxHeartbeats 2000000 in
theorem rlocate_any (A : Option Addr) (mu c n v : Nat) (u : List UInt8) (w : World) (hm : u.length = mu) (hs : Sl w w.heap.size A (bys u)) (hmc : mu ≤ c) (h8 : mu ≤ 8) (hv2 : 2 * v ≤ mu) (hn : n ≤ 255) (hc63 : c ≤ 9223372036854775807) :
    Calls Tryz.prog 102 #[.int .i64 (n : Int), .slice A mu c, .int .i64 (v : Int)] w (LocR w (Sy.locH n u v)) := by
  have H0 := (Ow.of (St.refl w)).old hs (by rw [bys_length]; exact hm) hmc (by omega)
  simp only [List.nil_append] at H0
  have HH := Lib.hid (Mz.nil H0)
  have HM := Lib.hid hm
  obtain ⟨R0, hR0⟩ : ∃ R0, Hid (R0 = Sy.hank u v) := ⟨_, rfl⟩
  have HR0l : Hid (R0.length = mu - v) := by unfold Hid; rw [hR0.out, Sy.hank_length, HM.out]
  clear H0 hs hm
  go_enter Tryz.func102, Tryz.ntmps102
  go_wp2_with fail
  go_loopw [8, 9] (fun x y wr => RLo1 w [⟨A, mu, c, bys u⟩] mu v R0 x y wr) (fun _ y _ => mu - (intOf y).toNat)
  case atStart => exact ⟨0, none, 0, [], by omega, rfl, rfl, fun _ => rfl, HH.out⟩
  case round =>
    clear HH
    obtain ⟨i, Ao, cap, H, hi, rfl, rfl, HA0, HX⟩ := hrel
    obtain ⟨iv, hiv⟩ : ∃ iv : Nat, Hid (iv = i + v) := ⟨_, rfl⟩
    have hivI : (i : Int) + (v : Int) = (iv : Int) := by have := hiv.out; omega
    rcases Nat.lt_or_ge iv mu with him | him
    · have hd : decide ((iv : Int) < (mu : Int)) = true := decide_eq_true (by omega)
      obtain ⟨ad, rfl, -, -⟩ := (HX.out.ow.sl (i := 0) rfl).2.2.2 (by rw [bys_length, HM.out]; omega)
      have hdr : Sl wr wr.heap.size (some (ad.add i)) (bys ((u.drop i).take (v + 1))) := by
        have h5 := ((HX.out.ow.sl (i := 0) rfl).2.2.2.drop i).take (v + 1)
        have e : ((bys u).drop i).take (v + 1) = bys ((u.drop i).take (v + 1)) := by unfold bys; rw [← List.map_drop, ← List.map_take]
        rw [e] at h5
        exact h5
      have HDr := Lib.hid hdr
      have hnl : (bys ((u.drop i).take (v + 1))).length = v + 1 := by rw [bys_length, List.length_take, List.length_drop, HM.out]; have := hiv.out; omega
      have HNl := Lib.hid hnl
      have HRow : Hid (R0.take (i + 1) = R0.take i ++ [(u.drop i).take (v + 1)]) := by
        unfold Hid
        have e : R0[i]? = some ((u.drop i).take (v + 1)) := by
          rw [hR0.out]
          unfold Sy.hank
          rw [List.getElem?_map, List.getElem?_range (by rw [HM.out]; have := hiv.out; omega)]
          rfl
        rw [List.take_add_one, e]
        rfl
      have HRl : Hid (((u.drop i).take (v + 1)).length = v + 1) := by unfold Hid; rw [← bys_length, hnl]
      have HX1 := Lib.hid HX.out.new
      have HXi := Lib.hid HX1.out.x0
      obtain ⟨iw, hiw⟩ : ∃ iw : Nat, Hid (iw = iv + 1) := ⟨_, rfl⟩
      have sl1 : (iv : Int) + 1 = (iw : Int) := by have := hiw.out; omega
      have sl2 : iw - i = v + 1 := by have := hiv.out; have := hiw.out; omega
      have sl3 : i ≤ iw := by have := hiv.out; have := hiw.out; omega
      have sl4 : iw ≤ c := by have := hiw.out; omega
      have sl5 : iw ≤ 8 := by have := hiw.out; omega
      clear hdr hnl
      go_wp2_with (first | (at_builtin; refine ow_append elemB HX1.out.ow (i + 1) (.const (.slice none 0 0)) (.tmp 33) HXi.out (m := v + 1) (news := bys ((u.drop i).take (v + 1))) HNl.out HDr.out (bys_one _) (by unfold maxLen; omega) (by omega) rfl rfl rfl rfl ?_; intro B' cb' w8 how; rw [List.nil_append, Nat.zero_add] at how; have HY := Lib.hid (HX1.out.xset how); clear how) | (at_builtin; refine ow_append1 elemS HY.out.ow 0 (.tmp 26) (.tmp 35) _ _ rfl rfl (by unfold maxLen; omega) (by omega) rfl rfl rfl rfl ?_; intro A' c' w9 how; have HV := Lib.hid (HY.out.grown HRl.out how); clear how))
      go_roundw
      case rel => exact ⟨i + 1, A', c', _, by have := hiv.out; omega, by go_num, rfl, fun h => by omega, by rw [HRow.out]; exact HV.out⟩
      case measure => simp [intOf]; omega
    · have hd : decide ((iv : Int) < (mu : Int)) = false := decide_eq_false (by omega)
      have hi2 : i = mu - v := by have := hiv.out; omega
      have hT : R0.take i = R0 := List.take_of_length_le (by rw [HR0l.out]; omega)
      rw [hT] at HX
      have HS : Hid (Calls Tryz.prog 150 #[.slice Ao i cap, .int .i64 (v : Int)] wr (SolR w [] [⟨A, mu, c, bys u⟩] (Sy.solve (Sy.hank u v) v))) := by
        unfold Hid
        rcases Nat.eq_zero_or_pos i with h0 | h0
        · obtain rfl := HA0.out h0
          subst h0
          have hv0 : v = 0 := by omega
          subst hv0
          have e : Sy.hank u 0 = [] := List.eq_nil_of_length_eq_zero (by rw [Sy.hank_length, HM.out]; omega)
          rw [e, solve_empty]
          refine (solve_nil wr cap).mono ?_
          rintro en w' ⟨rfl, hb⟩
          exact ⟨none, 0, 0, true, rfl, .inl ⟨rfl, [], rfl, rfl, (HX.out.ow.none0.go hb).nil _⟩⟩
        · obtain ⟨g, rfl, HY⟩ := HX.out.my h0
          have h6 := rsolve_any (nw := v) HY (fun k hk => by
            have h5 := Sy.wid_hank u v k (by rw [Sy.hank_length, HM.out]; omega)
            rw [← hR0.out] at h5
            exact h5) (by omega) (by omega)
          rw [hR0.out] at h6
          exact h6
      clear HX hT hR0 HR0l HA0 hi2
      go_wp2_with fail
      refine HS.out.mono ?_
      rintro en w5 ⟨Az, kz, cz, bz, rfl, ⟨rfl, l, hl, hlk, hO⟩ | ⟨rfl, hl, hO⟩⟩
      · have hkv : l.length = v := (Sy.solve_sound (Sy.wid_hank u v) hl).1
        obtain rfl : kz = v := hlk.symm.trans hkv
        have HR : Hid (Sy.locH n u kz = if (Sy.rootsH l n kz).length = kz then some (Sy.rootsH l n kz) else none) := by
          unfold Hid Sy.locH
          rw [hl]
        have HLl := Lib.hid hkv
        obtain ⟨T, hT⟩ : ∃ T : Nat → Bool, Hid (T = fun i => Sy.hval l (Sy.loc n i) kz == Gf.gpow (Sy.loc n i) kz) := ⟨_, rfl⟩
        have HRo : Hid (Sy.rootsH l n kz = (List.range n).filter T) := by unfold Hid; rw [hT.out]; rfl
        have HO1 := Lib.hid (hO.nil 3)
        clear hl hkv hlk hO HS
        go_wp2_with fail
        go_loopw [12, 13] (fun x y wr => RLo2 w [⟨A, mu, c, bys u⟩] n ⟨Az, kz, cz, 5, bys l⟩ T x y wr) (fun _ y _ => n - (intOf y).toNat)
        case atStart => exact ⟨0, none, 0, 0, Nat.zero_le _, Nat.le_refl _, rfl, rfl, rfl, HO1.out⟩
        case round =>
          clear HO1 hd
          obtain ⟨q, Ao, ko, co, hq, hkq, rfl, rfl, HK, HO⟩ := hrel
          rcases Nat.lt_or_ge q n with hqn | hqn
          · have hd : decide ((q : Int) < (n : Int)) = true := decide_eq_true (by omega)
            obtain ⟨z, hz⟩ : ∃ z : Nat, Hid (z = n - 1 - q) := ⟨_, rfl⟩
            have hzI : (n : Int) - 1 - (q : Int) = (z : Int) := by have := hz.out; omega
            have hz255 : z ≤ 255 := by have := hz.out; omega
            obtain ⟨x, hx⟩ : ∃ x, Hid (x = Sy.loc n q) := ⟨_, rfl⟩
            have HE : Hid (∀ W, Calls Tryz.prog 50 #[.int .i64 (z : Int)] W fun e w' => e = .returned (.int .u8 (x.toNat : Int)) ∧ W = w') := fun W => by
              have h5 := refexp_any (z : Int) W
              rw [Sy.zpow_any, hz.out] at h5
              rw [hz.out, hx.out]
              exact h5
            go_wp2_with (go_at_call 50; refine (HE.out _).mono ?_; rintro e w' ⟨rfl, rfl⟩)
            go_loopw [15, 16, 17] (fun y1 y2 y3 wr => RLo3 w [⟨A, mu, c, bys u⟩] [⟨Az, kz, cz, 5, bys l⟩, ⟨Ao, ko, co, 3, nats ((List.range q).filter T)⟩] l x kz y1 y2 y3 wr) (fun _ _ y _ => kz - (intOf y).toNat)
            case atStart => exact ⟨0, Nat.zero_le _, rfl, rfl, rfl, HO.out⟩
            case round =>
              clear HO
              obtain ⟨k, hk, rfl, rfl, rfl, HO⟩ := hrel
              have HX := Lib.hid (hval_succ l x k)
              have HP := Lib.hid (gpow_suc x k)
              rcases Nat.lt_or_ge k kz with hkk | hkk
              · have hd2 : decide ((k : Int) < (kz : Int)) = true := decide_eq_true (by omega)
                obtain ⟨b, hb⟩ := byte_at l k (by rw [HLl.out]; exact hkk)
                obtain ⟨gz, rfl, -, -⟩ := own_form (HO.out.row 0 rfl) (by omega)
                have hcb := HO.out.byteO 0 rfl hb
                rw [Sy.wd_some hb] at HX
                obtain ⟨s0, hs0⟩ : ∃ s, s = Sy.hval l x k := ⟨_, rfl⟩
                obtain ⟨p0, hp0⟩ : ∃ p, p = Gf.gpow x k := ⟨_, rfl⟩
                rw [← hs0, ← hp0] at HX ⊢
                rw [← hp0] at HP
                obtain ⟨s1, hs1, HS1⟩ := xor_ex s0 (Gf.gmul b p0)
                clear hs0 hp0 hb
                go_wp2_with (go_at_call 98; with_reducible refine (refmul_any _ _ _).mono ?_; rintro e w' ⟨rfl, rfl⟩)
                go_roundw
                case rel => exact ⟨k + 1, by omega, by go_num, by rw [HX.out, HS1.out], by rw [HP.out], HO.out⟩
                case measure => simp [intOf]; omega
              · have hd2 : decide ((k : Int) < (kz : Int)) = false := decide_eq_false (by omega)
                obtain rfl : k = kz := by omega
                have HTq : Hid (T q = (Sy.hval l x k == Gf.gpow x k)) := by unfold Hid; rw [hT.out, hx.out]
                have HFs : Hid ((List.range (q + 1)).filter T = (List.range q).filter T ++ (if T q then [q] else [])) := by
                  unfold Hid
                  rw [List.range_succ, List.filter_append, List.filter_cons, List.filter_nil]
                have hlen := HK.out
                obtain ⟨s0, hs0⟩ : ∃ s, s = Sy.hval l x k := ⟨_, rfl⟩
                obtain ⟨p0, hp0⟩ : ∃ p, p = Gf.gpow x k := ⟨_, rfl⟩
                rw [← hs0, ← hp0] at HTq ⊢
                clear hs0 hp0 HX HP hlen
                by_cases hsp : s0 = p0
                · subst hsp
                  have hq1 : ((s0.toNat : Int) == (s0.toNat : Int)) = true := by simp
                  have HTt : Hid (T q = true) := by unfold Hid; rw [HTq.out]; simp
                  have HS2 : Hid ((List.range (q + 1)).filter T = (List.range q).filter T ++ [q]) := by unfold Hid; rw [HFs.out, HTt.out, if_pos rfl]
                  go_wp2_with (at_builtin; refine ow_append1 elemI HO.out 1 (.tmp 74) (.tmp 76) _ _ rfl rfl (by unfold maxLen; omega) (by omega) rfl rfl rfl rfl ?_; intro A' c' w8 how)
                  go_roundw
                  case rel =>
                    rw [nats_snoc, ← HS2.out] at how
                    exact ⟨q + 1, A', ko + 1, c', by omega, by omega, by go_num, rfl, by unfold Hid; rw [HS2.out, List.length_append, ← HK.out]; rfl, how⟩
                  case measure => simp [intOf]; omega
                · have hq1 : ((s0.toNat : Int) == (p0.toNat : Int)) = false := beq_eq_false_iff_ne.2 fun e => hsp (UInt8.toNat_inj.1 (by omega))
                  have HTf : Hid (T q = false) := by unfold Hid; rw [HTq.out]; exact beq_eq_false_iff_ne.2 hsp
                  have HS2 : Hid ((List.range (q + 1)).filter T = (List.range q).filter T) := by unfold Hid; rw [HFs.out, HTf.out, if_neg (by simp), List.append_nil]
                  clear hsp
                  go_wp2_with fail
                  go_roundw
                  case rel => exact ⟨q + 1, Ao, ko, co, by omega, by omega, by go_num, rfl, by unfold Hid; rw [HS2.out]; exact HK.out, by rw [HS2.out]; exact HO.out⟩
                  case measure => simp [intOf]; omega
          · have hd : decide ((q : Int) < (n : Int)) = false := decide_eq_false (by omega)
            obtain rfl : q = n := by omega
            go_wp2_with fail
            go_ret2
            have h5 := HO.out.row 1 rfl
            have h6 := HO.out.below
            rw [← HRo.out] at h5
            have h7 := HK.out
            rw [← HRo.out] at h7
            rw [HR.out]
            by_cases e : ko = kz
            · refine ⟨Ao, ko, co, true, ?_, h6, .inl ⟨rfl, Sy.rootsH l q kz, by rw [if_pos (by rw [← h7]; exact e)], h7.symm, h5⟩⟩
              rw [e]; simp
            · refine ⟨Ao, ko, co, false, ?_, h6, .inr ⟨rfl, by rw [if_neg (by rw [← h7]; exact e)]⟩⟩
              simp
              omega
      · have HR : Hid (Sy.locH n u v = none) := by unfold Hid Sy.locH; rw [hl]
        have HOb := Lib.hid hO.below
        clear hl hO HS
        go_wp2_with fail
        go_ret2
        exact ⟨none, 0, 0, false, rfl, HOb.out, .inr ⟨rfl, HR.out⟩⟩
end Go.Proofs.YtnplaejlmbncfaaGreatDoor

namespace Go.Proofs.YtnplaejlmbncfaaGreatDoor
open Go.RowKit
set_option linter.unusedVariables false
set_option maxRecDepth 100000
def RRs1 (w : World) (L : List Ob) (b d m f : Nat) (S : List UInt8) (x y : Value) (wr : World) : Prop :=
  ∃ (j : Nat) (A : Option Addr) (c : Nat), j ≤ m ∧ y = .int .i64 (j : Int) ∧ x = .slice A j c ∧ Hid (Ow w wr none [] L [codeR b d m f, ⟨A, j, c, 5, bys (S.take j)⟩])
def RRs2 (w : World) (L : List Ob) (O : List Rw) (x : UInt8) (word : List UInt8) (n : Nat) (y z : Value) (wr : World) : Prop :=
  ∃ i : Nat, i ≤ n ∧ z = .int .i64 (i : Int) ∧ y = .int .u8 ((Sy.hor x (word.take i)).toNat : Int) ∧ Hid (Ow w wr none [] L O)
set_option maxHeartbeats 1500000 in
theorem rsyn_ok {d m f : Nat} (h : Cd d m f) (hf : f ≤ m / 2) (A : Option Addr) (c nn : Nat) (word : List UInt8) (w : World) (hn : word.length = nn) (hnn : nn = d + m) (hs : Sl w w.heap.size A (bys word)) (hnc : nn ≤ c) :
    Calls Tryz.prog 54 #[.agg #[.int .i64 2, .int .i64 (d : Int), .int .i64 (m : Int), .int .i64 (f : Int)], .slice A nn c] w (ResB w (Sy.synL word m) 0) := by
  have hc := h
  obtain ⟨h1, h2, h3, h4, h5⟩ := h
  have hnnI : (d : Int) + (m : Int) = (nn : Int) := by omega
  have hn40 : 2 ≤ nn ∧ nn ≤ 40 := by omega
  obtain ⟨hn2, hn40⟩ := hn40
  have H0 := ((Ow.of (St.refl w)).old hs (by rw [bys_length]; exact hn) hnc (by omega)).code d m f
  simp only [List.nil_append] at H0
  obtain ⟨hc0, hc1, hc2, hc3⟩ := H0.cdc 0 rfl
  have HO := Lib.hid H0
  have HV := Lib.hid (fun W => rsymbols_any hc W)
  have HN := Lib.hid hn
  have hne : ((nn : Int) != (nn : Int)) = false := by simp
  rw [decide_eq_true hf] at HV
  obtain ⟨S, hS⟩ : ∃ S, Hid (S = Sy.synL word m) := ⟨_, rfl⟩
  rw [← hS.out]
  clear H0 hs hn hc hnn
  go_enter Tryz.func54, Tryz.ntmps54
  go_upto_region 5 with (go_at_call 48; refine (HV.out _).mono ?_; rintro e w1 ⟨rfl, hb⟩; have HO1 := Lib.hid (HO.out.go hb); obtain ⟨hd0, hd1, hd2, hd3⟩ := HO1.out.cdc 0 rfl; clear hb)
  have HO2 := Lib.hid (HO1.out.nil 5)
  clear hd0 hd1 hd2 hd3 hc0 hc1 hc2 hc3 HO HO1 HV
  go_wp2_with fail
  go_loopw [6, 7] (fun x y wr => RRs1 w [⟨A, nn, c, bys word⟩] w.heap.size d m f S x y wr) (fun _ y _ => m - (intOf y).toNat)
  case atStart => exact ⟨0, none, 0, Nat.zero_le _, rfl, rfl, HO2.out⟩
  case round =>
    clear HO2
    obtain ⟨j, B, cb, hj, rfl, rfl, HO⟩ := hrel
    obtain ⟨hc0, hc1, hc2, hc3⟩ := HO.out.cdc 0 rfl
    rcases Nat.lt_or_ge j m with hjm | hjm
    · have hd : decide ((j : Int) < (m : Int)) = true := decide_eq_true (by omega)
      obtain ⟨x, hx⟩ : ∃ x, Hid (x = Gf.gpow 2 j) := ⟨_, rfl⟩
      have HE : Hid (∀ W, Calls Tryz.prog 50 #[.int .i64 (j : Int)] W fun e w' => e = .returned (.int .u8 (x.toNat : Int)) ∧ W = w') := fun W => by
        have h5 := refexp_any (j : Int) W
        rw [Sy.zpow_any] at h5
        rw [hx.out]
        exact h5
      go_wp2_with (go_at_call 50; refine (HE.out _).mono ?_; rintro e w' ⟨rfl, rfl⟩)
      clear hc0 hc1 hc2 hc3
      go_loopw [9, 10] (fun y z wr => RRs2 w [⟨A, nn, c, bys word⟩] [codeR w.heap.size d m f, ⟨B, j, cb, 5, bys (S.take j)⟩] x word nn y z wr) (fun _ z _ => nn - (intOf z).toNat)
      case atStart => exact ⟨0, Nat.zero_le _, rfl, rfl, HO.out⟩
      case round =>
        clear HO
        obtain ⟨i, hi, rfl, rfl, HO⟩ := hrel
        rcases Nat.lt_or_ge i nn with hin | hin
        · have hd2 : decide ((i : Int) < (nn : Int)) = true := decide_eq_true (by omega)
          obtain ⟨b, hb⟩ := byte_at word i (by rw [HN.out]; exact hin)
          obtain ⟨ad, rfl, hcb⟩ := HO.out.byteL 0 rfl hb
          have HH := Lib.hid (Sy.hor_step x word hb)
          obtain ⟨v0, hv0⟩ : ∃ v, v = Sy.hor x (word.take i) := ⟨_, rfl⟩
          rw [← hv0] at HH ⊢
          obtain ⟨v1, hv1, HV1⟩ := xor_ex (Gf.gmul v0 x) b
          clear hv0 hb
          go_wp2_with fail
          go_quiet ((go_at_call 98; with_reducible exact quiet_left (refmul_any _ _ _)))
          go_wp2_with fail
          go_roundw
          case rel => exact ⟨i + 1, by omega, by go_num, by rw [HH.out, HV1.out], HO.out.drewN _⟩
          case measure => simp [intOf]; omega
        · have hd2 : decide ((i : Int) < (nn : Int)) = false := decide_eq_false (by omega)
          have ht : word.take i = word := List.take_of_length_le (by rw [HN.out]; exact hin)
          obtain ⟨v0, hv0⟩ : ∃ v, v = Sy.hor x (word.take i) := ⟨_, rfl⟩
          have HS1 : Hid (S.take j ++ [v0] = S.take (j + 1)) := by
            have e : S[j]? = some v0 := by
              rw [hS.out, hv0, ht, hx.out]
              unfold Sy.synL
              rw [List.getElem?_map, List.getElem?_range hjm]
              rfl
            unfold Hid
            rw [List.take_add_one, e]
            rfl
          rw [← hv0]
          clear hv0 ht
          go_wp2_with (at_builtin; refine ow_append1 elemB HO.out 1 (.tmp 44) (.tmp 46) _ _ rfl rfl (by unfold maxLen; omega) (by omega) rfl rfl rfl rfl ?_; intro A' c' w8 how)
          go_roundw
          case rel =>
            have e1 : bys (S.take j) ++ [Value.int .u8 (v0.toNat : Int)] = bys (S.take (j + 1)) := by rw [← HS1.out]; simp [bys, encB]
            rw [e1] at how
            exact ⟨j + 1, A', c', by omega, by go_num, rfl, how⟩
          case measure => simp [intOf]; omega
    · have hd : decide ((j : Int) < (m : Int)) = false := decide_eq_false (by omega)
      have hST : S.take j = S := List.take_of_length_le (by rw [hS.out, Sy.synL_length]; exact hjm)
      have hjm2 : j = m := by omega
      rw [hST] at HO
      go_wp2_with fail
      go_ret2
      exact ⟨B, j, cb, rfl, by rw [hS.out, Sy.synL_length, hjm2], HO.out.row 1 rfl, HO.out.below⟩
/-- the first error of a list of places -/
noncomputable def errL (n m : Nat) (zs : List Int) : Int := by
  classical exact if (∃ (i : Nat) (z : Int), zs[i]? = some z ∧ (z < 0 ∨ (n : Int) ≤ z)) then 2 else if (∃ (i : Nat) (a b : Int), zs[i]? = some a ∧ zs[i + 1]? = some b ∧ b ≤ a) then 17 else if m < zs.length then 3 else 0
theorem errL_range {n m : Nat} {zs : List Int} {i : Nat} {z : Int} (h : zs[i]? = some z) (hz : z < 0 ∨ (n : Int) ≤ z) : errL n m zs = 2 := by unfold errL; rw [if_pos ⟨i, z, h, hz⟩]
theorem errL_order {n m : Nat} {zs : List Int} (h : ∀ (i : Nat) (z : Int), zs[i]? = some z → 0 ≤ z ∧ z < (n : Int)) {i : Nat} {a b : Int} (h1 : zs[i]? = some a) (h2 : zs[i + 1]? = some b) (h3 : b ≤ a) : errL n m zs = 17 := by
  unfold errL
  rw [if_neg (fun ⟨i, z, h4, h5⟩ => by have := h i z h4; omega), if_pos ⟨i, a, b, h1, h2, h3⟩]
theorem errL_last {n m : Nat} {zs : List Int} (h : ∀ (i : Nat) (z : Int), zs[i]? = some z → 0 ≤ z ∧ z < (n : Int)) (h1 : ∀ (i : Nat) (a b : Int), zs[i]? = some a → zs[i + 1]? = some b → a < b) : errL n m zs = if m < zs.length then 3 else 0 := by
  unfold errL
  rw [if_neg (fun ⟨i, z, h4, h5⟩ => by have := h i z h4; omega), if_neg (fun ⟨i, a, b, h4, h5, h6⟩ => by have := h1 i a b h4 h5; omega)]
theorem errL_zero {n m : Nat} {zs : List Int} (h : errL n m zs = 0) : ∃ E : List Nat, ints zs = nats E ∧ E.length = zs.length ∧ Sy.Ers E n m := by
  unfold errL at h
  split at h
  · cases h
  · rename_i h1
    split at h
    · cases h
    · rename_i h2
      split at h
      · cases h
      · rename_i h3
        have hr : ∀ (i : Nat) (z : Int), zs[i]? = some z → 0 ≤ z ∧ z < (n : Int) := fun i z hz => by
          rcases Classical.em (0 ≤ z ∧ z < (n : Int)) with h | h
          · exact h
          · exact absurd ⟨i, z, hz, by omega⟩ h1
        have ho : ∀ (i : Nat) (a b : Int), zs[i]? = some a → zs[i + 1]? = some b → a < b := fun i a b ha hb => by
          rcases Classical.em (a < b) with h | h
          · exact h
          · exact absurd ⟨i, a, b, ha, hb, by omega⟩ h2
        have hget : ∀ i : Nat, (zs.map Int.toNat)[i]? = zs[i]?.map Int.toNat := fun i => List.getElem?_map ..
        refine ⟨zs.map Int.toNat, ?_, List.length_map _, ?_, ?_, ?_⟩
        · unfold ints nats
          rw [List.map_map]
          refine List.map_congr_left fun z hz => ?_
          obtain ⟨i, hi⟩ := List.mem_iff_getElem?.1 hz
          have := hr i z hi
          show (Value.int .i64 z) = .int .i64 ((z.toNat : Nat) : Int)
          rw [Int.toNat_of_nonneg this.1]
        · have key : ∀ (k i : Nat) (a b : Int), zs[i]? = some a → zs[i + 1 + k]? = some b → a < b := by
            intro k
            induction k with
            | zero => exact fun i a b ha hb => ho i a b ha hb
            | succ k ih =>
              intro i a b ha hb
              obtain ⟨x, hx⟩ : ∃ x, zs[i + 1 + k]? = some x := ⟨_, List.getElem?_eq_getElem (by have := get_lt hb; omega)⟩
              have h5 := ih i a x ha hx
              have h6 := ho (i + 1 + k) x b hx hb
              omega
          refine List.pairwise_iff_getElem.2 fun i j hi hj hij => ?_
          rw [List.getElem_map, List.getElem_map]
          rw [List.length_map] at hi hj
          have h5 := key (j - (i + 1)) i _ _ (List.getElem?_eq_getElem hi) (by rw [show i + 1 + (j - (i + 1)) = j by omega]; exact List.getElem?_eq_getElem hj)
          have h6 := hr i _ (List.getElem?_eq_getElem hi)
          have h7 := hr j _ (List.getElem?_eq_getElem hj)
          omega
        · intro p hp
          obtain ⟨z, hz, rfl⟩ := List.mem_map.1 hp
          obtain ⟨i, hi⟩ := List.mem_iff_getElem?.1 hz
          have := hr i z hi
          omega
        · rw [List.length_map]
          omega
end Go.Proofs.YtnplaejlmbncfaaGreatDoor

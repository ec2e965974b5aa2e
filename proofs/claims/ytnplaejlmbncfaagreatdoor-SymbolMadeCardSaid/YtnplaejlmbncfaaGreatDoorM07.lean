/- Sm So Sl Sp -/
import Derived.Test.YtnplaejlmbncfaaGreatDoorM06
import Derived.BigQuiet
import Derived.RegionTactic
import Derived.ChangeAlike
namespace Go.Proofs.YtnplaejlmbncfaaGreatDoor
open Go.RowKit
set_option linter.unusedVariables false
set_option maxRecDepth 100000
namespace Sy
/-- the first i elements are in order, but for the one at j -/
def Srt (l : List Nat) (i j : Nat) : Prop := ∀ a b, a < b → b < i → b ≠ j → pl l a ≤ pl l b
theorem pl_set (l : List Nat) (k x a : Nat) (h : k < l.length) : pl (l.set k x) a = if a = k then x else pl l a := by
  unfold pl
  rw [List.getElem?_set]
  by_cases e : k = a
  · subst e; rw [if_pos rfl, if_pos h, if_pos rfl]; rfl
  · rw [if_neg e, if_neg (fun e' => e e'.symm)]
def swp (l : List Nat) (j : Nat) : List Nat := (l.set j (pl l (j - 1))).set (j - 1) (pl l j)
theorem pl_swp {l : List Nat} {j : Nat} (h0 : 0 < j) (hj : j < l.length) (a : Nat) : pl (swp l j) a = if a = j - 1 then pl l j else if a = j then pl l (j - 1) else pl l a := by
  unfold swp
  rw [pl_set _ _ _ _ (by rw [List.length_set]; omega)]
  by_cases e : a = j - 1
  · rw [if_pos e, if_pos e]
  · rw [if_neg e, if_neg e, pl_set _ _ _ _ hj]
theorem swp_perm {l : List Nat} {j : Nat} (h0 : 0 < j) (hj : j < l.length) : (swp l j).Perm l := by
  have e1 := List.getElem?_eq_some_iff.1 (pl_lt hj)
  have e2 := List.getElem?_eq_some_iff.1 (pl_lt (show j - 1 < l.length by omega))
  obtain ⟨h1, h2⟩ := e1
  obtain ⟨h3, h4⟩ := e2
  unfold swp
  rw [← h2, ← h4]
  exact List.set_set_perm h1 h3
theorem srt_swap {l : List Nat} {i j : Nat} (h0 : 0 < j) (hj : j < i) (hi : i ≤ l.length) (h : Srt l i j) (hlt : pl l j < pl l (j - 1)) : Srt (swp l j) i (j - 1) := by
  intro a b hab hb hne
  rw [pl_swp h0 (by omega), pl_swp h0 (by omega), if_neg hne]
  by_cases e1 : b = j
  · rw [if_pos e1]
    by_cases e2 : a = j - 1
    · rw [if_pos e2]; omega
    · rw [if_neg e2, if_neg (by omega)]
      exact h a (j - 1) (by omega) (by omega) (by omega)
  · rw [if_neg e1]
    by_cases e2 : a = j - 1
    · rw [if_pos e2]; exact h j b (by omega) hb e1
    · rw [if_neg e2]
      by_cases e3 : a = j
      · rw [if_pos e3]; exact h (j - 1) b (by omega) hb e1
      · rw [if_neg e3]; exact h a b hab hb e1
theorem srt_stop {l : List Nat} {i j : Nat} (h : Srt l (i + 1) j) (hj : j = 0 ∨ pl l (j - 1) ≤ pl l j) : Srt l (i + 1) (i + 1) := by
  intro a b hab hb _
  by_cases e : b = j
  · rcases hj with hj | hj
    · omega
    · rw [e]
      by_cases e2 : a = j - 1
      · rw [e2]; exact hj
      · exact Nat.le_trans (h a (j - 1) (by omega) (by omega) (by omega)) hj
  · exact h a b hab hb e
end Sy
theorem isNaN_any (a : Int) (w : World) : Calls Tryz.prog 205 #[.int .i64 a] w fun e w' => e = .returned (.bool false) ∧ w = w' := by
  go_enter Tryz.func205, Tryz.ntmps205
  go_wp2_with fail
  go_ret
  exact ⟨by simp, rfl⟩
theorem cless_any (a b : Int) (w : World) : Calls Tryz.prog 199 #[.int .i64 a, .int .i64 b] w fun e w' => e = .returned (.bool (decide (a < b))) ∧ w = w' := by
  go_enter Tryz.func199, Tryz.ntmps199
  go_wp2_with (go_at_call 205; refine (isNaN_any _ _).mono ?_; rintro e w' ⟨rfl, rfl⟩)
  go_ret
  exact ⟨rfl, rfl⟩
def RIns (w0 : World) (g : Option Nat) (M : List (Nat × Value)) (L : List Ob) (A : Option Addr) (n c : Nat) (l : List Nat) (v : Value) (wr : World) : Prop :=
  ∃ (i : Nat) (l' : List Nat), 1 ≤ i ∧ (i ≤ n ∨ i = 1) ∧ v = .int .i64 (i : Int) ∧ Hid (l'.Perm l ∧ Sy.Srt l' i i) ∧ Hid (Ow w0 wr g M L [⟨A, n, c, 3, nats l'⟩])
def RIns2 (w0 : World) (g : Option Nat) (M : List (Nat × Value)) (L : List Ob) (A : Option Addr) (n c : Nat) (l : List Nat) (i : Nat) (v : Value) (wr : World) : Prop :=
  ∃ (j : Nat) (l' : List Nat), j ≤ i ∧ v = .int .i64 (j : Int) ∧ Hid (l'.Perm l ∧ Sy.Srt l' (i + 1) j) ∧ Hid (Ow w0 wr g M L [⟨A, n, c, 3, nats l'⟩])
section
variable {w0 w w' : World} {g : Option Nat} {M : List (Nat × Value)} {L : List Ob} {O : List Rw} {A : Option Addr} {n c gb k b : Nat} {e : TypeId} {l : List Nat}
theorem nats_at {l : List Nat} {k b : Nat} (h : l[k]? = some b) : (nats l)[k]? = some (.int .i64 (b : Int)) := by
  unfold nats
  rw [List.getElem?_map, h]
  rfl
theorem Ow.natO (h : Ow w0 w g M L O) (i : Nat) (hi : O[i]? = some ⟨some ⟨gb, 0, none⟩, n, c, e, nats l⟩) (hk : l[k]? = some b) : w.cell? ⟨gb, k, none⟩ = some (.int .i64 (b : Int)) := by
  have ho := h.row i hi
  have hl := own_len ho
  rw [nats_length] at hl
  have := get_lt hk
  rw [ho.cellAt k (by omega)]
  exact nats_at hk
end
set_option maxHeartbeats 4000000 in
theorem insert_ow {w0 w : World} {g : Option Nat} {M : List (Nat × Value)} {L : List Ob} {A : Option Addr} {n c : Nat} {l : List Nat} (h : Ow w0 w g M L [⟨A, n, c, 3, nats l⟩]) (hl : l.length = n) (hn : n ≤ 1000) :
    Calls Tryz.prog 193 #[.slice A n c, .int .i64 0, .int .i64 (n : Int)] w fun e w' => e = .returned (.tuple #[]) ∧ ∃ l', l'.Perm l ∧ Sy.Srt l' n n ∧ Ow w0 w' g M L [⟨A, n, c, 3, nats l'⟩] := by
  have HO0 := Lib.hid h
  have HLN := Lib.hid hl
  clear h hl
  go_enter Tryz.func193, Tryz.ntmps193
  go_wp2_with fail
  go_loopw [6] (fun v wr => RIns w0 g M L A n c l v wr) (fun v _ => n - (intOf v).toNat)
  case atStart => exact ⟨1, l, Nat.le_refl _, .inr rfl, rfl, ⟨List.Perm.refl _, fun a b h1 h2 _ => by omega⟩, HO0.out⟩
  case round =>
    clear HO0
    obtain ⟨i, l', hi1, hi2, rfl, HP, HO⟩ := hrel
    rcases Nat.lt_or_ge i n with hin | hin
    · have hd : decide ((i : Int) < (n : Int)) = true := decide_eq_true (by omega)
      go_wp2_with fail
      go_loopw [7] (fun v wr => RIns2 w0 g M L A n c l i v wr) (fun v _ => (intOf v).toNat)
      case atStart => exact ⟨i, l', Nat.le_refl _, rfl, ⟨HP.out.1, fun a b h1 h2 h3 => HP.out.2 a b h1 (by omega) h3⟩, HO.out⟩
      case round =>
        clear HP HO
        obtain ⟨j, l', hj, rfl, HP, HO⟩ := hrel
        have HL : Hid (l'.length = n) := by unfold Hid; rw [HP.out.1.length_eq, HLN.out]
        rcases Nat.eq_zero_or_pos j with rfl | h0
        · have hd0 : decide ((0 : Int) < ((0 : Nat) : Int)) = false := rfl
          have HE : Hid (l'.Perm l ∧ Sy.Srt l' (i + 1) (i + 1)) := ⟨HP.out.1, Sy.srt_stop HP.out.2 (.inl rfl)⟩
          go_wp2_with fail
          go_quiet (fail)
          go_wp2_with fail
          go_roundw
          case rel => exact ⟨i + 1, l', by omega, .inl (by omega), by go_num, HE, HO.out.drewN _⟩
          case measure => simp [intOf]; omega
        · have hd0 : decide ((0 : Int) < (j : Int)) = true := decide_eq_true (by omega)
          obtain ⟨j1, rfl⟩ : ∃ j1, j = j1 + 1 := ⟨j - 1, by omega⟩
          have hjm : ((j1 + 1 : Nat) : Int) - 1 = (j1 : Int) := by omega
          obtain ⟨x, hx⟩ : ∃ x, l'[j1 + 1]? = some x := ⟨_, Sy.pl_lt (by rw [HL.out]; omega)⟩
          obtain ⟨y, hy⟩ : ∃ y, l'[j1]? = some y := ⟨_, Sy.pl_lt (by rw [HL.out]; omega)⟩
          obtain ⟨gb, rfl, -, -⟩ := own_form (HO.out.row 0 rfl) (by omega)
          have hcx := HO.out.natO 0 rfl hx
          have hcy := HO.out.natO 0 rfl hy
          have hfx := HO.out.frzO 0 rfl (j1 + 1)
          have hfy := HO.out.frzO 0 rfl j1
          have HXY : Hid (Sy.pl l' (j1 + 1) = x ∧ Sy.pl l' j1 = y) := ⟨Sy.pl_some hx, Sy.pl_some hy⟩
          have hs1 : (j1 : Int) < (n : Int) := by omega
          have hs2 : (j1 : Int) + 1 < (n : Int) := by omega
          clear hx hy
          rcases Nat.lt_or_ge x y with hlt | hge
          · have hdx : decide ((x : Int) < (y : Int)) = true := decide_eq_true (by omega)
            have HC := Lib.hid (fun W => cless_any (x : Int) (y : Int) W)
            rw [hdx] at HC
            have HE : Hid ((Sy.swp l' (j1 + 1)).Perm l ∧ Sy.Srt (Sy.swp l' (j1 + 1)) (i + 1) j1) := ⟨(Sy.swp_perm (by omega) (by rw [HL.out]; omega)).trans HP.out.1, Sy.srt_swap (by omega) (by omega) (by rw [HL.out]; omega) HP.out.2 (by show Sy.pl l' (j1 + 1) < Sy.pl l' j1; rw [HXY.out.1, HXY.out.2]; exact hlt)⟩
            go_wp2_with fail
            go_quiet ((go_at_call 199; with_reducible exact quiet_left (HC.out _)))
            obtain ⟨wa, hwa⟩ : ∃ wa, wr.drewN nq = wa := ⟨_, rfl⟩
            have HOa := Lib.hid (HO.out.drewN nq)
            rw [hwa] at HOa ⊢
            clear hcx hcy hfx hfy hwa HO
            have hcx := HOa.out.natO 0 rfl (k := j1 + 1) (b := x) (by rw [← HXY.out.1]; exact Sy.pl_lt (by rw [HL.out]; omega))
            have hcy := HOa.out.natO 0 rfl (k := j1) (b := y) (by rw [← HXY.out.2]; exact Sy.pl_lt (by rw [HL.out]; omega))
            have hfx := HOa.out.frzO 0 rfl (j1 + 1)
            have hfy := HOa.out.frzO 0 rfl j1
            go_wp2_with fail
            go_region
            all_goals
              go_wp2_with fail
              go_roundw
              case rel =>
                have h5 := (HOa.out.put 0 rfl (j1 + 1) (.int .i64 (y : Int))).put 0 rfl j1 (.int .i64 (x : Int))
                rw [nats_set, nats_set] at h5
                have e : ((l'.set (j1 + 1) y).set j1 x) = Sy.swp l' (j1 + 1) := by unfold Sy.swp; rw [Nat.add_sub_cancel, HXY.out.1, HXY.out.2]
                rw [e] at h5
                exact ⟨j1, _, by omega, int_eqv (by omega), HE, h5.drew⟩
              case measure => simp [intOf]
          · have hdx : decide ((x : Int) < (y : Int)) = false := decide_eq_false (by omega)
            have HC := Lib.hid (fun W => cless_any (x : Int) (y : Int) W)
            rw [hdx] at HC
            have HE : Hid (l'.Perm l ∧ Sy.Srt l' (i + 1) (i + 1)) := ⟨HP.out.1, Sy.srt_stop HP.out.2 (.inr (by show Sy.pl l' j1 ≤ Sy.pl l' (j1 + 1); rw [HXY.out.1, HXY.out.2]; exact hge))⟩
            go_wp2_with fail
            go_quiet ((go_at_call 199; with_reducible exact quiet_left (HC.out _)))
            go_wp2_with fail
            go_roundw
            case rel => exact ⟨i + 1, l', by omega, .inl (by omega), by go_num, HE, HO.out.drewN _⟩
            case measure => simp [intOf]; omega
    · have hd : decide ((i : Int) < (n : Int)) = false := decide_eq_false (by omega)
      go_wp2_with fail
      go_end0
      refine ⟨rfl, l', HP.out.1, ?_, HO.out⟩
      intro a b h1 h2 _
      exact HP.out.2 a b h1 (by omega) (by omega)
theorem bitsLen_any (n : Nat) (hn : n ≤ 12) (w : World) : Calls Tryz.prog 177 #[.int .u64 (n : Int)] w fun e w' => (∃ z : Int, e = .returned (.int .i64 z)) ∧ w = w' := by
  have HL : Hid (∀ W, Calls Tryz.prog 203 #[.int .u64 (n : Int)] W fun e w' => (∃ z : Int, e = .returned (.int .i64 z)) ∧ W = w') := by
    intro W
    have hc : n = 0 ∨ n = 1 ∨ n = 2 ∨ n = 3 ∨ n = 4 ∨ n = 5 ∨ n = 6 ∨ n = 7 ∨ n = 8 ∨ n = 9 ∨ n = 10 ∨ n = 11 ∨ n = 12 := by omega
    clear hn
    rcases hc with rfl | rfl | rfl | rfl | rfl | rfl | rfl | rfl | rfl | rfl | rfl | rfl | rfl
    all_goals
      go_enter Tryz.func203, Tryz.ntmps203
      go_wp2_with fail
      go_ret
      exact ⟨⟨_, rfl⟩, rfl⟩
  go_enter Tryz.func177, Tryz.ntmps177
  go_wp2_with (go_at_call 203; refine (HL.out _).mono ?_; rintro e w' ⟨⟨z, rfl⟩, rfl⟩)
  go_ret
  exact ⟨⟨_, rfl⟩, rfl⟩
set_option maxHeartbeats 4000000 in
theorem pdq_ow {w0 w : World} {g : Option Nat} {M : List (Nat × Value)} {L : List Ob} {A : Option Addr} {n c : Nat} {l : List Nat} (h : Ow w0 w g M L [⟨A, n, c, 3, nats l⟩]) (hl : l.length = n) (hn : n ≤ 12) (z : Int) :
    Calls Tryz.prog 176 #[.slice A n c, .int .i64 0, .int .i64 (n : Int), .int .i64 z] w fun e w' => e = .returned (.tuple #[]) ∧ ∃ l', l'.Perm l ∧ Sy.Srt l' n n ∧ Ow w0 w' g M L [⟨A, n, c, 3, nats l'⟩] := by
  have HI := Lib.hid (insert_ow h hl (by omega))
  have hd : decide ((n : Int) ≤ 12) = true := decide_eq_true (by omega)
  clear h hl
  go_enter Tryz.func176, Tryz.ntmps176
  go_wp2_with fail
  go_loopw [1, 2] (fun v v2 wr => v = .int .i64 0 ∧ v2 = .int .i64 (n : Int) ∧ wr = w) (fun _ _ _ => 0)
  case atStart => exact ⟨rfl, rfl, rfl⟩
  case round =>
    obtain ⟨rfl, rfl, rfl⟩ := hrel
    go_wp2_with fail
    refine HI.out.mono ?_
    rintro e w' ⟨rfl, h⟩
    have HH := Lib.hid h
    clear h HI
    go_wp2_with fail
    refine bodyPost_ret (results_none rfl _ _ _) rfl ?_
    exact ⟨rfl, HH.out⟩
theorem sort_ow {w0 w : World} {g : Option Nat} {M : List (Nat × Value)} {L : List Ob} {A : Option Addr} {n c : Nat} {l : List Nat} (h : Ow w0 w g M L [⟨A, n, c, 3, nats l⟩]) (hl : l.length = n) (hn : n ≤ 12) :
    Calls Tryz.prog 145 #[.slice A n c] w fun e w' => e = .returned (.tuple #[]) ∧ ∃ l', l'.Perm l ∧ Sy.Srt l' n n ∧ Ow w0 w' g M L [⟨A, n, c, 3, nats l'⟩] := by
  have HP := Lib.hid (pdq_ow h hl hn)
  have HB := Lib.hid (bitsLen_any n hn)
  clear h hl
  go_enter Tryz.func145, Tryz.ntmps145
  go_wp2_with (go_at_call 177; refine (HB.out _).mono ?_; rintro e w' ⟨⟨z, rfl⟩, rfl⟩)
  refine (HP.out _).mono ?_
  rintro e w' ⟨rfl, h⟩
  have HH := Lib.hid h
  clear h HP
  go_wp2_with fail
  go_end0
  exact ⟨rfl, HH.out⟩
namespace Sy
theorem srt_asc {l : List Nat} (h : Srt l l.length l.length) (hn : l.Nodup) : Asc l := by
  refine List.pairwise_iff_getElem.2 fun i j hi hj hij => ?_
  have h1 := h i j hij hj (by omega)
  have e1 : pl l i = l[i] := pl_some (List.getElem?_eq_getElem hi)
  have e2 : pl l j = l[j] := pl_some (List.getElem?_eq_getElem hj)
  rw [e1, e2] at h1
  have h2 : l[i] ≠ l[j] := fun e => by
    have := (List.getElem_inj hn).1 e
    omega
  omega
end Sy
set_option maxHeartbeats 2000000 in
theorem containsI_any (A : Option Addr) (n c : Nat) (l : List Nat) (x : Nat) (w : World) (hx : x ≤ 1000) (hn : l.length = n) (hs : Sl w w.heap.size A (nats l)) (hl : n ≤ 1000) :
    Calls Tryz.prog 144 #[.slice A n c, .int .i64 (x : Int)] w fun e w' => e = .returned (.bool (l.contains x)) ∧ w = w' := by
  have HI : Hid (Calls Tryz.prog 175 #[.slice A n c, .int .i64 (x : Int)] w fun e w' => ∃ z : Int, e = .returned (.int .i64 z) ∧ -1 ≤ z ∧ z ≤ 1000 ∧ decide (0 ≤ z) = l.contains x ∧ w = w') := by
    have HN := Lib.hid hn
    have HS := Lib.hid hs
    clear hn hs
    unfold Hid
    go_enter Tryz.func175, Tryz.ntmps175
    go_wp2_with fail
    go_loopw [8] (fun v wr => ∃ k : Nat, k ≤ n ∧ v = .int .i64 (k : Int) ∧ wr = w ∧ Hid (x ∉ l.take k)) (fun v _ => n - (intOf v).toNat)
    case atStart => exact ⟨0, Nat.zero_le _, rfl, rfl, by unfold Hid; simp⟩
    case round =>
      obtain ⟨k, hk, rfl, rfl, HK⟩ := hrel
      rcases Nat.lt_or_ge k n with h | h
      · have hd : decide ((k : Int) < (n : Int)) = true := decide_eq_true (by omega)
        obtain ⟨b, hb⟩ : ∃ b, l[k]? = some b := ⟨_, Sy.pl_lt (by rw [HN.out]; exact h)⟩
        obtain ⟨ad, rfl, -, hc⟩ := HS.out (by rw [nats_length, HN.out]; omega)
        have hcx := hc k _ (nats_at hb)
        have HT : Hid (l.take (k + 1) = l.take k ++ [b]) := by unfold Hid; rw [List.take_add_one, hb]; rfl
        have HB := Lib.hid hb
        clear hb hc
        rcases Nat.decEq x b with hne | rfl
        · have hz : ((x : Int) == (b : Int)) = false := by rw [beq_eq_false_iff_ne]; omega
          have HNE := Lib.hid hne
          clear hne
          go_wp2_with fail
          go_roundw
          case rel =>
            refine ⟨k + 1, by omega, by go_num, by first | exact trivial | rfl, ?_⟩
            unfold Hid
            rw [HT.out, List.mem_append, List.mem_singleton]
            rintro (h1 | h1)
            · exact HK.out h1
            · exact HNE.out h1
          case measure => simp [intOf]; omega
        · have hz : ((x : Int) == (x : Int)) = true := by simp
          go_wp2_with fail
          go_ret
          refine ⟨(k : Int), rfl, by omega, by omega, ?_, rfl⟩
          rw [decide_eq_true (by omega)]
          symm
          rw [List.contains_iff_mem]
          exact List.mem_of_getElem? HB.out
      · have hd : decide ((k : Int) < (n : Int)) = false := decide_eq_false (by omega)
        go_wp2_with fail
        go_ret
        refine ⟨-1, rfl, by omega, by omega, ?_, rfl⟩
        have h5 := HK.out
        rw [List.take_of_length_le (by rw [HN.out]; exact h)] at h5
        symm
        rw [decide_eq_false (by omega)]
        cases e : l.contains x with
        | false => rfl
        | true => exact absurd (List.contains_iff_mem.1 e) h5
  clear hn hs
  go_enter Tryz.func144, Tryz.ntmps144
  go_wp2_with fail
  refine HI.out.mono ?_
  rintro e w' ⟨z, rfl, h1, h2, h3, rfl⟩
  have H3 := Lib.hid h3
  clear h3 HI
  go_wp2_with fail
  go_ret
  exact ⟨ret_bool H3.out, rfl⟩
end Go.Proofs.YtnplaejlmbncfaaGreatDoor

namespace Go.Proofs.YtnplaejlmbncfaaGreatDoor
open Go.RowKit
set_option linter.unusedVariables false
set_option maxRecDepth 100000
theorem zip_set {α β γ : Type} {f : α → β → γ} : ∀ (a : List α) (b : List β) (k : Nat) (x : α) (y : β), List.zipWith f (a.set k x) (b.set k y) = (List.zipWith f a b).set k (f x y)
  | [], b, k, x, y => by simp
  | a :: l1, [], k, x, y => by cases k <;> simp
  | a :: l1, b :: l2, 0, x, y => rfl
  | a :: l1, b :: l2, k + 1, x, y => by simp [zip_set l1 l2 k x y]
def mkR (h : Option Addr × Nat) (r : List UInt8) : Rw := ⟨h.1, r.length, h.2, 5, bys r⟩
def mkRs (H : List (Option Addr × Nat)) (R : List (List UInt8)) : List Rw := List.zipWith mkR H R
def hdr (h : Option Addr × Nat) (r : List UInt8) : Value := .slice h.1 r.length h.2
def hdrs (H : List (Option Addr × Nat)) (R : List (List UInt8)) : List Value := List.zipWith hdr H R
def hAt (H : List (Option Addr × Nat)) (k : Nat) : Option Addr × Nat := H[k]?.getD (none, 0)
theorem hAt_lt {H : List (Option Addr × Nat)} {k : Nat} (h : k < H.length) : H[k]? = some (hAt H k) := by unfold hAt; rw [List.getElem?_eq_getElem h]; rfl
abbrev outR (g m : Nat) (H : List (Option Addr × Nat)) (R : List (List UInt8)) : Rw := ⟨some ⟨g, 0, none⟩, m, m, 30, hdrs H R⟩
structure Mx (w0 w : World) (M : List (Nat × Value)) (L : List Ob) (g m : Nat) (H : List (Option Addr × Nat)) (R : List (List UInt8)) (X : List Rw) : Prop where
  ow : Ow w0 w none M L (outR g m H R :: (mkRs H R ++ X))
  hl : H.length = m
  rl : R.length = m
section
variable {w0 w w' : World} {M : List (Nat × Value)} {L : List Ob} {g m : Nat} {H : List (Option Addr × Nat)} {R : List (List UInt8)} {X : List Rw}
theorem Mx.get (h : Mx w0 w M L g m H R X) {k : Nat} (hk : k < m) : (mkRs H R)[k]? = some (mkR (hAt H k) (Sy.rw_ R k)) ∧ (hdrs H R)[k]? = some (hdr (hAt H k) (Sy.rw_ R k)) := by
  have e1 := hAt_lt (H := H) (k := k) (by rw [h.hl]; exact hk)
  have e2 := Sy.rw_lt (rows := R) (k := k) (by rw [h.rl]; exact hk)
  unfold mkRs hdrs
  rw [List.getElem?_zipWith, List.getElem?_zipWith, e1, e2]
  exact ⟨rfl, rfl⟩
theorem Mx.len (h : Mx w0 w M L g m H R X) : (mkRs H R).length = m := by unfold mkRs; rw [List.length_zipWith, h.hl, h.rl]; omega
theorem Mx.at_ (h : Mx w0 w M L g m H R X) {k : Nat} (hk : k < m) : (outR g m H R :: (mkRs H R ++ X))[k + 1]? = some (mkR (hAt H k) (Sy.rw_ R k)) := by
  rw [List.getElem?_cons_succ, List.getElem?_append_left (by rw [h.len]; exact hk)]
  exact (h.get hk).1
theorem Mx.go (h : Mx w0 w M L g m H R X) (hb : Below w.heap.size w w') : Mx w0 w' M L g m H R X := ⟨h.ow.go hb, h.hl, h.rl⟩
theorem Mx.hd (h : Mx w0 w M L g m H R X) {k : Nat} (hk : k < m) : w.cell? ⟨g, k, none⟩ = some (.slice (hAt H k).1 (Sy.rw_ R k).length (hAt H k).2) := by
  have ho := h.ow.row 0 rfl
  rw [ho.cellAt k (by omega)]
  exact (h.get hk).2
theorem Mx.hf (h : Mx w0 w M L g m H R X) (k : Nat) : w.frozen? ⟨g, k, none⟩ = false := (h.ow.row 0 rfl).frozenAt k
theorem Mx.row (h : Mx w0 w M L g m H R X) {k : Nat} (hk : k < m) : w.ownsRow w0.heap.size 5 1 (.slice (hAt H k).1 (Sy.rw_ R k).length (hAt H k).2) (Sy.rw_ R k).length (bys (Sy.rw_ R k)) := h.ow.own (k + 1) _ (h.at_ hk)
theorem Mx.form (h : Mx w0 w M L g m H R X) {k : Nat} (hk : k < m) (h0 : 0 < (Sy.rw_ R k).length) : ∃ gk ck, hAt H k = (some ⟨gk, 0, none⟩, ck) := by
  obtain ⟨gk, e, _, _⟩ := own_form (h.row hk) h0
  exact ⟨gk, (hAt H k).2, by rw [← e]⟩
theorem Mx.byte (h : Mx w0 w M L g m H R X) {k : Nat} (hk : k < m) {gk ck : Nat} (hg : hAt H k = (some ⟨gk, 0, none⟩, ck)) {q : Nat} {b : UInt8} (hq : (Sy.rw_ R k)[q]? = some b) : w.cell? ⟨gk, q, none⟩ = some (.int .u8 (b.toNat : Int)) := by
  have ho := h.row hk
  rw [hg] at ho
  exact own_byte ho hq
theorem Mx.frz (h : Mx w0 w M L g m H R X) {k : Nat} (hk : k < m) {gk ck : Nat} (hg : hAt H k = (some ⟨gk, 0, none⟩, ck)) (q : Nat) : w.frozen? ⟨gk, q, none⟩ = false := by
  have ho := h.row hk
  rw [hg] at ho
  exact ho.frozenAt q
theorem hdrs_same {k : Nat} {r : List UInt8} (hk : k < R.length) (hr : r.length = (Sy.rw_ R k).length) : hdrs H (R.set k r) = hdrs H R := by
  unfold hdrs
  refine List.ext_getElem? fun i => ?_
  rw [List.getElem?_zipWith, List.getElem?_zipWith, List.getElem?_set]
  by_cases e : k = i
  · subst e
    rw [if_pos rfl, if_pos hk, Sy.rw_lt hk]
    cases H[k]? with
    | none => rfl
    | some h =>
      show some (Value.slice h.1 r.length h.2) = some (Value.slice h.1 (Sy.rw_ R k).length h.2)
      rw [hr]
  · rw [if_neg e]
theorem mkRs_set1 {k : Nat} {r : List UInt8} (hk : k < H.length) : (mkRs H R).set k (mkR (hAt H k) r) = mkRs H (R.set k r) := by
  unfold mkRs
  rw [← zip_set]
  congr 1
  have e := hAt_lt hk
  obtain ⟨h1, h2⟩ := List.getElem?_eq_some_iff.1 e
  rw [← h2]
  exact List.set_getElem_self h1
theorem Mx.turn (h : Mx w0 w M L g m H R X) {k : Nat} (hk : k < m) {r : List UInt8} (hr : r.length = (Sy.rw_ R k).length) (ho : Ow w0 w' none M L ((outR g m H R :: (mkRs H R ++ X)).set (k + 1) (mkR (hAt H k) r))) : Mx w0 w' M L g m H (R.set k r) X := by
  refine ⟨?_, h.hl, by rw [List.length_set]; exact h.rl⟩
  have e : (outR g m H R :: (mkRs H R ++ X)).set (k + 1) (mkR (hAt H k) r) = outR g m H (R.set k r) :: (mkRs H (R.set k r) ++ X) := by
    rw [List.set_cons_succ, List.set_append_left _ _ (by rw [h.len]; exact hk), mkRs_set1 (by rw [h.hl]; exact hk)]
    show (outR g m H R :: _) = _
    unfold outR
    rw [hdrs_same (by rw [h.rl]; exact hk) hr]
  rw [e] at ho
  exact ho
/-- a byte of a row is stored -/
theorem Mx.setB (h : Mx w0 w M L g m H R X) {k : Nat} (hk : k < m) {gk ck : Nat} (hg : hAt H k = (some ⟨gk, 0, none⟩, ck)) (q : Nat) (z : UInt8) : Mx w0 (w.setCell ⟨gk, q, none⟩ (.int .u8 (z.toNat : Int))) M L g m H (R.set k ((Sy.rw_ R k).set q z)) X := by
  have hi := h.at_ hk
  unfold mkR at hi
  rw [hg] at hi
  have h5 := h.ow.putB (k + 1) hi q z
  refine h.turn hk (by rw [List.length_set]) ?_
  unfold mkR
  rw [hg, List.length_set]
  exact h5
/-- a row is made longer, and its head is stored -/
theorem Mx.grow (h : Mx w0 w M L g m H R X) {k : Nat} (hk : k < m) {A' : Option Addr} {n' c' : Nat} {r : List UInt8} (hr : r.length = n') (ho : Ow w0 w' none M L ((outR g m H R :: (mkRs H R ++ X)).set (k + 1) ⟨A', n', c', 5, bys r⟩)) : Mx w0 (w'.setCell ⟨g, k, none⟩ (.slice A' n' c')) M L g m (H.set k (A', c')) (R.set k r) X := by
  subst hr
  refine ⟨?_, by rw [List.length_set]; exact h.hl, by rw [List.length_set]; exact h.rl⟩
  have e : (outR g m H R :: (mkRs H R ++ X)).set (k + 1) ⟨A', r.length, c', 5, bys r⟩ = outR g m H R :: (mkRs (H.set k (A', c')) (R.set k r) ++ X) := by
    rw [List.set_cons_succ, List.set_append_left _ _ (by rw [h.len]; exact hk)]
    unfold mkRs
    rw [zip_set]
    rfl
  rw [e] at ho
  have h5 := ho.put 0 rfl k (.slice A' r.length c')
  have e2 : (hdrs H R).set k (.slice A' r.length c') = hdrs (H.set k (A', c')) (R.set k r) := by
    unfold hdrs
    rw [zip_set]
    rfl
  rw [e2] at h5
  exact h5
def swpA {α : Type} (l : List α) (d : α) (c p : Nat) : List α := (l.set c (l[p]?.getD d)).set p (l[c]?.getD d)
theorem swpA_at {α : Type} {l : List α} {d : α} {c p : Nat} (hc : c < l.length) (hp : p < l.length) (k : Nat) : (swpA l d c p)[k]? = if k = p then l[c]? else if k = c then l[p]? else l[k]? := by
  unfold swpA
  rw [List.getElem?_set, List.getElem?_set, List.length_set]
  by_cases h1 : p = k
  · subst h1
    rw [if_pos rfl, if_pos hp, if_pos rfl, List.getElem?_eq_getElem hc]; rfl
  · rw [if_neg h1, if_neg (show ¬ k = p from fun e => h1 e.symm)]
    by_cases h2 : c = k
    · subst h2
      rw [if_pos rfl, if_pos hc, if_pos rfl, List.getElem?_eq_getElem hp]; rfl
    · rw [if_neg h2, if_neg (show ¬ k = c from fun e => h2 e.symm)]
theorem zip_swp {α β γ : Type} {f : α → β → γ} {a : List α} {b : List β} {d : α} {d' : β} {c p : Nat} (hl : a.length = b.length) (hc : c < a.length) (hp : p < a.length) (k : Nat) : (List.zipWith f (swpA a d c p) (swpA b d' c p))[k]? = if k = p then (List.zipWith f a b)[c]? else if k = c then (List.zipWith f a b)[p]? else (List.zipWith f a b)[k]? := by
  rw [List.getElem?_zipWith, swpA_at hc hp, swpA_at (by omega) (by omega)]
  by_cases h1 : k = p
  · rw [if_pos h1, if_pos h1, if_pos h1, List.getElem?_zipWith]
  · rw [if_neg h1, if_neg h1, if_neg h1]
    by_cases h2 : k = c
    · rw [if_pos h2, if_pos h2, if_pos h2, List.getElem?_zipWith]
    · rw [if_neg h2, if_neg h2, if_neg h2, List.getElem?_zipWith]
theorem swapR_eq (rows : List (List UInt8)) (c p : Nat) : Sy.swapR rows c p = swpA rows [] c p := rfl
/-- two rows change places: their heads are stored -/
theorem Mx.swap (h : Mx w0 w M L g m H R X) {c p : Nat} (hc : c < m) (hp : p < m) (w' : World) (hw : w' = (w.setCell ⟨g, c, none⟩ (hdr (hAt H p) (Sy.rw_ R p))).setCell ⟨g, p, none⟩ (hdr (hAt H c) (Sy.rw_ R c))) : Mx w0 w' M L g m (swpA H (none, 0) c p) (Sy.swapR R c p) X := by
  subst hw
  have hHc : c < H.length := by rw [h.hl]; exact hc
  have hHp : p < H.length := by rw [h.hl]; exact hp
  have hlen : H.length = R.length := by rw [h.hl, h.rl]
  have hl' : (swpA H (none, 0) c p).length = m := by unfold swpA; simp [h.hl]
  have hr' : (Sy.swapR R c p).length = m := by rw [Sy.swap_length]; exact h.rl
  refine ⟨?_, hl', hr'⟩
  have h5 := (h.ow.put 0 rfl c (hdr (hAt H p) (Sy.rw_ R p))).put 0 rfl p (hdr (hAt H c) (Sy.rw_ R c))
  have e1 : ((hdrs H R).set c (hdr (hAt H p) (Sy.rw_ R p))).set p (hdr (hAt H c) (Sy.rw_ R c)) = hdrs (swpA H (none, 0) c p) (Sy.swapR R c p) := by
    refine List.ext_getElem? fun k => ?_
    unfold hdrs
    rw [swapR_eq, zip_swp hlen hHc hHp, List.getElem?_set, List.getElem?_set, List.length_set]
    have hz : (List.zipWith hdr H R).length = m := by rw [List.length_zipWith, h.hl, h.rl]; omega
    have g1 := (h.get hc).2
    have g2 := (h.get hp).2
    unfold hdrs at g1 g2
    by_cases e1 : p = k
    · subst e1
      rw [if_pos rfl, if_pos (by omega), if_pos rfl, g1]
    · rw [if_neg e1, if_neg (show ¬ k = p from fun e => e1 e.symm)]
      by_cases e2 : c = k
      · subst e2
        rw [if_pos rfl, if_pos (by omega), if_pos rfl, g2]
      · rw [if_neg e2, if_neg (show ¬ k = c from fun e => e2 e.symm)]
  have h6 : Ow w0 ((w.setCell ⟨g, c, none⟩ (hdr (hAt H p) (Sy.rw_ R p))).setCell ⟨g, p, none⟩ (hdr (hAt H c) (Sy.rw_ R c))) none M L (outR g m (swpA H (none, 0) c p) (Sy.swapR R c p) :: (mkRs H R ++ X)) := by
    unfold outR
    rw [← e1]
    exact h5
  have hml : (mkRs (swpA H (none, 0) c p) (Sy.swapR R c p)).length = m := by unfold mkRs; rw [List.length_zipWith, hl', hr']; omega
  refine h6.re (fun i => if i = c + 1 then p + 1 else if i = p + 1 then c + 1 else i) (fun i j _ _ e => ?_) (fun i r hi => ?_)
  · split at e <;> split at e <;> (try split at e) <;> (try split at e) <;> omega
  · cases i with
    | zero => rw [if_neg (by omega), if_neg (by omega)]; exact hi
    | succ k =>
      rw [List.getElem?_cons_succ] at hi
      rcases Nat.lt_or_ge k m with hk | hk
      · rw [List.getElem?_append_left (by rw [hml]; exact hk)] at hi
        unfold mkRs at hi
        rw [swapR_eq, zip_swp hlen hHc hHp] at hi
        have key : ∀ j, j < m → (outR g m (swpA H (none, 0) c p) (Sy.swapR R c p) :: (mkRs H R ++ X))[j + 1]? = (List.zipWith mkR H R)[j]? := fun j hj => by
          rw [List.getElem?_cons_succ, List.getElem?_append_left (by rw [h.len]; exact hj)]
          rfl
        by_cases e1 : k = c
        · subst e1
          rw [if_pos rfl, key p hp]
          by_cases e2 : k = p
          · subst e2; rw [if_pos rfl] at hi; exact hi
          · rw [if_neg e2, if_pos rfl] at hi; exact hi
        · rw [if_neg (by omega)]
          by_cases e2 : k = p
          · subst e2
            rw [if_pos rfl, key c hc]
            rw [if_pos rfl] at hi; exact hi
          · rw [if_neg (by omega), key k hk]
            rw [if_neg e2, if_neg e1] at hi; exact hi
      · rw [if_neg (by omega), if_neg (by omega), List.getElem?_cons_succ]
        rw [List.getElem?_append_right (by rw [hml]; exact hk), hml] at hi
        rw [List.getElem?_append_right (by rw [h.len]; exact hk), h.len]
        exact hi
end
namespace Sy
/-- the first q elements are replaced -/
def upd (f : Nat → UInt8) (r : List UInt8) (q : Nat) : List UInt8 := (List.range r.length).map fun j => if j < q then f j else wd r j
theorem upd_length (f : Nat → UInt8) (r : List UInt8) (q : Nat) : (upd f r q).length = r.length := by unfold upd; simp
theorem upd_get (f : Nat → UInt8) (r : List UInt8) (q : Nat) {j : Nat} (h : j < r.length) : (upd f r q)[j]? = some (if j < q then f j else wd r j) := by
  unfold upd
  rw [List.getElem?_map, List.getElem?_range h]
  rfl
theorem upd_zero (f : Nat → UInt8) (r : List UInt8) : upd f r 0 = r := by
  refine List.ext_getElem? fun j => ?_
  rcases Nat.lt_or_ge j r.length with h | h
  · rw [upd_get f r 0 h, if_neg (by omega), wd_lt h]
  · rw [List.getElem?_eq_none (by rw [upd_length]; exact h), List.getElem?_eq_none h]
theorem upd_succ (f : Nat → UInt8) (r : List UInt8) {q : Nat} (hq : q < r.length) : (upd f r q).set q (f q) = upd f r (q + 1) := by
  refine List.ext_getElem? fun j => ?_
  rw [List.getElem?_set]
  rcases Nat.lt_or_ge j r.length with h | h
  · rw [upd_get f r q h, upd_get f r (q + 1) h]
    by_cases e : q = j
    · subst e; rw [if_pos rfl, if_pos (by rw [upd_length]; exact hq), if_pos (by omega)]
    · rw [if_neg e]
      by_cases e2 : j < q
      · rw [if_pos e2, if_pos (by omega)]
      · rw [if_neg e2, if_neg (by omega)]
  · rw [if_neg (by omega), List.getElem?_eq_none (by rw [upd_length]; exact h), List.getElem?_eq_none (by rw [upd_length]; exact h)]
theorem upd_all (f : Nat → UInt8) (r : List UInt8) : upd f r r.length = (List.range r.length).map f := by
  unfold upd
  refine List.map_congr_left fun j hj => if_pos (List.mem_range.1 hj)
theorem scl_upd (t : UInt8) (r : List UInt8) : scl t r = upd (fun j => Gf.gmul (wd r j) t) r r.length := by
  rw [upd_all]
  refine List.ext_getElem? fun j => ?_
  unfold scl
  rw [List.getElem?_map, List.getElem?_map]
  rcases Nat.lt_or_ge j r.length with h | h
  · rw [List.getElem?_range h, wd_lt h]; rfl
  · rw [List.getElem?_eq_none h, List.getElem?_eq_none (by simpa using h)]; rfl
theorem addRow_upd (t : UInt8) (p r : List UInt8) : addRow t p r = upd (fun j => wd r j ^^^ Gf.gmul t (wd p j)) r r.length := by rw [upd_all]; rfl
theorem piv_at {c i : Nat} {rows : List (List UInt8)} (hi : c + i < rows.length) (h0 : ∀ j, j < i → wd (rw_ rows (c + j)) c = 0) (h1 : wd (rw_ rows (c + i)) c ≠ 0) : piv c rows = some (c + i) := by
  cases e : piv c rows with
  | none => exact absurd (piv_none e (c + i) hi (by omega)) h1
  | some p =>
    obtain ⟨a1, a2, a3, a4⟩ := piv_some e
    congr 1
    rcases Nat.lt_trichotomy p (c + i) with h | h | h
    · have := h0 (p - c) (by omega)
      rw [show c + (p - c) = p by omega] at this
      exact absurd this a3
    · exact h
    · exact absurd (a4 (c + i) (by omega) h) h1
theorem piv_no {c : Nat} {rows : List (List UInt8)} (h0 : ∀ j, c + j < rows.length → wd (rw_ rows (c + j)) c = 0) : piv c rows = none := by
  cases e : piv c rows with
  | none => rfl
  | some p =>
    obtain ⟨a1, a2, a3, a4⟩ := piv_some e
    have := h0 (p - c) (by omega)
    rw [show c + (p - c) = p by omega] at this
    exact absurd this a3
end Sy
theorem elemS : Elem Tryz.prog 158 30 (.slice none 0 0) 24 := by
  have hinf : (Tryz.prog.info? 30).map (fun i => (i.zero, i.size, i.bytes)) = some (some (.slice none 0 0), 1, 24) := by kernel_rfl
  obtain ⟨i0, hi, hz0, hz1, hz2⟩ := info_parts hinf
  exact ⟨Tryz.underlying158, rfl, i0, hi, hz0, hz1, hz2⟩
end Go.Proofs.YtnplaejlmbncfaaGreatDoor

namespace Go.Proofs.YtnplaejlmbncfaaGreatDoor
open Go.RowKit
set_option linter.unusedVariables false
set_option maxRecDepth 100000
def RSh (w : World) (A : Option Addr) (n c : Nat) (s : List UInt8) (v3 v4 v5 v6 v7 v21 : Value) (wr : World) : Prop :=
  ∃ (k : Nat) (b : Sy.Bm) (A1 : Option Addr) (N1 c1 : Nat) (A2 : Option Addr) (N2 c2 : Nat), k ≤ n ∧ v21 = .int .i64 (k : Int) ∧ v3 = .slice A1 N1 c1 ∧ v4 = .slice A2 N2 c2 ∧ v5 = .int .i64 (b.len : Int) ∧ v6 = .int .i64 (b.gap : Int) ∧ v7 = .int .u8 (b.last.toNat : Int) ∧
    Hid (b = Sy.bm s k ∧ Sy.Bi s k b ∧ b.now.length = N1 ∧ b.old.length = N2) ∧ b.len ≤ k ∧ 1 ≤ b.gap ∧ b.gap ≤ k + 1 ∧ 1 ≤ N1 ∧ 1 ≤ N2 ∧ N1 ≤ k + 1 ∧ N2 + b.gap ≤ k + 2 ∧ Hid (Ow w wr none [] [⟨A, n, c, bys s⟩] [⟨A1, N1, c1, 5, bys b.now⟩, ⟨A2, N2, c2, 5, bys b.old⟩])
theorem rsh_of {w : World} {A : Option Addr} {n c : Nat} {s : List UInt8} {wr : World} (k : Nat) (b : Sy.Bm) {A1 : Option Addr} {N1 c1 : Nat} {A2 : Option Addr} {N2 c2 : Nat} {v3 v4 v5 v6 v7 v21 : Value} (hk : k ≤ n) (h21 : v21 = .int .i64 (k : Int)) (h3 : v3 = .slice A1 N1 c1) (h4 : v4 = .slice A2 N2 c2) (h5 : v5 = .int .i64 (b.len : Int)) (h6 : v6 = .int .i64 (b.gap : Int)) (h7 : v7 = .int .u8 (b.last.toNat : Int))
    (hb : b = Sy.bm s k) (e1 : b.now.length = N1) (e2 : b.old.length = N2) (ho : Ow w wr none [] [⟨A, n, c, bys s⟩] [⟨A1, N1, c1, 5, bys b.now⟩, ⟨A2, N2, c2, 5, bys b.old⟩]) : RSh w A n c s v3 v4 v5 v6 v7 v21 wr := by
  have hB : Sy.Bi s k b := by rw [hb]; exact Sy.bi_all s k
  have hl := hB.long
  have hg : b.gap ≤ k + 1 := by
    rcases hB.was with ⟨_, _, h, _⟩ | ⟨h, _⟩ <;> omega
  exact ⟨k, b, A1, N1, c1, A2, N2, c2, hk, h21, h3, h4, h5, h6, h7, ⟨hb, hB, e1, e2⟩, hB.le, hB.gp, hg, by omega, by omega, by omega, by omega, ho⟩
section
variable {w0 w : World} {g : Option Nat} {M : List (Nat × Value)} {L : List Ob} {a b c : Rw}
theorem Ow.pick21 (h : Ow w0 w g M L [a, b, c]) : Ow w0 w g M L [c, b] := h.re (fun i => 2 - i) (fun i j hi hj e => by simp at hi hj; omega) (fun i r e => by
  match i, e with
  | 0, e => exact e
  | 1, e => exact e
  | i + 2, e => simp at e)
theorem Ow.pick20 (h : Ow w0 w g M L [a, b, c]) : Ow w0 w g M L [c, a] := h.re (fun i => 2 - 2 * i) (fun i j hi hj e => by simp at hi hj; omega) (fun i r e => by
  match i, e with
  | 0, e => exact e
  | 1, e => exact e
  | i + 2, e => simp at e)
end
set_option maxHeartbeats 8000000 in
theorem shortest_any (A : Option Addr) (n c : Nat) (s : List UInt8) (w : World) (hn : s.length = n) (hs : Sl w w.heap.size A (bys s)) (hnc : n ≤ c) (hl : n ≤ 200) :
    Calls Tryz.prog 140 #[.slice A n c] w (FreshB w (Sy.shortest s)) := by
  have H1 := (((Ow.of (St.refl w)).old hs (by rw [bys_length]; exact hn) hnc (by omega)).arr #[.int .u8 1] 1 rfl (by omega) 5).arr #[.int .u8 1] 1 rfl (by omega) 5
  simp only [List.nil_append, List.cons_append, World.size_alloc] at H1
  have HH := Lib.hid H1
  have HN := Lib.hid hn
  clear H1 hs hn
  go_enter Tryz.func140, Tryz.ntmps140
  go_wp2_with fail
  go_loopw [3, 4, 5, 6, 7, 21] (fun v3 v4 v5 v6 v7 v21 wr => RSh w A n c s v3 v4 v5 v6 v7 v21 wr) (fun _ _ _ _ _ v _ => n - (intOf v).toNat)
  case atStart => exact rsh_of 0 (Sy.bm s 0) (Nat.zero_le _) rfl rfl rfl rfl rfl rfl rfl rfl rfl HH.out
  case round =>
    clear HH
    obtain ⟨k, b, A1, N1, c1, A2, N2, c2, hk, rfl, rfl, rfl, rfl, rfl, rfl, HB, q1, q2, q3, q4, q5, q6, q7, HO⟩ := hrel
    rcases Nat.lt_or_ge k n with hkn | hkn
    · have hd : decide ((k : Int) < (n : Int)) = true := decide_eq_true (by omega)
      go_wp2_with fail
      go_loopw [9, 26] (fun v9 v26 wr2 => ∃ i : Nat, i ≤ N1 ∧ v26 = .int .i64 (i : Int) ∧ (∃ x : UInt8, v9 = .int .u8 (x.toNat : Int) ∧ Hid (x = Sy.discTo b.now s k i)) ∧ wr2 = wr) (fun _ v _ => N1 - (intOf v).toNat)
      case atStart => exact ⟨0, Nat.zero_le _, rfl, ⟨0, rfl, rfl⟩, rfl⟩
      case round =>
        obtain ⟨i, hi, rfl, ⟨x, rfl, HX⟩, rfl⟩ := hrel
        rcases Nat.lt_or_ge i N1 with h2 | h2
        · have hd2 : decide ((i : Int) < (N1 : Int)) = true := decide_eq_true (by omega)
          obtain ⟨a, ha⟩ := byte_at b.now i (by rw [HB.out.2.2.1]; exact h2)
          obtain ⟨g1, rfl, -, -⟩ := own_form (HO.out.row 0 rfl) (by omega)
          have hca := HO.out.byteO 0 rfl ha
          have HA : Hid (Sy.wd b.now i = a) := Sy.wd_some ha
          clear ha
          rcases Nat.lt_or_ge k i with h3 | h3
          · have hd3 : decide ((i : Int) ≤ (k : Int)) = false := decide_eq_false (by omega)
            have HX2 : Hid (x = Sy.discTo b.now s k (i + 1)) := by
              unfold Hid Sy.discTo
              rw [if_neg (by omega)]
              exact HX.out
            go_wp2_with fail
          · have hd3 : decide ((i : Int) ≤ (k : Int)) = true := decide_eq_true (by omega)
            obtain ⟨y, hy⟩ := byte_at s (k - i) (by rw [HN.out]; omega)
            obtain ⟨ad, rfl, hcy⟩ := HO.out.byteL 0 rfl hy
            have hidx : ((k : Int) - (i : Int)) = ((k - i : Nat) : Int) := by omega
            obtain ⟨z, hz, HZ⟩ := xor_ex x (Gf.gmul a y)
            have HX2 : Hid (z = Sy.discTo b.now s k (i + 1)) := by
              unfold Hid Sy.discTo
              rw [if_pos h3, ← HX.out, HA.out, Sy.wd_some hy]
              exact HZ.out
            clear hy
            go_wp2_with (go_at_call 136; ((with_reducible refine (mul_any _ _ _).mono ?_); rintro e w' ⟨rfl, rfl⟩))
            go_roundw
            case rel => exact ⟨i + 1, by omega, by go_num, ⟨z, rfl, HX2⟩, by first | exact trivial | rfl⟩
            case measure => simp [intOf]; omega
        · have hd2 : decide ((i : Int) < (N1 : Int)) = false := decide_eq_false (by omega)
          have HD : Hid (x = Sy.disc b.now s k) := by
            unfold Hid Sy.disc
            rw [HX.out, HB.out.2.2.1, show i = N1 by omega]
          clear HX
          rcases zero_or x with rfl | ⟨hne, hx1⟩
          · have HS : Hid (Sy.bm s (k + 1) = { b with gap := b.gap + 1 }) := by
              unfold Hid
              show Sy.bmStep s k (Sy.bm s k) = _
              rw [← HB.out.1]
              unfold Sy.bmStep
              rw [if_pos HD.out.symm]
            go_wp2_with fail
            go_roundw
            case rel => exact rsh_of (k + 1) { b with gap := b.gap + 1 } (by omega) (by go_num) rfl rfl rfl (by go_num) rfl HS.out.symm HB.out.2.2.1 HB.out.2.2.2 HO.out
            case measure => simp [intOf]; omega
          · have HNE : Hid (Sy.disc b.now s k ≠ 0) := fun e => hne (HD.out.trans e)
            clear hne
            obtain ⟨t, ht⟩ : ∃ t, t = Gf.gmul x (Gf.ginv b.last) := ⟨_, rfl⟩
            have HT : Hid (t = Gf.gmul (Sy.disc b.now s k) (Gf.ginv b.last)) := by unfold Hid; rw [ht, HD.out]
            have HTx := Lib.hid ht
            clear ht
            go_wp2_with (go_at_call 173; ((with_reducible refine (divide_any _ _ _).mono ?_); rw [← HTx.out]; rintro e w' ⟨rfl, rfl⟩))
            have HC := Lib.hid (cloneB_fresh A1 N1 c1 wr.heap.size b.now wr HB.out.2.2.1 (Sl.of_own (HO.out.row 0 rfl)) (Nat.le_refl _) (by omega))
            refine HC.out.mono ?_
            rintro e w2 ⟨A3, N3, c3, rfl, hn3, ho3, hb3⟩
            obtain rfl : N1 = N3 := HB.out.2.2.1.symm.trans hn3
            have HO3 := Lib.hid (HO.out.add ho3 hb3)
            clear hn3 ho3 hb3 HC
            have hbl : b.gap + N2 ≤ 1000 := by omega
            go_wp2_with (at_builtin; refine ow_append_zeros elemB Tryz.underlying3 rfl HO3.out 2 (.tmp 56) (.tmp 64) rfl (b.gap + N2 - N1) (by unfold maxLen; omega) (by omega) (by omega) rfl rfl rfl rfl ?_; intro A4 c4 w8 how)
            all_goals (
              rw [bys_zeros, bys_app] at how
              obtain ⟨g1, rfl, -, -⟩ := own_form (HO.out.row 0 rfl) (by omega)
              obtain ⟨g2, rfl, -, -⟩ := own_form (HO.out.row 1 rfl) (by omega)
              obtain ⟨l0, hl0⟩ : ∃ l0, l0 = b.now ++ List.replicate (b.gap + N2 - N1) 0 := ⟨_, rfl⟩
              obtain ⟨NL, hNL⟩ : ∃ NL, NL = N1 + (b.gap + N2 - N1) := ⟨_, rfl⟩
              rw [← hl0, ← hNL] at how
              rw [← hNL]
              have HL0 : Hid (l0.length = NL) := by unfold Hid; rw [hl0, List.length_append, List.length_replicate, HB.out.2.2.1, hNL]
              have HNX : Hid (Po.addAt l0 b.old t b.gap = Sy.nextR b.now b.old b.gap (Gf.gmul (Sy.disc b.now s k) (Gf.ginv b.last))) := by
                unfold Hid Sy.nextR
                rw [← HT.out, hl0, HB.out.2.2.1, HB.out.2.2.2]
              have hNL1 : b.gap + N2 ≤ NL ∧ 1 ≤ NL ∧ NL ≤ 1000 := by omega
              clear hNL
              obtain ⟨g4, rfl, -, -⟩ := own_form (how.row 2 rfl) (by omega)
              have HO4 : Hid (Ow w w8 none [] [⟨A, n, c, bys s⟩] [⟨some ⟨g1, 0, none⟩, N1, c1, 5, bys b.now⟩, ⟨some ⟨g2, 0, none⟩, N2, c2, 5, bys b.old⟩, ⟨some ⟨g4, 0, none⟩, NL, c4, 5, bys (Po.addTo l0 b.old t b.gap 0)⟩]) := how
              clear how HO3 hl0
              go_loopw [68] (fun v wr3 => ∃ i : Nat, i ≤ N2 ∧ v = .int .i64 (i : Int) ∧ Hid (Ow w wr3 none [] [⟨A, n, c, bys s⟩] [⟨some ⟨g1, 0, none⟩, N1, c1, 5, bys b.now⟩, ⟨some ⟨g2, 0, none⟩, N2, c2, 5, bys b.old⟩, ⟨some ⟨g4, 0, none⟩, NL, c4, 5, bys (Po.addTo l0 b.old t b.gap i)⟩])) (fun v _ => N2 - (intOf v).toNat)
              case atStart => exact ⟨0, Nat.zero_le _, rfl, HO4⟩
              case round =>
                clear HO4
                obtain ⟨j, hj, rfl, HJ⟩ := hrel
                rcases Nat.lt_or_ge j N2 with h5 | h5
                · have hd5 : decide ((j : Int) < (N2 : Int)) = true := decide_eq_true (by omega)
                  obtain ⟨a, ha⟩ := byte_at b.old j (by rw [HB.out.2.2.2]; exact h5)
                  obtain ⟨y, hy⟩ := byte_at (Po.addTo l0 b.old t b.gap j) (b.gap + j) (by rw [Po.addTo_length, HL0.out]; omega)
                  obtain ⟨z, hz, HZ⟩ := xor_ex y (Gf.gmul t a)
                  have HS := Lib.hid (Po.addTo_succ l0 b.old t y a z b.gap j hy ha HZ.out)
                  have hca := HJ.out.byteO 1 rfl ha
                  have hcy := HJ.out.byteO 2 rfl hy
                  have hfy := HJ.out.frzO 2 rfl (b.gap + j)
                  clear ha hy
                  go_wp2_with fail
                  have s1 : IntKind.i64.wrap ((j : Int) + (b.gap : Int)) = (j : Int) + (b.gap : Int) := IntWalk.i64_in _ (by omega)
                  have s2 : 0 ≤ (j : Int) + (b.gap : Int) := by omega
                  have s3 : (j : Int) + (b.gap : Int) < (NL : Int) := by omega
                  have s4 : ((j : Int) + (b.gap : Int)).toNat = b.gap + j := by omega
                  refine wp_region_still_tail 11 (by kernel_rfl) (by kernel_rfl) ?_
                  simp only [List.take_succ_cons, List.take_zero, List.drop_succ_cons, List.drop_zero]
                  repeat (first | still_step | still_call (flip_sameB (mul_any _ _ _)))
                  refine wpStill_nil ?_
                  change wpList _ _ _ _ _ (World.drew _)
                  clear s1 s2 s3 s4
                  go_wp2_with fail
                  go_roundw
                  case rel =>
                    have h6 := HJ.out.drew.putB 2 rfl (b.gap + j) z
                    rw [← HS.out] at h6
                    exact ⟨j + 1, by omega, by go_num, h6⟩
                  case measure => simp [intOf]; omega
                · have hd5 : decide ((j : Int) < (N2 : Int)) = false := decide_eq_false (by omega)
                  have hjN : j = N2 := by omega
                  have HN2 : Hid (Ow w wr none [] [⟨A, n, c, bys s⟩] [⟨some ⟨g1, 0, none⟩, N1, c1, 5, bys b.now⟩, ⟨some ⟨g2, 0, none⟩, N2, c2, 5, bys b.old⟩, ⟨some ⟨g4, 0, none⟩, NL, c4, 5, bys (Sy.nextR b.now b.old b.gap (Gf.gmul (Sy.disc b.now s k) (Gf.ginv b.last)))⟩]) := by
                    have h6 := HJ.out
                    rw [hjN] at h6
                    have e : Po.addTo l0 b.old t b.gap N2 = Po.addAt l0 b.old t b.gap := by unfold Po.addAt; rw [HB.out.2.2.2]
                    rw [e, HNX.out] at h6
                    exact h6
                  have HLN : Hid ((Sy.nextR b.now b.old b.gap (Gf.gmul (Sy.disc b.now s k) (Gf.ginv b.last))).length = NL) := by unfold Hid; rw [← HNX.out, Po.addAt_length, HL0.out]
                  rcases Nat.lt_or_ge k (2 * b.len) with h7 | h7
                  · have hd7 : decide ((k : Int) < 2 * (b.len : Int)) = true := decide_eq_true (by omega)
                    have HS2 : Hid (Sy.bm s (k + 1) = { b with now := Sy.nextR b.now b.old b.gap (Gf.gmul (Sy.disc b.now s k) (Gf.ginv b.last)), gap := b.gap + 1 }) := by
                      unfold Hid
                      show Sy.bmStep s k (Sy.bm s k) = _
                      rw [← HB.out.1]
                      unfold Sy.bmStep
                      rw [if_neg HNE.out, if_pos h7]
                    go_wp2_with fail
                    go_roundw
                    case rel => exact rsh_of (k + 1) { b with now := Sy.nextR b.now b.old b.gap (Gf.gmul (Sy.disc b.now s k) (Gf.ginv b.last)), gap := b.gap + 1 } (by omega) (by go_num) rfl rfl rfl (by go_num) rfl HS2.out.symm HLN.out HB.out.2.2.2 HN2.out.pick21
                    case measure => simp [intOf]; omega
                  · have hd7 : decide ((k : Int) < 2 * (b.len : Int)) = false := decide_eq_false (by omega)
                    have HS2 : Hid (Sy.bm s (k + 1) = ⟨Sy.nextR b.now b.old b.gap (Gf.gmul (Sy.disc b.now s k) (Gf.ginv b.last)), b.now, k + 1 - b.len, 1, Sy.disc b.now s k⟩) := by
                      unfold Hid
                      show Sy.bmStep s k (Sy.bm s k) = _
                      rw [← HB.out.1]
                      unfold Sy.bmStep
                      rw [if_neg HNE.out, if_neg (by omega)]
                    go_wp2_with fail
                    go_roundw
                    case rel => exact rsh_of (k + 1) ⟨Sy.nextR b.now b.old b.gap (Gf.gmul (Sy.disc b.now s k) (Gf.ginv b.last)), b.now, k + 1 - b.len, 1, Sy.disc b.now s k⟩ (by omega) (by go_num) rfl rfl (int_eqv (by show _ = ((k + 1 - b.len : Nat) : Int); omega)) rfl (by rw [HD.out]) HS2.out.symm HLN.out HB.out.2.2.1 HN2.out.pick20
                    case measure => simp [intOf]; omega)
    · have hd : decide ((k : Int) < (n : Int)) = false := decide_eq_false (by omega)
      have hkn2 : k = n := by omega
      have HLen : Hid (b.now.length = N1 ∧ Sy.shortest s = (b.now ++ List.replicate (b.len + 1 - N1) 0).take (b.len + 1)) := by
        refine ⟨HB.out.2.2.1, ?_⟩
        unfold Sy.shortest Sy.fitR
        rw [HN.out, ← hkn2, ← HB.out.1, HB.out.2.2.1]
      go_wp2_with (at_builtin; refine ow_append_zeros elemB Tryz.underlying3 rfl HO.out 0 (.tmp 100) (.tmp 106) rfl (b.len + 1 - N1) (by unfold maxLen; omega) (by omega) (by omega) rfl rfl rfl rfl ?_; intro A4 c4 w8 how)
      all_goals (
        rw [bys_zeros, bys_app] at how
        have hcp := (own_cap (how.row 0 rfl)).1
        have how2 := how.cut 0 rfl (k := b.len + 1) (by omega)
        have HF : Hid (Ow w w8 none [] [⟨A, n, c, bys s⟩] [⟨A4, b.len + 1, c4, 5, bys (Sy.shortest s)⟩, ⟨A2, N2, c2, 5, bys b.old⟩]) := by
          unfold Hid
          rw [HLen.out.2, ← bys_take]
          exact how2
        clear how how2
        go_wp2_with fail
        all_goals first | (go_ret; exact freshB_of HF.out 0 rfl) | (exfalso; omega))
end Go.Proofs.YtnplaejlmbncfaaGreatDoor

namespace Go.Proofs.YtnplaejlmbncfaaGreatDoor
open Go.RowKit
set_option linter.unusedVariables false
set_option maxRecDepth 100000
theorem wd_upd (f : Nat → UInt8) (r : List UInt8) {q : Nat} (hq : q < r.length) : (Sy.upd f r q)[q]? = some (Sy.wd r q) := by rw [Sy.upd_get f r q hq, if_neg (by omega)]
set_option maxHeartbeats 2000000 in
theorem scale_ow {w0 w : World} {g0 : Option Nat} {M : List (Nat × Value)} {L : List Ob} {O : List Rw} (h : Ow w0 w g0 M L O) (i : Nat) {gb n c : Nat} {r : List UInt8} (hi : O[i]? = some ⟨some ⟨gb, 0, none⟩, n, c, 5, bys r⟩) (hn : n ≤ 1000) (t : UInt8) :
    Calls Tryz.prog 149 #[.slice (some ⟨gb, 0, none⟩) n c, .int .u8 (t.toNat : Int)] w fun e w' => e = .returned (.tuple #[]) ∧ Ow w0 w' g0 M L (O.set i ⟨some ⟨gb, 0, none⟩, n, c, 5, bys (Sy.scl t r)⟩) := by
  have hl := own_len (h.row i hi)
  rw [bys_length] at hl
  have HL := Lib.hid hl
  have HI := Lib.hid hi
  have H0 : Hid (Ow w0 w g0 M L (O.set i ⟨some ⟨gb, 0, none⟩, n, c, 5, bys (Sy.upd (fun j => Gf.gmul (Sy.wd r j) t) r 0)⟩)) := by
    unfold Hid
    rw [Sy.upd_zero]
    exact h.same i hi rfl
  have hget : ∀ x : Rw, (O.set i x)[i]? = some x := fun x => List.getElem?_set_self (get_lt hi)
  have HG := Lib.hid hget
  clear h hi hl hget
  go_enter Tryz.func149, Tryz.ntmps149
  go_wp2_with fail
  go_loopw [7] (fun v wr => ∃ q : Nat, q ≤ n ∧ v = .int .i64 (q : Int) ∧ Hid (Ow w0 wr g0 M L (O.set i ⟨some ⟨gb, 0, none⟩, n, c, 5, bys (Sy.upd (fun j => Gf.gmul (Sy.wd r j) t) r q)⟩))) (fun v _ => n - (intOf v).toNat)
  case atStart => exact ⟨0, Nat.zero_le _, rfl, H0⟩
  case round =>
    clear H0
    obtain ⟨q, hq, rfl, HO⟩ := hrel
    rcases Nat.lt_or_ge q n with h1 | h1
    · have hd : decide ((q : Int) < (n : Int)) = true := decide_eq_true (by omega)
      have hcq := HO.out.byteO i (HG.out _) (wd_upd (fun j => Gf.gmul (Sy.wd r j) t) r (q := q) (by rw [HL.out]; exact h1))
      have hfq := HO.out.frzO i (HG.out _) q
      obtain ⟨b, hb⟩ : ∃ b, b = Sy.wd r q := ⟨_, rfl⟩
      rw [← hb] at hcq
      have HB := Lib.hid hb
      clear hb
      go_wp2_with (go_at_call 136; ((with_reducible refine (mul_any _ _ _).mono ?_); rintro e w' ⟨rfl, rfl⟩))
      go_roundw
      case rel =>
        have h5 := HO.out.putB i (HG.out _) q (Gf.gmul b t)
        rw [List.set_set, HB.out, Sy.upd_succ (fun j => Gf.gmul (Sy.wd r j) t) r (by rw [HL.out]; exact h1)] at h5
        rw [HB.out]
        exact ⟨q + 1, by omega, by go_num, h5⟩
      case measure => simp [intOf]; omega
    · have hd : decide ((q : Int) < (n : Int)) = false := decide_eq_false (by omega)
      have hqn : q = n := by omega
      go_wp2_with fail
      go_end0
      refine ⟨rfl, ?_⟩
      have h5 := HO.out
      rw [hqn] at h5
      rw [Sy.scl_upd, HL.out]
      exact h5
/-- the test of a row: something in column c -/
theorem ptest_any (gk n ck cb c : Nat) (b : UInt8) (w : World) (hcn : c < n) (hb : w.cell? ⟨gk, c, none⟩ = some (.int .u8 (b.toNat : Int))) (hc : w.cell? ⟨cb, 0, none⟩ = some (.int .i64 (c : Int))) :
    Calls Tryz.prog 148 #[.slice (some ⟨gk, 0, none⟩) n ck, .pointer (some ⟨cb, 0, none⟩)] w fun e w' => e = .returned (.bool (b != 0)) ∧ w = w' := by
  have H : Hid (((b.toNat : Int) != 0) = (b != 0)) := u8_bne0 b
  go_enter Tryz.func148, Tryz.ntmps148
  go_wp2_with fail
  go_ret
  exact ⟨ret_bool H.out, rfl⟩
set_option maxHeartbeats 2000000 in
theorem pivot_ow {w0 w : World} {M : List (Nat × Value)} {L : List Ob} {g m : Nat} {H : List (Option Addr × Nat)} {R : List (List UInt8)} {X : List Rw} (h : Mx w0 w M L g m H R X) (t : Nat) {cb c W : Nat} (ht : M[t]? = some (cb, .int .i64 (c : Int))) (hW : ∀ k, k < m → (Sy.rw_ R k).length = W) (hcW : c < W) (hcm : c < m) (hm : m ≤ 1000) :
    Calls Tryz.prog 147 #[.slice (some ⟨g, c, none⟩) (m - c) (m - c), .func (.func 148) #[] #[.pointer (some ⟨cb, 0, none⟩)]] w fun e w' => ((∃ p : Nat, Sy.piv c R = some p ∧ e = .returned (.int .i64 ((p - c : Nat) : Int))) ∨ (Sy.piv c R = none ∧ e = .returned (.int .i64 (-1)))) ∧ w = w' := by
  have HM := Lib.hid h
  have HW := Lib.hid hW
  have hcc := h.ow.cell t ht
  clear h hW ht
  go_enter Tryz.func147, Tryz.ntmps147
  go_wp2_with fail
  go_loopw [8] (fun v wr => ∃ k : Nat, k + c ≤ m ∧ v = .int .i64 (k : Int) ∧ wr = w ∧ Hid (∀ j, j < k → Sy.wd (Sy.rw_ R (c + j)) c = 0)) (fun v _ => m - (intOf v).toNat)
  case atStart => exact ⟨0, by omega, rfl, rfl, fun j hj => by omega⟩
  case round =>
    obtain ⟨k, hk, rfl, rfl, HK⟩ := hrel
    rcases Nat.lt_or_ge (k + c) m with h1 | h1
    · have hd : decide ((k : Int) < ((m - c : Nat) : Int)) = true := decide_eq_true (by omega)
      have hck := HM.out.hd (k := c + k) (by omega)
      have hlen := HW.out (c + k) (by omega)
      obtain ⟨gk, ck, hg⟩ := HM.out.form (k := c + k) (by omega) (by omega)
      have hbc := HM.out.byte (k := c + k) (by omega) hg (q := c) (Sy.wd_lt (by omega))
      rw [hg, hlen] at hck
      obtain ⟨b, hb⟩ : ∃ b, b = Sy.wd (Sy.rw_ R (c + k)) c := ⟨_, rfl⟩
      rw [← hb] at hbc
      have HB := Lib.hid hb
      have HP := Lib.hid (ptest_any gk W ck cb c b wr hcW hbc hcc)
      clear hb hg hlen
      cases hz : (b != 0) with
      | true =>
        rw [hz] at HP
        have HZ := Lib.hid hz
        clear hz
        go_wp2_with (refine HP.out.mono ?_; rintro e w' ⟨rfl, rfl⟩)
        go_ret
        refine ⟨.inl ⟨c + k, ?_, by show Ending.returned (Value.int .i64 (k : Int)) = _; rw [Nat.add_sub_cancel_left]⟩, rfl⟩
        refine Sy.piv_at (by rw [HM.out.rl]; omega) HK.out ?_
        rw [← HB.out]
        have := HZ.out
        rwa [bne_iff_ne] at this
      | false =>
        rw [hz] at HP
        have HZ := Lib.hid hz
        clear hz
        go_wp2_with (refine HP.out.mono ?_; rintro e w' ⟨rfl, rfl⟩)
        go_roundw
        case rel =>
          refine ⟨k + 1, by omega, by go_num, by first | exact trivial | rfl, ?_⟩
          intro j hj
          rcases Nat.lt_or_ge j k with h2 | h2
          · exact HK.out j h2
          · rw [show j = k by omega, ← HB.out]
            have := HZ.out
            simpa using this
        case measure => simp [intOf]; omega
    · have hd : decide ((k : Int) < ((m - c : Nat) : Int)) = false := decide_eq_false (by omega)
      go_wp2_with fail
      go_ret
      refine ⟨.inr ⟨Sy.piv_no fun j hj => HK.out j (by rw [HM.out.rl] at hj; omega), rfl⟩, rfl⟩
end Go.Proofs.YtnplaejlmbncfaaGreatDoor

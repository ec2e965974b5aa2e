/- Dice over held numbers; long; the law NatLong. -/
import Derived.Test.YtflgfkelbniblaaDoorNatU
namespace Go.Proofs.YtflgfkelbniblaaDoor
open Go.RowKit
set_option linter.unusedVariables false
set_option maxRecDepth 100000
def NLo (w : World) (g B base : Nat) (A : Option Addr) (N : Nat) (v : Value) (wr : World) : Prop :=
  ∃ (k : Nat) (o : List Nat), k ≤ N ∧ v = .int .i64 (k : Int) ∧ Hid (o.length = k ∧ Na.Lim o) ∧ wr.ownsRow base 3 1 (.slice A N N) N (nats (o ++ (List.replicate N 0).drop k)) ∧ Hid (Dice wr g B) ∧ Hid (w.grownBy wr (some g)) ∧ base ≤ wr.heap.size
set_option maxHeartbeats 2000000 in
theorem long_any (g B : Nat) (v : Int) (w : World) (hd : Dice w g B) :
    Calls Tryd.prog 15 #[.pointer (some ⟨g, 0, none⟩), .int .i64 v] w fun e w' => ∃ (A : Option Addr) (n c x : Nat), e = .returned (.agg #[.slice A n c]) ∧ (Na.dig x).length = n ∧ x < Na.top ∧ w'.ownsRow w.heap.size 3 1 (.slice A n c) n (nats (Na.dig x)) ∧ Dice w' g B ∧ w.grownBy w' (some g) := by
  obtain ⟨i0, hi, hz0, hz1, hz2⟩ := info_parts infoI
  have hgw := hd.lt
  obtain ⟨j, hj⟩ := Int.eq_ofNat_of_zero_le (Int.emod_nonneg v (show (200 : Int) ≠ 0 by omega))
  have hj2 : j ≤ 199 := by have := Int.emod_lt_of_pos v (show (0 : Int) < 200 by omega); omega
  obtain ⟨N, hN⟩ : ∃ N, 1 + j = N := ⟨_, rfl⟩
  have hN1 : (1 : Int) + (j : Int) = (N : Int) := by omega
  have hN0 : 0 < N := by omega
  have hN200 : N ≤ 200 := by omega
  have hmk := run_make_one (P := Tryd.prog) 23 3 i0 (.int .i64 0) Tryd.underlying23 hi hz0 hz1 .i64 .i64 (N : Int) (N : Int) N N (by omega) (by omega) (Nat.le_refl _) (by rw [hz2]; omega) (by omega)
  have HMod := Lib.hid (mod_any v 200 (w.alloc (.cells #[.slice none 0 0] 29)) (by omega) (by omega))
  rw [hj] at HMod
  have hcr : (w.alloc (.cells #[.slice none 0 0] 29)).cell? ⟨w.heap.size, 0, none⟩ = some (.slice none 0 0) := by simp [go_sem]
  have hfr : (w.alloc (.cells #[.slice none 0 0] 29)).frozen? ⟨w.heap.size, 0, none⟩ = false := by simp [go_sem]
  obtain ⟨w0, hw0⟩ : ∃ w0, w.alloc (.cells #[.slice none 0 0] 29) = w0 := ⟨_, rfl⟩
  have HW : Hid (w.alloc (.cells #[.slice none 0 0] 29) = w0) := hw0
  have hsz : w.heap.size + 1 ≤ w0.heap.size := by rw [← hw0]; simp
  have HG0 : Hid (w.grownBy w0 (some g)) := by rw [← hw0]; exact grown_alloc (World.grownBy.refl w _) _
  have HD0 : Hid (Dice w0 g B) := by rw [← hw0]; exact hd.grown (row := none) (World.grownBy_alloc w _ none) (fun _ e => by cases e)
  rw [hw0] at hcr hfr HMod
  have HO0 : Hid ((w0.alloc (.cells (madeCells #[Value.int .i64 0] N) 3)).ownsRow w0.heap.size 3 1 (.slice (some ⟨w0.heap.size, 0, none⟩) N N) N (nats (List.replicate N 0))) := by
    rw [made_nats]
    exact own_made w0 3 (.int .i64 0) N N rfl (Nat.le_refl _) (by unfold maxLen; omega)
  have HD1 : Hid (Dice (w0.alloc (.cells (madeCells #[Value.int .i64 0] N) 3)) g B) := HD0.out.grown (row := none) (World.grownBy_alloc w0 _ none) (fun _ e => by cases e)
  have HG1 : Hid (w0.grownBy (w0.alloc (.cells (madeCells #[Value.int .i64 0] N) 3)) (some g)) := grown_alloc (World.grownBy.refl w0 _) _
  clear hd hj hw0 hN hj2 HD0
  go_enter Tryd.func15, Tryd.ntmps15
  go_wp2_with fail
  rw [HW.out]
  refine HMod.out.mono ?_
  rintro e w1 ⟨rfl, rfl⟩
  go_wp2_with fail
  clear hmk HMod
  go_loopw [6] (fun v wr => NLo w0 g B w0.heap.size (some ⟨w0.heap.size, 0, none⟩) N v wr) (fun v _ => N - (intOf v).toNat)
  case atStart => exact ⟨0, [], Nat.zero_le _, rfl, ⟨rfl, Na.Lim.nil⟩, by simpa using HO0.out, HD1, HG1, by simp⟩
  case round =>
    clear HO0 HD1 HG1
    obtain ⟨k, o, hk, rfl, HP, ho, HD, HG, hbs⟩ := hrel
    have HO := Lib.hid ho
    have HBS := Lib.hid hbs
    rcases Nat.lt_or_ge k N with hkn | hkn
    · obtain ⟨a, ha⟩ := nat_at (o ++ (List.replicate N 0).drop k) k (by simp [HP.out.1]; omega)
      have hca := own_nat ho ha
      have hfz := ho.frozenAt k
      have HLr := Lib.hid (HP.out.2.append (Na.Lim.one (show 16777215 < 16777216 by omega)))
      have HLl : Hid ((o ++ [16777215]).length = k + 1) := by unfold Hid; rw [List.length_append, HP.out.1]; rfl
      have HSet := Lib.hid (Na.set_mid o (List.replicate N 0) k 16777215 HP.out.1 (by rw [List.length_replicate]; exact hkn))
      clear ho hbs ha
      go_wp2_with fail
      go_roundw
      case rel =>
        have o1 := own_put HO.out k (.int .i64 ((16777215 : Nat) : Int))
        rw [nats_set, HSet.out] at o1
        have g1 := grown_set wr ⟨w0.heap.size, k, none⟩ (.int .i64 ((16777215 : Nat) : Int))
        exact ⟨k + 1, o ++ [16777215], by omega, by go_num, ⟨HLl.out, HLr.out⟩, o1, HD.out.grown g1 (fun x e => by cases e; simp only; omega), grown_far HG.out g1 (fun x e => by cases e; simp only; omega), by simpa [World.setCell] using HBS.out⟩
      case measure => simp [intOf]; omega
    · have HP2 : Hid (o.length = N ∧ Na.Lim o) := ⟨by have := HP.out.1; omega, HP.out.2⟩
      have HO2 : Hid (wr.ownsRow w0.heap.size 3 1 (.slice (some ⟨w0.heap.size, 0, none⟩) N N) N (nats o)) := by
        have h7 := ho
        rw [List.drop_of_length_le (by rw [List.length_replicate]; exact hkn), List.append_nil] at h7
        exact h7
      have HNx := Lib.hid (next_any g B 16777216 wr (by omega) (by omega) HD.out)
      have hdk : decide (k < N) = false := decide_eq_false (by omega)
      clear ho hbs HO HP HD
      go_wp2_with fail
      refine HNx.out.mono ?_
      rintro e w2 ⟨r0, rfl, hr0, hr1, hd2, hg2⟩
      obtain ⟨r, rfl⟩ := Int.eq_ofNat_of_zero_le hr0
      have HO3 := Lib.hid (own_grown HO2.out hg2 (by omega))
      obtain ⟨a, ha⟩ := nat_at o 0 (by rw [HP2.out.1]; omega)
      have hca := own_nat HO3.out ha
      have hfz := HO3.out.frozenAt 0
      have HL3 := Lib.hid (HP2.out.2.set 0 (show r < 16777216 by omega))
      have hN0i : (0 : Int) < (N : Int) := by omega
      have HG2 := Lib.hid (grown_trans (grown_trans HG0.out HG.out) hg2)
      have HG2a := Lib.hid (grown_trans HG.out hg2)
      have hsz2 : w0.heap.size ≤ w2.heap.size := Nat.le_trans HBS.out hg2.size
      have g3 := grown_set w2 ⟨w0.heap.size, 0, none⟩ (.int .i64 (r : Int))
      have HD3 : Hid (Dice (w2.setCell ⟨w0.heap.size, 0, none⟩ (.int .i64 (r : Int))) g B) := hd2.grown g3 (fun x e => by cases e; simp only; omega)
      have HG3 := Lib.hid (grown_far HG2a.out g3 (fun x e => by cases e; simp only; omega))
      have HO4 : Hid ((w2.setCell ⟨w0.heap.size, 0, none⟩ (.int .i64 (r : Int))).ownsRow w0.heap.size 3 1 (.slice (some ⟨w0.heap.size, 0, none⟩) N N) N (nats (o.set 0 r))) := by
        have o1 := own_put HO3.out 0 (.int .i64 (r : Int))
        rw [nats_set] at o1
        exact o1
      have HNx2 := Lib.hid (next_any g B 16777215 (w2.setCell ⟨w0.heap.size, 0, none⟩ (.int .i64 (r : Int))) (by omega) (by omega) HD3.out)
      clear hd2 hg2 ha g3 HNx hr0 hr1
      go_wp2_with fail
      refine HNx2.out.mono ?_
      rintro e w4 ⟨r1, rfl, hr2, hr3, hd4, hg4⟩
      obtain ⟨s, rfl⟩ := Int.eq_ofNat_of_zero_le hr2
      have HO5 := Lib.hid (own_grown HO4.out hg4 (by omega))
      obtain ⟨b, hb⟩ := nat_at (o.set 0 r) (N - 1) (by rw [List.length_set, HP2.out.1]; omega)
      have hcb := own_nat HO5.out hb
      have hfz2 := HO5.out.frozenAt (N - 1)
      obtain ⟨t, ht⟩ : ∃ t, 1 + s = t := ⟨_, rfl⟩
      have hs1 : (1 : Int) + (s : Int) = (t : Int) := by omega
      have ht0 : 0 < t := by omega
      have ht24 : t < 16777216 := by omega
      have HL5 := Lib.hid (HL3.out.set (N - 1) ht24)
      have HLen : Hid (((o.set 0 r).set (N - 1) t).length = N) := by unfold Hid; rw [List.length_set, List.length_set]; exact HP2.out.1
      have HDig : Hid (Na.dig (Na.val ((o.set 0 r).set (N - 1) t)) = (o.set 0 r).set (N - 1) t) := by
        refine Na.dig_val HL5.out (.inr ?_)
        rw [HLen.out, List.getElem?_set_self (by rw [List.length_set, HP2.out.1]; omega)]
        intro e
        have := Option.some.inj e
        omega
      have HG4 := Lib.hid (grown_trans HG3.out hg4)
      have HD4 := Lib.hid hd4
      have hw5 : w0.heap.size ≤ w4.heap.size := Nat.le_trans hsz2 (Nat.le_trans (by simp [World.setCell]) hg4.size)
      have hcr4 : w4.cell? ⟨w.heap.size, 0, none⟩ = some (.slice none 0 0) := (World.cell?_of_block (a := ⟨w.heap.size, 0, none⟩) (HG4.out.block w.heap.size (by omega) (by simp; omega))).trans hcr
      have hfr4 : w4.frozen? ⟨w.heap.size, 0, none⟩ = false := (World.frozen?_of_block (a := ⟨w.heap.size, 0, none⟩) (HG4.out.block w.heap.size (by omega) (by simp; omega))).trans hfr
      have hNi : 0 ≤ (N : Int) - 1 := by omega
      have hNi2 : (N : Int) - 1 < (N : Int) := by omega
      have hNi3 : ((N : Int) - 1).toNat = N - 1 := by omega
      have HF : Hid (∃ w5, w4.setCell ⟨w0.heap.size, N - 1, none⟩ (.int .i64 (t : Int)) = w5 ∧ w5.cell? ⟨w.heap.size, 0, none⟩ = some (.slice none 0 0) ∧ w5.frozen? ⟨w.heap.size, 0, none⟩ = false ∧ w5.ownsRow w0.heap.size 3 1 (.slice (some ⟨w0.heap.size, 0, none⟩) N N) N (nats ((o.set 0 r).set (N - 1) t)) ∧ Dice w5 g B ∧ w0.grownBy w5 (some g)) := by
        have o1 := own_put HO5.out (N - 1) (.int .i64 (t : Int))
        rw [nats_set] at o1
        have g1 := grown_set w4 ⟨w0.heap.size, N - 1, none⟩ (.int .i64 (t : Int))
        refine ⟨_, rfl, ?_, ?_, o1, HD4.out.grown g1 (fun x e => by cases e; simp only; omega), grown_far HG4.out g1 (fun x e => by cases e; simp only; omega)⟩
        · rw [World.cell?_setCell_other _ _ _ _ (by intro e; have := congrArg Addr.block e; simp only at this; omega)]
          exact hcr4
        · rw [World.frozen?_setCell]
          exact hfr4
      clear ht hd4 hg4 hb hca hfz hcr4 hfr4 hr2 hr3 HO4
      go_upto_region 8 with (fail)
      obtain ⟨w5, hw5', f1, f2, f3, f4, f5⟩ := HF.out
      rw [hw5']
      have HO6 := Lib.hid f3
      have HD6 := Lib.hid f4
      have HG6 := Lib.hid f5
      clear hw5' f3 f4 f5 HF hcb hfz2
      go_wp2_with fail
      refine bodyPost_ret (v := .agg #[.slice (some ⟨w0.heap.size, 0, none⟩) N N]) (by simp [results, Tryd.results15, go_sem, f1]) rfl ?_
      have g1 := grown_set w5 ⟨w.heap.size, 0, none⟩ (.slice (some ⟨w0.heap.size, 0, none⟩) N N)
      refine ⟨_, N, N, Na.val ((o.set 0 r).set (N - 1) t), rfl, by rw [HDig.out]; exact HLen.out, by rw [← Na.dig_200, HDig.out, HLen.out]; exact hN200, ?_, HD6.out.grown g1 (fun x e => by cases e; simp only; omega), grown_far (grown_trans HG0.out HG6.out) g1 (fun x e => by cases e; exact Nat.le_refl _)⟩
      rw [HDig.out]
      exact own_more (own_setLow HO6.out _ _ (by simp only; omega)) (by omega)
end Go.Proofs.YtflgfkelbniblaaDoor

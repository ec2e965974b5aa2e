/- what more is needed -/
import Derived.Test.YtjhaogbopmhkoaaDoorY26
import Derived.WalkKit
import Derived.WalkLawsBesides
import Derived.WalkSpells
import Derived.Lib.Hide
import Derived.Laws.BitsAllLaws
import Derived.Deep.QuietTactic
import Derived.BigQuiet
import Derived.Below
import Derived.OwnWalk
import Derived.Laws.OwnMore
import Derived.Laws.Rows
import Derived.Deep.AppendLies
import Derived.Maps.AppendAt
import Derived.RangeFuncNested
import Derived.RangeFuncBound
import Derived.RangeFuncCalls
import Derived.RangeFuncLeaves
import Derived.RangeFuncBox
import Derived.RangeFuncWrites
import Derived.Shelf.Abstract
import Derived.Shelf.RegionOpen
import Derived.OwnWalkIn
import Derived.TacticsInMore
import Derived.LoopNIn
import Derived.LoopIn
import Derived.Test.YtjhaogbopmhkoaaDoorChecked
import Derived.StillTailTactics
import Derived.Outline
import Derived.Deep.Cut
import Derived.RegionIn
import Derived.Lib.IndexBytes
import Derived.Lib.BufferRead
import Derived.RegionTactic
import Derived.ChangeAlike
import Derived.Deep.RegionWith
import Derived.StillTail
import Derived.Lib.QuietBelow
import Derived.Deep.RegionHeld3
import Derived.Lib.BitFns
import Derived.Deep.CutBlock
import Derived.Deep.LoopGhost
import Derived.Lib.TrailingZeros
import Derived.BigRegion
import Derived.Shelf.Spec.BitsCarry
import Derived.Laws.Tables
import Derived.ProofKit
import Derived.OpenShut
import Derived.Carry
import Derived.Test.YtjhaogbopmhkoaaDoorRows
import Derived.LaidMore
import Derived.Lay
import Derived.SevenTiedAt
import Derived.Stop.Joined
import Derived.Lib.SmallJoins
namespace Go.Proofs.YtjhaogbopmhkoaaDoor
open Go.RowKit
set_option linter.unusedVariables false
set_option maxRecDepth 100000
section
variable {P : Program} {w0 w w' : World} {g : Option Nat} {M : List (Nat × Value)} {L : List Ob} {O : List Rw} {t e : TypeId} {z : Value} {bytes : Nat}
/-- owned lists in another order, or fewer -/
theorem Ow.re (h : Ow w0 w g M L O) {O' : List Rw} (f : Nat → Nat) (hf : ∀ i j, i < O'.length → j < O'.length → f i = f j → i = j) (hO : ∀ (i : Nat) (r : Rw), O'[i]? = some r → O[f i]? = some r) : Ow w0 w g M L O' :=
  ⟨h.st, fun i r hi => h.own (f i) r (hO i r hi), fun i r hi => h.ap (f i) r (hO i r hi), fun i j r s hi hj hij => h.two (f i) (f j) r s (hO i r hi) (hO j s hj) fun e => hij (hf i j (get_lt hi) (get_lt hj) e)⟩
end
end Go.Proofs.YtjhaogbopmhkoaaDoor

namespace Go.Proofs.YtjhaogbopmhkoaaDoor
open Go.RowKit
set_option linter.unusedVariables false
set_option maxRecDepth 100000
/-- so many rounds: whether some cell got k -/
def fewIn (cells k : Nat) : Nat → List Nat → Nat → Bool → Bool
  | 0, _, _, hit => hit
  | n + 1, cnt, x, hit => fewIn cells k n (cnt.set (x % cells) (cnt.getD (x % cells) 0 + 1)) (x / cells) (hit || decide (k ≤ cnt.getD (x % cells) 0 + 1))
/-- how many of the first ways -/
def fewGood (n cells k : Nat) : Nat → Nat
  | 0 => 0
  | w + 1 => fewGood n cells k w + (if fewIn cells k n (List.replicate cells 0) w (decide (k = 0)) then 1 else 0)
def fewOk (n cells k : Nat) : Bool := decide (ofF (fewGood n cells k (cells ^ n) : Int) ((cells ^ n : Nat) : Int) = cellF (n : Int) (cells : Int) (k : Int))
theorem few_all : ∀ n, n < 6 → ∀ c, c < 4 → ∀ k, k < 7 → fewOk n (c + 1) k = true := by decide +kernel
theorem few_eq {n c k : Nat} (hn : n < 6) (h1 : 1 ≤ c) (hc : c ≤ 4) (hk : k < 7) : ofF (fewGood n c k (c ^ n) : Int) ((c ^ n : Nat) : Int) = cellF (n : Int) (c : Int) (k : Int) := by
  obtain ⟨d, rfl⟩ : ∃ d, c = d + 1 := ⟨c - 1, by omega⟩
  exact of_decide_eq_true (few_all n hn d (by omega) k hk)
end Go.Proofs.YtjhaogbopmhkoaaDoor

namespace Go.Proofs.YtjhaogbopmhkoaaDoor
open Go.RowKit Go.Sort
set_option linter.unusedVariables false
set_option maxRecDepth 100000
def RF2 (w0 : World) (n c k N : Nat) (v8 v32 : Value) (wr : World) : Prop := ∃ (wy gd : Nat), wy ≤ N ∧ gd ≤ wy ∧ v32 = .int .i64 (wy : Int) ∧ v8 = .int .i64 (gd : Int) ∧ Hid (gd = fewGood n c k wy) ∧ Hid (Ow w0 wr none [] [] [])
def RF3 (w0 : World) (n c k N wy cb : Nat) (v11 v12 v41 : Value) (wr : World) : Prop := ∃ (j x : Nat) (hit : Bool) (cnt : List Nat), j ≤ n ∧ x ≤ N ∧ v41 = .int .i64 (j : Int) ∧ v11 = .int .i64 (x : Int) ∧ v12 = .bool hit ∧ Hid (cnt.length = c ∧ (∀ (i v : Nat), cnt[i]? = some v → v ≤ j) ∧ fewIn c k (n - j) cnt x hit = fewIn c k n (List.replicate c 0) wy (decide (k = 0))) ∧ Hid (Ow w0 wr none [] [] [⟨some ⟨cb, 0, none⟩, c, c, 3, nats cnt⟩])
theorem few_step {c k r : Nat} {cnt : List Nat} {x i0 v y : Nat} {hit : Bool} (hi : x % c = i0) (hy : x / c = y) (hv : cnt[i0]? = some v) : fewIn c k (r + 1) cnt x hit = fewIn c k r (cnt.set i0 (v + 1)) y (hit || decide (k ≤ v + 1)) := by
  subst hi hy
  have e : cnt.getD (x % c) 0 = v := by rw [List.getD_eq_getElem?_getD, hv]; rfl
  show fewIn c k r _ _ _ = _
  rw [e]
theorem ofF_err {a b : Nat} (hb : 0 < b) : ∃ u v, ofF (a : Int) (b : Int) = (u, v, 0) := by
  unfold ofF frM
  rw [if_neg (by omega), Int.toNat_natCast, Int.toNat_natCast, if_neg (by omega)]
  exact ⟨_, _, rfl⟩
theorem nats_zero (c : Nat) : List.replicate c (Value.int .i64 0) = nats (List.replicate c 0) := by
  unfold nats
  rw [List.map_replicate]; rfl
theorem nats_at {l : List Nat} {i v : Nat} (h : l[i]? = some v) : (nats l)[i]? = some (.int .i64 (v : Int)) := by
  unfold nats
  rw [List.getElem?_map, h]; rfl
theorem nats_put (l : List Nat) (i v : Nat) : (nats l).set i (.int .i64 ((v : Int) + 1)) = nats (l.set i (v + 1)) := by
  unfold nats
  rw [List.map_set]; rfl
theorem cnt_le {cnt : List Nat} {i0 v j : Nat} (h : ∀ (i v : Nat), cnt[i]? = some v → v ≤ j) (hv : cnt[i0]? = some v) : ∀ (i u : Nat), (cnt.set i0 (v + 1))[i]? = some u → u ≤ j + 1 := fun i u hu => by
  by_cases e : i = i0
  · subst e
    rw [List.getElem?_set_self (by have := List.getElem?_eq_some_iff.1 hv; exact this.1)] at hu
    have := h _ _ hv
    have := Option.some.inj hu
    omega
  · rw [List.getElem?_set_ne (fun e' => e e'.symm)] at hu
    have := h _ _ hu
    omega
set_option maxHeartbeats 16000000 in
theorem tailsFew_any (nn cc kk : Int) (w : World) (ht : Tab w) : Calls Tryd.prog 4 #[.int .i64 nn, .int .i64 cc, .int .i64 kk] w fun e w' => e = .returned (.bool true) ∧ Below w.heap.size w w' := by
  have HT := Lib.hid ht
  have HO := Lib.hid (Ow.of (St.refl w))
  obtain ⟨n, hn⟩ : ∃ n : Nat, nn % 6 = (n : Int) := ⟨(nn % 6).toNat, by omega⟩
  obtain ⟨c0, hc⟩ : ∃ c : Nat, cc % 4 = (c : Int) := ⟨(cc % 4).toNat, by omega⟩
  obtain ⟨k, hk⟩ : ∃ k : Nat, kk % 7 = (k : Int) := ⟨(kk % 7).toNat, by omega⟩
  have hn6 : n < 6 := by omega
  have hk7 : k < 7 := by omega
  have hM1 : Hid (∀ w : World, Calls Tryd.prog 14 #[.int .i64 nn, .int .i64 6] w fun e w' => e = .returned (.int .i64 (n : Int)) ∧ w = w') := fun w => by rw [← hn]; exact mod_any nn 6 w (by omega) (by omega)
  have hM2 : Hid (∀ w : World, Calls Tryd.prog 14 #[.int .i64 cc, .int .i64 4] w fun e w' => e = .returned (.int .i64 (c0 : Int)) ∧ w = w') := fun w => by rw [← hc]; exact mod_any cc 4 w (by omega) (by omega)
  have hM3 : Hid (∀ w : World, Calls Tryd.prog 14 #[.int .i64 kk, .int .i64 7] w fun e w' => e = .returned (.int .i64 (k : Int)) ∧ w = w') := fun w => by rw [← hk]; exact mod_any kk 7 w (by omega) (by omega)
  obtain ⟨c, hcc⟩ : ∃ c : Nat, 1 + c0 = c := ⟨_, rfl⟩
  have hc1 : 1 ≤ c := by omega
  have hc4 : c ≤ 4 := by omega
  have hw1 : IntKind.i64.wrap (1 + (c0 : Int)) = (c : Int) := by rw [IntWalk.i64_in _ (by omega)]; omega
  clear hn hc hk ht hcc
  go_enter Tryd.func4, Tryd.ntmps4
  go_wp2_with (go_at_call 14; ((first | (with_reducible refine (hM1.out _).mono ?_) | (with_reducible refine (hM2.out _).mono ?_) | (with_reducible refine (hM3.out _).mono ?_)); rintro e w' ⟨rfl, rfl⟩))
  clear hM1 hM2 hM3 hw1
  go_loop [7, 25] (fun v7 v25 => ∃ i p : Nat, i ≤ n ∧ v25 = .int .i64 (i : Int) ∧ v7 = .int .i64 (p : Int) ∧ Hid (p = c ^ i)) (fun _ v25 => n + 1 - (intOf v25).toNat)
  case atStart => exact ⟨0, 1, Nat.zero_le _, rfl, rfl, rfl⟩
  case round =>
    obtain ⟨i, p, hi, rfl, rfl, hp⟩ := hrel
    have hp4 : p ≤ 1024 := by rw [hp.out]; exact Nat.le_trans (Nat.pow_le_pow_left hc4 i) (Nat.le_trans (Nat.pow_le_pow_right (n := 4) (by omega) (show i ≤ 5 by omega)) (by decide))
    rcases Nat.eq_or_lt_of_le hi with he | hlt
    · subst he
      have hd : decide ((i : Int) < (i : Int)) = false := decide_eq_false (by omega)
      have hd2 : decide (i < i) = false := decide_eq_false (by omega)
      go_wp2_with fail
      go_loopw [8, 32] (fun v8 v32 wr => RF2 w i c k p v8 v32 wr) (fun _ v32 _ => p + 1 - (intOf v32).toNat)
      case atStart => exact ⟨0, 0, Nat.zero_le _, Nat.le_refl _, rfl, rfl, rfl, HO⟩
      case round =>
        clear HO hd hd2
        obtain ⟨wy, gd, hwy, hgd, rfl, rfl, HG, HO⟩ := hrel
        rcases Nat.eq_or_lt_of_le hwy with he | hlt
        · subst he
          have hd : decide ((wy : Int) < (wy : Int)) = false := decide_eq_false (by omega)
          have hd2 : decide (wy < wy) = false := decide_eq_false (by omega)
          have hgf : ofF (gd : Int) (wy : Int) = cellF (i : Int) (c : Int) (k : Int) := by rw [HG.out, hp.out]; exact few_eq hn6 hc1 hc4 hk7
          have hw0 : 0 < wy := by rw [hp.out]; exact Nat.pow_pos hc1
          obtain ⟨u1, u2, hof⟩ := ofF_err (a := gd) hw0
          have ht := hgf.symm.trans hof
          rw [hof] at hgf
          have HC := Lib.hid (qrof_ow HO.out (gd : Int) (wy : Int) (by omega) (by omega))
          rw [hof] at HC
          have HTq := Lib.hid ht
          clear HO HG hgf ht hof hw0
          go_wp2_with fail
          refine HC.out.mono ?_
          rintro e w1 ⟨A1, n1, c1, A2, n2, c2, rfl, G⟩
          have H := G.pair (.slice A1 n1 c1) (.slice A2 n2 c2) 26
          simp only [List.nil_append, List.cons_append] at H
          clear G HC
          have HC := Lib.hid (t_cells_any H (i : Int) (c : Int) (k : Int) HT.out)
          rw [HTq.out] at HC
          clear H
          go_wp2_with fail
          refine HC.out.mono ?_
          rintro e w2 ⟨A3, n3, c3, A4, n4, c4, rfl, G⟩
          have H := G.pair (.slice A3 n3 c3) (.slice A4 n4 c4) 26
          simp only [List.nil_append, List.cons_append] at H
          clear G HC
          have a0 := H.p0 0 rfl
          have a1 := H.p1 0 rfl
          have b0 := H.p0 1 rfl
          have b1 := H.p1 1 rfl
          have HC := Lib.hid (same23 (p := Na.up (Na.dig u1)) (q := Na.up (Na.dig u2)) H 2 3 0 1 (by rw [nats_up]; rfl) (by rw [nats_up]; rfl) (by rw [nats_up]; rfl) (by rw [nats_up]; rfl) 0)
          clear H
          go_wp2_with fail
          refine HC.out.mono ?_
          rintro e w3 ⟨rfl, H⟩
          clear HC a0 a1 b0 b1
          have HC := Lib.hid (awake23_ow H HT.out)
          clear H
          go_wp2_with fail
          refine HC.out.mono ?_
          rintro e w4 ⟨rfl, H⟩
          have HB := Lib.hid H.below
          clear H HC
          go_wp2_with fail
          go_ret
          exact ⟨rfl, HB.out⟩
        · have hd : decide ((wy : Int) < (p : Int)) = true := decide_eq_true (by omega)
          have hd2 : decide (wy < p) = true := decide_eq_true hlt
          obtain ⟨h0, hh0⟩ : ∃ h0, decide (k = 0) = h0 := ⟨_, rfl⟩
          have hk0 : (((k : Int)) == 0) = h0 := by rw [← hh0]; by_cases e : k = 0 <;> simp [e]
          have hmk := fun W => elemI.make .i64 .i64 (c : Int) (c : Int) c c rfl rfl (Nat.le_refl _) (by omega) (by omega) W
          have H := HO.out.made 3 (.int .i64 0) c c rfl (Nat.le_refl _) (by unfold maxLen; omega)
          rw [nats_zero] at H
          simp only [List.nil_append] at H
          have HI := Lib.hid H
          obtain ⟨cb, hcb⟩ : ∃ r, wr.heap.size = r := ⟨_, rfl⟩
          rw [hcb] at HI
          have HCB := Lib.hid hcb
          have hp4' : wy ≤ 1024 := by omega
          clear H HO hcb
          go_wp2_with fail
          rw [HCB.out]
          go_loopw [11, 12, 41] (fun v11 v12 v41 wr => RF3 w i c k p wy cb v11 v12 v41 wr) (fun _ _ v41 _ => i + 1 - (intOf v41).toNat)
          case atStart =>
            refine ⟨0, wy, h0, _, Nat.zero_le _, by omega, rfl, rfl, rfl, ⟨List.length_replicate .., ?_, ?_⟩, HI⟩
            · intro i v h
              rw [List.getElem?_replicate] at h
              split at h
              · have := Option.some.inj h; omega
              · cases h
            · rw [← hh0]; rfl
          case round =>
            clear HI hmk
            obtain ⟨j, x, hit, cnt, hj, hx, rfl, rfl, rfl, HC, HO⟩ := hrel
            rcases Nat.eq_or_lt_of_le hj with he | hlt3
            · subst he
              have hd3 : decide ((j : Int) < (j : Int)) = false := decide_eq_false (by omega)
              have hd4 : decide (j < j) = false := decide_eq_false (by omega)
              have HH := HC.out.2.2
              rw [Nat.sub_self] at HH
              have hhit : hit = fewIn c k j (List.replicate c 0) wy (decide (k = 0)) := HH
              have HN := Lib.hid (HO.out.fewO (O := []))
              have HG2 : Hid (gd + (if hit then 1 else 0) = fewGood j c k (wy + 1)) := by
                unfold Hid
                show _ = fewGood j c k wy + _
                rw [← hhit, HG.out]
              clear HO HC HH hhit HG
              cases hit with
              | true =>
                go_wp2_with fail
                go_roundw
                case rel => exact ⟨wy + 1, gd + 1, by omega, by omega, int_eqv (by omega), int_eqv (by omega), HG2, HN⟩
                case measure => first | (simp [intOf]; done) | (simp [intOf]; omega)
              | false =>
                go_wp2_with fail
                go_roundw
                case rel => exact ⟨wy + 1, gd, by omega, by omega, int_eqv (by omega), rfl, HG2, HN⟩
                case measure => first | (simp [intOf]; done) | (simp [intOf]; omega)
            · have hd3 : decide ((j : Int) < (i : Int)) = true := decide_eq_true (by omega)
              have hd4 : decide (j < i) = true := decide_eq_true hlt3
              obtain ⟨i0, hi0⟩ : ∃ z, x % c = z := ⟨_, rfl⟩
              have hic : i0 < c := by rw [← hi0]; exact Nat.mod_lt _ hc1
              obtain ⟨y, hy⟩ : ∃ z, x / c = z := ⟨_, rfl⟩
              have hyx : y ≤ x := by rw [← hy]; exact Nat.div_le_self _ _
              obtain ⟨v, hv⟩ : ∃ v, cnt[i0]? = some v := ⟨_, List.getElem?_eq_getElem (by rw [HC.out.1]; exact hic)⟩
              have hvj := HC.out.2.1 i0 v hv
              have m1 : (x : Int).tmod (c : Int) = (i0 : Int) := by rw [← hi0]; rfl
              have m2 : (x : Int) % (c : Int) = (i0 : Int) := by rw [← hi0]; rfl
              have m3 : (x : Int).tdiv (c : Int) = (y : Int) := by rw [← hy]; rfl
              have m4 : (x : Int) / (c : Int) = (y : Int) := by rw [← hy]; rfl
              have m5 : ((c : Int) == 0) = false := by rw [beq_eq_false_iff_ne]; omega
              have q1 : (0 : Int) ≤ (i0 : Int) := by omega
              have q2 : (i0 : Int) < (c : Int) := by omega
              have hwv : IntKind.i64.wrap ((v : Int) + 1) = (v : Int) + 1 := IntWalk.i64_in _ (by omega)
              have c1 := cell_row HO.out (i := 0) rfl (nats_at hv) (by omega)
              have f1 := (HO.out.own 0 _ rfl).frozenAt i0
              have H2 := HO.out.put 0 rfl i0 (.int .i64 ((v : Int) + 1))
              rw [List.set_cons_zero, nats_put] at H2
              have c2 := cell_row H2 (i := 0) rfl (nats_at (v := v + 1) (List.getElem?_set_self (by rw [HC.out.1]; exact hic))) (by omega)
              have HH2 := Lib.hid H2
              obtain ⟨b, hb⟩ : ∃ b, (hit || decide (k ≤ v + 1)) = b := ⟨_, rfl⟩
              have HC2 : Hid ((cnt.set i0 (v + 1)).length = c ∧ (∀ (z u : Nat), (cnt.set i0 (v + 1))[z]? = some u → u ≤ j + 1) ∧ fewIn c k (i - (j + 1)) (cnt.set i0 (v + 1)) y b = fewIn c k i (List.replicate c 0) wy (decide (k = 0))) := by
                refine ⟨by rw [List.length_set]; exact HC.out.1, cnt_le HC.out.2.1 hv, ?_⟩
                rw [← HC.out.2.2, show i - j = (i - (j + 1)) + 1 by omega, few_step hi0 hy hv, hb]
              clear hi0 hy hv HO H2 HC
              cases hit with
              | true =>
                obtain rfl : b = true := by rw [← hb]; rfl
                clear hb
                go_wp2_with fail
                go_roundw
                case rel => exact ⟨j + 1, y, true, cnt.set i0 (v + 1), by omega, by omega, int_eqv (by omega), rfl, rfl, HC2, HH2⟩
                case measure => first | (simp [intOf]; done) | (simp [intOf]; omega)
              | false =>
                have hb1 : decide (k ≤ v + 1) = b := by rw [← hb]; rfl
                have hb2 : decide ((k : Int) ≤ (v : Int) + 1) = b := by rw [← hb1]; congr 1; exact propext ⟨fun h => by omega, fun h => by omega⟩
                clear hb
                go_wp2_with fail
                go_roundw
                case rel => exact ⟨j + 1, y, b, cnt.set i0 (v + 1), by omega, by omega, int_eqv (by omega), rfl, rfl, HC2, HH2⟩
                case measure => first | (simp [intOf]; done) | (simp [intOf]; omega)
    · have hd : decide ((i : Int) < (n : Int)) = true := decide_eq_true (by omega)
      have hd2 : decide (i < n) = true := decide_eq_true hlt
      obtain ⟨q, hq⟩ : ∃ q, p * c = q := ⟨_, rfl⟩
      have hq4 : q ≤ 4096 := by rw [← hq]; exact Nat.mul_le_mul hp4 hc4
      have hqi : (p : Int) * (c : Int) = (q : Int) := by rw [← hq]; rfl
      have hwr : IntKind.i64.wrap ((p : Int) * (c : Int)) = (q : Int) := by rw [hqi]; exact IntWalk.i64_in _ (by omega)
      have HQ : Hid (q = c ^ (i + 1)) := by unfold Hid; rw [← hq, Nat.pow_succ, hp.out]
      clear hq hqi
      go_wp2_with fail
      go_round
      case rel => exact ⟨i + 1, q, hlt, int_eqv (by omega), rfl, HQ⟩
      case measure => simp [intOf]; omega
end Go.Proofs.YtjhaogbopmhkoaaDoor


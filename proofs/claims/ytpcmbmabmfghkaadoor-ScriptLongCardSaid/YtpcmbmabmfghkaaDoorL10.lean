/- SdH ScriptLongW LawSl ScTab -/
import Derived.Test.YtpcmbmabmfghkaaDoorL01
import Derived.Test.YtpcmbmabmfghkaaDoorL04
import Derived.Test.YtpcmbmabmfghkaaDoorL08
import Derived.Test.YtpcmbmabmfghkaaDoorL09
import Derived.WalkKit
import Derived.ProofKit
import Derived.OpenShut
import Derived.Below
import Derived.Carry
import Derived.Test.YtpcmbmabmfghkaaDoorRows
import Derived.LaidMore
import Derived.LaidSub
import Derived.Lay
import Derived.SevenTiedAt
import Derived.Stop.Joined
import Derived.Lib.SmallJoins
import Derived.Lib.LaidTab
import Derived.HandedShaped
namespace Go.Proofs.YtpcmbmabmfghkaaDoor
open Go.RowKit
set_option linter.unusedVariables false
set_option maxRecDepth 100000
theorem evs_length : ∀ k, (evs k).length = k * 26
  | 0 => rfl
  | k + 1 => by
    show (evs k ++ ([.int .i64 8, .int .i64 0, .int .i64 0, .int .i64 0, .int .i64 0, .int .i64 0, .int .i64 0, .int .i64 0, .slice none 0 0, .int .i64 0, .int .i64 0, .int .i64 0, .int .i64 0, .int .i64 0, .int .i64 0, .int .i64 0, .int .i64 0, .int .u8 0, .int .u8 0, .bool false, .int .i64 0, .int .i64 0, .int .i64 0, .int .i64 0, .bool false, .bool false] : List Value)).length = _
    rw [List.length_append, evs_length k]
    show k * 26 + 26 = _
    omega
theorem evs_at {j : Nat} : ∀ {k : Nat}, j < k → ∀ (i : Nat) (v : Value), ([.int .i64 8, .int .i64 0, .int .i64 0, .int .i64 0, .int .i64 0, .int .i64 0, .int .i64 0, .int .i64 0, .slice none 0 0, .int .i64 0, .int .i64 0, .int .i64 0, .int .i64 0, .int .i64 0, .int .i64 0, .int .i64 0, .int .i64 0, .int .u8 0, .int .u8 0, .bool false, .int .i64 0, .int .i64 0, .int .i64 0, .int .i64 0, .bool false, .bool false] : List Value)[i]? = some v → (evs k)[j * 26 + i]? = some v
  | 0, h, _, _, _ => absurd h (by omega)
  | k + 1, h, i, v, hi => by
    show (evs k ++ ([.int .i64 8, .int .i64 0, .int .i64 0, .int .i64 0, .int .i64 0, .int .i64 0, .int .i64 0, .int .i64 0, .slice none 0 0, .int .i64 0, .int .i64 0, .int .i64 0, .int .i64 0, .int .i64 0, .int .i64 0, .int .i64 0, .int .i64 0, .int .u8 0, .int .u8 0, .bool false, .int .i64 0, .int .i64 0, .int .i64 0, .int .i64 0, .bool false, .bool false] : List Value))[j * 26 + i]? = some v
    have h26 : i < 26 := get_lt hi
    rcases Nat.eq_or_lt_of_le (Nat.le_of_lt_succ h) with rfl | h'
    · rw [List.getElem?_append_right (by rw [evs_length]; omega), evs_length]
      rw [show j * 26 + i - j * 26 = i by omega]
      exact hi
    · rw [List.getElem?_append_left (by rw [evs_length]; omega)]
      exact evs_at h' i v hi
/-- a list of k events can be read -/
def EvsAt (w : World) (A : Option Addr) (k : Nat) : Prop := 0 < k → ∃ gb, A = some ⟨gb, 0, none⟩ ∧ gb < w.heap.size ∧ w.rangeAt gb 0 (evs k)
theorem EvsAt.go {w w' : World} {A : Option Addr} {k : Nat} (h : EvsAt w A k) (hb : Below w.heap.size w w') : EvsAt w' A k := fun hk => by
  obtain ⟨gb, hA, hl, hr⟩ := h hk
  exact ⟨gb, hA, Nat.lt_of_lt_of_le hl hb.size, fun i v hi => (hb.cell (p := ⟨gb, 0 + i, none⟩) hl).trans (hr i v hi)⟩
theorem EvsAt.of {w0 w : World} {A : Option Addr} {k c : Nat} (h : Ox w0 w none [] [] [] [⟨A, k, c, 37, 26, evs k⟩]) : EvsAt w A k := fun hk => by
  have ho := h.row 0 rfl
  obtain ⟨g, cap, hv, _, hlt⟩ := ho.form hk
  have hA : A = some ⟨g, 0, none⟩ := by injection hv
  subst hA
  exact ⟨g, rfl, hlt, fun i v hi => by
    have := ho.cells (g := g) rfl i v hi
    rw [add_zero] at this
    rw [Nat.zero_add]
    exact this⟩
theorem EvsAt.elr {w0 w : World} {g o : Nat} {cs : List Value} (h : w0.rangeAt g o cs) (hb : Below w0.heap.size w0 w) (hg : g < w0.heap.size) : w.rangeAt g o cs := fun i v hi => (hb.cell (p := ⟨g, o + i, none⟩) hg).trans (h i v hi)
theorem EvsAt.el {w : World} {gb k j : Nat} (h : w.rangeAt gb 0 (evs k)) (hj : j < k) : w.rangeAt gb (j * 26) [.int .i64 8, .int .i64 0, .int .i64 0, .int .i64 0, .int .i64 0, .int .i64 0, .int .i64 0, .int .i64 0, .slice none 0 0, .int .i64 0, .int .i64 0, .int .i64 0, .int .i64 0, .int .i64 0, .int .i64 0, .int .i64 0, .int .i64 0, .int .u8 0, .int .u8 0, .bool false, .int .i64 0, .int .i64 0, .int .i64 0, .int .i64 0, .bool false, .bool false] := fun i v hi => by
  have := h (j * 26 + i) v (evs_at hj i v hi)
  rw [Nat.zero_add] at this
  exact this
structure SmeK (base : World) (tb gb j k c : Nat) (Ld : Nat → Bool) (u0 u1 u2 u3 u4 u5 u6 : Value) (W : World) : Prop where
  bw : Below base.heap.size base W
  h0 : Ld 0 = true → u0 = .agg #[.int .i64 8, .int .i64 0, .int .i64 0, .int .i64 0, .int .i64 0, .int .i64 0, .int .i64 0, .int .i64 0, .slice none 0 0, .int .i64 0, .int .i64 0, .int .i64 0, .int .i64 0, .int .i64 0, .int .i64 0, .int .i64 0, .int .i64 0, .int .u8 0, .int .u8 0, .bool false, .int .i64 0, .int .i64 0, .int .i64 0, .int .i64 0, .bool false, .bool false]
  h1 : Ld 1 = true → u1 = .slice (some ⟨gb, 0, none⟩) k c
  h2 : Ld 2 = true → u2 = .int .i64 (j : Int)
  h3 : Ld 3 = true → u3 = .pointer (some ⟨gb, j * 26, none⟩)
  h4 : Ld 4 = true → u4 = .agg #[.int .i64 8, .int .i64 0, .int .i64 0, .int .i64 0, .int .i64 0, .int .i64 0, .int .i64 0, .int .i64 0, .slice none 0 0, .int .i64 0, .int .i64 0, .int .i64 0, .int .i64 0, .int .i64 0, .int .i64 0, .int .i64 0, .int .i64 0, .int .u8 0, .int .u8 0, .bool false, .int .i64 0, .int .i64 0, .int .i64 0, .int .i64 0, .bool false, .bool false]
  h5 : Ld 5 = true → u5 = .bool true
  h6 : Ld 6 = true → u6 = .bool false
def SmeI (base : World) (tb gb j k c : Nat) (A0 : Act) (Ld : Nat → Bool) (a : Act) (W : World) : Prop :=
  ∃ (u0 u1 u2 u3 u4 u5 u6 : Value), a = (((((((A0.put (some 19) u0).put (some 20) u1).put (some 21) u2).put (some 22) u3).put (some 23) u4).put (some 24) u5).put (some 25) u6) ∧ SmeK base tb gb j k c Ld u0 u1 u2 u3 u4 u5 u6 W
set_option maxHeartbeats 4000000 in
theorem same_evs (k : Nat) (hk : k ≤ 1000) (w : World) (A B : Option Addr) (c c' : Nat) (hA : EvsAt w A k) (hB : EvsAt w B k) :
    Calls Tryd.prog 10 #[.slice A k c, .slice B k c'] w fun e w' => e = .returned (.bool true) ∧ Below w.heap.size w w' := by
  have HA := Lib.hid hA
  have HB := Lib.hid hB
  have H0 := Lib.hid (Below.refl w.heap.size w)
  clear hA hB
  go_enter Tryd.func10, Tryd.ntmps10
  go_wp2_with (with_reducible refine upon_id ?_; go_simp)
  go_loopw [14] (fun x14 wr => ∃ j, j ≤ k ∧ x14 = .int .i64 (j : Int) ∧ Hid (Below w.heap.size w wr)) (fun x14 _ => match x14 with | .int _ i => (1001 - i).toNat | _ => 0)
  case atStart => exact ⟨0, Nat.zero_le _, rfl, H0⟩
  case round =>
    clear H0
    obtain ⟨j, hj, rfl, HW⟩ := hrel
    rcases Nat.eq_or_lt_of_le hj with heq | hlt
    · subst heq
      go_wp2_with (with_reducible refine upon_id ?_; go_simp)
      go_ret
      exact ⟨rfl, HW.out⟩
    · have hA := HA.out (by omega)
      obtain ⟨ga, rfl, hga, hra⟩ := hA
      obtain ⟨gb, rfl, hgb, hrb⟩ := HB.out (by omega)
      have HK := Lib.hid (And.intro (And.intro hga (EvsAt.el hra hlt)) (And.intro hgb (EvsAt.el hrb hlt)))
      clear hga hra hgb hrb HA HB
      have hj2 : j ≤ 1000 := by omega
      have HKK := Lib.hid (And.intro hlt hk)
      clear hj hk
      have h2 := (Ow.of (St.refl wr)).arr #[.int .i64 0, .int .i64 0, .int .i64 0, .int .i64 0, .int .i64 0, .int .i64 0, .int .i64 0, .int .i64 0, .slice none 0 0, .int .i64 0, .int .i64 0, .int .i64 0, .int .i64 0, .int .i64 0, .int .i64 0, .int .i64 0, .int .i64 0, .int .u8 0, .int .u8 0, .bool false, .int .i64 0, .int .i64 0, .int .i64 0, .int .i64 0, .bool false, .bool false] 26 rfl (by omega) 37
      simp only [List.nil_append] at h2
      have hg := (h2.rowHeap 0 rfl).1
      have h3 := h2.putRow (k := 26) 0 rfl #[.int .i64 8, .int .i64 0, .int .i64 0, .int .i64 0, .int .i64 0, .int .i64 0, .int .i64 0, .int .i64 0, .slice none 0 0, .int .i64 0, .int .i64 0, .int .i64 0, .int .i64 0, .int .i64 0, .int .i64 0, .int .i64 0, .int .i64 0, .int .u8 0, .int .u8 0, .bool false, .int .i64 0, .int .i64 0, .int .i64 0, .int .i64 0, .bool false, .bool false] rfl (by omega)
      simp only [List.set_cons_zero] at h3
      have hra := Lib.hid (EvsAt.elr HK.out.1.2 HW.out HK.out.1.1)
      have HG := Lib.hid hg
      have HE := Lib.hid h3
      clear h2 h3 hg
      go_upto_region 5 with (with_reducible refine upon_id ?_; go_simp)
      iterate 15 (first | refine wpList_load_mid rfl 37 (.tmp 17) rfl ga (j * 26) rfl [.int .i64 8, .int .i64 0, .int .i64 0, .int .i64 0, .int .i64 0, .int .i64 0, .int .i64 0, .int .i64 0, .slice none 0 0, .int .i64 0, .int .i64 0, .int .i64 0, .int .i64 0, .int .i64 0, .int .i64 0, .int .i64 0, .int .i64 0, .int .u8 0, .int .u8 0, .bool false, .int .i64 0, .int .i64 0, .int .i64 0, .int .i64 0, .bool false, .bool false] _ hra.out Tryd.underlying37 rfl sizeEv ?_ | refine wpList_store_row rfl 37 (.tmp 6) (.tmp 18) rfl wr.heap.size #[.int .i64 8, .int .i64 0, .int .i64 0, .int .i64 0, .int .i64 0, .int .i64 0, .int .i64 0, .int .i64 0, .slice none 0 0, .int .i64 0, .int .i64 0, .int .i64 0, .int .i64 0, .int .i64 0, .int .i64 0, .int .i64 0, .int .i64 0, .int .u8 0, .int .u8 0, .bool false, .int .i64 0, .int .i64 0, .int .i64 0, .int .i64 0, .bool false, .bool false] rfl rfl 37 _ HG.out sizeEv rfl (by simp [Value.oneCell']) ?_ | go_step)
      have hbelow := HE.out.below
      have hgrow := (HE.out.rowHeap 0 rfl).1
      have hlt2 := (HE.out.lt (i := 0) rfl rfl).1
      generalize hw3 : (World.setRow _ wr.heap.size #[.int .i64 8, .int .i64 0, .int .i64 0, .int .i64 0, .int .i64 0, .int .i64 0, .int .i64 0, .int .i64 0, .slice none 0 0, .int .i64 0, .int .i64 0, .int .i64 0, .int .i64 0, .int .i64 0, .int .i64 0, .int .i64 0, .int .i64 0, .int .u8 0, .int .u8 0, .bool false, .int .i64 0, .int .i64 0, .int .i64 0, .int .i64 0, .bool false, .bool false]) = w3 at *
      have hb : wr.heap.size < w3.heap.size ∧ w3.heap[wr.heap.size]? = some (.cells #[.int .i64 8, .int .i64 0, .int .i64 0, .int .i64 0, .int .i64 0, .int .i64 0, .int .i64 0, .int .i64 0, .slice none 0 0, .int .i64 0, .int .i64 0, .int .i64 0, .int .i64 0, .int .i64 0, .int .i64 0, .int .i64 0, .int .i64 0, .int .u8 0, .int .u8 0, .bool false, .int .i64 0, .int .i64 0, .int .i64 0, .int .i64 0, .bool false, .bool false] 37 (0, 0)) ∧ gb < w3.heap.size ∧ w3.rangeAt gb (j * 26) [.int .i64 8, .int .i64 0, .int .i64 0, .int .i64 0, .int .i64 0, .int .i64 0, .int .i64 0, .int .i64 0, .slice none 0 0, .int .i64 0, .int .i64 0, .int .i64 0, .int .i64 0, .int .i64 0, .int .i64 0, .int .i64 0, .int .i64 0, .int .u8 0, .int .u8 0, .bool false, .int .i64 0, .int .i64 0, .int .i64 0, .int .i64 0, .bool false, .bool false] := ⟨hlt2, hgrow, Nat.lt_of_lt_of_le HK.out.2.1 (Nat.le_trans HW.out.size hbelow.size), EvsAt.elr HK.out.2.2 (HW.out.trans (below_less hbelow HW.out.size)) HK.out.2.1⟩
      have HWN := Lib.hid (HW.out.trans (below_less hbelow HW.out.size))
      clear hw3 hbelow hgrow hlt2 HG HE hra HW
      obtain ⟨tb, htb⟩ : ∃ tb, tb = wr.heap.size := ⟨_, rfl⟩
      rw [← htb] at hb
      rw [← htb]
      clear htb
      go_upto_region 6 with (with_reducible refine upon_id ?_; go_simp)
      refine reg_inv34 (SmeI w3 tb gb j k c') (by kernel_rfl) (by kernel_rfl) ?_ ?_ ?_
      · refine ⟨u19, u20, u21, u22, u23, u24, u25, ?_, ⟨(Below.refl _ _).drew, ?_, ?_, ?_, ?_, ?_, ?_, ?_⟩⟩
        · simp only [Act.put, List.setIfInBounds_toArray, List.set_cons_zero, List.set_cons_succ]
        all_goals (intro h; cases h)
      · rintro jj Ld b W hj hf hcl hd ⟨u0, u1, u2, u3, u4, u5, u6, rfl, hC⟩
        have hj' : jj < 7 := hj
        have hcase : jj = 0 ∨ jj = 1 ∨ jj = 2 ∨ jj = 3 ∨ jj = 4 ∨ jj = 5 ∨ jj = 6 := by omega
        clear hj hj'
        simp only [Act.put, List.setIfInBounds_toArray, List.set_cons_zero, List.set_cons_succ]
        rcases hcase with rfl | rfl | rfl | rfl | rfl | rfl | rfl
        · clear hd hcl
          refine wpOp_step rfl (fun K hK => ?_)
          rw [if_pos (by rfl)]
          refine wp_load_row 37 (.tmp 6) rfl tb rfl 37 #[.int .i64 8, .int .i64 0, .int .i64 0, .int .i64 0, .int .i64 0, .int .i64 0, .int .i64 0, .int .i64 0, .slice none 0 0, .int .i64 0, .int .i64 0, .int .i64 0, .int .i64 0, .int .i64 0, .int .i64 0, .int .i64 0, .int .i64 0, .int .u8 0, .int .u8 0, .bool false, .int .i64 0, .int .i64 0, .int .i64 0, .int .i64 0, .bool false, .bool false] (0, 0) _ ((hC.bw.block _ hb.1).trans hb.2.1) Tryd.underlying37 rfl sizeEv ?_
          refine hK _ _ ⟨_, u1, u2, u3, u4, u5, u6, ?_, ⟨hC.bw, fun _ => rfl, hC.h1, hC.h2, hC.h3, hC.h4, hC.h5, hC.h6⟩⟩
          simp only [Act.put, List.setIfInBounds_toArray, List.set_cons_zero, List.set_cons_succ]
          rfl
        · clear hd hcl
          refine wpOp_step rfl (fun K hK => ?_)
          go_simp
          refine hK _ _ ⟨u0, _, u2, u3, u4, u5, u6, ?_, ⟨hC.bw, hC.h0, fun _ => rfl, hC.h2, hC.h3, hC.h4, hC.h5, hC.h6⟩⟩
          simp only [Act.put, List.setIfInBounds_toArray, List.set_cons_zero, List.set_cons_succ]
        · clear hd hcl
          refine wpOp_step rfl (fun K hK => ?_)
          go_simp
          refine hK _ _ ⟨u0, u1, _, u3, u4, u5, u6, ?_, ⟨hC.bw, hC.h0, hC.h1, fun _ => rfl, hC.h3, hC.h4, hC.h5, hC.h6⟩⟩
          simp only [Act.put, List.setIfInBounds_toArray, List.set_cons_zero, List.set_cons_succ]
        · obtain rfl := hC.h1 (hd 1 (by kernel_rfl))
          obtain rfl := hC.h2 (hd 2 (by kernel_rfl))
          clear hd hcl
          refine wpOp_step rfl (fun K hK => ?_)
          go_simp
          refine hK _ _ ⟨u0, _, _, _, u4, u5, u6, ?_, ⟨hC.bw, hC.h0, hC.h1, hC.h2, fun _ => rfl, hC.h4, hC.h5, hC.h6⟩⟩
          simp only [Act.put, List.setIfInBounds_toArray, List.set_cons_zero, List.set_cons_succ]
        · obtain rfl := hC.h3 (hd 3 (by kernel_rfl))
          clear hd hcl
          refine wpOp_step rfl (fun K hK => ?_)
          rw [if_pos (by rfl)]
          refine wp_load_mid 37 (.tmp 22) rfl gb (j * 26) rfl [.int .i64 8, .int .i64 0, .int .i64 0, .int .i64 0, .int .i64 0, .int .i64 0, .int .i64 0, .int .i64 0, .slice none 0 0, .int .i64 0, .int .i64 0, .int .i64 0, .int .i64 0, .int .i64 0, .int .i64 0, .int .i64 0, .int .i64 0, .int .u8 0, .int .u8 0, .bool false, .int .i64 0, .int .i64 0, .int .i64 0, .int .i64 0, .bool false, .bool false] _ (fun i v hi => (hC.bw.cell hb.2.2.1).trans (hb.2.2.2 i v hi)) Tryd.underlying37 rfl sizeEv ?_
          refine hK _ _ ⟨u0, u1, u2, _, _, u5, u6, ?_, ⟨hC.bw, hC.h0, hC.h1, hC.h2, hC.h3, fun _ => rfl, hC.h5, hC.h6⟩⟩
          simp only [Act.put, List.setIfInBounds_toArray, List.set_cons_zero, List.set_cons_succ]
          rfl
        · obtain rfl := hC.h0 (hd 0 (by kernel_rfl))
          obtain rfl := hC.h4 (hd 4 (by kernel_rfl))
          clear hd hcl
          refine wpOp_step rfl (fun K hK => ?_)
          go_simp
          refine (same45_plain 8 _).mono ?_
          rintro e W' ⟨rfl, hb4⟩
          refine hK _ _ ⟨_, u1, u2, u3, _, _, u6, ?_, ⟨hC.bw.trans (below_less hb4 hC.bw.size), hC.h0, hC.h1, hC.h2, hC.h3, hC.h4, fun _ => rfl, hC.h6⟩⟩
          simp only [Act.put, List.setIfInBounds_toArray, List.set_cons_zero, List.set_cons_succ]
        · obtain rfl := hC.h5 (hd 5 (by kernel_rfl))
          clear hd hcl
          refine wpOp_step rfl (fun K hK => ?_)
          go_simp
          refine hK _ _ ⟨u0, u1, u2, u3, u4, _, _, ?_, ⟨hC.bw, hC.h0, hC.h1, hC.h2, hC.h3, hC.h4, hC.h5, fun _ => rfl⟩⟩
          simp only [Act.put, List.setIfInBounds_toArray, List.set_cons_zero, List.set_cons_succ]
      · rintro Ld b W hL ⟨u0, u1, u2, u3, u4, u5, u6, rfl, hC⟩
        obtain rfl := hC.h6 (hL 6 (by show 6 < 7; decide))
        have HWE := Lib.hid (HWN.out.trans (below_less hC.bw HWN.out.size))
        clear hC hL hb HK HWN
        simp only [Act.put, List.setIfInBounds_toArray, List.set_cons_zero, List.set_cons_succ]
        go_wp2_with (with_reducible refine upon_id ?_; go_simp)
        go_roundw
        case rel => exact ⟨j + 1, HKK.out.1, rfl, HWE⟩
        case measure =>
          show (1001 - ((j : Int) + 1)).toNat < (1001 - (j : Int)).toNat
          omega
end Go.Proofs.YtpcmbmabmfghkaaDoor

namespace Go.Proofs.YtpcmbmabmfghkaaDoor
open Go.RowKit
set_option linter.unusedVariables false
set_option maxRecDepth 100000
theorem syn_snoc : ∀ n, syn (n + 1) = syn n ++ [115, 121, 110, 99, 10]
  | 0 => rfl
  | n + 1 => by
    show 115 :: 121 :: 110 :: 99 :: 10 :: syn (n + 1) = 115 :: 121 :: 110 :: 99 :: 10 :: (syn n ++ [115, 121, 110, 99, 10])
    rw [syn_snoc n]
theorem spc_snoc (n : Nat) : spc (n + 1) = spc n ++ [32] := List.replicate_succ'
theorem conv_row {w0 w : World} {g n c : Nat} {l : List UInt8} (h : w.ownsRow w0.heap.size 5 1 (.slice (some ⟨g, 0, none⟩) n c) n (Lib.byteCells l)) : (convert 27 9 (.slice (some ⟨g, 0, none⟩) n c)).run Tryd.prog w = .ok (.string (str l)) w := by
  have hn : n = l.length := by
    have := h.1
    rw [Lib.byteCells_length] at this
    omega
  subst hn
  exact run_convert_bytes_back w 27 9 5 ⟨g, 0, none⟩ c l Tryd.underlying27 Tryd.underlying5 Tryd.underlying9 (fun j hj => h.cells (g := g) rfl j _ (by
    unfold Lib.byteCells
    rw [List.getElem?_map, List.getElem?_eq_getElem hj]
    rfl))
theorem parse_spcN (n : Nat) (h0 : 0 < n) (hn : n ≤ 65536) (w : World) (m : Int) (hm : w.cell? ⟨0, 0, none⟩ = some (.int .i64 m)) :
    Calls Tryd.prog 8 #[.int .i64 1, .string (str (spc n))] w fun e w' => e = .returned (.tuple #[.slice none 0 0, .int .i64 49]) ∧ Below w.heap.size w w' := by
  obtain ⟨k, rfl⟩ : ∃ k, n = k + 1 := ⟨n - 1, by omega⟩
  exact parse_spc k (by omega) w m hm
def RL1 (w : World) (N : Nat) (x5 x6 : Value) (wr : World) : Prop :=
  ∃ (j : Nat) (A : Option Addr) (c : Nat), j ≤ N ∧ x6 = .int .i64 (j : Int) ∧ x5 = .slice A (5 * j) c ∧ Hid (Below w.heap.size w wr ∧ wr.ownsRow w.heap.size 5 1 (.slice A (5 * j) c) (5 * j) (Lib.byteCells (syn j)))
def RL2 (w : World) (N : Nat) (x5 : Value) (wr : World) : Prop :=
  ∃ (j : Nat) (A : Option Addr) (c : Nat), j ≤ N ∧ x5 = .slice A j c ∧ Hid (Ow w wr none [] [] [⟨A, j, c, 5, Lib.byteCells (spc j)⟩])
theorem apS {w0 w w' : World} {j c : Nat} {A : Option Addr} {v : Value} (hb : Below w0.heap.size w0 w) (ho0 : w.ownsRow w0.heap.size 5 1 (.slice A (5 * j) c) (5 * j) (Lib.byteCells (syn j))) (ho : w'.ownsRow w0.heap.size 5 1 v (5 * j + 5) (Lib.byteCells (syn j) ++ Lib.strCells ⟨#[115, 121, 110, 99, 10]⟩)) (hg : w.grownBy w' (Value.slice A (5 * j) c).ownBlock) : ∃ A' c', v = .slice A' (5 * (j + 1)) c' ∧ Below w0.heap.size w0 w' ∧ w'.ownsRow w0.heap.size 5 1 (.slice A' (5 * (j + 1)) c') (5 * (j + 1)) (Lib.byteCells (syn (j + 1))) := by
  have hf : ∃ A' c', v = .slice A' (5 * (j + 1)) c' := by
    rcases ho.2 with ⟨h', h0⟩ | ⟨g, cap, cur, h', _⟩
    · omega
    · exact ⟨_, _, h'⟩
  obtain ⟨A', c', rfl⟩ := hf
  refine ⟨A', c', rfl, hb.grown hg hb.size (fun k hk => (ho0.lt k hk).1), ?_⟩
  have e : Lib.byteCells (syn (j + 1)) = Lib.byteCells (syn j) ++ Lib.strCells ⟨#[115, 121, 110, 99, 10]⟩ := by
    rw [syn_snoc]
    unfold Lib.byteCells
    rw [List.map_append]
    rfl
  rw [e]
  exact ho
set_option maxHeartbeats 4000000 in
theorem scriptLong_any (n : Int) (lg : Bool) (w : World) (m : Int) (hm : w.cell? ⟨0, 0, none⟩ = some (.int .i64 m)) :
    Calls Tryd.prog 4 #[.int .i64 n, .bool lg] w fun e w' => e = .returned (.bool true) ∧ Below w.heap.size w w' := by
  have HM := Lib.hid (And.intro (block_lt_of_cell hm) hm)
  obtain ⟨N, hN⟩ : ∃ N : Nat, (199 : Int) + n % 3 = (N : Int) := ⟨(199 + n % 3).toNat, by omega⟩
  have hN2 : 199 ≤ N ∧ N ≤ 201 := by omega
  obtain ⟨Q, hQ⟩ : ∃ Q : Nat, (65533 : Int) + n % 7 = (Q : Int) := ⟨(65533 + n % 7).toNat, by omega⟩
  have hQ2 : 65533 ≤ Q ∧ Q ≤ 65539 := by omega
  obtain ⟨i0, hi, hz0, hz1, hz2⟩ := info_parts infoU8
  have HI := Lib.hid (And.intro hi (And.intro hz0 (And.intro hz1 hz2)))
  have HN := Lib.hid (And.intro hN hN2)
  have HQ := Lib.hid (And.intro hQ hQ2)
  have HO0 := Lib.hid (And.intro (Below.refl w.heap.size w) (World.ownsRow_nil w w.heap.size 5 1))
  clear hm hN hN2 hQ hQ2 hi hz0 hz1 hz2
  go_enter Tryd.func4, Tryd.ntmps4
  go_wp2_with (with_reducible refine upon_id ?_; go_simp)
  go_loopw [5, 6] (fun x5 x6 wr => RL1 w N x5 x6 wr) (fun _ x6 _ => match x6 with | .int _ i => (1000 - i).toNat | _ => 0)
  case atStart => exact ⟨0, none, 0, Nat.zero_le _, rfl, rfl, HO0⟩
  case round =>
    clear HO0
    obtain ⟨j, A, c, hj, rfl, rfl, HO⟩ := hrel
    have b1 : 0 ≤ n % 3 := by omega
    have b2 : n % 3 ≤ 2 := by omega
    rcases Nat.eq_or_lt_of_le hj with heq | hlt
    · subst heq
      have d0 : decide ((j : Int) < 199 + n % 3) = false := by
        have := HN.out.1
        simp
        omega
      clear hj
      cases lg with
      | false =>
        have hr := (Ow.of (St.refl w)).add HO.out.2 HO.out.1
        have hpos : 0 < 5 * j := by have := HN.out.2.1; omega
        obtain ⟨gb, rfl, -, -⟩ := own_form HO.out.2 hpos
        simp only [List.nil_append] at hr
        have HR := Lib.hid hr
        clear hr HO hpos
        rcases Nat.lt_or_ge 200 j with hN2 | hN2
        · have HN2 := Lib.hid hN2
          clear hN2
          have hcv := conv_row (HR.out.row 0 rfl)
          go_wp2_with (first | (go_at_call 5; refine (mod_any _ _ _ (by omega) (by omega)).mono ?_; rintro e w' ⟨rfl, hw⟩; subst hw) | (with_reducible refine upon_id ?_; go_simp))
          refine (parse_syn_over j HN.out.2.2 HN2.out wr m ((HR.out.below.cell (p := ⟨0, 0, none⟩) HM.out.1).trans HM.out.2)).mono ?_
          rintro e w1 ⟨rfl, hb1⟩
          have HR1 := Lib.hid (HR.out.go hb1)
          clear hb1 hcv HR
          have hcv := conv_row (HR1.out.row 0 rfl)
          go_wp2_with (with_reducible refine upon_id ?_; go_simp)
          refine (parse45_over j HN2.out HN.out.2.2 w1 m ((HR1.out.below.cell (p := ⟨0, 0, none⟩) HM.out.1).trans HM.out.2)).mono ?_
          rintro e w2 ⟨rfl, hb2⟩
          have HR2 := Lib.hid (HR1.out.go hb2)
          clear hb2 hcv HR1
          go_wp2_with (with_reducible refine upon_id ?_; go_simp)
          refine (same_evs 0 (by omega) w2 none none 0 0 (fun h => absurd h (by omega)) (fun h => absurd h (by omega))).mono ?_
          rintro e w3 ⟨rfl, hb3⟩
          have HR3 := Lib.hid (HR2.out.go hb3)
          clear hb3 HR2
          go_wp2_with (with_reducible refine upon_id ?_; go_simp)
          refine (awake45_any w3 m ((HR3.out.below.cell (p := ⟨0, 0, none⟩) HM.out.1).trans HM.out.2)).mono ?_
          rintro e w4 ⟨rfl, hb4⟩
          have HR4 := Lib.hid (HR3.out.go hb4)
          clear hb4 HR3
          go_wp2_with (with_reducible refine upon_id ?_; go_simp)
          go_ret
          exact ⟨rfl, HR4.out.below⟩
        · have HN2 := Lib.hid hN2
          clear hN2
          have hcv := conv_row (HR.out.row 0 rfl)
          go_wp2_with (first | (go_at_call 5; refine (mod_any _ _ _ (by omega) (by omega)).mono ?_; rintro e w' ⟨rfl, hw⟩; subst hw) | (with_reducible refine upon_id ?_; go_simp))
          refine (parse_syn j HN2.out wr m ((HR.out.below.cell (p := ⟨0, 0, none⟩) HM.out.1).trans HM.out.2)).mono ?_
          rintro e w1 ⟨A1, c1, rfl, hx1⟩
          have HE1 := Lib.hid (EvsAt.of hx1)
          have hb1 := hx1.ow.below
          have HR1 := Lib.hid (HR.out.go hb1)
          clear hx1 hb1 hcv HR
          have hcv := conv_row (HR1.out.row 0 rfl)
          go_wp2_with (with_reducible refine upon_id ?_; go_simp)
          refine (parse45_syn j (by have := HN.out.2.1; omega) HN2.out w1 m ((HR1.out.below.cell (p := ⟨0, 0, none⟩) HM.out.1).trans HM.out.2)).mono ?_
          rintro e w2 ⟨A2, c2, rfl, hx2⟩
          have HE2 := Lib.hid (EvsAt.of hx2)
          have hb2 := hx2.ow.below
          have HE3 := Lib.hid (HE1.out.go hb2)
          have HR2 := Lib.hid (HR1.out.go hb2)
          clear hx2 hb2 hcv HR1 HE1
          go_wp2_with (with_reducible refine upon_id ?_; go_simp)
          refine (same_evs j (by have := HN.out.2.2; omega) w2 A1 A2 c1 c2 HE3.out HE2.out).mono ?_
          rintro e w3 ⟨rfl, hb3⟩
          have HR3 := Lib.hid (HR2.out.go hb3)
          clear hb3 HR2
          go_wp2_with (with_reducible refine upon_id ?_; go_simp)
          refine (awake45_any w3 m ((HR3.out.below.cell (p := ⟨0, 0, none⟩) HM.out.1).trans HM.out.2)).mono ?_
          rintro e w4 ⟨rfl, hb4⟩
          have HR4 := Lib.hid (HR3.out.go hb4)
          clear hb4 HR3
          go_wp2_with (with_reducible refine upon_id ?_; go_simp)
          go_ret
          exact ⟨rfl, HR4.out.below⟩
      | true =>
        have c1 : 0 ≤ n % 7 := by omega
        have c2 : n % 7 ≤ 6 := by omega
        have HO2 := Lib.hid ((Ow.of (St.refl w)).add (A := none) (n := 0) (c := 0) (vs := []) (World.ownsRow_nil wr w.heap.size 5 1) HO.out.1)
        clear HO
        go_wp2_with (first | (go_at_call 5; refine (mod_any _ _ _ (by omega) (by omega)).mono ?_; rintro e w' ⟨rfl, hw⟩; subst hw) | (with_reducible refine upon_id ?_; go_simp))
        go_loopw [5] (fun x5 wr => RL2 w Q x5 wr) (fun x5 _ => match x5 with | .slice _ i _ => 70000 - i | _ => 0)
        case atStart => exact ⟨0, none, 0, Nat.zero_le _, rfl, HO2⟩
        case round =>
          clear HO2
          obtain ⟨z, A, c, hz, rfl, HO⟩ := hrel
          rcases Nat.eq_or_lt_of_le hz with heq | hlt
          · subst heq
            have d1 : decide ((z : Int) < 65533 + n % 7) = false := by
              have := HQ.out.1
              simp
              omega
            clear hz
            have hpos : 0 < z := by have := HQ.out.2.1; omega
            obtain ⟨gb, rfl, -, -⟩ := own_form (HO.out.row 0 rfl) hpos
            have HR := HO
            clear HO hpos
            rcases Nat.lt_or_ge 65536 z with hN2 | hN2
            · have HN2 := Lib.hid hN2
              clear hN2
              have hcv := conv_row (HR.out.row 0 rfl)
              go_wp2_with (first | (go_at_call 5; refine (mod_any _ _ _ (by omega) (by omega)).mono ?_; rintro e w' ⟨rfl, hw⟩; subst hw) | (with_reducible refine upon_id ?_; go_simp))
              refine (parse_spc_long z HN2.out wr).mono ?_
              rintro e w1 ⟨rfl, hb1⟩
              have HR1 := Lib.hid (HR.out.go hb1)
              clear hb1 hcv HR
              have hcv := conv_row (HR1.out.row 0 rfl)
              go_wp2_with (with_reducible refine upon_id ?_; go_simp)
              refine (parse45_spc_long z HN2.out w1).mono ?_
              rintro e w2 ⟨rfl, hb2⟩
              have HR2 := Lib.hid (HR1.out.go hb2)
              clear hb2 hcv HR1
              go_wp2_with (with_reducible refine upon_id ?_; go_simp)
              refine (same_evs 0 (by omega) w2 none none 0 0 (fun h => absurd h (by omega)) (fun h => absurd h (by omega))).mono ?_
              rintro e w3 ⟨rfl, hb3⟩
              have HR3 := Lib.hid (HR2.out.go hb3)
              clear hb3 HR2
              go_wp2_with (with_reducible refine upon_id ?_; go_simp)
              refine (awake45_any w3 m ((HR3.out.below.cell (p := ⟨0, 0, none⟩) HM.out.1).trans HM.out.2)).mono ?_
              rintro e w4 ⟨rfl, hb4⟩
              have HR4 := Lib.hid (HR3.out.go hb4)
              clear hb4 HR3
              go_wp2_with (with_reducible refine upon_id ?_; go_simp)
              go_ret
              exact ⟨rfl, HR4.out.below⟩
            · have HN2 := Lib.hid hN2
              clear hN2
              have hcv := conv_row (HR.out.row 0 rfl)
              go_wp2_with (first | (go_at_call 5; refine (mod_any _ _ _ (by omega) (by omega)).mono ?_; rintro e w' ⟨rfl, hw⟩; subst hw) | (with_reducible refine upon_id ?_; go_simp))
              refine (parse_spcN z (by have := HQ.out.2.1; omega) HN2.out wr m ((HR.out.below.cell (p := ⟨0, 0, none⟩) HM.out.1).trans HM.out.2)).mono ?_
              rintro e w1 ⟨rfl, hb1⟩
              have HR1 := Lib.hid (HR.out.go hb1)
              clear hb1 hcv HR
              have hcv := conv_row (HR1.out.row 0 rfl)
              go_wp2_with (with_reducible refine upon_id ?_; go_simp)
              refine (parse45_spc z (by have := HQ.out.2.1; omega) HN2.out w1).mono ?_
              rintro e w2 ⟨rfl, hb2⟩
              have HR2 := Lib.hid (HR1.out.go hb2)
              clear hb2 hcv HR1
              go_wp2_with (with_reducible refine upon_id ?_; go_simp)
              refine (same_evs 0 (by omega) w2 none none 0 0 (fun h => absurd h (by omega)) (fun h => absurd h (by omega))).mono ?_
              rintro e w3 ⟨rfl, hb3⟩
              have HR3 := Lib.hid (HR2.out.go hb3)
              clear hb3 HR2
              go_wp2_with (with_reducible refine upon_id ?_; go_simp)
              refine (awake45_any w3 m ((HR3.out.below.cell (p := ⟨0, 0, none⟩) HM.out.1).trans HM.out.2)).mono ?_
              rintro e w4 ⟨rfl, hb4⟩
              have HR4 := Lib.hid (HR3.out.go hb4)
              clear hb4 HR3
              go_wp2_with (with_reducible refine upon_id ?_; go_simp)
              go_ret
              exact ⟨rfl, HR4.out.below⟩
          · have d1 : decide ((z : Int) < 65533 + n % 7) = true := by
              have := HQ.out.1
              simp
              omega
            have hz2 : z ≤ 65539 := by have := HQ.out.2.2; omega
            have HLT := Lib.hid hlt
            clear hz hlt
            go_wp2_with (first | (go_at_call 5; refine (mod_any _ _ _ (by omega) (by omega)).mono ?_; rintro e w' ⟨rfl, hw⟩; subst hw) | (with_reducible refine upon_id ?_; go_simp) | (at_builtin; refine ow_append1 elemU8 HO.out 0 (.tmp 27) (.tmp 28) _ _ rfl rfl (by unfold maxLen; omega) (by omega) rfl rfl rfl rfl ?_; intro A' c' w8 how; have HW8 := Lib.hid how; clear how))
            go_roundw
            case rel =>
              refine ⟨z + 1, A', c', HLT.out, rfl, ?_⟩
              have h8 := HW8.out
              rw [spc_snoc]
              unfold Lib.byteCells at h8 ⊢
              rw [List.map_append]
              exact Lib.hid h8
            case measure =>
              show 70000 - (z + 1) < 70000 - z
              omega
    · have d0 : decide ((j : Int) < 199 + n % 3) = true := by
        have := HN.out.1
        simp
        omega
      have hj2 : j ≤ 201 := by have := HN.out.2.2; omega
      obtain ⟨hi, hz0, hz1, hz2⟩ := HI.out
      have hown := HO.out.2
      have HLT := Lib.hid hlt
      clear hj hlt
      go_wp2_with (first | (go_at_call 5; refine (mod_any _ _ _ (by omega) (by omega)).mono ?_; rintro e w' ⟨rfl, hw⟩; subst hw) | (with_reducible refine upon_id ?_; go_simp) | (at_builtin; refine Lib.wpList_append_own_string _ rfl _ _ 27 9 rfl w.heap.size 5 i0 Tryd.underlying27 Tryd.underlying9 hi hz0 hz1 hz2 _ _ _ rfl hown ⟨#[115, 121, 110, 99, 10]⟩ rfl ?c3 ?c4 ?c5 ?_))
      case c3 => unfold maxLen; show 5 * j + 5 ≤ _; omega
      case c4 => show 5 * j + 5 ≤ _; omega
      case c5 => exact HO.out.1.size
      intro v' w2 hown' hgrow _
      obtain ⟨A', c', rfl, hb', ho'⟩ := apS HO.out.1 HO.out.2 hown' hgrow
      have HON := Lib.hid (And.intro hb' ho')
      clear hown' hgrow hb' ho' HO hown hi hz0 hz1 hz2
      go_wp2_with (with_reducible refine upon_id ?_; go_simp)
      go_roundw
      case rel => exact ⟨j + 1, A', c', HLT.out, rfl, rfl, HON⟩
      case measure =>
        show (1000 - ((j : Int) + 1)).toNat < (1000 - (j : Int)).toNat
        omega
end Go.Proofs.YtpcmbmabmfghkaaDoor

namespace Go.Proofs.YtpcmbmabmfghkaaDoor
open Go.ChangeShapes Go.WideShapes Go.ChangeAt Go.RowKit

section
variable {H : Type} {enc : TypeId × Value → H} {P : Program}
/-- arguments read behind the call as before it, if nothing below the old heap's size has turned -/
theorem args_stay (hl : laidOutB P = true) {W W' : World} (hb : Below W.heap.size W W') {sp : Nat → Bool} : ∀ {ts : List TypeId} {vs : List Value} {ds : List (DataW H)} {ps : List MemPlace},
    (∀ t ∈ ts, P.readableRec t = true ∧ t < P.types.size) → DataW.TrodAll enc P W 0 (fun _ => true) true ts vs ds ps → (∀ x ∈ ps, x.block < W.heap.size) → (∀ p ∈ ps, sp p.block = true) →
    DataW.TrodAll enc P W' 0 sp true ts vs ds ps := by
  intro ts
  induction ts with
  | nil =>
    intro vs ds ps _ h _ _
    cases vs <;> cases ds <;> simp [DataW.TrodAll] at h ⊢
    exact h
  | cons t ts ih =>
    intro vs ds ps ht h hlt hs
    obtain ⟨v, vs', d, ds', p, q, rfl, rfl, rfl, h0, h1⟩ := trodAll_cons h
    refine ⟨p, q, ?_, ?_, rfl⟩
    · exact WideElems.Trod_stays hl (ht t (by simp)).1 (ht t (by simp)).2 h0 (fun x hx => hb.same (hlt x (by simp [hx]))) (fun x hx => hs x (by simp [hx]))
    · exact ih (fun u hu => ht u (by simp [hu])) h1 (fun x hx => hlt x (by simp [hx])) (fun x hx => hs x (by simp [hx]))

theorem post_law (hl : laidOutB P = true) {f : Func} {s : ChangeSpec} {W W' : World} {args : Array Value} {ds gs : List (DataW H)} {before : List MemPlace} {tb : TypeId} (hb : Below W.heap.size W W')
    (hvars : s.vars = []) (hW : DataW.Whole enc P f.params.toList s.vars false W args.toList ds gs before)
    (hfn : s.fn H (ds ++ gs) = { results := [.lit (.bool true)], args := ds, vars := [] }) (hres : f.resultTypes = #[tb]) (htb : P.underlying tb = some .bool)
    (hts : ∀ t ∈ f.params.toList, P.readableRec t = true ∧ t < P.types.size) :
    s.post enc P f false true false false W args (.bool true) W' := by
  have hlt : ∀ p ∈ before, p.block < W.heap.size := fun p hp => hW.lt p hp
  have hW' := hW
  obtain ⟨p, q, hA, hV, rfl, hz, hn⟩ := hW
  rw [hvars] at hV
  have hq : q = [] := by
    cases gs with
    | nil => exact hV
    | cons g r => exact absurd hV (by intro h; cases h)
  subst hq
  refine ⟨ds, gs, _, [], p, [], hW', ?_, ?_, ?_, hb.frame _, fun h => by cases h⟩
  · rw [hfn, hres]
    exact trodAll_mk1 (shut_bool htb true)
  · rw [hfn]
    exact args_stay hl hb hts hA (fun x hx => hlt x (by simp [hx])) (fun x hx => by simpa using hlt x (by simp [hx]))
  · rw [hfn, hvars]
    rfl
end
end Go.Proofs.YtpcmbmabmfghkaaDoor

namespace Go.Proofs.YtpcmbmabmfghkaaDoor
open Go.ChangeShapes Go.WideShapes Go.ChangeAt Go.RowKit
set_option linter.unusedVariables false

section
variable {H : Type} {enc : TypeId × Value → H} {P : Program} {W : World}
end
end Go.Proofs.YtpcmbmabmfghkaaDoor

namespace Go.Proofs.YtpcmbmabmfghkaaDoor
open Go.ChangeShapes Go.WideShapes Go.ChangeAt Go.RowKit
set_option linter.unusedVariables false
set_option maxRecDepth 100000
theorem len_of {W : World} (h : W.ShapedOpen Tryd.prog) : ∃ m, W.cell? ⟨0, 0, none⟩ = some (.int .i64 m) := Tryd.laysM145.s1_3 W h
variable {H : Type} {enc : TypeId × Value → H}
/-- a law's claim out of its contract, with what is laid and with the world's shape -/
theorem wrapSh {a : Assume} {C : Checked} {os : Os} {f : FuncId} {fn : Func} {s : ChangeSpec} {conds : List PathCond} {apart fresh handsOn again : Bool} {X : World → Array Value → Prop}
    (hX : ∀ (w w' : World) (args : Array Value), w.heap = w'.heap → X w args → X w' args)
    (own : ownKnob C.prog.godebug = none) (started : os.Started) (noInit : C.prog.inits.idxOf? f = none) (hfn : C.prog.funcs[f]? = some fn)
    (witness : ∃ (w : World) (tape : Tape) (i : Input), w.os = os ∧ (w.forCall tape i).Shaped C.prog ∧ i.vars = [] ∧ Input.okWide C.prog (w.forCall tape i) .any w.heap.size f i ∧
      ((s.pre enc C.prog fn conds apart (w.forCall tape i).memory i.args ∧ X (w.forCall tape i).memory i.args) ∧ sizedMet enc C.prog fn (OpenSpec.ofChange s) apart (w.forCall tape i).memory i.args) ∧ a.holds C.prog (lone (Frame.enter C.prog f i.args .normal) [] (w.forCall tape i)))
    (contract : ∀ (W : World) (base : Nat) (args : Array Value) (ds gs : List (DataW H)) (before : List MemPlace),
      (∀ (j : Nat) t v, fn.params[j]? = some t → args[j]? = some v → Value.okWide C.prog W .any base t v) →
      DataW.Whole enc C.prog fn.params.toList s.vars apart W args.toList ds gs before →
      conds.all (PathCond.test C.prog ⟨fn.params.toList, ds, s.plain.varTypes C.prog, gs⟩) = true →
      (DataW.weightsEach C.prog (fn.params.toList ++ s.plain.varTypes C.prog) (ds ++ gs)).all (· ≤ reachBytes) = true → X W args → W.ShapedOpen C.prog →
      Calls C.prog f args W fun e W' => ∃ v, e = .returned v ∧ s.post enc C.prog fn apart fresh handsOn again W args v W') :
    ReturnsInHanded a C os f .any (fun w args => (s.pre enc C.prog fn conds apart w args ∧ X w args) ∧ sizedMet enc C.prog fn (OpenSpec.ofChange s) apart w args) (s.post enc C.prog fn apart fresh handsOn again) := by
  refine returnsInHanded_of_calls own started noInit witness ?_
  intro w tape i _ hsh _ hok hpre _
  obtain ⟨_, _, _, g, hg, _, _, _, _, hval⟩ := hok
  obtain rfl : g = fn := Option.some.inj (hg.symm.trans hfn)
  obtain ⟨⟨⟨ds, gs, before, hw, hc⟩, hx⟩, hz⟩ := hpre
  refine (contract (w.forCall tape i) w.heap.size i.args ds gs before hval (DataW.Whole.of_heap (w' := w.forCall tape i) (by rfl) hw) hc (hz.weights hw) (hX _ _ _ (by rfl) hx) hsh).mono ?_
  rintro e W' ⟨v, rfl, hp⟩
  exact ChangeSpec.post_blind hp
end Go.Proofs.YtpcmbmabmfghkaaDoor

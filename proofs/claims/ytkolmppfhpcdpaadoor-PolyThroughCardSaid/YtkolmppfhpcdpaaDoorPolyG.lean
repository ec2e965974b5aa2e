/- The contract of Derive. -/
import Derived.Test.YtkolmppfhpcdpaaDoorPolyF
namespace Go.Proofs.YtkolmppfhpcdpaaDoor
open Go.RowKit
set_option linter.unusedVariables false
set_option maxRecDepth 100000

def DerLoop (w : World) (d : List UInt8) (A : Option Addr) (n c : Nat) (v : Value) (wr : World) : Prop :=
  ∃ j : Nat, 2 * j + 1 ≤ n + 1 ∧ v = .int .i64 ((2 * j + 1 : Nat) : Int) ∧ wr.ownsRow w.heap.size 5 1 (.slice A n c) n (bys (Po.derTo d j)) ∧ Below w.heap.size w wr
set_option maxHeartbeats 1000000 in
theorem derive_any (A : Option Addr) (n c : Nat) (l : List UInt8) (w : World) (hn : l.length = n) (hs : Sl w w.heap.size A (bys l)) (hnc : n ≤ c) (hl : n ≤ 140737488351232) :
    Calls Tryd.prog 16 #[.slice A n c] w (FreshB w (Po.derR l)) := by
  rcases Nat.lt_or_ge 255 n with h | h
  · have HR : Hid (Po.derR l = []) := by unfold Hid Po.derR; rw [if_pos (.inr (by omega))]
    clear hs hn
    go_enter Tryd.func16, Tryd.ntmps16
    go_wp2_with fail
    go_ret
    rw [HR.out]
    exact freshB_nil _ _ (Below.refl _ _)
  · rcases Nat.eq_zero_or_pos n with hn0 | hn0
    · have HR : Hid (Po.derR l = []) := by unfold Hid Po.derR; rw [if_pos (.inl (by omega))]
      clear hs hn
      subst hn0
      go_enter Tryd.func16, Tryd.ntmps16
      go_wp2_with fail
      go_ret
      rw [HR.out]
      exact freshB_nil _ _ (Below.refl _ _)
    · have HR : Hid (Po.derR l = Po.trim (Po.derA l)) := by unfold Hid Po.derR; rw [if_neg (by omega)]
      have hz := nat_ne0 hn0
      obtain ⟨b, hb⟩ := byte_at l 0 (by omega)
      obtain ⟨ad, rfl, hbk, hc0⟩ := hs.byte hb
      have hd := hs.drop 1
      have hld : (l.drop 1).length = n - 1 := by rw [List.length_drop]; omega
      have hde : (bys l).drop 1 = bys (l.drop 1) := by simp [bys]
      rw [hde] at hd
      have HLD := Lib.hid hld
      have HD : Hid (Po.derTo (l.drop 1) ((n - 1) / 2) = Po.derA l ∧ (Po.derA l).length = n - 1) := ⟨by unfold Po.derA; rw [hn], by rw [Po.derA_length, hn]⟩
      by_cases hc1 : c = 1
      · have hn1 : n = 1 := by omega
        subst hc1 hn1
        have HC : Hid (Calls Tryd.prog 33 #[.slice (some ad) 0 0] w (FreshB w (l.drop 1))) :=
          cloneB_fresh _ _ _ w.heap.size _ w hld (by
            have : l.drop 1 = [] := List.eq_nil_of_length_eq_zero (by omega)
            rw [this]
            exact Sl.nil _ _ _) (Nat.le_refl _) (by omega)
        clear hs hn hd hde hld hb hc0
        go_enter Tryd.func16, Tryd.ntmps16
        go_wp2_with fail
        refine HC.out.mono ?_
        rintro e w1 ⟨A', n', c', rfl, h1, h2, h3⟩
        have hn' : n' = 0 := by rw [← h1]; exact HLD.out
        subst hn'
        have hca := (own_cap h2).1
        have HO : Hid (w1.ownsRow w.heap.size 5 1 (.slice A' 0 c') 0 (bys (Po.derA l))) := by
          have h5 := HD.out.1
          unfold Hid
          rw [← h5]
          exact h2
        have HB := Lib.hid h3
        have HT := Lib.hid (trim_any A' 0 c' _ (Po.derA l) w1 HD.out.2 (Sl.of_own HO.out) hca (by omega))
        clear h1 h2 h3
        go_wp2_with fail
        refine wp_loop_rounds 1 ?_
        rw [rounds_succ]
        go_wp2_with fail
        refine HT.out.mono ?_
        rintro e w5 ⟨rfl, rfl⟩
        go_wp2_with fail
        go_ret
        rw [HR.out]
        have h5 := own_take HO.out (Po.tl_le (Po.derA l) 0)
        rw [bys_take] at h5
        refine ⟨_, _, _, rfl, ?_, ?_, HB.out⟩
        · rw [Po.trim_length, HD.out.2]
        · unfold Po.trim
          rw [HD.out.2]
          exact h5
      · have HC : Hid (Calls Tryd.prog 33 #[.slice (some ⟨ad.block, ad.off + 1, none⟩) (n - 1) (c - 1)] w (FreshB w (l.drop 1))) :=
          cloneB_fresh _ _ _ w.heap.size _ w hld hd (Nat.le_refl _) (by omega)
        have hc2 : 1 < c := by omega
        clear hc1
        clear hs hn hd hde hld hb hc0
        go_enter Tryd.func16, Tryd.ntmps16
        go_wp2_with fail
        refine HC.out.mono ?_
        rintro e w1 ⟨A', n', c', rfl, h1, h2, h3⟩
        have hn' : n' = n - 1 := by rw [← h1]; exact HLD.out
        subst hn'
        have hca := (own_cap h2).1
        have h2' := h2
        have h3' := h3
        go_wp2_with fail
        go_loopw [4] (fun v wr => DerLoop w (l.drop 1) A' (n - 1) c' v wr) (fun v _ => n - (intOf v).toNat)
        case atStart => exact ⟨0, by omega, rfl, h2', h3'⟩
        case round =>
          clear h1 h2 h3 h2' h3'
          obtain ⟨j, hj, rfl, ho, hb⟩ := hrel
          have HO := Lib.hid ho
          have HB := Lib.hid hb
          rcases Nat.lt_or_ge (2 * j + 1) (n - 1) with hjn | hjn
          · obtain ⟨g, rfl, hgb, hgw⟩ := own_form ho (by omega)
            obtain ⟨b, hb'⟩ := byte_at (Po.derTo (l.drop 1) j) (2 * j + 1) (by rw [Po.derTo_length, HLD.out]; omega)
            have hcc := own_byte ho hb'
            have hfz := ho.frozenAt (2 * j + 1)
            have hst := ho.stored (2 * j + 1) (.int .u8 0)
            have HST := Lib.hid hst
            clear ho hb hb' hst
            go_wp2_with fail
            go_roundw
            case rel =>
              refine ⟨j + 1, by omega, int_eqv (by omega), ?_, HB.out.grown HST.out.2 HB.out.size (fun _ e => by cases e; exact hgb)⟩
              have h5 := HST.out.1
              rw [Po.derTo]
              unfold bys at h5 ⊢
              rw [List.map_set]
              exact h5
            case measure => simp [intOf]; omega
          · have hj2 : j = (n - 1) / 2 := by omega
            have hjr : ((n - 1 : Nat) : Int) ≤ ((2 * j + 1 : Nat) : Int) := by omega
            rw [hj2, HD.out.1] at ho
            have HO := Lib.hid ho
            have HT := Lib.hid (trim_any A' (n - 1) c' _ (Po.derA l) wr HD.out.2 (Sl.of_own ho) hca (by omega))
            clear ho hb hj2
            go_wp2_with fail
            refine HT.out.mono ?_
            rintro e w5 ⟨rfl, rfl⟩
            go_wp2_with fail
            go_ret
            rw [HR.out]
            have h5 := own_take HO.out (Po.tl_le (Po.derA l) (n - 1))
            rw [bys_take] at h5
            refine ⟨_, _, _, rfl, ?_, ?_, HB.out⟩
            · rw [Po.trim_length, HD.out.2]
            · unfold Po.trim
              rw [HD.out.2]
              exact h5
end Go.Proofs.YtkolmppfhpcdpaaDoor

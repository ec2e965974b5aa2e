/- ref04.Same on byte slices -/
import Derived.Test.YtkolmppfhpcdpaaDoorPolyB
import Derived.Outline
namespace Go.Proofs.YtkolmppfhpcdpaaDoor
open Go.RowKit
set_option linter.unusedVariables false
set_option maxRecDepth 100000
def SameLoop (w : World) (p q : List UInt8) (n : Nat) (v : Value) (wr : World) : Prop := ∃ k j : Nat, k ≤ n ∧ v = .int .i64 (k : Int) ∧ wr = w.drewN j ∧ Hid (p.take k = q.take k)
theorem take_more (p q : List UInt8) (k : Nat) (b : UInt8) (h : p.take k = q.take k) (hp : p[k]? = some b) (hq : q[k]? = some b) : p.take (k + 1) = q.take (k + 1) := by
  rw [List.take_add_one, List.take_add_one, h, hp, hq]
theorem same_any (A A2 : Option Addr) (n c m c2 B : Nat) (p q : List UInt8) (w : World) (hn : p.length = n) (hm : q.length = m) (hp : Sl w B A (bys p)) (hq : Sl w B A2 (bys q))
    (hl : n ≤ 140737488355328) (hl2 : m ≤ 140737488355328) :
    Calls Tryd.prog 19 #[.slice A n c, .slice A2 m c2] w fun e w' => e = .returned (.bool (decide (p = q))) ∧ Below w.heap.size w w' := by
  by_cases hnm : n = m
  · subst hnm
    have hne : ((n : Int) != (n : Int)) = false := by simp
    have HN := Lib.hid hn
    have HM := Lib.hid hm
    clear hn hm
    go_enter Tryd.func19, Tryd.ntmps19
    go_wp2_with fail
    go_loopw [5] (fun v wr => SameLoop w p q n v wr) (fun v _ => n - (intOf v).toNat)
    case atStart => exact ⟨0, 0, Nat.zero_le _, rfl, rfl, rfl⟩
    case round =>
      obtain ⟨k, j, hk, rfl, rfl, HT⟩ := hrel
      rcases Nat.lt_or_ge k n with hkn | hkn
      · obtain ⟨b, hb⟩ := byte_at p k (by rw [HN.out]; exact hkn)
        obtain ⟨d, hd⟩ := byte_at q k (by rw [HM.out]; exact hkn)
        obtain ⟨ad, rfl, hbk, hc⟩ := hp.byte hb
        obtain ⟨ad2, rfl, hbk2, hc2⟩ := hq.byte hd
        have hi : (k : Int) < (n : Int) := by omega
        by_cases hbd : b = d
        · subst hbd
          have HT2 : Hid (p.take (k + 1) = q.take (k + 1)) := take_more p q k b HT.out hb hd
          clear hb hd hp hq
          go_wp2_with fail
          go_quiet (fail)
          go_wp2_with fail
          go_roundw
          case rel => exact ⟨k + 1, _, by omega, by go_num, rfl, HT2⟩
          case measure => simp [intOf]; omega
        · have hx := u8_ne' hbd
          have HE : Hid (decide (p = q) = false) := decide_eq_false (fun e => hbd (by rw [e, hd] at hb; exact (Option.some.inj hb).symm))
          clear hb hd hp hq hbd
          go_wp2_with fail
          go_quiet (fail)
          go_wp2_with fail
          go_ret
          exact ⟨ret_bool HE.out.symm, below_drewN (below_drewN (Below.refl _ _) _) _⟩
      · have HE : Hid (decide (p = q) = true) := decide_eq_true (by
          have h := HT.out
          rwa [List.take_of_length_le (by rw [HN.out]; omega), List.take_of_length_le (by rw [HM.out]; omega)] at h)
        clear hp hq
        go_wp2_with fail
        go_ret
        exact ⟨ret_bool HE.out.symm, below_drewN (Below.refl _ _) _⟩
  · have hne : ((n : Int) != (m : Int)) = true := by rw [bne_iff_ne]; omega
    have HE : Hid (decide (p = q) = false) := decide_eq_false (fun e => hnm (by rw [← hn, ← hm, e]))
    clear hp hq hn hm hnm
    go_enter Tryd.func19, Tryd.ntmps19
    go_wp2_with fail
    go_ret
    exact ⟨ret_bool HE.out.symm, Below.refl _ _⟩
end Go.Proofs.YtkolmppfhpcdpaaDoor

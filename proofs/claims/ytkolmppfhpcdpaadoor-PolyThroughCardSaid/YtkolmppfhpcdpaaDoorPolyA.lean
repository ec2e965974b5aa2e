/- The contracts of Valid and of the functions that cut zeros off. -/
import Derived.Test.YtkolmppfhpcdpaaDoorMem
import Derived.Test.YtkolmppfhpcdpaaDoorPoly
import Derived.Test.YtkolmppfhpcdpaaDoorFieldA
import Derived.Test.YtkolmppfhpcdpaaDoorChecked
namespace Go.Proofs.YtkolmppfhpcdpaaDoor
open Go.RowKit
set_option linter.unusedVariables false
set_option maxRecDepth 100000

theorem valid_any (A : Option Addr) (n c B : Nat) (l : List UInt8) (w : World) (hn : l.length = n) (hs : Sl w B A (bys l)) (hl : n ≤ 9223372036854775807) :
    Calls Tryd.prog 29 #[.slice A n c] w fun e w' => e = .returned (.bool (Po.vld l)) ∧ w = w' := by
  rcases Nat.lt_or_ge 255 n with h | h
  · have H := Lib.hid (Po.vld_big l (by omega))
    clear hn
    go_enter Tryd.func29, Tryd.ntmps29
    go_wp2_with fail
    go_ret
    exact ⟨ret_bool H.out.symm, rfl⟩
  · rcases Nat.eq_zero_or_pos n with h0 | h0
    · have H := Lib.hid (Po.vld_nil l (by omega))
      subst h0
      clear hn
      go_enter Tryd.func29, Tryd.ntmps29
      go_wp2_with fail
      go_ret
      exact ⟨ret_bool H.out.symm, rfl⟩
    · obtain ⟨b, hb⟩ := byte_at l (n - 1) (by omega)
      have H := Lib.hid ((Po.vld_last l b (by omega) (by rw [hn]; exact hb)).trans (u8_bne0 b).symm)
      obtain ⟨ad, rfl, hbk, hc⟩ := hs.byte hb
      have hz := nat_ne0 h0
      clear hb hn
      go_enter Tryd.func29, Tryd.ntmps29
      go_wp2_with fail
      go_ret
      exact ⟨ret_bool H.out.symm, rfl⟩

/-- 'trimRightByte(s, 0)' -/
theorem trimByte_any (A : Option Addr) (n c B : Nat) (l : List UInt8) (w : World) (hn : l.length = n) (hs : Sl w B A (bys l)) (hnc : n ≤ c) (hl : n ≤ 9223372036854775807) :
    Calls Tryd.prog 54 #[.slice A n c, .int .u8 0] w fun e w' => e = .returned (.slice A (Po.tl l n) c) ∧ w = w' := by
  go_enter Tryd.func54, Tryd.ntmps54
  go_wp2_with fail
  go_loop [0] (fun v => ∃ k : Nat, k ≤ n ∧ v = .slice A k c ∧ Hid (Po.tl l k = Po.tl l n)) (fun v => slen v)
  case atStart => exact ⟨n, Nat.le_refl _, rfl, rfl⟩
  case round =>
    obtain ⟨k, hk, rfl, HT⟩ := hrel
    rcases Nat.eq_zero_or_pos k with rfl | hk0
    · go_wp2_with fail
      go_ret
      have := HT.out
      exact ⟨by rw [← this]; rfl, rfl⟩
    · have hd : decide (0 < (k : Int)) = true := decide_eq_true (by omega)
      obtain ⟨b, hb⟩ := byte_at l (k - 1) (by omega)
      obtain ⟨ad, rfl, hbk, hc⟩ := hs.byte hb
      by_cases hb0 : b = 0
      · have ht : Hid (Po.tl l (k - 1) = Po.tl l n) := by
          unfold Hid
          rw [← HT.out, ← Po.tl_zero l (k - 1) (by rw [hb, hb0]), show k - 1 + 1 = k from by omega]
        subst hb0
        clear hb
        go_wp2_with fail
        go_round
        case rel => exact ⟨k - 1, by omega, rfl, ht⟩
        case measure => simp [slen]; omega
      · have ht : Hid (Po.tl l n = k) := by
          unfold Hid
          rw [← HT.out, show k = k - 1 + 1 from by omega]
          exact Po.tl_stop l (k - 1) (by rw [hb]; intro e; exact hb0 (Option.some.inj e))
        have hne : ((b.toNat : Int) == 0) = false := by
          rw [beq_eq_false_iff_ne]
          intro e
          exact hb0 (UInt8.toNat_inj.1 (by simpa using e))
        clear hb hb0
        go_wp2_with fail
        go_ret
        exact ⟨by rw [ht.out]; rfl, rfl⟩

/-- 'bytes.TrimRight(s, x00)' -/
theorem trimRight_any (A : Option Addr) (n c B : Nat) (l : List UInt8) (w : World) (hn : l.length = n) (hs : Sl w B A (bys l)) (hnc : n ≤ c) (hl : n ≤ 9223372036854775807) :
    Calls Tryd.prog 51 #[.slice A n c, .string { data := #[0] }] w fun e w' => e = .returned (.slice A (Po.tl l n) c) ∧ w = w' := by
  have HB : Hid (Calls Tryd.prog 54 #[.slice A n c, .int .u8 0] w fun e w' => e = .returned (.slice A (Po.tl l n) c) ∧ w = w') := trimByte_any A n c B l w hn hs hnc hl
  rcases Nat.eq_zero_or_pos n with h0 | h0
  · subst h0
    clear hn hs
    go_enter Tryd.func51, Tryd.ntmps51
    go_wp2_with fail
    go_ret
    exact ⟨rfl, rfl⟩
  · have hz := nat_ne0 h0
    clear hn hs
    go_enter Tryd.func51, Tryd.ntmps51
    go_wp2_with fail
    refine HB.out.mono ?_
    rintro e w' ⟨rfl, rfl⟩
    go_wp2_with fail
    go_ret
    exact ⟨rfl, rfl⟩
theorem trim_any (A : Option Addr) (n c B : Nat) (l : List UInt8) (w : World) (hn : l.length = n) (hs : Sl w B A (bys l)) (hnc : n ≤ c) (hl : n ≤ 9223372036854775807) :
    Calls Tryd.prog 34 #[.slice A n c] w fun e w' => e = .returned (.slice A (Po.tl l n) c) ∧ w = w' := by
  have HB : Hid (Calls Tryd.prog 51 #[.slice A n c, .string { data := #[0] }] w fun e w' => e = .returned (.slice A (Po.tl l n) c) ∧ w = w') := trimRight_any A n c B l w hn hs hnc hl
  clear hn hs
  go_enter Tryd.func34, Tryd.ntmps34
  go_wp2_with (go_at_call 51; ((with_reducible refine HB.out.mono ?_); rintro e w' ⟨rfl, rfl⟩))
  go_ret
  exact ⟨rfl, rfl⟩
end Go.Proofs.YtkolmppfhpcdpaaDoor

/- FieldA PolyA PolyB BackB PolyE PolyM PolyN PolyQ -/
import Derived.Test.YtnplaejlmbncfaaGreatDoorM01
import Derived.Test.YtnplaejlmbncfaaGreatDoorChecked
import Derived.WalkKit
import Derived.WalkLawsBesides
import Derived.WalkSpells
import Derived.Lib.Hide
import Derived.Laws.BitsAllLaws
import Derived.StillTailTactics
import Derived.RangeFuncNested
import Derived.RangeFuncBound
import Derived.RangeFuncCalls
import Derived.RangeFuncLeaves
import Derived.RangeFuncBox
import Derived.RangeFuncWrites
import Derived.Shelf.Abstract
import Derived.Shelf.RegionOpen
import Derived.OwnWalkIn
import Derived.TacticsInMore
import Derived.LoopNIn
import Derived.LoopIn
namespace Go.Proofs.YtnplaejlmbncfaaGreatDoor
open Go.RowKit
set_option linter.unusedVariables false
set_option maxRecDepth 100000

/-- a byte as a value -/
theorem u8_lt (a : UInt8) : ((a.toNat : Nat) : Int) < 256 := by have := UInt8.toNat_lt a; omega
theorem ret_u8 {a b : UInt8} (h : a = b) : Ending.returned (.int .u8 (a.toNat : Int)) = .returned (.int .u8 (b.toNat : Int)) := by rw [h]
theorem u8_xor8 (a c : UInt8) : bits .xor .u8 (a.toNat : Int) (c.toNat : Int) = ((a ^^^ c).toNat : Int) := by
  rw [u8_xor_nat _ _ (UInt8.toNat_lt a) (UInt8.toNat_lt c), UInt8.toNat_xor]

theorem dbl_lo0 : ∀ n, n < 256 → n < 128 → n * 2 = (Gf.dbl (UInt8.ofNat n)).toNat := by decide +kernel
theorem dbl_hi0 : ∀ n : Nat, n < 256 → ¬ n < 128 → bits .xor .u8 ((n : Int) * 2 % 256) 29 = ((Gf.dbl (UInt8.ofNat n)).toNat : Int) := by decide +kernel
theorem dbl_lo (a : UInt8) (h : (a.toNat : Int) < 128) : (a.toNat : Int) * 2 = ((Gf.dbl a).toNat : Int) := by
  have := dbl_lo0 a.toNat (UInt8.toNat_lt a) (by omega)
  rw [UInt8.ofNat_toNat] at this
  omega
theorem dbl_hi (a : UInt8) (h : ¬ (a.toNat : Int) < 128) : bits .xor .u8 ((a.toNat : Int) * 2 % 256) 29 = ((Gf.dbl a).toNat : Int) := by
  have := dbl_hi0 a.toNat (UInt8.toNat_lt a) (by omega)
  rwa [UInt8.ofNat_toNat] at this
theorem double_any (a : UInt8) (w : World) : Calls Tryz.prog 171 #[.int .u8 (a.toNat : Int)] w fun e w' => e = .returned (.int .u8 ((Gf.dbl a).toNat : Int)) ∧ w = w' := by
  have hl := u8_lt a
  by_cases h : (a.toNat : Int) < 128
  · have H := Lib.hid (dbl_lo a h)
    go_enter Tryz.func171, Tryz.ntmps171
    go_wp2
    go_ret
    exact ⟨ret_int H.out, rfl⟩
  · have H := Lib.hid (dbl_hi a h)
    go_enter Tryz.func171, Tryz.ntmps171
    go_wp2
    go_ret
    exact ⟨ret_int H.out, rfl⟩

theorem int_eq {k : IntKind} {a b : Int} (h : a = b) : (Value.int k a) = .int k b := by rw [h]
theorem u8_shr1 (y : UInt8) : Value.int .u8 ((y.toNat : Int) / 2) = .int .u8 ((y >>> 1).toNat : Int) := by
  refine int_eq ?_
  rw [UInt8.toNat_shiftRight]
  simp [Nat.shiftRight_eq_div_pow]
theorem i64_shr1 (k : Nat) : Value.int .i64 ((k : Int) / 2) = .int .i64 ((k / 2 : Nat) : Int) := by
  refine int_eq ?_
  omega
theorem ofInt_i64 (a : Nat) (ha : a < 9223372036854775808) : (BitVec.ofInt 64 (a : Int)).toNat = a := by
  rw [BitVec.ofInt_natCast, BitVec.toNat_ofNat]; exact Nat.mod_eq_of_lt (by omega)
theorem i64_and_nat (a b : Nat) (ha : a < 9223372036854775808) (hb : b < 9223372036854775808) : bits .and .i64 (a : Int) (b : Int) = ((a &&& b : Nat) : Int) := by
  have hx : a &&& b < 2 ^ 63 := Nat.and_lt_two_pow _ (by omega)
  show IntKind.i64.wrap ((BitVec.ofInt 64 (a : Int) &&& BitVec.ofInt 64 (b : Int)).toNat : Int) = _
  rw [BitVec.toNat_and, ofInt_i64 a ha, ofInt_i64 b hb, IntKind.wrap_i64]
  omega
theorem xor_ex (a c : UInt8) : ∃ d : UInt8, bits .xor .u8 (a.toNat : Int) (c.toNat : Int) = (d.toNat : Int) ∧ Hid (d = a ^^^ c) := ⟨_, u8_xor8 a c, rfl⟩
/-- the product that is still to come, and what is gathered -/
def MulRel (a0 c0 : UInt8) (a c p : Value) : Prop := ∃ x y z : UInt8, a = .int .u8 (x.toNat : Int) ∧ c = .int .u8 (y.toNat : Int) ∧ p = .int .u8 (z.toNat : Int) ∧ Gf.gmul a0 c0 = z ^^^ Gf.gmul x y
theorem u8_pos {y : UInt8} (h : y ≠ 0) : 0 < (y.toNat : Int) := by
  have : y.toNat ≠ 0 := fun e => h (UInt8.toNat_inj.1 (by simpa using e))
  omega
theorem u8_bit0 (y : UInt8) : bits .and .u8 (y.toNat : Int) 1 = if Gf.bit y 0 then 1 else 0 := by
  have := u8_and_nat y.toNat 1 (UInt8.toNat_lt y) (by decide)
  rw [show ((1 : Nat) : Int) = 1 from rfl] at this
  rw [this]
  unfold Gf.bit
  rw [Nat.and_one_is_mod, Nat.testBit_zero]
  by_cases h : y.toNat % 2 = 1
  · simp [h]
  · have h0 : y.toNat % 2 = 0 := by omega
    simp [h0]
theorem mul_any (a0 c0 : UInt8) (w : World) : Calls Tryz.prog 136 #[.int .u8 (a0.toNat : Int), .int .u8 (c0.toNat : Int)] w fun e w' => e = .returned (.int .u8 ((Gf.gmul a0 c0).toNat : Int)) ∧ w = w' := by
  go_enter Tryz.func136, Tryz.ntmps136
  go_wp2_with fail
  go_loop [0, 1, 5] (fun a c p => MulRel a0 c0 a c p) (fun _ c _ => (intOf c).toNat)
  case atStart => exact ⟨a0, c0, 0, rfl, rfl, rfl, by rw [UInt8.zero_xor]⟩
  case round =>
    obtain ⟨x, y, z, rfl, rfl, rfl, hm⟩ := hrel
    have hx := u8_lt x
    have hy := u8_lt y
    have hz := u8_lt z
    have HM := Lib.hid hm
    clear hm
    by_cases h0 : y = 0
    · subst h0
      go_wp2_with fail
      go_ret
      exact ⟨ret_u8 (by rw [HM.out, Gf.gmul_zero, UInt8.xor_zero]), rfl⟩
    · have h1 := u8_pos h0
      have hs := Lib.hid (Gf.gmul_step x y)
      cases hbit : Gf.bit y 0
      · have hb : bits .and .u8 (y.toNat : Int) 1 = 0 := by rw [u8_bit0, hbit]; rfl
        have HB := Lib.hid hbit
        clear hbit h0
        go_wp2_with (go_at_call 171; refine (double_any _ _).mono ?_; rintro e w' ⟨rfl, rfl⟩)
        go_round
        case rel => exact ⟨Gf.dbl x, y >>> 1, z, rfl, u8_shr1 y, rfl, by rw [HM.out, hs.out, HB.out]; simp [Gf.sel]⟩
        case measure => simp [intOf]; omega
      · have hb : bits .and .u8 (y.toNat : Int) 1 = 1 := by rw [u8_bit0, hbit]; rfl
        have HB := Lib.hid hbit
        clear hbit h0
        go_wp2_with (go_at_call 171; refine (double_any _ _).mono ?_; rintro e w' ⟨rfl, rfl⟩)
        go_round
        case rel => exact ⟨Gf.dbl x, y >>> 1, z ^^^ x, rfl, u8_shr1 y, int_eq (u8_xor8 z x), by rw [HM.out, hs.out, HB.out, ← UInt8.xor_assoc]; simp [Gf.sel]⟩
        case measure => simp [intOf]; omega

/-- what is still to come, and what is gathered -/
def RaiseRel (a0 : UInt8) (n0 : Nat) (a n p : Value) : Prop := ∃ (x z : UInt8) (k : Nat), k ≤ 9223372036854775807 ∧ a = .int .u8 (x.toNat : Int) ∧ n = .int .i64 (k : Int) ∧ p = .int .u8 (z.toNat : Int) ∧ Gf.gpow a0 n0 = Gf.gmul z (Gf.gpow x k)
theorem i64_bit0 (k : Nat) (h : k ≤ 9223372036854775807) : bits .and .i64 (k : Int) 1 = ((k % 2 : Nat) : Int) := by
  have := i64_and_nat k 1 (by omega) (by decide)
  rw [show ((1 : Nat) : Int) = 1 from rfl] at this
  rw [this, Nat.and_one_is_mod]
theorem pow_even (x : UInt8) (k : Nat) (h : k % 2 = 0) : Gf.gpow x k = Gf.gpow (Gf.gmul x x) (k / 2) := by
  rw [← Gf.gpow_two, ← Gf.gpow_mul]
  congr 1
  omega
theorem pow_odd (x : UInt8) (k : Nat) (h : k % 2 = 1) : Gf.gpow x k = Gf.gmul x (Gf.gpow (Gf.gmul x x) (k / 2)) := by
  rw [← Gf.gpow_two, ← Gf.gpow_mul]
  conv => rhs; arg 1; rw [← Gf.gpow_one x]
  rw [← Gf.gpow_add]
  congr 1
  omega
theorem raise_any (a0 : UInt8) (n0 : Int) (h0 : 0 ≤ n0) (hn : n0 ≤ 9223372036854775807) (w : World) : Calls Tryz.prog 169 #[.int .u8 (a0.toNat : Int), .int .i64 n0] w fun e w' => e = .returned (.int .u8 ((Gf.gpow a0 n0.toNat).toNat : Int)) ∧ w = w' := by
  obtain ⟨n, rfl⟩ := Int.eq_ofNat_of_zero_le h0
  rw [Int.toNat_natCast]
  go_enter Tryz.func169, Tryz.ntmps169
  go_wp2_with fail
  go_loop [0, 1, 5] (fun a c p => RaiseRel a0 n a c p) (fun _ c _ => (intOf c).toNat)
  case atStart => exact ⟨a0, 1, n, by omega, rfl, rfl, rfl, by rw [Gf.one_gmul]⟩
  case round =>
    obtain ⟨x, z, k, hk, rfl, rfl, rfl, hm⟩ := hrel
    have hx := u8_lt x
    have hz := u8_lt z
    have HM := Lib.hid hm
    clear hm
    by_cases hk0 : k = 0
    · subst hk0
      go_wp2_with fail
      go_ret
      exact ⟨ret_u8 (by rw [HM.out]; exact (Gf.gmul_one z).symm), rfl⟩
    · have h1 : 0 < (k : Int) := by omega
      by_cases hbit : k % 2 = 1
      · have hb : bits .and .i64 (k : Int) 1 = 1 := by rw [i64_bit0 k hk, hbit]; rfl
        have HB := Lib.hid (pow_odd x k hbit)
        clear hbit hk0
        go_wp2_with (go_at_call 136; refine (mul_any _ _ _).mono ?_; rintro e w' ⟨rfl, rfl⟩)
        go_round
        case rel => exact ⟨Gf.gmul x x, Gf.gmul z x, k / 2, by omega, rfl, i64_shr1 k, rfl, by rw [HM.out, HB.out, Gf.gmul_assoc]⟩
        case measure => simp [intOf]; omega
      · have hb : bits .and .i64 (k : Int) 1 = 0 := by rw [i64_bit0 k hk, show k % 2 = 0 from by omega]; rfl
        have HB := Lib.hid (pow_even x k (by omega))
        clear hbit hk0
        go_wp2_with (go_at_call 136; refine (mul_any _ _ _).mono ?_; rintro e w' ⟨rfl, rfl⟩)
        go_round
        case rel => exact ⟨Gf.gmul x x, z, k / 2, by omega, rfl, i64_shr1 k, rfl, by rw [HM.out, HB.out]⟩
        case measure => simp [intOf]; omega

theorem turn_num (n : Int) : ((n.tmod 255) + 255) % 255 = (Gf.emod n : Int) := by
  rw [Gf.emod_cast]
  have h1 := Int.tmod_eq_emod (a := n) (b := 255)
  split at h1 <;> omega
theorem turn_any (n : Int) (w : World) : Calls Tryz.prog 170 #[.int .i64 n] w fun e w' => e = .returned (.int .i64 (Gf.emod n : Int)) ∧ w = w' := by
  have hb : -255 < n.tmod 255 ∧ n.tmod 255 < 255 := by
    have h1 := Int.tmod_eq_emod (a := n) (b := 255)
    split at h1 <;> omega
  have h1 := hb.1
  have h2 := hb.2
  clear hb
  have H := Lib.hid (turn_num n)
  go_enter Tryz.func170, Tryz.ntmps170
  go_wp2
  go_ret
  exact ⟨ret_int H.out, rfl⟩
end Go.Proofs.YtnplaejlmbncfaaGreatDoor

namespace Go.Proofs.YtnplaejlmbncfaaGreatDoor
open Go.RowKit
set_option linter.unusedVariables false
set_option maxRecDepth 100000

theorem valid_any (A : Option Addr) (n c B : Nat) (l : List UInt8) (w : World) (hn : l.length = n) (hs : Sl w B A (bys l)) (hl : n ≤ 9223372036854775807) :
    Calls Tryz.prog 131 #[.slice A n c] w fun e w' => e = .returned (.bool (Po.vld l)) ∧ w = w' := by
  rcases Nat.lt_or_ge 255 n with h | h
  · have H := Lib.hid (Po.vld_big l (by omega))
    clear hn
    go_enter Tryz.func131, Tryz.ntmps131
    go_wp2_with fail
    go_ret
    exact ⟨ret_bool H.out.symm, rfl⟩
  · rcases Nat.eq_zero_or_pos n with h0 | h0
    · have H := Lib.hid (Po.vld_nil l (by omega))
      subst h0
      clear hn
      go_enter Tryz.func131, Tryz.ntmps131
      go_wp2_with fail
      go_ret
      exact ⟨ret_bool H.out.symm, rfl⟩
    · obtain ⟨b, hb⟩ := byte_at l (n - 1) (by omega)
      have H := Lib.hid ((Po.vld_last l b (by omega) (by rw [hn]; exact hb)).trans (u8_bne0 b).symm)
      obtain ⟨ad, rfl, hbk, hc⟩ := hs.byte hb
      have hz := nat_ne0 h0
      clear hb hn
      go_enter Tryz.func131, Tryz.ntmps131
      go_wp2_with fail
      go_ret
      exact ⟨ret_bool H.out.symm, rfl⟩

/-- 'trimRightByte(s, 0)' -/
theorem trimByte_any (A : Option Addr) (n c B : Nat) (l : List UInt8) (w : World) (hn : l.length = n) (hs : Sl w B A (bys l)) (hnc : n ≤ c) (hl : n ≤ 9223372036854775807) :
    Calls Tryz.prog 188 #[.slice A n c, .int .u8 0] w fun e w' => e = .returned (.slice A (Po.tl l n) c) ∧ w = w' := by
  go_enter Tryz.func188, Tryz.ntmps188
  go_wp2_with fail
  go_loop [0] (fun v => ∃ k : Nat, k ≤ n ∧ v = .slice A k c ∧ Hid (Po.tl l k = Po.tl l n)) (fun v => slen v)
  case atStart => exact ⟨n, Nat.le_refl _, rfl, rfl⟩
  case round =>
    obtain ⟨k, hk, rfl, HT⟩ := hrel
    rcases Nat.eq_zero_or_pos k with rfl | hk0
    · go_wp2_with fail
      go_ret
      have := HT.out
      exact ⟨by rw [← this]; rfl, rfl⟩
    · have hd : decide (0 < (k : Int)) = true := decide_eq_true (by omega)
      obtain ⟨b, hb⟩ := byte_at l (k - 1) (by omega)
      obtain ⟨ad, rfl, hbk, hc⟩ := hs.byte hb
      by_cases hb0 : b = 0
      · have ht : Hid (Po.tl l (k - 1) = Po.tl l n) := by
          unfold Hid
          rw [← HT.out, ← Po.tl_zero l (k - 1) (by rw [hb, hb0]), show k - 1 + 1 = k from by omega]
        subst hb0
        clear hb
        go_wp2_with fail
        go_round
        case rel => exact ⟨k - 1, by omega, rfl, ht⟩
        case measure => simp [slen]; omega
      · have ht : Hid (Po.tl l n = k) := by
          unfold Hid
          rw [← HT.out, show k = k - 1 + 1 from by omega]
          exact Po.tl_stop l (k - 1) (by rw [hb]; intro e; exact hb0 (Option.some.inj e))
        have hne : ((b.toNat : Int) == 0) = false := by
          rw [beq_eq_false_iff_ne]
          intro e
          exact hb0 (UInt8.toNat_inj.1 (by simpa using e))
        clear hb hb0
        go_wp2_with fail
        go_ret
        exact ⟨by rw [ht.out]; rfl, rfl⟩

/-- 'bytes.TrimRight(s, x00)' -/
theorem trimRight_any (A : Option Addr) (n c B : Nat) (l : List UInt8) (w : World) (hn : l.length = n) (hs : Sl w B A (bys l)) (hnc : n ≤ c) (hl : n ≤ 9223372036854775807) :
    Calls Tryz.prog 168 #[.slice A n c, .string { data := #[0] }] w fun e w' => e = .returned (.slice A (Po.tl l n) c) ∧ w = w' := by
  have HB : Hid (Calls Tryz.prog 188 #[.slice A n c, .int .u8 0] w fun e w' => e = .returned (.slice A (Po.tl l n) c) ∧ w = w') := trimByte_any A n c B l w hn hs hnc hl
  rcases Nat.eq_zero_or_pos n with h0 | h0
  · subst h0
    clear hn hs
    go_enter Tryz.func168, Tryz.ntmps168
    go_wp2_with fail
    go_ret
    exact ⟨rfl, rfl⟩
  · have hz := nat_ne0 h0
    clear hn hs
    go_enter Tryz.func168, Tryz.ntmps168
    go_wp2_with fail
    refine HB.out.mono ?_
    rintro e w' ⟨rfl, rfl⟩
    go_wp2_with fail
    go_ret
    exact ⟨rfl, rfl⟩
theorem trim_any (A : Option Addr) (n c B : Nat) (l : List UInt8) (w : World) (hn : l.length = n) (hs : Sl w B A (bys l)) (hnc : n ≤ c) (hl : n ≤ 9223372036854775807) :
    Calls Tryz.prog 133 #[.slice A n c] w fun e w' => e = .returned (.slice A (Po.tl l n) c) ∧ w = w' := by
  have HB : Hid (Calls Tryz.prog 168 #[.slice A n c, .string { data := #[0] }] w fun e w' => e = .returned (.slice A (Po.tl l n) c) ∧ w = w') := trimRight_any A n c B l w hn hs hnc hl
  clear hn hs
  go_enter Tryz.func133, Tryz.ntmps133
  go_wp2_with (go_at_call 168; ((with_reducible refine HB.out.mono ?_); rintro e w' ⟨rfl, rfl⟩))
  go_ret
  exact ⟨rfl, rfl⟩
end Go.Proofs.YtnplaejlmbncfaaGreatDoor

namespace Go.Proofs.YtnplaejlmbncfaaGreatDoor
open Go.RowKit
set_option linter.unusedVariables false
set_option maxRecDepth 100000

theorem infoB : (Tryz.prog.info? 5).map (fun i => (i.zero, i.size, i.bytes)) = some (some (.int .u8 0), 1, 1) := by kernel_rfl
theorem cloneB_any (A : Option Addr) (n c B : Nat) (l : List UInt8) (w : World) (hn : l.length = n) (hs : Sl w B A (bys l)) (hB : B ≤ w.heap.size) (hl : n ≤ 140737488355328) :
    Calls Tryz.prog 87 #[.slice A n c] w (Fresh 5 w n (bys l)) := by
  obtain ⟨i0, hi, hz0, hz1, hz2⟩ := info_parts infoB
  cases A with
  | none =>
    have h0 : n = 0 := by
      rcases Nat.eq_zero_or_pos n with h | h
      · exact h
      · obtain ⟨ad, h, _⟩ := hs (by rw [bys_length]; omega)
        cases h
    subst h0
    have hl0 : l = [] := List.eq_nil_of_length_eq_zero hn
    subst hl0
    have heq := fun w => Lib.run_eql_slice_nil (P := Tryz.prog) w 30 5 none 0 c 0 0 Tryz.underlying30
    clear hs hn
    go_enter Tryz.func87, Tryz.ntmps87
    go_wp2_with fail
    go_ret
    exact ret_fresh (World.ownsRow_nil _ _ _ _) (Below.refl _ _) rfl
  | some ad =>
    have heq := fun w => Lib.run_eql_slice_nil (P := Tryz.prog) w 30 5 (some ad) n c 0 0 Tryz.underlying30
    have HN := Lib.hid ((bys_length l).trans hn)
    have hbw := (Below.refl w.heap.size w).alloc (Nat.le_refl _) (.cells #[] 5)
    have HS : Hid (Sl (w.alloc (.cells #[] 5)) B (some ad) (bys l)) := hs.alloc hB _
    have HO := Lib.hid (own_empty w 5)
    clear hn hs
    go_enter Tryz.func87, Tryz.ntmps87
    go_wp2_with (at_builtin; refine wpList_append_sl _ rfl (.tmp 5) (.tmp 6) 30 rfl w.heap.size 5 i0 (.int .u8 0) 1 Tryz.underlying30 hi hz0 hz1 hz2 rfl _ _ _ _ rfl HO.out B _ _ _ _ rfl HN.out HS.out (bys_one l) (by unfold maxLen; omega) (by omega) (by simp) ?_; intro A' c' w1 hown hgrow hblk)
    go_ret
    rw [Nat.zero_add] at hown
    exact ret_fresh hown (hbw.grown hgrow (by simp) (fun g hg => by cases hg; exact Nat.le_refl _)) rfl
theorem flip_sameB {P : Program} {f : FuncId} {args : Array Value} {w : World} {v : Value} (h : Calls P f args w fun e w' => e = .returned v ∧ w = w') : Calls P f args w fun e w' => e = .returned v ∧ w' = w := h.mono fun _ _ ⟨he, hw⟩ => ⟨he, hw.symm⟩
def AddRel (w : World) (base : Nat) (A : Option Addr) (n c : Nat) (l r : List UInt8) (t : UInt8) (i m : Nat) (v : Value) (wr : World) : Prop :=
  ∃ k : Nat, k ≤ m ∧ v = .int .i64 (k : Int) ∧ wr.ownsRow base 5 1 (.slice A n c) n (bys (Po.addTo l r t i k)) ∧ w.grownBy wr (Value.slice A n c).ownBlock
theorem add_gen (A A2 : Option Addr) (n c m c2 base : Nat) (l r : List UInt8) (t : UInt8) (i : Nat) (w : World) (hn : l.length = n) (hm : r.length = m) (hown : w.ownsRow base 5 1 (.slice A n c) n (bys l))
    (hs : ∀ W, w.grownBy W (Value.slice A n c).ownBlock → ∃ B, Sl W B A2 (bys r)) (hfit : i + m ≤ n) (hl : n ≤ 9223372036854775807) :
    Calls Tryz.prog 167 #[.slice A n c, .slice A2 m c2, .int .u8 (t.toNat : Int), .int .i64 (i : Int)] w fun e w' => e = .returned (.tuple #[]) ∧ w'.ownsRow base 5 1 (.slice A n c) n (bys (Po.addAt l r t i)) ∧ w.grownBy w' (Value.slice A n c).ownBlock := by
  have HM := Lib.hid hm
  have HN := Lib.hid hn
  have ht := u8_lt t
  clear hm hn
  go_enter Tryz.func167, Tryz.ntmps167
  go_wp2_with fail
  go_loopw [12] (fun v wr => AddRel w base A n c l r t i m v wr) (fun v _ => m - (intOf v).toNat)
  case atStart => exact ⟨0, Nat.zero_le _, rfl, hown, World.grownBy.refl _ _⟩
  case round =>
    obtain ⟨k, hk, rfl, ho, hg⟩ := hrel
    rcases Nat.lt_or_ge k m with hkm | hkm
    · obtain ⟨g, rfl, hgb, hgw⟩ := own_form ho (by omega)
      obtain ⟨b, hb⟩ := byte_at r k (by rw [HM.out]; exact hkm)
      obtain ⟨d, hd⟩ := byte_at (Po.addTo l r t i k) (i + k) (by rw [Po.addTo_length, HN.out]; omega)
      obtain ⟨x, hx, HX⟩ := xor_ex d (Gf.gmul t b)
      have HS := Lib.hid (Po.addTo_succ l r t d b x i k hd hb HX.out)
      obtain ⟨B, hsB⟩ := hs wr hg
      obtain ⟨ad, rfl, hbk, hc⟩ := hsB.byte hb
      have hc2 := own_byte ho hd
      have hfz := ho.frozenAt (i + k)
      clear hb hd hs hown hsB
      have HO := Lib.hid ho
      have HG := Lib.hid hg
      clear ho hg
      have hb8 := u8_lt b
      have hd8 := u8_lt d
      go_wp2_with fail
      have s1 : IntKind.i64.wrap ((i : Int) + (k : Int)) = (i : Int) + (k : Int) := IntWalk.i64_in _ (by omega)
      have s2 : 0 ≤ (i : Int) + (k : Int) := by omega
      have s3 : (i : Int) + (k : Int) < (n : Int) := by omega
      have s4 : ((i : Int) + (k : Int)).toNat = i + k := by omega
      refine wp_region_still_tail 11 (by kernel_rfl) (by kernel_rfl) ?_
      simp only [List.take_succ_cons, List.take_zero, List.drop_succ_cons, List.drop_zero]
      repeat (first | still_step | still_call (flip_sameB (mul_any _ _ _)))
      refine wpStill_nil ?_
      change wpList _ _ _ _ _ wr.drew
      clear s1 s2 s3 s4
      go_wp2_with fail
      go_roundw
      case rel =>
        have h1 := HO.out.drew.stored (i + k) (.int .u8 (x.toNat : Int))
        refine ⟨k + 1, by omega, by go_num, ?_, grown_trans (grown_drew HG.out) h1.2⟩
        rw [HS.out]
        have h2 := h1.1
        unfold bys at h2 ⊢
        rw [List.map_set]
        exact h2
      case measure => simp [intOf]; omega
    · have hkm' : k = m := by omega
      subst hkm'
      have HO : Hid (wr.ownsRow base 5 1 (.slice A n c) n (bys (Po.addAt l r t i))) := by
        unfold Hid Po.addAt
        rw [HM.out]
        exact ho
      have HG := Lib.hid hg
      clear ho hg hs hown
      go_wp2_with fail
      go_end0
      exact ⟨rfl, HO.out, HG.out⟩
theorem add_any (A A2 : Option Addr) (n c m c2 base B : Nat) (l r : List UInt8) (t : UInt8) (i : Nat) (w : World) (hn : l.length = n) (hm : r.length = m) (hown : w.ownsRow base 5 1 (.slice A n c) n (bys l)) (hs : Sl w B A2 (bys r))
    (hB : B ≤ base) (hbw : base ≤ w.heap.size) (hfit : i + m ≤ n) (hl : n ≤ 9223372036854775807) :
    Calls Tryz.prog 167 #[.slice A n c, .slice A2 m c2, .int .u8 (t.toNat : Int), .int .i64 (i : Int)] w fun e w' => e = .returned (.tuple #[]) ∧ w'.ownsRow base 5 1 (.slice A n c) n (bys (Po.addAt l r t i)) ∧ w.grownBy w' (Value.slice A n c).ownBlock :=
  add_gen A A2 n c m c2 base l r t i w hn hm hown (fun W hg => ⟨B, hs.grown hg (Nat.le_trans hB hbw) (fun g hg' => Nat.le_trans hB (own_block hown g hg'))⟩) hfit hl
/-- what a call leaves that hands back a list of bytes of its own and an error -/
def ResB (w : World) (l : List UInt8) (err : Int) (en : Ending) (w' : World) : Prop :=
  ∃ (A : Option Addr) (n c : Nat), en = .returned (.tuple #[.slice A n c, .int .i64 err]) ∧ l.length = n ∧ w'.ownsRow w.heap.size 5 1 (.slice A n c) n (bys l) ∧ Below w.heap.size w w'
theorem resB_nil (w w' : World) (err : Int) (h : Below w.heap.size w w') : ResB w [] err (.returned (.tuple #[.slice none 0 0, .int .i64 err])) w' := ⟨none, 0, 0, rfl, rfl, World.ownsRow_nil _ _ _ _, h⟩
theorem made_bys (n : Nat) : (madeCells (Value.int .u8 0).cells (n * 1)).toList = bys (List.replicate n 0) := by
  show (madeCells #[.int .u8 0] (n * 1)).toList = _
  rw [toList_madeCells_one, Nat.mul_one]
  simp [bys, encB]
/-- what a call leaves that hands back a list of bytes of its own -/
def FreshB (w : World) (l : List UInt8) (en : Ending) (w' : World) : Prop :=
  ∃ (A : Option Addr) (n c : Nat), en = .returned (.slice A n c) ∧ l.length = n ∧ w'.ownsRow w.heap.size 5 1 (.slice A n c) n (bys l) ∧ Below w.heap.size w w'
theorem cloneB_fresh (A : Option Addr) (n c B : Nat) (l : List UInt8) (w : World) (hn : l.length = n) (hs : Sl w B A (bys l)) (hB : B ≤ w.heap.size) (hl : n ≤ 140737488355328) :
    Calls Tryz.prog 87 #[.slice A n c] w (FreshB w l) :=
  (cloneB_any A n c B l w hn hs hB hl).mono fun e w' ⟨A', c', he, ho, hb⟩ => ⟨A', n, c', he, hn, ho, hb⟩
end Go.Proofs.YtnplaejlmbncfaaGreatDoor

namespace Go.Proofs.YtnplaejlmbncfaaGreatDoor
open Go.RowKit Go.Shelf
attribute [local go_sem] Oper.semAt_some
set_option linter.unusedVariables false
set_option maxRecDepth 100000

/-- what a slice hands out from its end on: so many pairs of an index and an element -/
def backB (zs : List UInt8) (k : Nat) : List (Nat × UInt8) := (List.range k).map fun j => (zs.length - 1 - j, zs[zs.length - 1 - j]?.getD 0)
theorem backB_succ (zs : List UInt8) (k : Nat) : backB zs (k + 1) = backB zs k ++ [(zs.length - 1 - k, zs[zs.length - 1 - k]?.getD 0)] := by simp [backB, List.range_succ]
theorem backB_length (zs : List UInt8) (k : Nat) : (backB zs k).length = k := by simp [backB]
def encPB (x : Nat × UInt8) : Array Value := #[.int .i64 (x.1 : Int), .int .u8 (x.2.toNat : Int)]

/-- what each round keeps: all below n₀, and the box of the slice -/
def KpBox (n₀ Bs : Nat) (W W' : World) : Prop := Below n₀ W W' ∧ W'.heap[Bs]? = W.heap[Bs]?
theorem KpBox.refl (n₀ Bs : Nat) (W : World) : KpBox n₀ Bs W W := ⟨Below.refl _ _, rfl⟩
theorem KpBox.trans {n₀ Bs : Nat} {A B C : World} (h : KpBox n₀ Bs A B) (k : KpBox n₀ Bs B C) : KpBox n₀ Bs A C := ⟨h.1.trans k.1, k.2.trans h.2⟩
theorem kpBox_b {n₀ Bs : Nat} {w : World} (h : n₀ ≤ w.heap.size) (hb : Bs < w.heap.size) (W : World) (l : Nat) (o o' : Obj) (hl : w.heap.size ≤ l) (ho : W.heap[l]? = some o) (hc : o.isCells = false) (hw : o.isWalk = false) : KpBox n₀ Bs W (W.putObj l o') :=
  ⟨belowK_b h W l o o' hl ho hc hw, (belowK_b (Nat.le_refl _) W l o o' hl ho hc hw).block Bs hb⟩
theorem KpBox.cell {n₀ Bs : Nat} {W W' : World} (h : KpBox n₀ Bs W W') : W'.cell? ⟨Bs, 0, none⟩ = W.cell? ⟨Bs, 0, none⟩ := World.cell?_of_block (a := ⟨Bs, 0, none⟩) h.2

set_option maxHeartbeats 2000000 in
theorem backB1_in (F : Fence) (n : Nat) (h8 : F.fn 192) (hro : F.round = none) (hn : 1 ≤ n) (l Bs n₀ len cap : Nat) (A : Option Addr) (zs : List UInt8) (hz : zs.length = len) (hreach : len ≤ 140737488351232) (J Jx : List (Nat × UInt8) → World → Prop)
    (hY : ∀ pre x W, J pre W → pre.length < len → YieldAt F (n - 1) Tryz.prog l (encPB x) W fun e W' =>
      (e = .returned (.bool true) ∧ J (pre ++ [x]) W' ∧ KpBox n₀ Bs W W') ∨ (e = .returned (.bool false) ∧ Jx (pre ++ [x]) W'))
    (W : World) (hBs : W.cell? ⟨Bs, 0, none⟩ = some (.slice A len cap)) (hs : Sl W n₀ A (bys zs)) (h0 : J [] W) :
    CallsIn F n Tryz.prog 192 #[.func (.yield l) #[] #[], .pointer (some ⟨Bs, 0, none⟩)] W fun e W' => (∃ v, e = .returned v) ∧
      ((∃ ys, ys = backB zs len ∧ J ys W') ∨ (∃ pre, (∃ k, k ≤ len ∧ pre = backB zs k) ∧ Jx pre W')) := by
  have HZ := Lib.hid hz
  clear hz
  refine callsIn_of_wp Tryz.func192 rfl h8 ?_ hro
  simp only [Tryz.ntmps192, List.size_toArray, List.length_cons, List.length_nil, Nat.reduceAdd, Nat.reduceSub, Array.replicate_succ, Array.replicate_zero, List.push_toArray, List.append_toArray, List.nil_append, List.cons_append]
  gi_wp2
  gi_loopw [3] (fun i wr => ∃ k : Nat, k ≤ len ∧ i = .int .i64 ((len : Int) - 1 - k) ∧ J (backB zs k) wr ∧ KpBox n₀ Bs W wr)
    (fun i _ => (intOf i + 1).toNat)
  case atStart => exact ⟨0, Nat.zero_le _, by simp, h0, KpBox.refl _ _ _⟩
  case round =>
    obtain ⟨k, hk, rfl, hJs, hnx⟩ := hrel
    have hcb : wr.cell? ⟨Bs, 0, none⟩ = some (.slice A len cap) := hnx.cell.trans hBs
    by_cases hlt : k < len
    · obtain ⟨b, hb⟩ := byte_at zs (len - 1 - k) (by rw [HZ.out]; omega)
      obtain ⟨ad, rfl, hbk, hc⟩ := (hs.below hnx.1).byte hb
      obtain ⟨fn, tmps, assign, body, hy, hR⟩ := hY _ (len - 1 - k, b) wr hJs (by rw [backB_length]; exact hlt)
      have hx : backB zs (k + 1) = backB zs k ++ [(len - 1 - k, b)] := by rw [backB_succ, HZ.out, hb]; rfl
      have HX := Lib.hid hx
      clear hx hb
      have e1 : ((len - 1 - k : Nat) : Int) = (len : Int) - 1 - k := by omega
      have e2 : ((len : Int) - 1 - k).toNat = len - 1 - k := by omega
      dsimp only [encPB] at hy
      rw [e1] at hy
      have E1 := Lib.hid e1
      have hlo : 0 ≤ (len : Int) - 1 - k := by omega
      have hhi : (len : Int) - 1 - k < len := by omega
      clear e1
      gi_wp2
      refine hR.mono ?_
      rintro e W3 (⟨rfl, hJ3, hk3⟩ | ⟨rfl, hJx3⟩)
      · gi_wp2
        go_roundw
        case rel => exact ⟨k + 1, by omega, int_eqv (by omega), by rw [HX.out]; exact hJ3, hnx.trans hk3⟩
        case measure => simp [intOf]; omega
      · gi_wp2
        refine bodyPost_ret (results_none rfl _ _ _) rfl ?_
        exact ⟨⟨_, rfl⟩, .inr ⟨_, ⟨k + 1, by omega, HX.out.symm⟩, hJx3⟩⟩
    · obtain rfl : k = len := by omega
      have e1 : (k : Int) - 1 - k = -1 := by omega
      rw [e1]
      clear e1
      gi_wp2
      go_end0
      exact ⟨⟨_, rfl⟩, .inl ⟨_, rfl, hJs⟩⟩

set_option maxHeartbeats 1000000 in
theorem backB_in (F : Fence) (n : Nat) (h5 : F.fn 174) (hro : F.round = none) (a : Option Addr) (len cap : Nat) (w : World) :
    CallsIn F n Tryz.prog 174 #[.slice a len cap] w fun e w' => e = .returned (.func (.func 192) #[] #[.pointer (some ⟨w.heap.size, 0, none⟩)]) ∧ w' = w.alloc (.cells #[.slice a len cap] 30) := by
  refine callsIn_of_wp Tryz.func174 rfl h5 ?_ hro
  simp only [Tryz.ntmps174, List.size_toArray, List.length_cons, List.length_nil, Nat.reduceAdd, Nat.reduceSub, Array.replicate_succ, Array.replicate_zero, List.push_toArray, List.append_toArray, List.nil_append, List.cons_append]
  gi_wp2
  go_ret
  exact ⟨rfl, rfl⟩

theorem backB_stops (F : Fence) (n : Nat) (h8 : F.fn 192) (hro : F.round = none) (hn : 1 ≤ n) (Bs n₀ len cap : Nat) (A : Option Addr) (zs : List UInt8) (hz : zs.length = len) (hreach : len ≤ 140737488351232) (w : World) (hBs : Bs < w.heap.size) (hn₀ : n₀ ≤ w.heap.size)
    (hc : w.cell? ⟨Bs, 0, none⟩ = some (.slice A len cap)) (hI : Sl w n₀ A (bys zs)) :
    SeqStopsK F n Tryz.prog 192 #[.pointer (some ⟨Bs, 0, none⟩)] encPB (KpBox n₀ Bs) (fun ys => ys = backB zs len) (fun pre => ∃ k, k ≤ len ∧ pre = backB zs k) len w := fun l J Jx W hW _ _ hY h0 => by
  have hc' := (hW.cell (p := ⟨Bs, 0, none⟩) hBs).trans hc
  exact backB1_in F n h8 hro hn l Bs n₀ len cap A zs hz hreach J Jx hY W hc' (hI.below (hW.mono hn₀)) h0
end Go.Proofs.YtnplaejlmbncfaaGreatDoor

namespace Go.Proofs.YtnplaejlmbncfaaGreatDoor
open Go.RowKit Go.Shelf
attribute [local go_sem] Oper.semAt_some
set_option linter.unusedVariables false
set_option maxRecDepth 100000
namespace Po
def ev (x : UInt8) (pre : List (Nat × UInt8)) : UInt8 := pre.foldl (fun v p => Gf.gmul v x ^^^ p.2) 0
theorem ev_snoc (x : UInt8) (pre : List (Nat × UInt8)) (p : Nat × UInt8) : ev x (pre ++ [p]) = Gf.gmul (ev x pre) x ^^^ p.2 := by simp [ev]
/-- P4.3 -/
def eval (l : List UInt8) (x : UInt8) : UInt8 := l.reverse.foldl (fun v c => Gf.gmul v x ^^^ c) 0
theorem back_rev (zs : List UInt8) : (backB zs zs.length).map (·.2) = zs.reverse := by
  apply List.ext_getElem
  · simp [backB]
  · intro i h1 h2
    simp [backB] at h1 h2 ⊢
    rw [List.getElem?_eq_getElem (by omega)]
    rfl
theorem ev_all (zs : List UInt8) (x : UInt8) : ev x (backB zs zs.length) = eval zs x := by
  unfold ev eval
  rw [← back_rev, List.foldl_map]
end Po

set_option maxHeartbeats 2000000 in
theorem eval_in (F : Fence) (n : Nat) (h3 : F.fn 143) (h5 : F.fn 174) (h7 : F.fn 192) (h9 : F.fn 136) (hro : F.round = none) (hn : 3 ≤ n)
    (hmul : ∀ (m : Nat) (a c : UInt8) (w : World), CallsIn F m Tryz.prog 136 #[.int .u8 (a.toNat : Int), .int .u8 (c.toNat : Int)] w fun e w' => e = .returned (.int .u8 ((Gf.gmul a c).toNat : Int)) ∧ w = w')
    (A : Option Addr) (len cap : Nat) (zs : List UInt8) (x : UInt8) (hz : zs.length = len) (hreach : len ≤ 140737488351232) (w : World) (hI : Sl w w.heap.size A (bys zs)) :
    CallsIn F n Tryz.prog 143 #[.slice A len cap, .int .u8 (x.toNat : Int)] w fun e W' => e = .returned (.int .u8 ((Po.eval zs x).toNat : Int)) ∧ Below w.heap.size w W' := by
  have h1 : 1 ≤ n := by omega
  refine callsIn_of_wp_marks Tryz.func143 rfl h3 ?_ hro
  simp only [Tryz.ntmps143, List.size_toArray, List.length_cons, List.length_nil, Nat.reduceAdd, Nat.reduceSub, Array.replicate_succ, Array.replicate_zero, List.push_toArray, List.append_toArray, List.nil_append, List.cons_append]
  gi_wp2_with (gi_at_call 174; refine (backB_in F (n - 1) h5 hro _ _ _ _).mono ?_; rintro e w' ⟨rfl, rfl⟩)
  have bX := Boxed.new w 5 (.int .u8 (x.toNat : Int))
  have bV := Boxed.new (w.alloc (.cells #[.int .u8 (x.toNat : Int)] 5)) 5 (.int .u8 0)
  have bN := Boxed.new ((w.alloc (.cells #[.int .u8 (x.toNat : Int)] 5)).alloc (.cells #[.int .u8 0] 5)) 30 (.slice A len cap)
  simp only [World.size_alloc] at bV bN
  have hB0 : Below w.heap.size w (((w.alloc (.cells #[.int .u8 (x.toNat : Int)] 5)).alloc (.cells #[.int .u8 0] 5)).alloc (.cells #[.slice A len cap] 30)) := (((Below.refl _ w).alloc (Nat.le_refl _) _).alloc (by simp) _).alloc (by simp; omega) _
  refine wpIn_rangeFunc_ownG hro h1 (gf := 192) (lb := #[.pointer (some ⟨w.heap.size + 1 + 1, 0, none⟩)]) rfl h7 (enters_of Tryz.func192 (by kernel_rfl) rfl)
    (backB_stops F (n - 1) h7 hro (by omega) (w.heap.size + 1 + 1) w.heap.size len cap A zs hz hreach _ (by simp) (by simp; omega) bN.cell (hI.below hB0)) KpBox.trans (kpBox_b (by simp; omega) (by simp)) (Below.refl _ _) (fun _ => rfl)
    (fun pre W => (W.cell? ⟨w.heap.size, 0, none⟩ = some (.int .u8 (x.toNat : Int)) ∧ W.cell? ⟨w.heap.size + 1, 0, none⟩ = some (.int .u8 ((Po.ev x pre).toNat : Int)) ∧ W.frozen? ⟨w.heap.size + 1, 0, none⟩ = false) ∧ Below w.heap.size w W)
    (fun _ _ _ => False)
    (OwnFrom.and (Own.from (fun s A B row hs hg hr => ⟨cell_kept hs.1 hg hr, cell_kept hs.2.1 hg hr, (frozen_kept hs.2.1 hg hr).trans hs.2.2⟩) _) (ownFrom_below (Nat.le_refl _) (by simp; omega)))
    (fun _ _ _ _ _ hs _ _ => hs)
    ⟨⟨((bX.alloc _).alloc _).cell, (bV.alloc _).cell, (bV.alloc _).frozen⟩, hB0⟩
    (fun p => { tmps := #[.slice A len cap, .int .u8 (x.toNat : Int), undef, .pointer (some ⟨w.heap.size, 0, none⟩), .int .u8 0, .pointer (some ⟨w.heap.size + 1, 0, none⟩), undef, .int .u8 (p.2.toNat : Int), .slice A len cap, .func (.func 192) #[] #[.pointer (some ⟨w.heap.size + 1 + 1, 0, none⟩)], .int .i64 (p.1 : Int), .int .u8 (p.2.toNat : Int), undef, undef, undef, undef, undef, undef], defers := [] }) ?assign ?body ?done ?stop
  case assign =>
    intro l p W K hK
    dsimp only [encPB]
    gi_wp2
    exact hK
  case body =>
    rintro l pre p W ⟨⟨hc0, hc, hf⟩, hB⟩ _
    obtain ⟨z, hx, HX⟩ := xor_ex (Gf.gmul (Po.ev x pre) x) p.2
    have hn1 : 1 ≤ n - 1 - 1 := by omega
    have hHX := Lib.hid hmul
    clear hmul
    gi_wp2_with (gi_at_call 136; refine (CallsIn.inRound l (hHX.out _ _ _ _)).mono ?_; rintro e w' ⟨rfl, rfl⟩)
    refine ⟨(KeepsOthers.setCell _ _ _).from _, ⟨(Below.refl w.heap.size W).setCell (p := ⟨w.heap.size + 1, 0, none⟩) (by simp) _, Below.heap_setCell _ _ _ _ (by simp)⟩, ⟨?_, ?_, by rw [World.frozen?_setCell]; exact hf⟩, hB.setCell (p := ⟨w.heap.size + 1, 0, none⟩) (by simp) _⟩
    · rw [World.cell?_setCell_other _ _ _ _ (by simp)]
      exact hc0
    · rw [Po.ev_snoc, ← HX.out]
      exact World.cell?_setCell_same' _ _ _ (by rw [hc]; rfl)
  case done =>
    rintro D ys W hD rfl ⟨⟨_, hc, _⟩, hB⟩ hK
    gi_wp2
    refine ⟨by simp, .inl ⟨_, _, rfl, run_takeDeferred hK, ?_⟩⟩
    exact ⟨_, results_tmp rfl _ _ _, by simp only [← hz, Po.ev_all]; rfl, hB.trans (belowK_b (w := w) (Nat.le_refl _) W D _ _ (by simp at hD; omega) hK rfl rfl)⟩
  case stop =>
    rintro D c pre W _ _ h _
    exact h.elim
theorem eval_any (A : Option Addr) (len cap : Nat) (zs : List UInt8) (x : UInt8) (hz : zs.length = len) (hreach : len ≤ 140737488351232) (w : World) (hI : Sl w w.heap.size A (bys zs)) :
    Calls Tryz.prog 143 #[.slice A len cap, .int .u8 (x.toNat : Int)] w fun e W' => e = .returned (.int .u8 ((Po.eval zs x).toNat : Int)) ∧ Below w.heap.size w W' :=
  (callsIn_wide (n := 3)).1 (eval_in Fence.wide 3 trivial trivial trivial trivial rfl (Nat.le_refl _) (fun m a c w => callsIn_wide.2 (mul_any a c w)) A len cap zs x hz hreach w hI)
namespace Po
/-- P4.3: the elements below k at which l is 0 -/
def rootsTo (l : List UInt8) : Nat → List UInt8
  | 0 => []
  | k + 1 => if eval l (UInt8.ofNat k) = 0 then rootsTo l k ++ [UInt8.ofNat k] else rootsTo l k
def rootsR (l : List UInt8) : List UInt8 := if vld l && decide (0 < l.length) then rootsTo l 256 else []
end Po
end Go.Proofs.YtnplaejlmbncfaaGreatDoor

namespace Go.Proofs.YtnplaejlmbncfaaGreatDoor
namespace Po
open Gf
/-- a coefficient, 0 behind the last one -/
def co (l : List UInt8) (i : Nat) : UInt8 := l[i]?.getD 0
theorem co_nil (i : Nat) : co [] i = 0 := rfl
theorem co_big (l : List UInt8) (i : Nat) (h : l.length ≤ i) : co l i = 0 := by
  unfold co
  rw [List.getElem?_eq_none h]
  rfl
theorem co_set (l : List UInt8) (k : Nat) (x : UInt8) (j : Nat) (h : k < l.length) : co (l.set k x) j = if j = k then x else co l j := by
  unfold co
  rw [List.getElem?_set]
  split
  · rename_i e
    subst e
    rw [if_pos rfl]
    rfl
  · rename_i e
    rw [if_neg (fun e' => e e'.symm)]
theorem co_replicate (n i : Nat) : co (List.replicate n 0) i = 0 := by
  unfold co
  rw [List.getElem?_replicate]
  split <;> rfl
theorem co_ext (p q : List UInt8) (hl : p.length = q.length) (h : ∀ i, co p i = co q i) : p = q := by
  apply List.ext_getElem hl
  intro i h1 h2
  have := h i
  unfold co at this
  rw [List.getElem?_eq_getElem h1, List.getElem?_eq_getElem h2] at this
  exact this
theorem co_addTo (l r : List UInt8) (t : UInt8) (i : Nat) : ∀ k, i + k ≤ l.length → ∀ j, co (addTo l r t i k) j = co l j ^^^ (if i ≤ j ∧ j < i + k then gmul t (co r (j - i)) else 0) := by
  intro k
  induction k with
  | zero =>
    intro _ j
    rw [if_neg (by omega), UInt8.xor_zero]
    rfl
  | succ k ih =>
    intro hk j
    have e : co (addTo l r t i (k + 1)) j = co ((addTo l r t i k).set (i + k) (co (addTo l r t i k) (i + k) ^^^ gmul t (co r k))) j := rfl
    rw [e, co_set _ _ _ _ (by rw [addTo_length]; omega)]
    split
    · rename_i hj
      subst hj
      rw [ih (by omega), if_neg (by omega), UInt8.xor_zero, if_pos (by omega), Nat.add_sub_cancel_left]
    · rw [ih (by omega)]
      congr 1
      by_cases h : i ≤ j ∧ j < i + k
      · rw [if_pos h, if_pos (by omega)]
      · rw [if_neg h, if_neg (by omega)]
theorem co_addAt (l r : List UInt8) (t : UInt8) (i : Nat) (h : i + r.length ≤ l.length) (j : Nat) : co (addAt l r t i) j = co l j ^^^ (if i ≤ j then gmul t (co r (j - i)) else 0) := by
  unfold addAt
  rw [co_addTo l r t i r.length h j]
  congr 1
  by_cases h1 : i ≤ j
  · by_cases h2 : j < i + r.length
    · rw [if_pos ⟨h1, h2⟩, if_pos h1]
    · rw [if_neg (by omega), if_pos h1, co_big r _ (by omega), gmul_zero]
  · rw [if_neg (by omega), if_neg h1]
theorem co_take (l : List UInt8) (k i : Nat) : co (l.take k) i = if i < k then co l i else 0 := by
  unfold co
  rw [List.getElem?_take]
  split <;> rfl
theorem tl_zeros (l : List UInt8) : ∀ n i, tl l n ≤ i → i < n → co l i = 0 := by
  intro n
  induction n with
  | zero => intro i _ h; omega
  | succ n ih =>
    intro i h1 h2
    by_cases h : l[n]? = some 0
    · rw [tl_zero l n h] at h1
      by_cases hi : i = n
      · subst hi
        unfold co
        rw [h]
        rfl
      · exact ih i h1 (by omega)
    · rw [tl_stop l n h] at h1
      omega
theorem co_trim (l : List UInt8) (i : Nat) : co (trim l) i = co l i := by
  unfold trim
  rw [co_take]
  split
  · rfl
  · rcases Nat.lt_or_ge i l.length with h | h
    · exact (tl_zeros l l.length i (by omega) h).symm
    · exact (co_big l i h).symm
theorem vld_top (l : List UInt8) (hv : vld l = true) (h : 0 < l.length) : co l (l.length - 1) ≠ 0 := by
  unfold vld at hv
  simp only [Bool.and_eq_true, bne_iff_ne, ne_eq] at hv
  intro e
  apply hv.2
  rw [List.getLast?_eq_getElem?, List.getElem?_eq_getElem (by omega)]
  unfold co at e
  rw [List.getElem?_eq_getElem (by omega)] at e
  exact congrArg some e
theorem len_le_of_top (p q : List UInt8) (hp : 0 < p.length → co p (p.length - 1) ≠ 0) (h : ∀ i, co p i = co q i) : p.length ≤ q.length := by
  rcases Nat.eq_zero_or_pos p.length with h0 | h0
  · omega
  · rcases Nat.lt_or_ge q.length p.length with h1 | h1
    · exact absurd ((h _).trans (co_big q _ (by omega))) (hp h0)
    · exact h1
/-- polynomials with equal coefficients are equal -/
theorem vld_ext (p q : List UInt8) (hp : vld p = true) (hq : vld q = true) (h : ∀ i, co p i = co q i) : p = q :=
  co_ext p q (Nat.le_antisymm (len_le_of_top p q (vld_top p hp) h) (len_le_of_top q p (vld_top q hq) (fun i => (h i).symm))) h
theorem co_padd (p q : List UInt8) (i : Nat) : co (padd p q) i = co p i ^^^ co q i := by
  unfold padd
  rw [co_addAt _ _ _ _ (by rw [addAt_length, List.length_replicate]; omega), co_addAt _ _ _ _ (by rw [List.length_replicate]; omega), co_replicate, if_pos (Nat.zero_le _), if_pos (Nat.zero_le _), one_gmul, one_gmul, UInt8.zero_xor]
  rfl

def sumX (f : Nat → UInt8) : Nat → UInt8
  | 0 => 0
  | k + 1 => sumX f k ^^^ f k
theorem sumX_congr {f g : Nat → UInt8} {n : Nat} (h : ∀ i, i < n → f i = g i) : sumX f n = sumX g n := by
  induction n with
  | zero => rfl
  | succ n ih => rw [sumX, sumX, ih (fun i hi => h i (by omega)), h n (by omega)]
theorem sumX_zero (n : Nat) : sumX (fun _ => 0) n = 0 := by
  induction n with
  | zero => rfl
  | succ n ih => rw [sumX, ih]; rfl
theorem sumX_add (f g : Nat → UInt8) (n : Nat) : sumX (fun i => f i ^^^ g i) n = sumX f n ^^^ sumX g n := by
  induction n with
  | zero => exact (UInt8.xor_self).symm
  | succ n ih => rw [sumX, sumX, sumX, ih, xor4]
theorem sumX_mul (c : UInt8) (f : Nat → UInt8) (n : Nat) : sumX (fun i => gmul c (f i)) n = gmul c (sumX f n) := by
  induction n with
  | zero => exact (gmul_zero c).symm
  | succ n ih => rw [sumX, sumX, ih, gmul_add]
theorem sumX_left (f : Nat → UInt8) (n : Nat) : sumX f (n + 1) = f 0 ^^^ sumX (fun i => f (i + 1)) n := by
  induction n with
  | zero => rw [sumX, sumX, sumX, UInt8.zero_xor, UInt8.xor_zero]
  | succ n ih => rw [sumX, ih, sumX, UInt8.xor_assoc]
theorem sumX_rev (f : Nat → UInt8) (n : Nat) : sumX (fun i => f (n - i)) (n + 1) = sumX f (n + 1) := by
  induction n generalizing f with
  | zero => rfl
  | succ n ih =>
    rw [sumX_left]
    have e : sumX (fun i => f (n + 1 - (i + 1))) (n + 1) = sumX (fun i => f (n - i)) (n + 1) := sumX_congr (fun i _ => by congr 1; omega)
    rw [e, ih f]
    conv => rhs; rw [sumX]
    rw [UInt8.xor_comm]
    rfl
/-- the product -/
def cv (f g : Nat → UInt8) (n : Nat) : UInt8 := sumX (fun i => gmul (f i) (g (n - i))) (n + 1)
def shift (f : Nat → UInt8) : Nat → UInt8
  | 0 => 0
  | n + 1 => f n
theorem cv_comm (f g : Nat → UInt8) (n : Nat) : cv f g n = cv g f n := by
  unfold cv
  rw [← sumX_rev]
  refine sumX_congr (fun i hi => ?_)
  show gmul (f (n - i)) (g (n - (n - i))) = _
  rw [gmul_comm, show n - (n - i) = i from by omega]
theorem cv_congr {f f' g g' : Nat → UInt8} (h : ∀ i, f i = f' i) (h' : ∀ i, g i = g' i) (n : Nat) : cv f g n = cv f' g' n := by
  unfold cv
  exact sumX_congr (fun i _ => by rw [h, h'])
theorem cv_add_right (f g h : Nat → UInt8) (n : Nat) : cv f (fun i => g i ^^^ h i) n = cv f g n ^^^ cv f h n := by
  unfold cv
  rw [← sumX_add]
  exact sumX_congr (fun i _ => gmul_add _ _ _)
theorem cv_add_left (f g h : Nat → UInt8) (n : Nat) : cv (fun i => f i ^^^ g i) h n = cv f h n ^^^ cv g h n := by
  rw [cv_comm, cv_add_right, cv_comm h f, cv_comm h g]
theorem cv_mul_right (c : UInt8) (f g : Nat → UInt8) (n : Nat) : cv f (fun i => gmul c (g i)) n = gmul c (cv f g n) := by
  unfold cv
  rw [← sumX_mul]
  refine sumX_congr (fun i _ => ?_)
  rw [← gmul_assoc, ← gmul_assoc, gmul_comm (f i) c]
theorem cv_mul_left (c : UInt8) (f g : Nat → UInt8) (n : Nat) : cv (fun i => gmul c (f i)) g n = gmul c (cv f g n) := by
  rw [cv_comm, cv_mul_right, cv_comm]
theorem cv_shift_left (f g : Nat → UInt8) (n : Nat) : cv (shift f) g n = shift (cv f g) n := by
  cases n with
  | zero =>
    show sumX _ 1 = 0
    rw [sumX, sumX, UInt8.zero_xor]
    exact zero_gmul _
  | succ n =>
    show cv (shift f) g (n + 1) = cv f g n
    unfold cv
    rw [sumX_left]
    show gmul 0 _ ^^^ _ = _
    rw [zero_gmul, UInt8.zero_xor]
    exact sumX_congr (fun i hi => by show gmul (f i) (g (n + 1 - (i + 1))) = _; congr 2; omega)
theorem cv_nil (g : Nat → UInt8) (n : Nat) : cv (co []) g n = 0 := by
  unfold cv
  rw [sumX_congr (g := fun _ => 0) (fun i _ => by rw [co_nil, zero_gmul]), sumX_zero]
theorem cv_cons (a : UInt8) (p : List UInt8) (g : Nat → UInt8) (n : Nat) : cv (co (a :: p)) g n = gmul a (g n) ^^^ shift (cv (co p) g) n := by
  rw [← cv_shift_left]
  unfold cv
  rw [sumX_left, sumX_left (fun i => gmul (shift (co p) i) (g (n - i)))]
  show gmul a (g n) ^^^ _ = _ ^^^ (gmul 0 _ ^^^ _)
  rw [zero_gmul, UInt8.zero_xor]
  congr 1
theorem shift_congr {f g : Nat → UInt8} (h : ∀ i, f i = g i) (n : Nat) : shift f n = shift g n := by
  cases n with
  | zero => rfl
  | succ n => exact h n
theorem cv_assoc (p : List UInt8) (g h : Nat → UInt8) : ∀ n, cv (co p) (cv g h) n = cv (cv (co p) g) h n := by
  induction p with
  | nil =>
    intro n
    rw [cv_nil, cv_congr (f' := fun _ => 0) (g' := h) (fun i => cv_nil g i) (fun _ => rfl)]
    exact (cv_nil h n).symm
  | cons a p ih =>
    intro n
    rw [cv_cons, cv_congr (f' := fun i => gmul a (g i) ^^^ shift (cv (co p) g) i) (g' := h) (fun i => cv_cons a p g i) (fun _ => rfl), cv_add_left, cv_mul_left, cv_shift_left]
    congr 1
    exact shift_congr ih n

theorem co_mulTo (p q : List UInt8) (hq : 0 < q.length) : ∀ k, k ≤ p.length → ∀ n, co (mulTo p q k) n = sumX (fun i => if i ≤ n then gmul (co p i) (co q (n - i)) else 0) k := by
  intro k
  induction k with
  | zero =>
    intro _ n
    rw [mulTo, co_replicate]
    rfl
  | succ k ih =>
    intro hk n
    rw [mulTo, co_addAt _ _ _ _ (by rw [mulTo_length]; omega), ih (by omega), sumX]
    rfl
theorem sumX_split (f : Nat → UInt8) (m n : Nat) (h : m ≤ n) (hf : ∀ i, m ≤ i → i < n → f i = 0) : sumX f n = sumX f m := by
  induction n with
  | zero =>
    have : m = 0 := by omega
    rw [this]
  | succ n ih =>
    by_cases e : m = n + 1
    · rw [e]
    · rw [sumX, ih (by omega) (fun i h1 h2 => hf i h1 (by omega)), hf n (by omega) (by omega), UInt8.xor_zero]
theorem co_mulA (p q : List UInt8) (hq : 0 < q.length) (n : Nat) : co (mulA p q) n = cv (co p) (co q) n := by
  unfold mulA cv
  rw [co_mulTo p q hq _ (Nat.le_refl _)]
  rcases Nat.lt_or_ge n p.length with h | h
  · rw [sumX_split _ (n + 1) p.length (by omega) (fun i h1 _ => if_neg (by omega))]
    exact sumX_congr (fun i hi => if_pos (by omega))
  · rw [sumX_split (fun i => gmul (co p i) (co q (n - i))) p.length (n + 1) (by omega) (fun i h1 _ => by rw [co_big p i h1, zero_gmul])]
    exact sumX_congr (fun i hi => if_pos (by omega))

/-- the value of the first N coefficients -/
def ev' (f : Nat → UInt8) (x : UInt8) (N : Nat) : UInt8 := sumX (fun i => gmul (f i) (gpow x i)) N
theorem eval_cons (a : UInt8) (l : List UInt8) (x : UInt8) : eval (a :: l) x = gmul (eval l x) x ^^^ a := by
  unfold eval
  rw [List.reverse_cons, List.foldl_append]
  rfl
theorem eval_nil (x : UInt8) : eval [] x = 0 := rfl
theorem ev_succ (f : Nat → UInt8) (x : UInt8) (N : Nat) : ev' f x (N + 1) = f 0 ^^^ gmul (ev' (fun i => f (i + 1)) x N) x := by
  unfold ev'
  rw [sumX_left]
  show gmul (f 0) 1 ^^^ _ = _
  rw [gmul_one, gmul_comm (sumX _ N) x, ← sumX_mul]
  congr 1
  refine sumX_congr (fun i _ => ?_)
  show gmul (f (i + 1)) (gmul (gpow x i) x) = _
  rw [← gmul_assoc, gmul_comm _ x]
theorem ev_co (l : List UInt8) (x : UInt8) : ∀ N, l.length ≤ N → ev' (co l) x N = eval l x := by
  induction l with
  | nil =>
    intro N _
    unfold ev'
    rw [sumX_congr (g := fun _ => 0) (fun i _ => by rw [co_nil, zero_gmul]), sumX_zero]
    rfl
  | cons a l ih =>
    intro N hN
    obtain ⟨M, rfl⟩ : ∃ M, N = M + 1 := ⟨N - 1, by simp at hN; omega⟩
    rw [ev_succ, eval_cons, UInt8.xor_comm]
    congr 1
    rw [← ih M (by simpa using hN)]
    congr 1
theorem ev_congr {f g : Nat → UInt8} (h : ∀ i, f i = g i) (x : UInt8) (N : Nat) : ev' f x N = ev' g x N := by
  unfold ev'
  exact sumX_congr (fun i _ => by rw [h])
theorem ev_add (f g : Nat → UInt8) (x : UInt8) (N : Nat) : ev' (fun i => f i ^^^ g i) x N = ev' f x N ^^^ ev' g x N := by
  unfold ev'
  rw [← sumX_add]
  exact sumX_congr (fun i _ => gmul_add' _ _ _)
theorem ev_mul (c : UInt8) (f : Nat → UInt8) (x : UInt8) (N : Nat) : ev' (fun i => gmul c (f i)) x N = gmul c (ev' f x N) := by
  unfold ev'
  rw [← sumX_mul]
  exact sumX_congr (fun i _ => gmul_assoc _ _ _)
/-- values depend on the coefficients alone -/
theorem eval_ext (p q : List UInt8) (h : ∀ i, co p i = co q i) (x : UInt8) : eval p x = eval q x := by
  rw [← ev_co p x (p.length + q.length) (by omega), ← ev_co q x (p.length + q.length) (by omega)]
  exact ev_congr h x _
theorem eval_add (p q r : List UInt8) (h : ∀ i, co r i = co p i ^^^ co q i) (x : UInt8) : eval r x = eval p x ^^^ eval q x := by
  rw [← ev_co p x (p.length + q.length + r.length) (by omega), ← ev_co q x (p.length + q.length + r.length) (by omega), ← ev_co r x (p.length + q.length + r.length) (by omega), ← ev_add]
  exact ev_congr h x _
theorem ev_cv (p : List UInt8) (g : Nat → UInt8) (x : UInt8) (m : Nat) (hg : ∀ i, m ≤ i → g i = 0) : ∀ N, p.length + m ≤ N → ev' (cv (co p) g) x N = gmul (eval p x) (ev' g x N) := by
  induction p with
  | nil =>
    intro N _
    rw [ev_congr (fun i => cv_nil g i), eval_nil, zero_gmul]
    unfold ev'
    rw [sumX_congr (g := fun _ => 0) (fun i _ => zero_gmul _), sumX_zero]
  | cons a p ih =>
    intro N hN
    obtain ⟨M, rfl⟩ : ∃ M, N = M + 1 := ⟨N - 1, by simp at hN; omega⟩
    have hM : p.length + m ≤ M := by simp at hN; omega
    rw [ev_congr (fun i => cv_cons a p g i), ev_add, ev_mul, eval_cons]
    have h1 : ev' (shift (cv (co p) g)) x (M + 1) = gmul (ev' (cv (co p) g) x M) x := by
      rw [ev_succ]
      show 0 ^^^ _ = _
      rw [UInt8.zero_xor]
      rfl
    have h2 : ev' g x (M + 1) = ev' g x M := by
      show ev' g x M ^^^ gmul (g M) _ = _
      rw [hg M (by omega), zero_gmul, UInt8.xor_zero]
    rw [h1, ih M hM, h2, gmul_add', UInt8.xor_comm]
    congr 1
    rw [gmul_assoc, gmul_comm (ev' g x M) x, ← gmul_assoc]
theorem eval_mul (p q r : List UInt8) (h : ∀ i, co r i = cv (co p) (co q) i) (x : UInt8) : eval r x = gmul (eval p x) (eval q x) := by
  rw [← ev_co r x (p.length + q.length + r.length) (by omega), ev_congr h x, ev_cv p (co q) x q.length (fun i hi => co_big q i hi) _ (by omega), ev_co q x _ (by omega)]
end Po
end Go.Proofs.YtnplaejlmbncfaaGreatDoor

namespace Go.Proofs.YtnplaejlmbncfaaGreatDoor
namespace Po
open Gf
def addV (p q : List UInt8) : List UInt8 := trim (padd p q)
def mulV (p q : List UInt8) : List UInt8 := if mulB p q then [] else mulA p q
theorem co_addV (p q : List UInt8) (i : Nat) : co (addV p q) i = co p i ^^^ co q i := by unfold addV; rw [co_trim, co_padd]
theorem mulV_pos (p q : List UInt8) (hp : 0 < p.length) (hq : 0 < q.length) : mulV p q = mulA p q := by
  unfold mulV mulB
  rw [decide_eq_false (by omega), decide_eq_false (by omega)]
  rfl
theorem mulV_empty (p q : List UInt8) (h : p.length = 0 ∨ q.length = 0) : mulV p q = [] := by
  unfold mulV mulB
  rcases h with h | h
  · rw [decide_eq_true h]; rfl
  · rw [decide_eq_true h, Bool.or_true]; rfl
theorem co_mulV (p q : List UInt8) (n : Nat) : co (mulV p q) n = cv (co p) (co q) n := by
  rcases Nat.eq_zero_or_pos p.length with h | h
  · rw [mulV_empty p q (.inl h), List.eq_nil_of_length_eq_zero h, cv_nil]
    rfl
  · rcases Nat.eq_zero_or_pos q.length with h' | h'
    · rw [mulV_empty p q (.inr h'), List.eq_nil_of_length_eq_zero h', cv_comm, cv_nil]
      rfl
    · rw [mulV_pos p q h h', co_mulA p q h']
theorem sumX_single (f : Nat → UInt8) (n k : Nat) (hk : k < n) (h : ∀ i, i < n → i ≠ k → f i = 0) : sumX f n = f k := by
  induction n with
  | zero => omega
  | succ n ih =>
    rw [sumX]
    by_cases e : k = n
    · subst e
      rw [sumX_congr (g := fun _ => 0) (fun i hi => h i (by omega) (by omega)), sumX_zero, UInt8.zero_xor]
    · rw [ih (by omega) (fun i h1 h2 => h i (by omega) h2), h n (by omega) (fun x => e x.symm), UInt8.xor_zero]
theorem cv_top (p q : List UInt8) (hp : 0 < p.length) (hq : 0 < q.length) : cv (co p) (co q) (p.length + q.length - 2) = gmul (co p (p.length - 1)) (co q (q.length - 1)) := by
  unfold cv
  rw [sumX_single _ _ (p.length - 1) (by omega) (fun i hi hne => ?_)]
  · rw [show p.length + q.length - 2 - (p.length - 1) = q.length - 1 from by omega]
  · rcases Nat.lt_or_ge i p.length with h | h
    · rw [co_big q _ (by omega), gmul_zero]
    · rw [co_big p i h, zero_gmul]
theorem vld_of_top (l : List UInt8) (hl : l.length ≤ 255) (h : 0 < l.length → co l (l.length - 1) ≠ 0) : vld l = true := by
  unfold vld
  rw [decide_eq_true hl, Bool.true_and, bne_iff_ne, List.getLast?_eq_getElem?]
  intro e
  rcases Nat.eq_zero_or_pos l.length with h0 | h0
  · rw [List.getElem?_eq_none (by omega)] at e
    cases e
  · apply h h0
    unfold co
    rw [e]
    rfl
theorem mulA_vld (p q : List UInt8) (hp : vld p = true) (hq : vld q = true) (hp0 : 0 < p.length) (hq0 : 0 < q.length) (hl : p.length + q.length - 1 ≤ 255) : vld (mulA p q) = true := by
  have hlen : (mulA p q).length = p.length + q.length - 1 := by unfold mulA; rw [mulTo_length]
  refine vld_of_top _ (by rw [hlen]; exact hl) (fun _ => ?_)
  rw [hlen, show p.length + q.length - 1 - 1 = p.length + q.length - 2 from by omega, co_mulA p q hq0, cv_top p q hp0 hq0]
  exact gmul_ne _ _ (vld_top p hp hp0) (vld_top q hq hq0)
theorem mulV_vld (p q : List UInt8) (hp : vld p = true) (hq : vld q = true) (hl : p.length + q.length - 1 ≤ 255) : vld (mulV p q) = true := by
  rcases Nat.eq_zero_or_pos p.length with h | h
  · rw [mulV_empty p q (.inl h)]; rfl
  · rcases Nat.eq_zero_or_pos q.length with h' | h'
    · rw [mulV_empty p q (.inr h')]; rfl
    · rw [mulV_pos p q h h']
      exact mulA_vld p q hp hq h h' hl
theorem mulR_ok {p q : List UInt8} (h : vld p = true) (h' : vld q = true) (hl : p.length + q.length - 1 ≤ 255) : mulR p q = mulV p q ∧ mulE p q = 0 := by
  have hv : (vld p && vld q) = true := by rw [h, h']; rfl
  rcases Nat.eq_zero_or_pos p.length with h0 | h0
  · rw [mulV_empty p q (.inl h0)]
    exact mul_empty hv (.inl h0)
  · rcases Nat.eq_zero_or_pos q.length with h1 | h1
    · rw [mulV_empty p q (.inr h1)]
      exact mul_empty hv (.inr h1)
    · rw [mulV_pos p q h0 h1]
      exact mul_some hv h0 h1 hl
theorem eval_addV (p q : List UInt8) (x : UInt8) : eval (addV p q) x = eval p x ^^^ eval q x := eval_add p q _ (co_addV p q) x
theorem eval_mulV (p q : List UInt8) (x : UInt8) : eval (mulV p q) x = gmul (eval p x) (eval q x) := eval_mul p q _ (co_mulV p q) x

end Po
end Go.Proofs.YtnplaejlmbncfaaGreatDoor

namespace Go.Proofs.YtnplaejlmbncfaaGreatDoor
namespace Po
open Gf
theorem cv_delta (f : UInt8) (a : Nat) (g : Nat → UInt8) (n : Nat) : cv (fun i => if i = a then f else 0) g n = if a ≤ n then gmul f (g (n - a)) else 0 := by
  unfold cv
  by_cases h : a ≤ n
  · rw [if_pos h, sumX_single _ _ a (by omega) (fun i _ hi => by show gmul (if i = a then f else 0) _ = 0; rw [if_neg hi, zero_gmul])]
    show gmul (if a = a then f else 0) _ = _
    rw [if_pos rfl]
  · rw [if_neg h, sumX_congr (g := fun _ => 0) (fun i hi => by show gmul (if i = a then f else 0) _ = 0; rw [if_neg (by omega), zero_gmul]), sumX_zero]
section
variable (p q : List UInt8) (lead : UInt8) (hq : 0 < q.length) (hpq : q.length ≤ p.length)
/-- the quotient's places that are still to come are 0 -/
theorem dv_quot_zero : ∀ j, ∀ i, i + j ≤ p.length - q.length → co (dv p q lead j).2 i = 0 := by
  intro j
  induction j with
  | zero => intro i _; rw [dv]; exact co_replicate _ _
  | succ j ih =>
    intro i hi
    rw [dv]
    simp only
    rw [co_set _ _ _ _ (by rw [(dv_len p q lead j).2]; omega), if_neg (by omega)]
    exact ih i (by omega)
include hpq in
theorem dv_id : ∀ j, j ≤ p.length - q.length + 1 → ∀ i, co p i = co (dv p q lead j).1 i ^^^ cv (co (dv p q lead j).2) (co q) i := by
  intro j
  induction j with
  | zero =>
    intro _ i
    rw [dv]
    simp only
    rw [cv_congr (f' := co []) (g' := co q) (fun k => co_replicate _ k) (fun _ => rfl), cv_nil, UInt8.xor_zero]
  | succ j ih =>
    intro hj i
    obtain ⟨l1, l2⟩ := dv_len p q lead j
    have hz := dv_quot_zero p q lead j (p.length - q.length - j) (by omega)
    rw [dv]
    simp only
    generalize gmul ((dv p q lead j).1[p.length - q.length - j + q.length - 1]?.getD 0) lead = f
    rw [co_addAt _ _ _ _ (by rw [l1]; omega)]
    have e1 : cv (co ((dv p q lead j).2.set (p.length - q.length - j) f)) (co q) i = cv (co (dv p q lead j).2) (co q) i ^^^ (if p.length - q.length - j ≤ i then gmul f (co q (i - (p.length - q.length - j))) else 0) := by
      rw [← cv_delta, ← cv_add_left]
      refine cv_congr (fun k => ?_) (fun _ => rfl) i
      rw [co_set _ _ _ _ (by rw [l2]; omega)]
      by_cases hk : k = p.length - q.length - j
      · rw [if_pos hk, if_pos hk, hk, hz, UInt8.zero_xor]
      · rw [if_neg hk, if_neg hk, UInt8.xor_zero]
    rw [e1, ih (by omega) i]
    generalize (if p.length - q.length - j ≤ i then gmul f (co q (i - (p.length - q.length - j))) else 0) = z
    rw [UInt8.xor_assoc, UInt8.xor_comm z, UInt8.xor_assoc, UInt8.xor_self, UInt8.xor_zero]
include hq hpq in
theorem dv_rest_zero (hl : lead = ginv (co q (q.length - 1))) (hne : co q (q.length - 1) ≠ 0) : ∀ j, j ≤ p.length - q.length + 1 → ∀ i, p.length ≤ i + j → co (dv p q lead j).1 i = 0 := by
  intro j
  induction j with
  | zero => intro _ i hi; rw [dv]; exact co_big _ _ (by simpa using hi)
  | succ j ih =>
    intro hj i hi
    obtain ⟨l1, l2⟩ := dv_len p q lead j
    rw [dv]
    simp only
    rw [co_addAt _ _ _ _ (by rw [l1]; omega)]
    have hb : (dv p q lead j).1[p.length - q.length - j + q.length - 1]?.getD 0 = co (dv p q lead j).1 (p.length - j - 1) := by
      unfold co
      rw [show p.length - q.length - j + q.length - 1 = p.length - j - 1 by omega]
    rw [hb]
    by_cases h1 : i = p.length - j - 1
    · rw [if_pos (by omega), h1, show p.length - j - 1 - (p.length - q.length - j) = q.length - 1 by omega, hl, gmul_assoc, ginv_mul _ hne, gmul_one, UInt8.xor_self]
    · rw [ih (by omega) i (by omega)]
      rw [co_big q _ (by omega), gmul_zero]
      split <;> rfl
end
theorem div_co (p q : List UInt8) (hq : 0 < q.length) (hne : co q (q.length - 1) ≠ 0) (i : Nat) : co p i = co (rem p q) i ^^^ cv (co (quo p q)) (co q) i := by
  unfold rem quo
  by_cases h : p.length < q.length
  · rw [if_pos h, if_pos h, cv_nil, UInt8.xor_zero]
  · rw [if_neg h, if_neg h, co_trim, co_take]
    have h1 := dv_id p q (ginv (lastOf q)) (by omega) (p.length - q.length + 1) (Nat.le_refl _) i
    have h2 := dv_rest_zero p q (ginv (lastOf q)) hq (by omega) rfl hne (p.length - q.length + 1) (Nat.le_refl _) i
    unfold dvAll
    by_cases hi : i < q.length - 1
    · rw [if_pos hi]; exact h1
    · rw [if_neg hi, UInt8.zero_xor]
      rw [h2 (by omega), UInt8.zero_xor] at h1
      exact h1
theorem rem_vld (p q : List UInt8) (hp : vld p = true) (hq : q.length ≤ 255) : vld (rem p q) = true := by
  unfold rem
  split
  · exact hp
  · refine trim_vld _ ?_
    have : ((dvAll p q).1.take (q.length - 1)).length ≤ q.length - 1 := List.length_take_le _ _
    omega
theorem dv_top (p q : List UInt8) (lead : UInt8) (hq : 0 < q.length) (hpq : q.length ≤ p.length) : ∀ j, j ≤ p.length - q.length → co (dv p q lead (j + 1)).2 (p.length - q.length) = gmul (co p (p.length - 1)) lead := by
  intro j
  induction j with
  | zero =>
    intro _
    rw [dv]
    simp only
    rw [co_set _ _ _ _ (by rw [(dv_len p q lead 0).2]; omega), if_pos (by omega)]
    rw [dv]
    simp only
    rw [show p.length - q.length - 0 + q.length - 1 = p.length - 1 by omega]
    rfl
  | succ j ih =>
    intro hj
    rw [dv]
    simp only
    rw [co_set _ _ _ _ (by rw [(dv_len p q lead (j + 1)).2]; omega), if_neg (by omega)]
    exact ih (by omega)
theorem quo_vld (p q : List UInt8) (hp : vld p = true) (hq : 0 < q.length) (hne : co q (q.length - 1) ≠ 0) : vld (quo p q) = true := by
  unfold quo
  split
  · rfl
  · rename_i h
    have hl := (dv_len p q (ginv (lastOf q)) (p.length - q.length + 1)).2
    have h255 := vld_len hp
    unfold dvAll
    refine vld_of_top _ (by rw [hl]; omega) (fun _ => ?_)
    rw [hl, Nat.add_sub_cancel, dv_top p q _ hq (by omega) _ (Nat.le_refl _)]
    exact gmul_ne _ _ (vld_top p hp (by omega)) (ginv_ne _ hne)
end Po
end Go.Proofs.YtnplaejlmbncfaaGreatDoor

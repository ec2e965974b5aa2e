/- The contracts of the package field (inverses, quotients, powers, logarithms), of its reference, and of Mod. -/
import Derived.Test.YtkolmppfhpcdpaaDoorFieldB
namespace Go.Proofs.YtkolmppfhpcdpaaDoor
open Go.RowKit
set_option linter.unusedVariables false
set_option maxRecDepth 100000

namespace Gf
/-- the error of a division by a: ErrZero, or none -/
def ez (a : UInt8) : Int := if a = 0 then 4 else 0
theorem ez_zero : ez 0 = 4 := rfl
theorem ez_ne (a : UInt8) (h : a ≠ 0) : ez a = 0 := if_neg h
/-- a power as the packages give it -/
def pw (a : UInt8) (n : Int) : UInt8 := if a = 0 then (if n = 0 then 1 else 0) else zpow a n
def epw (a : UInt8) (n : Int) : Int := if a = 0 ∧ n < 0 then 4 else 0
def lg (a : UInt8) : Int := if a = 0 then 0 else (glog a : Int)
end Gf

theorem ret2_eq {k l : IntKind} {a b c d : Int} (h : a = b) (h' : c = d) : Ending.returned (.tuple #[.int k a, .int l c]) = .returned (.tuple #[.int k b, .int l d]) := by rw [h, h']
theorem zero_or (a : UInt8) : a = 0 ∨ (a ≠ 0 ∧ ((a.toNat : Int) == 0) = false) := by
  by_cases h : a = 0
  · exact .inl h
  · exact .inr ⟨h, by have := u8_pos h; rw [beq_eq_false_iff_ne]; omega⟩

theorem inverse_any (a : UInt8) (w : World) : Calls Tryd.prog 41 #[.int .u8 (a.toNat : Int)] w fun e w' => e = .returned (.tuple #[.int .u8 ((Gf.ginv a).toNat : Int), .int .i64 (Gf.ez a)]) ∧ w = w' := by
  rcases zero_or a with rfl | ⟨h, h1⟩
  · go_enter Tryd.func41, Tryd.ntmps41
    go_wp2_with fail
    go_ret2
    exact ⟨ret2_eq (by rw [Gf.ginv_zero]; rfl) rfl, rfl⟩
  · have H := Lib.hid (Gf.ez_ne a h)
    clear h
    have hl := u8_lt a
    go_enter Tryd.func41, Tryd.ntmps41
    go_wp2_with (go_at_call 53; refine (raise_any _ _ (by omega) (by omega) _).mono ?_; rintro e w' ⟨rfl, rfl⟩)
    go_ret2
    exact ⟨ret2_eq rfl H.out.symm, rfl⟩

theorem divide_any (a c : UInt8) (w : World) : Calls Tryd.prog 35 #[.int .u8 (a.toNat : Int), .int .u8 (c.toNat : Int)] w fun e w' => e = .returned (.tuple #[.int .u8 ((Gf.gmul a (Gf.ginv c)).toNat : Int), .int .i64 (Gf.ez c)]) ∧ w = w' := by
  have hl := u8_lt a
  go_enter Tryd.func35, Tryd.ntmps35
  go_wp2_with (first | (go_at_call 41; refine (inverse_any _ _).mono ?_; rintro e w' ⟨rfl, rfl⟩) | (go_at_call 32; refine (mul_any _ _ _).mono ?_; rintro e w' ⟨rfl, rfl⟩))
  go_ret2
  exact ⟨rfl, rfl⟩


/-- the first of these numbers whose power of 2 is a -/
theorem log_find (a : UInt8) : Gf.find a 255 0 1 = Gf.glog a := rfl
theorem find_stop (a x : UInt8) (f n : Nat) (h : x = a) : Gf.find a (f + 1) n x = n := by
  simp [Gf.find, h]
theorem find_go (a x : UInt8) (f n : Nat) (h : x ≠ a) : Gf.find a (f + 1) n x = Gf.find a f (n + 1) (Gf.dbl x) := by
  simp [Gf.find, h]
def LogRel (a : UInt8) (n x : Value) : Prop := ∃ (k : Nat) (y : UInt8), k ≤ 255 ∧ n = .int .i64 (k : Int) ∧ x = .int .u8 (y.toNat : Int) ∧ Gf.find a (255 - k) k y = Gf.glog a
/-! The reference. -/
theorem refinverse_any (a : UInt8) (w : World) : Calls Tryd.prog 52 #[.int .u8 (a.toNat : Int)] w fun e w' => e = .returned (.tuple #[.int .u8 ((Gf.ginv a).toNat : Int), .int .i64 (Gf.ez a)]) ∧ w = w' := by
  rcases zero_or a with rfl | ⟨h, h1⟩
  · go_enter Tryd.func52, Tryd.ntmps52
    go_wp2_with fail
    go_ret2
    exact ⟨ret2_eq (by rw [Gf.ginv_zero]; rfl) rfl, rfl⟩
  · have H := Lib.hid (Gf.ez_ne a h)
    clear h
    have hl := u8_lt a
    go_enter Tryd.func52, Tryd.ntmps52
    go_wp2_with fail
    go_loop [4, 5] (fun v i => ∃ (k : Nat) (y : UInt8), k ≤ 254 ∧ i = .int .i64 (k : Int) ∧ v = .int .u8 (y.toNat : Int) ∧ Hid (y = Gf.gpow a k)) (fun _ i => 254 - (intOf i).toNat)
    case atStart => exact ⟨0, 1, by omega, rfl, rfl, rfl⟩
    case round =>
      obtain ⟨k, y, hk, rfl, rfl, HF⟩ := hrel
      have hy := u8_lt y
      rcases Nat.lt_or_ge k 254 with hk2 | hk2
      · go_wp2_with (go_at_call 38; refine (refmul_any _ _ _).mono ?_; rintro e w' ⟨rfl, rfl⟩)
        go_round
        case rel => exact ⟨k + 1, Gf.gmul y a, by omega, by go_num, rfl, by unfold Hid; rw [HF.out]; rfl⟩
        case measure => simp [intOf]; omega
      · go_wp2_with fail
        go_ret2
        exact ⟨ret2_eq (by rw [HF.out, show k = 254 from by omega]; rfl) H.out.symm, rfl⟩

theorem refdivide_any (a c : UInt8) (w : World) : Calls Tryd.prog 36 #[.int .u8 (a.toNat : Int), .int .u8 (c.toNat : Int)] w fun e w' => e = .returned (.tuple #[.int .u8 ((Gf.gmul a (Gf.ginv c)).toNat : Int), .int .i64 (Gf.ez c)]) ∧ w = w' := by
  have hl := u8_lt a
  rcases zero_or c with rfl | ⟨h, h1⟩
  · have H : Hid (Gf.gmul a (Gf.ginv 0) = 0) := by unfold Hid; rw [Gf.ginv_zero, Gf.gmul_zero]
    have he := Gf.ez_zero
    go_enter Tryd.func36, Tryd.ntmps36
    go_wp2_with (go_at_call 52; refine (refinverse_any 0 _).mono ?_; rintro e w' ⟨rfl, rfl⟩)
    go_ret2
    exact ⟨ret2_eq (by rw [H.out]; rfl) rfl, rfl⟩
  · have he := Gf.ez_ne c h
    clear h
    go_enter Tryd.func36, Tryd.ntmps36
    go_wp2_with (first | (go_at_call 52; refine (refinverse_any _ _).mono ?_; rintro e w' ⟨rfl, rfl⟩) | (go_at_call 38; refine (refmul_any _ _ _).mono ?_; rintro e w' ⟨rfl, rfl⟩))
    go_ret2
    exact ⟨ret2_eq rfl (by rw [he]), rfl⟩
end Go.Proofs.YtkolmppfhpcdpaaDoor

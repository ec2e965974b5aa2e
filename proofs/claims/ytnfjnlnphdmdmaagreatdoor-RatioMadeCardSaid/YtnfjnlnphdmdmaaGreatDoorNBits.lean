/- math/bits.Len of a number (after the shelf's walk of Len64). -/
import Derived.Test.YtnfjnlnphdmdmaaGreatDoorNatA
import Derived.Lib.BitFns
namespace Go.Proofs.YtnfjnlnphdmdmaaGreatDoor
open Go.RowKit
set_option linter.unusedVariables false
set_option maxRecDepth 100000
theorem bl_aux : ∀ (f x : Nat), x < 2 ^ f → x ≠ 0 → 1 ≤ Lib.bitLenAux f x ∧ 2 ^ (Lib.bitLenAux f x - 1) ≤ x ∧ x < 2 ^ Lib.bitLenAux f x
  | 0, x, h, h0 => by simp at h; omega
  | f + 1, x, h, h0 => by
    rw [Lib.bitLenAux, if_neg h0]
    by_cases h2 : x / 2 = 0
    · have hz : Lib.bitLenAux f 0 = 0 := by cases f <;> simp [Lib.bitLenAux]
      rw [h2, hz]
      simp
      omega
    · obtain ⟨a, b, c⟩ := bl_aux f (x / 2) (by rw [Nat.pow_succ] at h; omega) h2
      generalize Lib.bitLenAux f (x / 2) = L at a b c ⊢
      obtain ⟨L, rfl⟩ : ∃ M, L = M + 1 := ⟨L - 1, by omega⟩
      have e1 : 1 + (L + 1) - 1 = L + 1 := by omega
      have e2 : 1 + (L + 1) = (L + 1) + 1 := by omega
      rw [e1, e2, Nat.pow_succ 2 (L + 1)]
      simp only [Nat.add_sub_cancel] at b
      rw [Nat.pow_succ] at c ⊢
      omega
def Nbl (x : Nat) : Nat := Lib.bitLen x
theorem nbl_pos {x : Nat} (h0 : 0 < x) (h : x < 18446744073709551616) : 1 ≤ Nbl x ∧ 2 ^ (Nbl x - 1) ≤ x ∧ x < 2 ^ Nbl x := bl_aux 64 x h (by omega)
theorem nbl_zero : Nbl 0 = 0 := by decide
theorem nbl_le {x k : Nat} (h : x < 2 ^ k) (hk : k ≤ 64) : Nbl x ≤ k := Lib.bitLen_le x k hk h

theorem tab_size : (Lib.len8tab.size : Int) = 256 := by
  have : Lib.len8tab.size = 256 := by decide
  omega
theorem wrap_add (k a b : Nat) (hk : k ≤ 56) (ha : a ≤ 8) (hb : b = k + a) : wrap64 ((k : Int) + wrap64 (a : Int)) = (b : Int) := by
  unfold wrap64
  omega
theorem wrap_wrap (a : Nat) (ha : a ≤ 8) : wrap64 (wrap64 (a : Int)) = (a : Int) := by
  unfold wrap64
  omega
theorem wrap_one (a : Nat) (ha : a ≤ 8) : wrap64 (a : Int) = (a : Int) := by
  unfold wrap64
  omega
theorem tab_get (y : Int) (h : y.toNat < Lib.len8tab.size) : ((Lib.len8tab[y.toNat]'h).toNat : Int) = Lib.len8 y := by
  unfold Lib.len8
  rw [getElem?_pos Lib.len8tab y.toNat h]
  rfl
set_option maxHeartbeats 4000000 in
theorem len64_any (x : Int) (w : World) (h0 : 0 ≤ x) (h1 : x < 16777216) :
    Calls Tryz.prog 97 #[.int .u64 x] w fun e w' => e = .returned (.int .i64 (Lib.bitLen x.toNat)) ∧ w' = w := by
  go_enter Tryz.func97, Tryz.ntmps97
  go_wp2
  all_goals first
    | (go_ret; refine ⟨congrArg Ending.returned (congrArg (Value.int IntKind.i64) ?_), rfl⟩)
    | (exfalso; have hs := tab_size; omega)
  all_goals first
    | (rw [tab_get (x / 65536) _, Lib.len8_of (x / 65536) (by omega) (by omega)]
       have e : (x / 65536).toNat = x.toNat / 65536 := by omega
       have l := Lib.bitLen_le8' (x / 65536) (by omega) (by omega)
       have s := Lib.bitLen_shift16 x.toNat (by omega) (by omega)
       rw [e] at l ⊢
       exact wrap_add 16 _ _ (by decide) l s)
    | (rw [tab_get (x / 256) _, Lib.len8_of (x / 256) (by omega) (by omega)]
       have e : (x / 256).toNat = x.toNat / 256 := by omega
       have l := Lib.bitLen_le8' (x / 256) (by omega) (by omega)
       have s := Lib.bitLen_shift8 x.toNat (by omega) (by omega)
       rw [e] at l ⊢
       exact wrap_add 8 _ _ (by decide) l s)
    | (rw [tab_get (x) _, Lib.len8_of (x) (by omega) (by omega)]
       have l := Lib.bitLen_le8' (x) (by omega) (by omega)
       first | exact wrap_wrap _ l | exact wrap_add 0 _ _ (by decide) l (by omega) | exact wrap_one _ l)

theorem blen_any (x : Nat) (xi : Int) (hx : xi = (x : Int)) (w : World) (h1 : x < 16777216) :
    Calls Tryz.prog 84 #[.int .u64 xi] w fun e w' => e = .returned (.int .i64 (Nbl x : Int)) ∧ w = w' := by
  subst hx
  go_enter Tryz.func84, Tryz.ntmps84
  go_wp2_with fail
  refine (len64_any x _ (by omega) (by omega)).mono ?_
  rintro e w' ⟨rfl, rfl⟩
  go_wp2_with fail
  go_ret
  exact ⟨rfl, rfl⟩
end Go.Proofs.YtnfjnlnphdmdmaaGreatDoor

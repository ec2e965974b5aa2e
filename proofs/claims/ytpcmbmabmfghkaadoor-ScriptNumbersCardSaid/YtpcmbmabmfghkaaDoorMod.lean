/- The contract of Mod: the remainder from 0 on. -/
import Derived.Test.YtpcmbmabmfghkaaDoorKit
import Derived.Test.YtpcmbmabmfghkaaDoorChecked
namespace Go.Proofs.YtpcmbmabmfghkaaDoor
open Go.RowKit
set_option linter.unusedVariables false
set_option maxRecDepth 100000
theorem ret_int {k : IntKind} {a b : Int} (h : a = b) : Ending.returned (.int k a) = .returned (.int k b) := by rw [h]

theorem mod_num (n m : Int) (h : 1 ≤ m) (h' : n.tmod m < 0) : n.tmod m + m = n % m := by
  have h1 := Int.tmod_eq_emod (a := n) (b := m)
  have h2 := Int.emod_nonneg n (show m ≠ 0 by omega)
  have h3 := Int.emod_lt_of_pos n (show 0 < m by omega)
  split at h1 <;> omega
theorem mod_num' (n m : Int) (h : 1 ≤ m) (h' : 0 ≤ n.tmod m) : n.tmod m = n % m := by
  have h1 := Int.tmod_eq_emod (a := n) (b := m)
  have h2 := Int.emod_nonneg n (show m ≠ 0 by omega)
  have h3 := Int.emod_lt_of_pos n (show 0 < m by omega)
  split at h1
  · omega
  · rename_i h4
    have : (m.natAbs : Int) = m := by omega
    omega
theorem tmod_lt (n m : Int) (h : 1 ≤ m) : - m < n.tmod m ∧ n.tmod m < m := by
  have h1 := Int.tmod_eq_emod (a := n) (b := m)
  have h2 := Int.emod_nonneg n (show m ≠ 0 by omega)
  have h3 := Int.emod_lt_of_pos n (show 0 < m by omega)
  have h5 : (m.natAbs : Int) = m := by omega
  split at h1
  · omega
  · rename_i h4
    rw [Int.dvd_iff_emod_eq_zero] at h4
    omega
/-- 'Mod(n, m)' for an m from 1 on. -/
theorem mod_any (n m : Int) (w : World) (h1 : 1 ≤ m) (h2 : m ≤ 9223372036854775807) : Calls Tryd.prog 5 #[.int .i64 n, .int .i64 m] w fun e w' => e = .returned (.int .i64 (n % m)) ∧ w = w' := by
  obtain ⟨hb, hb'⟩ := tmod_lt n m h1
  rcases Int.lt_or_le (n.tmod m) 0 with hn | hn
  · have H := Lib.hid (mod_num n m h1 hn)
    go_enter Tryd.func5, Tryd.ntmps5
    go_wp2_with fail
    go_ret
    exact ⟨ret_int H.out, rfl⟩
  · have H := Lib.hid (mod_num' n m h1 hn)
    go_enter Tryd.func5, Tryd.ntmps5
    go_wp2_with fail
    go_ret
    exact ⟨ret_int H.out, rfl⟩

theorem u8_ne {a c : UInt8} (h : a ≠ c) : ((a.toNat : Int) == (c.toNat : Int)) = false := by
  rw [beq_eq_false_iff_ne]
  intro e
  exact h (UInt8.toNat_inj.1 (by omega))
theorem u8_ne' {a c : UInt8} (h : a ≠ c) : ((a.toNat : Int) != (c.toNat : Int)) = true := by
  rw [bne_iff_ne]
  intro e
  exact h (UInt8.toNat_inj.1 (by omega))
end Go.Proofs.YtpcmbmabmfghkaaDoor

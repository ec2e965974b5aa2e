/- program.Valid at two operations. -/
import Derived.Test.YtpcmbmabmfghkaaDoorScJ
namespace Go.Proofs.YtpcmbmabmfghkaaDoor
open Go.RowKit
set_option linter.unusedVariables false
set_option maxRecDepth 100000
theorem within_any (n a b : Int) (w : World) :
    Calls Tryd.prog 43 #[.int .i64 n, .int .i64 a, .int .i64 b] w fun e w' => e = .returned (.bool (decide (a ≤ n) && decide (n ≤ b))) ∧ w' = w := by
  by_cases h1 : a ≤ n
  · have d1 : decide (a ≤ n) = true := by simp; omega
    by_cases h2 : n ≤ b
    · have d2 : decide (n ≤ b) = true := by simp; omega
      clear h1 h2
      rw [d1, d2]
      go_enter Tryd.func43, Tryd.ntmps43
      go_wp2_with fail
      go_ret
      exact ⟨rfl, rfl⟩
    · have d2 : decide (n ≤ b) = false := by simp; omega
      clear h1 h2
      rw [d1, d2]
      go_enter Tryd.func43, Tryd.ntmps43
      go_wp2_with fail
      go_ret
      exact ⟨rfl, rfl⟩
  · have d1 : decide (a ≤ n) = false := by simp; omega
    clear h1
    rw [d1, Bool.false_and]
    go_enter Tryd.func43, Tryd.ntmps43
    go_wp2_with fail
    go_ret
    exact ⟨rfl, rfl⟩
set_option maxHeartbeats 1000000 in
theorem valid_two (k c : Nat) (A : Option Addr) (r : Bool) (hr : ((k : Int) == 2) = r) (w : World) :
    Calls Tryd.prog 22 #[.int .i64 2, .agg #[.int .i64 2, .int .i64 1, .int .i64 0, .int .i64 3, .int .i64 0, .slice A k c]] w fun e w' => e = .returned (.bool r) ∧ Below w.heap.size w w' := by
  have H0 := (Ow.of (St.refl w)).arr #[.int .i64 2, .int .i64 1, .int .i64 0, .int .i64 3, .int .i64 0, .slice A k c] 6 rfl (by omega) 29
  have HB := Lib.hid H0.below
  clear H0
  go_enter Tryd.func22, Tryd.ntmps22
  go_wp2_with (first | (go_at_call 43; refine (within_any _ _ _ _).mono ?_; rintro e w' ⟨rfl, rfl⟩) | (with_reducible refine upon_id ?_; go_simp))
  all_goals
    go_ret
    exact ⟨by simp_all, HB.out⟩
end Go.Proofs.YtpcmbmabmfghkaaDoor

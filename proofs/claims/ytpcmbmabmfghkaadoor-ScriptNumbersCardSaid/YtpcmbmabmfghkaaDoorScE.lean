/- small functions of scripts: sized, flag, empty at no operation. -/
import Derived.Test.YtpcmbmabmfghkaaDoorScD
namespace Go.Proofs.YtpcmbmabmfghkaaDoor
open Go.RowKit
set_option linter.unusedVariables false
set_option maxRecDepth 100000
theorem sized_any (n : Int) (w : World) :
    Calls Tryd.prog 11 #[.int .i64 n] w fun e w' => e = .returned (.bool (decide (1 ≤ n) && decide (n ≤ 32))) ∧ w' = w := by
  by_cases h1 : 1 ≤ n
  · by_cases h2 : n ≤ 32
    · have d1 : decide (1 ≤ n) = true := by simp; omega
      have d2 : decide (n ≤ 32) = true := by simp; omega
      clear h1 h2
      rw [d1, d2]
      go_enter Tryd.func11, Tryd.ntmps11
      go_wp2_with fail
      go_ret
      exact ⟨rfl, rfl⟩
    · have d1 : decide (1 ≤ n) = true := by simp; omega
      have d2 : decide (n ≤ 32) = false := by simp; omega
      clear h1 h2
      rw [d1, d2]
      go_enter Tryd.func11, Tryd.ntmps11
      go_wp2_with fail
      go_ret
      exact ⟨rfl, rfl⟩
  · have d1 : decide (1 ≤ n) = false := by simp; omega
    clear h1
    rw [d1, Bool.false_and]
    go_enter Tryd.func11, Tryd.ntmps11
    go_wp2_with fail
    go_ret
    exact ⟨rfl, rfl⟩
theorem flag_no (w : World) :
    Calls Tryd.prog 42 #[.bool false] w fun e w' => e = .returned (.int .i64 0) ∧ w' = w := by
  go_enter Tryd.func42, Tryd.ntmps42
  go_wp2_with fail
  go_ret
  exact ⟨rfl, rfl⟩
theorem flag_yes (w : World) :
    Calls Tryd.prog 42 #[.bool true] w fun e w' => e = .returned (.int .i64 1) ∧ w' = w := by
  go_enter Tryd.func42, Tryd.ntmps42
  go_wp2_with fail
  go_ret
  exact ⟨rfl, rfl⟩
set_option maxHeartbeats 1000000 in
/-- an operation without fields -/
theorem empty_zero {w0 w : World} {g : Option Nat} {M : List (Nat × Value)} {L : List Ob} {O : List Rw} (h : Ow w0 w g M L O) (c : Nat) (A : Option Addr) :
    Calls Tryd.prog 23 #[.agg #[.int .i64 0, .int .i64 0, .int .i64 0, .int .i64 0, .int .i64 0, .slice A 0 c]] w fun e w' => e = .returned (.bool true) ∧ Ow w0 w' g M L O := by
  have H0 := h.arr #[.int .i64 0, .int .i64 0, .int .i64 0, .int .i64 0, .int .i64 0, .slice A 0 c] 6 rfl (by omega) 29
  have HO := Lib.hid H0.fewO
  clear h H0
  go_enter Tryd.func23, Tryd.ntmps23
  go_wp2_with fail
  go_ret
  exact ⟨rfl, HO.out⟩
end Go.Proofs.YtpcmbmabmfghkaaDoor

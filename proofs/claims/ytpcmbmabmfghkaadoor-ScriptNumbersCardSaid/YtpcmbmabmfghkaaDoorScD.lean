/- the reader of a line: number. -/
import Derived.Test.YtpcmbmabmfghkaaDoorScC
namespace Go.Proofs.YtpcmbmabmfghkaaDoor
open Go.RowKit
set_option linter.unusedVariables false
set_option maxRecDepth 100000
set_option maxHeartbeats 1000000 in
/-- a number that is written as it should be -/
theorem number_ok {w0 w : World} {g : Option Nat} {M : List (Nat × Value)} {L : List Ob} {O' : List Rw} (rb : Nat) (s : ByteArray) (n : Int) (h0 : 0 ≤ n) (h1 : n ≤ 1099511627776)
    (HN : Calls Tryd.prog 28 #[.pointer (some ⟨rb, 0, none⟩)] w fun e w' => e = .returned (.string s) ∧ Ow w0 w' g M L O')
    (HA : ∀ w, Ow w0 w g M L O' → Calls Tryd.prog 52 #[.string s] w fun e w' => e = .returned (.tuple #[.int .i64 n, .nilIface]) ∧ Below w.heap.size w w')
    (HI : ∀ w, Ow w0 w g M L O' → Calls Tryd.prog 24 #[.int .i64 n] w fun e w' => e = .returned (.string s) ∧ Below w.heap.size w w') :
    Calls Tryd.prog 32 #[.pointer (some ⟨rb, 0, none⟩)] w fun e w' => e = .returned (.int .i64 n) ∧ Ow w0 w' g M L O' := by
  have d0 : decide (n < 0) = false := by simp; omega
  have d1 : decide (1099511627776 < n) = false := by simp; omega
  have HN := Lib.hid HN
  have HA := Lib.hid HA
  have HI := Lib.hid HI
  clear h0 h1
  go_enter Tryd.func32, Tryd.ntmps32
  go_wp2_with fail
  refine HN.out.mono ?_
  rintro e w1 ⟨rfl, ho1⟩
  have HO1 := Lib.hid ho1
  clear ho1
  go_wp2_with fail
  refine (HA.out _ HO1.out).mono ?_
  rintro e w2 ⟨rfl, hb⟩
  have HO2 := Lib.hid (HO1.out.go hb)
  clear hb
  go_wp2_with fail
  all_goals
    refine (HI.out _ HO2.out).mono ?_
    rintro e w3 ⟨rfl, hb⟩
    have HO3 := Lib.hid (HO2.out.go hb)
    clear hb
    go_wp2_with fail
    go_ret
    exact ⟨rfl, HO3.out⟩
set_option maxHeartbeats 1000000 in
/-- a number that is not written as it should be -/
theorem number_bad {w0 w : World} {g : Option Nat} {M : List (Nat × Value)} {L : List Ob} {O' : List Rw} (rb ri : Nat) (s t : ByteArray) (n : Int) (sl bad : Value) (hd : n < 0 ∨ 1099511627776 < n ∨ (t.toList == s.toList) = false)
    (hR : O'[ri]? = some ⟨some ⟨rb, 0, none⟩, 2, 2, 62, [sl, bad]⟩)
    (HN : Calls Tryd.prog 28 #[.pointer (some ⟨rb, 0, none⟩)] w fun e w' => e = .returned (.string s) ∧ Ow w0 w' g M L O')
    (HA : ∀ w, Ow w0 w g M L O' → Calls Tryd.prog 52 #[.string s] w fun e w' => e = .returned (.tuple #[.int .i64 n, .nilIface]) ∧ Below w.heap.size w w')
    (HI : ∀ w, Ow w0 w g M L O' → Calls Tryd.prog 24 #[.int .i64 n] w fun e w' => e = .returned (.string t) ∧ Below w.heap.size w w') :
    Calls Tryd.prog 32 #[.pointer (some ⟨rb, 0, none⟩)] w fun e w' => e = .returned (.int .i64 0) ∧ Ow w0 w' g M L (O'.set ri ⟨some ⟨rb, 0, none⟩, 2, 2, 62, [sl, .bool true]⟩) := by
  have key : ∀ w, Ow w0 w g M L O' → w.cell? ⟨rb, 1, none⟩ = some bad ∧ w.frozen? ⟨rb, 1, none⟩ = false ∧ Hid (Ow w0 (w.setCell ⟨rb, 1, none⟩ (.bool true)) g M L (O'.set ri ⟨some ⟨rb, 0, none⟩, 2, 2, 62, [sl, .bool true]⟩)) := fun w h => ⟨(h.row ri hR).cellAt 1 (by decide), h.thaw ri hR 1, Lib.hid (h.put ri hR 1 (.bool true))⟩
  have KEY := Lib.hid key
  have HN := Lib.hid HN
  have HA := Lib.hid HA
  have HI := Lib.hid HI
  clear hR key
  go_enter Tryd.func32, Tryd.ntmps32
  go_wp2_with fail
  refine HN.out.mono ?_
  rintro e w1 ⟨rfl, ho1⟩
  have HO1 := Lib.hid ho1
  clear ho1
  go_wp2_with fail
  refine (HA.out _ HO1.out).mono ?_
  rintro e w2 ⟨rfl, hb⟩
  have HO2 := Lib.hid (HO1.out.go hb)
  clear hb
  have k2 := KEY.out _ HO2.out
  obtain ⟨y2, f2, S2⟩ := k2
  by_cases c0 : n < 0
  · have d0 : decide (n < 0) = true := by simp; omega
    clear hd c0
    go_wp2_with fail
    all_goals
      go_ret
      exact ⟨rfl, S2.out⟩
  have d0 : decide (n < 0) = false := by simp; omega
  by_cases c1 : 1099511627776 < n
  · have d1 : decide (1099511627776 < n) = true := by simp; omega
    clear hd c0 c1
    go_wp2_with fail
    all_goals
      go_ret
      exact ⟨rfl, S2.out⟩
  have d1 : decide (1099511627776 < n) = false := by simp; omega
  have hts : (t.toList == s.toList) = false := by
    rcases hd with h | h | h
    · exact absurd h c0
    · exact absurd h c1
    · exact h
  clear hd c0 c1 y2 f2 S2
  go_wp2_with fail
  all_goals
    refine (HI.out _ HO2.out).mono ?_
    rintro e w3 ⟨rfl, hb3⟩
    have HO3 := Lib.hid (HO2.out.go hb3)
    clear hb3
    have k3 := KEY.out _ HO3.out
    obtain ⟨y3, f3, S3⟩ := k3
    go_wp2_with fail
    go_ret
    exact ⟨rfl, S3.out⟩
end Go.Proofs.YtpcmbmabmfghkaaDoor

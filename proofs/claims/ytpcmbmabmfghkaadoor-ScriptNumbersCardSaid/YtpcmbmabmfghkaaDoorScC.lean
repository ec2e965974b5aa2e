/- the reader of a line: next. -/
import Derived.Test.YtpcmbmabmfghkaaDoorScB
namespace Go.Proofs.YtpcmbmabmfghkaaDoor
open Go.RowKit
set_option linter.unusedVariables false
set_option maxRecDepth 100000
theorem Ow.thaw {w0 w : World} {g : Option Nat} {M : List (Nat × Value)} {L : List Ob} {O : List Rw} (h : Ow w0 w g M L O) (i : Nat) {b k : Nat} {T : TypeId} {xs : List Value} (hi : O[i]? = some ⟨some ⟨b, 0, none⟩, k, k, T, xs⟩) (o : Nat) : w.frozen? ⟨b, o, none⟩ = false := by
  have hg := (h.rowHeap i hi).1
  simp [World.frozen?, hg]
set_option maxHeartbeats 1000000 in
/-- no word is left -/
theorem next_none {w0 w : World} {g : Option Nat} {M : List (Nat × Value)} {L : List Ob} {O : List Rw} (h : Ow w0 w g M L O) (ri rb : Nat) (A : Option Addr) (bad : Value)
    (hR : O[ri]? = some ⟨some ⟨rb, 0, none⟩, 2, 2, 62, [.slice A 0 0, bad]⟩) :
    Calls Tryd.prog 28 #[.pointer (some ⟨rb, 0, none⟩)] w fun e w' => e = .returned (.string ⟨#[]⟩) ∧ Ow w0 w' g M L (O.set ri ⟨some ⟨rb, 0, none⟩, 2, 2, 62, [.slice A 0 0, .bool true]⟩) := by
  have y0 : w.cell? ⟨rb, 0, none⟩ = some (.slice A 0 0) := (h.row ri hR).cellAt 0 (by decide)
  have y1 : w.cell? ⟨rb, 1, none⟩ = some bad := (h.row ri hR).cellAt 1 (by decide)
  have fr := h.thaw ri hR 1
  have ho := Lib.hid (h.put ri hR 1 (.bool true))
  clear h hR
  go_enter Tryd.func28, Tryd.ntmps28
  go_wp2_with fail
  go_ret
  exact ⟨rfl, ho.out⟩
set_option maxHeartbeats 1000000 in
/-- the last word is read -/
theorem next_last {w0 w : World} {g : Option Nat} {M : List (Nat × Value)} {L : List Ob} {O : List Rw} (h : Ow w0 w g M L O) (ri wi rb sb k n c : Nat) (bad : Value) (ws : List Value) (s : ByteArray)
    (hR : O[ri]? = some ⟨some ⟨rb, 0, none⟩, 2, 2, 62, [.slice (some ⟨sb, k, none⟩) 1 1, bad]⟩) (hW : O[wi]? = some ⟨some ⟨sb, 0, none⟩, n, c, 9, ws⟩) (hk : ws[k]? = some (.string s)) :
    Calls Tryd.prog 28 #[.pointer (some ⟨rb, 0, none⟩)] w fun e w' => e = .returned (.string s) ∧ Ow w0 w' g M L (O.set ri ⟨some ⟨rb, 0, none⟩, 2, 2, 62, [.slice (some ⟨sb, k, none⟩) 0 0, bad]⟩) := by
  have y0 : w.cell? ⟨rb, 0, none⟩ = some (.slice (some ⟨sb, k, none⟩) 1 1) := (h.row ri hR).cellAt 0 (by decide)
  have hlen := (h.row wi hW).1
  have yk : w.cell? ⟨sb, k, none⟩ = some (.string s) := ((h.row wi hW).cellAt k (by have := get_lt hk; omega)).trans hk
  have fr := h.thaw ri hR 0
  have ho := Lib.hid (h.put ri hR 0 (.slice (some ⟨sb, k, none⟩) 0 0))
  clear h hR hW hk hlen
  go_enter Tryd.func28, Tryd.ntmps28
  go_wp2_with fail
  go_ret
  exact ⟨rfl, ho.out⟩
set_option maxHeartbeats 1000000 in
/-- a word is read, and more are left -/
theorem next_more {w0 w : World} {g : Option Nat} {M : List (Nat × Value)} {L : List Ob} {O : List Rw} (h : Ow w0 w g M L O) (ri wi rb sb k m n c : Nat) (bad : Value) (ws : List Value) (s : ByteArray)
    (hR : O[ri]? = some ⟨some ⟨rb, 0, none⟩, 2, 2, 62, [.slice (some ⟨sb, k, none⟩) (m + 2) (m + 2), bad]⟩) (hW : O[wi]? = some ⟨some ⟨sb, 0, none⟩, n, c, 9, ws⟩) (hk : ws[k]? = some (.string s)) (hm : m < 100000) :
    Calls Tryd.prog 28 #[.pointer (some ⟨rb, 0, none⟩)] w fun e w' => e = .returned (.string s) ∧ Ow w0 w' g M L (O.set ri ⟨some ⟨rb, 0, none⟩, 2, 2, 62, [.slice (some ⟨sb, k + 1, none⟩) (m + 1) (m + 1), bad]⟩) := by
  have y0 : w.cell? ⟨rb, 0, none⟩ = some (.slice (some ⟨sb, k, none⟩) (m + 2) (m + 2)) := (h.row ri hR).cellAt 0 (by decide)
  have hlen := (h.row wi hW).1
  have yk : w.cell? ⟨sb, k, none⟩ = some (.string s) := ((h.row wi hW).cellAt k (by have := get_lt hk; omega)).trans hk
  have fr := h.thaw ri hR 0
  have ho := Lib.hid (h.put ri hR 0 (.slice (some ⟨sb, k + 1, none⟩) (m + 1) (m + 1)))
  clear h hR hW hk hlen
  go_enter Tryd.func28, Tryd.ntmps28
  go_wp2_with fail
  go_ret
  exact ⟨rfl, ho.out⟩
end Go.Proofs.YtpcmbmabmfghkaaDoor

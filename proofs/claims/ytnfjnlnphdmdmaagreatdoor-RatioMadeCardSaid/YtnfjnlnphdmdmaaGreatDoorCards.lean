/-
  DERIVED. GIVEN WITH THE SEED: THE CARDS: each row of YtnfjnlnphdmdmaaGreatDoorRows.lean that lists a variable, with what it lists TIED to the program's text (the seventh form; the later family's looks); each row that meets fmt, with fmt's text TOLD by the authors' own Lean function (tested against real Go, not proved from fmt's source: count such statements apart). THE CARD IS WHAT COUNTS. Prove the row's statement (the work); the ties are given (YtnfjnlnphdmdmaaGreatDoorTie.lean); close each card by the builder's one call (the guide's Derived/Test/ToyasCard.lean, 'card_holds'). Laid BY PROGRAM, IN A SANDBOX (cutbox-door.mjs). By AI agents, Wed Nov 11 2026. No macro, syntax, notation, axiom, sorry.
-/
import Derived.Test.YtnfjnlnphdmdmaaGreatDoorRows
import GoSem.ClaimSeven
namespace Go.Proofs.YtnfjnlnphdmdmaaGreatDoor
namespace Rows

/-- THE TIED CARD OF 'memfaultlaw02.RatioRaw'. -/
def ratioRawCard : Claim7 := { stood := { row := ratioRawRow, standIns := [], harness := (true, "e3b00a265886d7489e68b54ecb2dd7feaa951b77b74134494d8e7bbad7e04aea"), looks := false }, kinds := [], alts := [], laidByText := true, laidKinds := [.data, .data, .pinned], laidTests := true, laidLooks := .later }
def RatioRawCardSaid : Prop := Claim7.holds Tryz.pinned (.plain (OpenSpec.ofChange ratioRawSpec)) ratioRawCard

/-- THE TIED CARD OF 'memfaultlaw02.RatioMade'. -/
def ratioMadeCard : Claim7 := { stood := { row := ratioMadeRow, standIns := [], harness := (true, "e3b00a265886d7489e68b54ecb2dd7feaa951b77b74134494d8e7bbad7e04aea"), looks := false }, kinds := [], alts := [], laidByText := true, laidKinds := [.data, .data, .pinned], laidTests := true, laidLooks := .later }
def RatioMadeCardSaid : Prop := Claim7.holds Tryz.pinned (.plain (OpenSpec.ofChange ratioMadeSpec)) ratioMadeCard

/-- THE SECOND FORM's CARD OF 'memfaultlaw02.RatioRaw'. -/
def ratioRawUptoCard : Claim7 := { stood := { row := ratioRawUptoRow, standIns := [], harness := (true, "e3b00a265886d7489e68b54ecb2dd7feaa951b77b74134494d8e7bbad7e04aea"), looks := false }, kinds := [], alts := [], laidByText := true, laidKinds := [.data, .data, .pinned], laidTests := true, laidLooks := .later }
def RatioRawUptoCardSaid : Prop := Claim7.holds Tryz.pinned (.plain (OpenSpec.upto ratioRawSpec)) ratioRawUptoCard

/-- THE SECOND FORM's CARD OF 'memfaultlaw02.RatioMade'. -/
def ratioMadeUptoCard : Claim7 := { stood := { row := ratioMadeUptoRow, standIns := [], harness := (true, "e3b00a265886d7489e68b54ecb2dd7feaa951b77b74134494d8e7bbad7e04aea"), looks := false }, kinds := [], alts := [], laidByText := true, laidKinds := [.data, .data, .pinned], laidTests := true, laidLooks := .later }
def RatioMadeUptoCardSaid : Prop := Claim7.holds Tryz.pinned (.plain (OpenSpec.upto ratioMadeSpec)) ratioMadeUptoCard
end Rows
end Go.Proofs.YtnfjnlnphdmdmaaGreatDoor

/-
  DERIVED. GIVEN WITH THE SEED: THE CARDS: each row of YtpmofjomadibmaaGreatDoorRows.lean that lists a variable, with what it lists TIED to the program's text (the seventh form; the later family's looks); each row that meets fmt, with fmt's text TOLD by the authors' own Lean function (tested against real Go, not proved from fmt's source: count such statements apart). THE CARD IS WHAT COUNTS. Prove the row's statement (the work); the ties are given (YtpmofjomadibmaaGreatDoorTie.lean); close each card by the builder's one call (the guide's Derived/Test/ToyasCard.lean, 'card_holds'). Laid BY PROGRAM, IN A SANDBOX (cutbox-door.mjs). By AI agents, Wed Nov 11 2026. No macro, syntax, notation, axiom, sorry.
-/
import Derived.Test.YtpmofjomadibmaaGreatDoorRows
import GoSem.ClaimSeven
namespace Go.Proofs.YtpmofjomadibmaaGreatDoor
namespace Rows

/-- THE TIED CARD OF 'memfaultlaw25.ClassifyJudges'. -/
def classifyJudgesCard : Claim7 := { stood := { row := classifyJudgesRow, standIns := [], harness := (true, "1a70fb94dc7147906da291618bf887db84f7c44571836d12158d48fec8f283c0"), looks := false }, kinds := [], alts := [], laidByText := true, laidKinds := [.data], laidTests := true, laidLooks := .later }
def ClassifyJudgesCardSaid : Prop := Claim7.holds Tryz.pinned (.plain (OpenSpec.ofChange classifyJudgesSpec)) classifyJudgesCard

/-- THE TIED CARD OF 'memfaultlaw25.ClassifyNames'. -/
def classifyNamesCard : Claim7 := { stood := { row := classifyNamesRow, standIns := [], harness := (true, "1a70fb94dc7147906da291618bf887db84f7c44571836d12158d48fec8f283c0"), looks := false }, kinds := [], alts := [], laidByText := true, laidKinds := [.data], laidTests := true, laidLooks := .later }
def ClassifyNamesCardSaid : Prop := Claim7.holds Tryz.pinned (.plain (OpenSpec.ofChange classifyNamesSpec)) classifyNamesCard

/-- THE TIED CARD OF 'memfaultlaw25.ClassifyAll'. -/
def classifyAllCard : Claim7 := { stood := { row := classifyAllRow, standIns := [], harness := (true, "1a70fb94dc7147906da291618bf887db84f7c44571836d12158d48fec8f283c0"), looks := false }, kinds := [], alts := [], laidByText := true, laidKinds := [.data], laidTests := true, laidLooks := .later }
def ClassifyAllCardSaid : Prop := Claim7.holds Tryz.pinned (.plain (OpenSpec.ofChange classifyAllSpec)) classifyAllCard

/-- THE TIED CARD OF 'memfaultlaw25.ClassifyStrict'. -/
def classifyStrictCard : Claim7 := { stood := { row := classifyStrictRow, standIns := [], harness := (true, "1a70fb94dc7147906da291618bf887db84f7c44571836d12158d48fec8f283c0"), looks := false }, kinds := [], alts := [], laidByText := true, laidKinds := [.data], laidTests := true, laidLooks := .later }
def ClassifyStrictCardSaid : Prop := Claim7.holds Tryz.pinned (.plain (OpenSpec.ofChange classifyStrictSpec)) classifyStrictCard

/-- THE TIED CARD OF 'memfaultlaw25.ClassifyTurned'. -/
def classifyTurnedCard : Claim7 := { stood := { row := classifyTurnedRow, standIns := [], harness := (true, "1a70fb94dc7147906da291618bf887db84f7c44571836d12158d48fec8f283c0"), looks := false }, kinds := [], alts := [], laidByText := true, laidKinds := [.data], laidTests := true, laidLooks := .later }
def ClassifyTurnedCardSaid : Prop := Claim7.holds Tryz.pinned (.plain (OpenSpec.ofChange classifyTurnedSpec)) classifyTurnedCard

/-- THE SECOND FORM's CARD OF 'memfaultlaw25.ClassifyJudges'. -/
def classifyJudgesUptoCard : Claim7 := { stood := { row := classifyJudgesUptoRow, standIns := [], harness := (true, "1a70fb94dc7147906da291618bf887db84f7c44571836d12158d48fec8f283c0"), looks := false }, kinds := [], alts := [], laidByText := true, laidKinds := [.data], laidTests := true, laidLooks := .later }
def ClassifyJudgesUptoCardSaid : Prop := Claim7.holds Tryz.pinned (.plain (OpenSpec.upto classifyJudgesSpec)) classifyJudgesUptoCard

/-- THE SECOND FORM's CARD OF 'memfaultlaw25.ClassifyNames'. -/
def classifyNamesUptoCard : Claim7 := { stood := { row := classifyNamesUptoRow, standIns := [], harness := (true, "1a70fb94dc7147906da291618bf887db84f7c44571836d12158d48fec8f283c0"), looks := false }, kinds := [], alts := [], laidByText := true, laidKinds := [.data], laidTests := true, laidLooks := .later }
def ClassifyNamesUptoCardSaid : Prop := Claim7.holds Tryz.pinned (.plain (OpenSpec.upto classifyNamesSpec)) classifyNamesUptoCard

/-- THE SECOND FORM's CARD OF 'memfaultlaw25.ClassifyAll'. -/
def classifyAllUptoCard : Claim7 := { stood := { row := classifyAllUptoRow, standIns := [], harness := (true, "1a70fb94dc7147906da291618bf887db84f7c44571836d12158d48fec8f283c0"), looks := false }, kinds := [], alts := [], laidByText := true, laidKinds := [.data], laidTests := true, laidLooks := .later }
def ClassifyAllUptoCardSaid : Prop := Claim7.holds Tryz.pinned (.plain (OpenSpec.upto classifyAllSpec)) classifyAllUptoCard

/-- THE SECOND FORM's CARD OF 'memfaultlaw25.ClassifyStrict'. -/
def classifyStrictUptoCard : Claim7 := { stood := { row := classifyStrictUptoRow, standIns := [], harness := (true, "1a70fb94dc7147906da291618bf887db84f7c44571836d12158d48fec8f283c0"), looks := false }, kinds := [], alts := [], laidByText := true, laidKinds := [.data], laidTests := true, laidLooks := .later }
def ClassifyStrictUptoCardSaid : Prop := Claim7.holds Tryz.pinned (.plain (OpenSpec.upto classifyStrictSpec)) classifyStrictUptoCard

/-- THE SECOND FORM's CARD OF 'memfaultlaw25.ClassifyTurned'. -/
def classifyTurnedUptoCard : Claim7 := { stood := { row := classifyTurnedUptoRow, standIns := [], harness := (true, "1a70fb94dc7147906da291618bf887db84f7c44571836d12158d48fec8f283c0"), looks := false }, kinds := [], alts := [], laidByText := true, laidKinds := [.data], laidTests := true, laidLooks := .later }
def ClassifyTurnedUptoCardSaid : Prop := Claim7.holds Tryz.pinned (.plain (OpenSpec.upto classifyTurnedSpec)) classifyTurnedUptoCard
end Rows
end Go.Proofs.YtpmofjomadibmaaGreatDoor

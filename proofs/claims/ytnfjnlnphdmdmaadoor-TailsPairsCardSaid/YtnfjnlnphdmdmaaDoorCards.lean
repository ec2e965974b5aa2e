/-
  DERIVED. GIVEN WITH THE SEED: THE CARDS: each row of YtnfjnlnphdmdmaaDoorRows.lean that lists a variable, with what it lists TIED to the program's text (the seventh form; the later family's looks); each row that meets fmt, with fmt's text TOLD by the authors' own Lean function (tested against real Go, not proved from fmt's source: count such statements apart). THE CARD IS WHAT COUNTS. Prove the row's statement (the work); the ties are given (YtnfjnlnphdmdmaaDoorTie.lean); close each card by the builder's one call (the guide's Derived/Test/ToyasCard.lean, 'card_holds'). Laid BY PROGRAM, IN A SANDBOX (cutbox-door.mjs). By AI agents, Wed Nov 11 2026. No macro, syntax, notation, axiom, sorry.
-/
import Derived.Test.YtnfjnlnphdmdmaaDoorRows
import GoSem.ClaimSeven
namespace Go.Proofs.YtnfjnlnphdmdmaaDoor
namespace Rows

/-- THE TIED CARD OF 'memfaultlaw02.RatioInts'. -/
def ratioIntsCard : Claim7 := { stood := { row := ratioIntsRow, standIns := [], harness := (true, "aff7ebe6d74c27104724bd313f9b0848f33f0dcad4259af8f1dd5c09a14701f6"), looks := false }, kinds := [], alts := [], laidByText := true, laidKinds := [.data, .data, .pinned], laidTests := true, laidLooks := .later }
def RatioIntsCardSaid : Prop := Claim7.holds Tryd.pinned (.plain (OpenSpec.ofChange ratioIntsSpec)) ratioIntsCard

/-- THE TIED CARD OF 'memfaultlaw02.RatioTurns'. -/
def ratioTurnsCard : Claim7 := { stood := { row := ratioTurnsRow, standIns := [], harness := (true, "aff7ebe6d74c27104724bd313f9b0848f33f0dcad4259af8f1dd5c09a14701f6"), looks := false }, kinds := [], alts := [], laidByText := true, laidKinds := [.data, .data, .pinned], laidTests := true, laidLooks := .later }
def RatioTurnsCardSaid : Prop := Claim7.holds Tryd.pinned (.plain (OpenSpec.ofChange ratioTurnsSpec)) ratioTurnsCard

/-- THE TIED CARD OF 'memfaultlaw02.RatioLaws'. -/
def ratioLawsCard : Claim7 := { stood := { row := ratioLawsRow, standIns := [], harness := (true, "aff7ebe6d74c27104724bd313f9b0848f33f0dcad4259af8f1dd5c09a14701f6"), looks := false }, kinds := [], alts := [], laidByText := true, laidKinds := [.data, .data, .pinned], laidTests := true, laidLooks := .later }
def RatioLawsCardSaid : Prop := Claim7.holds Tryd.pinned (.plain (OpenSpec.ofChange ratioLawsSpec)) ratioLawsCard

/-- THE TIED CARD OF 'memfaultlaw02.RatioOrder'. -/
def ratioOrderCard : Claim7 := { stood := { row := ratioOrderRow, standIns := [], harness := (true, "aff7ebe6d74c27104724bd313f9b0848f33f0dcad4259af8f1dd5c09a14701f6"), looks := false }, kinds := [], alts := [], laidByText := true, laidKinds := [.data, .data, .pinned], laidTests := true, laidLooks := .later }
def RatioOrderCardSaid : Prop := Claim7.holds Tryd.pinned (.plain (OpenSpec.ofChange ratioOrderSpec)) ratioOrderCard

/-- THE TIED CARD OF 'memfaultlaw23.TailsBinomial'. -/
def tailsBinomialCard : Claim7 := { stood := { row := tailsBinomialRow, standIns := [], harness := (true, "aff7ebe6d74c27104724bd313f9b0848f33f0dcad4259af8f1dd5c09a14701f6"), looks := false }, kinds := [], alts := [], laidByText := true, laidKinds := [.data], laidTests := true, laidLooks := .later }
def TailsBinomialCardSaid : Prop := Claim7.holds Tryd.pinned (.plain (OpenSpec.ofChange tailsBinomialSpec)) tailsBinomialCard

/-- THE TIED CARD OF 'memfaultlaw23.TailsHyper'. -/
def tailsHyperCard : Claim7 := { stood := { row := tailsHyperRow, standIns := [], harness := (true, "aff7ebe6d74c27104724bd313f9b0848f33f0dcad4259af8f1dd5c09a14701f6"), looks := false }, kinds := [], alts := [], laidByText := true, laidKinds := [.data], laidTests := true, laidLooks := .later }
def TailsHyperCardSaid : Prop := Claim7.holds Tryd.pinned (.plain (OpenSpec.ofChange tailsHyperSpec)) tailsHyperCard

/-- THE TIED CARD OF 'memfaultlaw23.TailsCells'. -/
def tailsCellsCard : Claim7 := { stood := { row := tailsCellsRow, standIns := [], harness := (true, "aff7ebe6d74c27104724bd313f9b0848f33f0dcad4259af8f1dd5c09a14701f6"), looks := false }, kinds := [], alts := [], laidByText := true, laidKinds := [.data], laidTests := true, laidLooks := .later }
def TailsCellsCardSaid : Prop := Claim7.holds Tryd.pinned (.plain (OpenSpec.ofChange tailsCellsSpec)) tailsCellsCard

/-- THE TIED CARD OF 'memfaultlaw23.TailsFew'. -/
def tailsFewCard : Claim7 := { stood := { row := tailsFewRow, standIns := [], harness := (true, "aff7ebe6d74c27104724bd313f9b0848f33f0dcad4259af8f1dd5c09a14701f6"), looks := false }, kinds := [], alts := [], laidByText := true, laidKinds := [.data], laidTests := true, laidLooks := .later }
def TailsFewCardSaid : Prop := Claim7.holds Tryd.pinned (.plain (OpenSpec.ofChange tailsFewSpec)) tailsFewCard

/-- THE TIED CARD OF 'memfaultlaw23.TailsOrder'. -/
def tailsOrderCard : Claim7 := { stood := { row := tailsOrderRow, standIns := [], harness := (true, "aff7ebe6d74c27104724bd313f9b0848f33f0dcad4259af8f1dd5c09a14701f6"), looks := false }, kinds := [], alts := [], laidByText := true, laidKinds := [.data], laidTests := true, laidLooks := .later }
def TailsOrderCardSaid : Prop := Claim7.holds Tryd.pinned (.plain (OpenSpec.ofChange tailsOrderSpec)) tailsOrderCard

/-- THE TIED CARD OF 'memfaultlaw23.TailsPairs'. -/
def tailsPairsCard : Claim7 := { stood := { row := tailsPairsRow, standIns := [], harness := (true, "aff7ebe6d74c27104724bd313f9b0848f33f0dcad4259af8f1dd5c09a14701f6"), looks := false }, kinds := [], alts := [], laidByText := true, laidKinds := [.data], laidTests := true, laidLooks := .later }
def TailsPairsCardSaid : Prop := Claim7.holds Tryd.pinned (.plain (OpenSpec.ofChange tailsPairsSpec)) tailsPairsCard

/-- THE SECOND FORM's CARD OF 'memfaultlaw02.RatioInts'. -/
def ratioIntsUptoCard : Claim7 := { stood := { row := ratioIntsUptoRow, standIns := [], harness := (true, "aff7ebe6d74c27104724bd313f9b0848f33f0dcad4259af8f1dd5c09a14701f6"), looks := false }, kinds := [], alts := [], laidByText := true, laidKinds := [.data, .data, .pinned], laidTests := true, laidLooks := .later }
def RatioIntsUptoCardSaid : Prop := Claim7.holds Tryd.pinned (.plain (OpenSpec.upto ratioIntsSpec)) ratioIntsUptoCard

/-- THE SECOND FORM's CARD OF 'memfaultlaw02.RatioTurns'. -/
def ratioTurnsUptoCard : Claim7 := { stood := { row := ratioTurnsUptoRow, standIns := [], harness := (true, "aff7ebe6d74c27104724bd313f9b0848f33f0dcad4259af8f1dd5c09a14701f6"), looks := false }, kinds := [], alts := [], laidByText := true, laidKinds := [.data, .data, .pinned], laidTests := true, laidLooks := .later }
def RatioTurnsUptoCardSaid : Prop := Claim7.holds Tryd.pinned (.plain (OpenSpec.upto ratioTurnsSpec)) ratioTurnsUptoCard

/-- THE SECOND FORM's CARD OF 'memfaultlaw02.RatioLaws'. -/
def ratioLawsUptoCard : Claim7 := { stood := { row := ratioLawsUptoRow, standIns := [], harness := (true, "aff7ebe6d74c27104724bd313f9b0848f33f0dcad4259af8f1dd5c09a14701f6"), looks := false }, kinds := [], alts := [], laidByText := true, laidKinds := [.data, .data, .pinned], laidTests := true, laidLooks := .later }
def RatioLawsUptoCardSaid : Prop := Claim7.holds Tryd.pinned (.plain (OpenSpec.upto ratioLawsSpec)) ratioLawsUptoCard

/-- THE SECOND FORM's CARD OF 'memfaultlaw02.RatioOrder'. -/
def ratioOrderUptoCard : Claim7 := { stood := { row := ratioOrderUptoRow, standIns := [], harness := (true, "aff7ebe6d74c27104724bd313f9b0848f33f0dcad4259af8f1dd5c09a14701f6"), looks := false }, kinds := [], alts := [], laidByText := true, laidKinds := [.data, .data, .pinned], laidTests := true, laidLooks := .later }
def RatioOrderUptoCardSaid : Prop := Claim7.holds Tryd.pinned (.plain (OpenSpec.upto ratioOrderSpec)) ratioOrderUptoCard

/-- THE SECOND FORM's CARD OF 'memfaultlaw23.TailsBinomial'. -/
def tailsBinomialUptoCard : Claim7 := { stood := { row := tailsBinomialUptoRow, standIns := [], harness := (true, "aff7ebe6d74c27104724bd313f9b0848f33f0dcad4259af8f1dd5c09a14701f6"), looks := false }, kinds := [], alts := [], laidByText := true, laidKinds := [.data], laidTests := true, laidLooks := .later }
def TailsBinomialUptoCardSaid : Prop := Claim7.holds Tryd.pinned (.plain (OpenSpec.upto tailsBinomialSpec)) tailsBinomialUptoCard

/-- THE SECOND FORM's CARD OF 'memfaultlaw23.TailsHyper'. -/
def tailsHyperUptoCard : Claim7 := { stood := { row := tailsHyperUptoRow, standIns := [], harness := (true, "aff7ebe6d74c27104724bd313f9b0848f33f0dcad4259af8f1dd5c09a14701f6"), looks := false }, kinds := [], alts := [], laidByText := true, laidKinds := [.data], laidTests := true, laidLooks := .later }
def TailsHyperUptoCardSaid : Prop := Claim7.holds Tryd.pinned (.plain (OpenSpec.upto tailsHyperSpec)) tailsHyperUptoCard

/-- THE SECOND FORM's CARD OF 'memfaultlaw23.TailsCells'. -/
def tailsCellsUptoCard : Claim7 := { stood := { row := tailsCellsUptoRow, standIns := [], harness := (true, "aff7ebe6d74c27104724bd313f9b0848f33f0dcad4259af8f1dd5c09a14701f6"), looks := false }, kinds := [], alts := [], laidByText := true, laidKinds := [.data], laidTests := true, laidLooks := .later }
def TailsCellsUptoCardSaid : Prop := Claim7.holds Tryd.pinned (.plain (OpenSpec.upto tailsCellsSpec)) tailsCellsUptoCard

/-- THE SECOND FORM's CARD OF 'memfaultlaw23.TailsFew'. -/
def tailsFewUptoCard : Claim7 := { stood := { row := tailsFewUptoRow, standIns := [], harness := (true, "aff7ebe6d74c27104724bd313f9b0848f33f0dcad4259af8f1dd5c09a14701f6"), looks := false }, kinds := [], alts := [], laidByText := true, laidKinds := [.data], laidTests := true, laidLooks := .later }
def TailsFewUptoCardSaid : Prop := Claim7.holds Tryd.pinned (.plain (OpenSpec.upto tailsFewSpec)) tailsFewUptoCard

/-- THE SECOND FORM's CARD OF 'memfaultlaw23.TailsOrder'. -/
def tailsOrderUptoCard : Claim7 := { stood := { row := tailsOrderUptoRow, standIns := [], harness := (true, "aff7ebe6d74c27104724bd313f9b0848f33f0dcad4259af8f1dd5c09a14701f6"), looks := false }, kinds := [], alts := [], laidByText := true, laidKinds := [.data], laidTests := true, laidLooks := .later }
def TailsOrderUptoCardSaid : Prop := Claim7.holds Tryd.pinned (.plain (OpenSpec.upto tailsOrderSpec)) tailsOrderUptoCard

/-- THE SECOND FORM's CARD OF 'memfaultlaw23.TailsPairs'. -/
def tailsPairsUptoCard : Claim7 := { stood := { row := tailsPairsUptoRow, standIns := [], harness := (true, "aff7ebe6d74c27104724bd313f9b0848f33f0dcad4259af8f1dd5c09a14701f6"), looks := false }, kinds := [], alts := [], laidByText := true, laidKinds := [.data], laidTests := true, laidLooks := .later }
def TailsPairsUptoCardSaid : Prop := Claim7.holds Tryd.pinned (.plain (OpenSpec.upto tailsPairsSpec)) tailsPairsUptoCard
end Rows
end Go.Proofs.YtnfjnlnphdmdmaaDoor

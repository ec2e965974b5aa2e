/-
  DERIVED. GIVEN WITH THE SEED: THE CARDS: each row of YtjhaogbopmhkoaaDoorRows.lean that lists a variable, with what it lists TIED to the program's text (the seventh form; the later family's looks); each row that meets fmt, with fmt's text TOLD by the authors' own Lean function (tested against real Go, not proved from fmt's source: count such statements apart). THE CARD IS WHAT COUNTS. Prove the row's statement (the work); the ties are given (YtjhaogbopmhkoaaDoorTie.lean); close each card by the builder's one call (the guide's Derived/Test/ToyasCard.lean, 'card_holds'). Laid BY PROGRAM, IN A SANDBOX (cutbox-door.mjs). By AI agents, Wed Nov 11 2026. No macro, syntax, notation, axiom, sorry.
-/
import Derived.Test.YtjhaogbopmhkoaaDoorRows
import GoSem.ClaimSeven
namespace Go.Proofs.YtjhaogbopmhkoaaDoor
namespace Rows

/-- THE TIED CARD OF 'memfaultlaw23.TailsCells'. -/
def tailsCellsCard : Claim7 := { stood := { row := tailsCellsRow, standIns := [], harness := (true, "fbad763ca31873b69a7880b392280c73785c216454290632c26a7959e473cb8c"), looks := false }, kinds := [], alts := [], laidByText := true, laidKinds := [.data], laidTests := true, laidLooks := .later }
def TailsCellsCardSaid : Prop := Claim7.holds Tryd.pinned (.plain (OpenSpec.ofChange tailsCellsSpec)) tailsCellsCard

/-- THE TIED CARD OF 'memfaultlaw23.TailsFew'. -/
def tailsFewCard : Claim7 := { stood := { row := tailsFewRow, standIns := [], harness := (true, "fbad763ca31873b69a7880b392280c73785c216454290632c26a7959e473cb8c"), looks := false }, kinds := [], alts := [], laidByText := true, laidKinds := [.data], laidTests := true, laidLooks := .later }
def TailsFewCardSaid : Prop := Claim7.holds Tryd.pinned (.plain (OpenSpec.ofChange tailsFewSpec)) tailsFewCard

/-- THE TIED CARD OF 'memfaultlaw23.TailsOrder'. -/
def tailsOrderCard : Claim7 := { stood := { row := tailsOrderRow, standIns := [], harness := (true, "fbad763ca31873b69a7880b392280c73785c216454290632c26a7959e473cb8c"), looks := false }, kinds := [], alts := [], laidByText := true, laidKinds := [.data], laidTests := true, laidLooks := .later }
def TailsOrderCardSaid : Prop := Claim7.holds Tryd.pinned (.plain (OpenSpec.ofChange tailsOrderSpec)) tailsOrderCard

/-- THE TIED CARD OF 'memfaultlaw07.SymbolFixes'. -/
def symbolFixesCard : Claim7 := { stood := { row := symbolFixesRow, standIns := [], harness := (true, "fbad763ca31873b69a7880b392280c73785c216454290632c26a7959e473cb8c"), looks := false }, kinds := [], alts := [], laidByText := true, laidKinds := [.data, .pinned], laidTests := true, laidLooks := .later }
def SymbolFixesCardSaid : Prop := Claim7.holds Tryd.pinned (.plain (OpenSpec.ofChange symbolFixesSpec)) symbolFixesCard

/-- THE TIED CARD OF 'memfaultlaw07.SymbolNotices'. -/
def symbolNoticesCard : Claim7 := { stood := { row := symbolNoticesRow, standIns := [], harness := (true, "fbad763ca31873b69a7880b392280c73785c216454290632c26a7959e473cb8c"), looks := false }, kinds := [], alts := [], laidByText := true, laidKinds := [.data, .pinned], laidTests := true, laidLooks := .later }
def SymbolNoticesCardSaid : Prop := Claim7.holds Tryd.pinned (.plain (OpenSpec.ofChange symbolNoticesSpec)) symbolNoticesCard

/-- THE TIED CARD OF 'memfaultlaw07.SymbolShort'. -/
def symbolShortCard : Claim7 := { stood := { row := symbolShortRow, standIns := [], harness := (true, "fbad763ca31873b69a7880b392280c73785c216454290632c26a7959e473cb8c"), looks := false }, kinds := [], alts := [], laidByText := true, laidKinds := [.data, .pinned], laidTests := true, laidLooks := .later }
def SymbolShortCardSaid : Prop := Claim7.holds Tryd.pinned (.plain (OpenSpec.ofChange symbolShortSpec)) symbolShortCard

/-- THE TIED CARD OF 'memfaultlaw07.SymbolLinear'. -/
def symbolLinearCard : Claim7 := { stood := { row := symbolLinearRow, standIns := [], harness := (true, "fbad763ca31873b69a7880b392280c73785c216454290632c26a7959e473cb8c"), looks := false }, kinds := [], alts := [], laidByText := true, laidKinds := [.data, .pinned], laidTests := true, laidLooks := .later }
def SymbolLinearCardSaid : Prop := Claim7.holds Tryd.pinned (.plain (OpenSpec.ofChange symbolLinearSpec)) symbolLinearCard

/-- THE TIED CARD OF 'memfaultlaw07.SymbolWords'. -/
def symbolWordsCard : Claim7 := { stood := { row := symbolWordsRow, standIns := [], harness := (true, "fbad763ca31873b69a7880b392280c73785c216454290632c26a7959e473cb8c"), looks := false }, kinds := [], alts := [], laidByText := true, laidKinds := [.data, .pinned], laidTests := true, laidLooks := .later }
def SymbolWordsCardSaid : Prop := Claim7.holds Tryd.pinned (.plain (OpenSpec.ofChange symbolWordsSpec)) symbolWordsCard

/-- THE SECOND FORM's CARD OF 'memfaultlaw23.TailsCells'. -/
def tailsCellsUptoCard : Claim7 := { stood := { row := tailsCellsUptoRow, standIns := [], harness := (true, "fbad763ca31873b69a7880b392280c73785c216454290632c26a7959e473cb8c"), looks := false }, kinds := [], alts := [], laidByText := true, laidKinds := [.data], laidTests := true, laidLooks := .later }
def TailsCellsUptoCardSaid : Prop := Claim7.holds Tryd.pinned (.plain (OpenSpec.upto tailsCellsSpec)) tailsCellsUptoCard

/-- THE SECOND FORM's CARD OF 'memfaultlaw23.TailsFew'. -/
def tailsFewUptoCard : Claim7 := { stood := { row := tailsFewUptoRow, standIns := [], harness := (true, "fbad763ca31873b69a7880b392280c73785c216454290632c26a7959e473cb8c"), looks := false }, kinds := [], alts := [], laidByText := true, laidKinds := [.data], laidTests := true, laidLooks := .later }
def TailsFewUptoCardSaid : Prop := Claim7.holds Tryd.pinned (.plain (OpenSpec.upto tailsFewSpec)) tailsFewUptoCard

/-- THE SECOND FORM's CARD OF 'memfaultlaw23.TailsOrder'. -/
def tailsOrderUptoCard : Claim7 := { stood := { row := tailsOrderUptoRow, standIns := [], harness := (true, "fbad763ca31873b69a7880b392280c73785c216454290632c26a7959e473cb8c"), looks := false }, kinds := [], alts := [], laidByText := true, laidKinds := [.data], laidTests := true, laidLooks := .later }
def TailsOrderUptoCardSaid : Prop := Claim7.holds Tryd.pinned (.plain (OpenSpec.upto tailsOrderSpec)) tailsOrderUptoCard

/-- THE SECOND FORM's CARD OF 'memfaultlaw07.SymbolFixes'. -/
def symbolFixesUptoCard : Claim7 := { stood := { row := symbolFixesUptoRow, standIns := [], harness := (true, "fbad763ca31873b69a7880b392280c73785c216454290632c26a7959e473cb8c"), looks := false }, kinds := [], alts := [], laidByText := true, laidKinds := [.data, .pinned], laidTests := true, laidLooks := .later }
def SymbolFixesUptoCardSaid : Prop := Claim7.holds Tryd.pinned (.plain (OpenSpec.upto symbolFixesSpec)) symbolFixesUptoCard

/-- THE SECOND FORM's CARD OF 'memfaultlaw07.SymbolNotices'. -/
def symbolNoticesUptoCard : Claim7 := { stood := { row := symbolNoticesUptoRow, standIns := [], harness := (true, "fbad763ca31873b69a7880b392280c73785c216454290632c26a7959e473cb8c"), looks := false }, kinds := [], alts := [], laidByText := true, laidKinds := [.data, .pinned], laidTests := true, laidLooks := .later }
def SymbolNoticesUptoCardSaid : Prop := Claim7.holds Tryd.pinned (.plain (OpenSpec.upto symbolNoticesSpec)) symbolNoticesUptoCard

/-- THE SECOND FORM's CARD OF 'memfaultlaw07.SymbolShort'. -/
def symbolShortUptoCard : Claim7 := { stood := { row := symbolShortUptoRow, standIns := [], harness := (true, "fbad763ca31873b69a7880b392280c73785c216454290632c26a7959e473cb8c"), looks := false }, kinds := [], alts := [], laidByText := true, laidKinds := [.data, .pinned], laidTests := true, laidLooks := .later }
def SymbolShortUptoCardSaid : Prop := Claim7.holds Tryd.pinned (.plain (OpenSpec.upto symbolShortSpec)) symbolShortUptoCard

/-- THE SECOND FORM's CARD OF 'memfaultlaw07.SymbolLinear'. -/
def symbolLinearUptoCard : Claim7 := { stood := { row := symbolLinearUptoRow, standIns := [], harness := (true, "fbad763ca31873b69a7880b392280c73785c216454290632c26a7959e473cb8c"), looks := false }, kinds := [], alts := [], laidByText := true, laidKinds := [.data, .pinned], laidTests := true, laidLooks := .later }
def SymbolLinearUptoCardSaid : Prop := Claim7.holds Tryd.pinned (.plain (OpenSpec.upto symbolLinearSpec)) symbolLinearUptoCard

/-- THE SECOND FORM's CARD OF 'memfaultlaw07.SymbolWords'. -/
def symbolWordsUptoCard : Claim7 := { stood := { row := symbolWordsUptoRow, standIns := [], harness := (true, "fbad763ca31873b69a7880b392280c73785c216454290632c26a7959e473cb8c"), looks := false }, kinds := [], alts := [], laidByText := true, laidKinds := [.data, .pinned], laidTests := true, laidLooks := .later }
def SymbolWordsUptoCardSaid : Prop := Claim7.holds Tryd.pinned (.plain (OpenSpec.upto symbolWordsSpec)) symbolWordsUptoCard
end Rows
end Go.Proofs.YtjhaogbopmhkoaaDoor

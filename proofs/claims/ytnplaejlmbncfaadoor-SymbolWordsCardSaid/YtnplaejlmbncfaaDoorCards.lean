/-
  DERIVED. GIVEN WITH THE SEED: THE CARDS: each row of YtnplaejlmbncfaaDoorRows.lean that lists a variable, with what it lists TIED to the program's text (the seventh form; the later family's looks); each row that meets fmt, with fmt's text TOLD by the authors' own Lean function (tested against real Go, not proved from fmt's source: count such statements apart). THE CARD IS WHAT COUNTS. Prove the row's statement (the work); the ties are given (YtnplaejlmbncfaaDoorTie.lean); close each card by the builder's one call (the guide's Derived/Test/ToyasCard.lean, 'card_holds'). Laid BY PROGRAM, IN A SANDBOX (cutbox-door.mjs). By AI agents, Wed Nov 11 2026. No macro, syntax, notation, axiom, sorry.
-/
import Derived.Test.YtnplaejlmbncfaaDoorRows
import GoSem.ClaimSeven
namespace Go.Proofs.YtnplaejlmbncfaaDoor
namespace Rows

/-- THE TIED CARD OF 'memfaultlaw07.SymbolFixes'. -/
def symbolFixesCard : Claim7 := { stood := { row := symbolFixesRow, standIns := [], harness := (true, "ea69bf6235ed88922ec61fdebda67baa9bf039ca56db22c72cd7fcd9fd5647be"), looks := false }, kinds := [], alts := [], laidByText := true, laidKinds := [.data, .pinned], laidTests := true, laidLooks := .later }
def SymbolFixesCardSaid : Prop := Claim7.holds Tryd.pinned (.plain (OpenSpec.ofChange symbolFixesSpec)) symbolFixesCard

/-- THE TIED CARD OF 'memfaultlaw07.SymbolNotices'. -/
def symbolNoticesCard : Claim7 := { stood := { row := symbolNoticesRow, standIns := [], harness := (true, "ea69bf6235ed88922ec61fdebda67baa9bf039ca56db22c72cd7fcd9fd5647be"), looks := false }, kinds := [], alts := [], laidByText := true, laidKinds := [.data, .pinned], laidTests := true, laidLooks := .later }
def SymbolNoticesCardSaid : Prop := Claim7.holds Tryd.pinned (.plain (OpenSpec.ofChange symbolNoticesSpec)) symbolNoticesCard

/-- THE TIED CARD OF 'memfaultlaw07.SymbolWords'. -/
def symbolWordsCard : Claim7 := { stood := { row := symbolWordsRow, standIns := [], harness := (true, "ea69bf6235ed88922ec61fdebda67baa9bf039ca56db22c72cd7fcd9fd5647be"), looks := false }, kinds := [], alts := [], laidByText := true, laidKinds := [.data, .pinned], laidTests := true, laidLooks := .later }
def SymbolWordsCardSaid : Prop := Claim7.holds Tryd.pinned (.plain (OpenSpec.ofChange symbolWordsSpec)) symbolWordsCard

/-- THE SECOND FORM's CARD OF 'memfaultlaw07.SymbolFixes'. -/
def symbolFixesUptoCard : Claim7 := { stood := { row := symbolFixesUptoRow, standIns := [], harness := (true, "ea69bf6235ed88922ec61fdebda67baa9bf039ca56db22c72cd7fcd9fd5647be"), looks := false }, kinds := [], alts := [], laidByText := true, laidKinds := [.data, .pinned], laidTests := true, laidLooks := .later }
def SymbolFixesUptoCardSaid : Prop := Claim7.holds Tryd.pinned (.plain (OpenSpec.upto symbolFixesSpec)) symbolFixesUptoCard

/-- THE SECOND FORM's CARD OF 'memfaultlaw07.SymbolNotices'. -/
def symbolNoticesUptoCard : Claim7 := { stood := { row := symbolNoticesUptoRow, standIns := [], harness := (true, "ea69bf6235ed88922ec61fdebda67baa9bf039ca56db22c72cd7fcd9fd5647be"), looks := false }, kinds := [], alts := [], laidByText := true, laidKinds := [.data, .pinned], laidTests := true, laidLooks := .later }
def SymbolNoticesUptoCardSaid : Prop := Claim7.holds Tryd.pinned (.plain (OpenSpec.upto symbolNoticesSpec)) symbolNoticesUptoCard

/-- THE SECOND FORM's CARD OF 'memfaultlaw07.SymbolWords'. -/
def symbolWordsUptoCard : Claim7 := { stood := { row := symbolWordsUptoRow, standIns := [], harness := (true, "ea69bf6235ed88922ec61fdebda67baa9bf039ca56db22c72cd7fcd9fd5647be"), looks := false }, kinds := [], alts := [], laidByText := true, laidKinds := [.data, .pinned], laidTests := true, laidLooks := .later }
def SymbolWordsUptoCardSaid : Prop := Claim7.holds Tryd.pinned (.plain (OpenSpec.upto symbolWordsSpec)) symbolWordsUptoCard
end Rows
end Go.Proofs.YtnplaejlmbncfaaDoor

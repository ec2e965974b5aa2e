/-
  DERIVED. GIVEN WITH THE SEED: THE CARDS: each row of YtnplaejlmbncfaaGreatDoorRows.lean that lists a variable, with what it lists TIED to the program's text (the seventh form; the later family's looks); each row that meets fmt, with fmt's text TOLD by the authors' own Lean function (tested against real Go, not proved from fmt's source: count such statements apart). THE CARD IS WHAT COUNTS. Prove the row's statement (the work); the ties are given (YtnplaejlmbncfaaGreatDoorTie.lean); close each card by the builder's one call (the guide's Derived/Test/ToyasCard.lean, 'card_holds'). Laid BY PROGRAM, IN A SANDBOX (cutbox-door.mjs). By AI agents, Wed Nov 11 2026. No macro, syntax, notation, axiom, sorry.
-/
import Derived.Test.YtnplaejlmbncfaaGreatDoorRows
import GoSem.ClaimSeven
namespace Go.Proofs.YtnplaejlmbncfaaGreatDoor
namespace Rows

/-- THE TIED CARD OF 'memfaultlaw07.SymbolMade'. -/
def symbolMadeCard : Claim7 := { stood := { row := symbolMadeRow, standIns := [], harness := (true, "708d118a3fbf4fa7f6144e849a68056659feb62ddc7dd691a54814f63df39cc3"), looks := false }, kinds := [], alts := [], laidByText := true, laidKinds := [.data, .pinned], laidTests := true, laidLooks := .later }
def SymbolMadeCardSaid : Prop := Claim7.holds Tryz.pinned (.plain (OpenSpec.ofChange symbolMadeSpec)) symbolMadeCard

/-- THE TIED CARD OF 'memfaultlaw14.AccessReturns'. -/
def accessReturnsCard : Claim7 := { stood := { row := accessReturnsRow, standIns := [], harness := (true, "708d118a3fbf4fa7f6144e849a68056659feb62ddc7dd691a54814f63df39cc3"), looks := false }, kinds := [], alts := [], laidByText := true, laidKinds := [.data, .data, .pinned], laidTests := true, laidLooks := .later }
def AccessReturnsCardSaid : Prop := Claim7.holds Tryz.pinned (.plain (OpenSpec.ofChange accessReturnsSpec)) accessReturnsCard

/-- THE TIED CARD OF 'memfaultlaw14.AccessApart'. -/
def accessApartCard : Claim7 := { stood := { row := accessApartRow, standIns := [], harness := (true, "708d118a3fbf4fa7f6144e849a68056659feb62ddc7dd691a54814f63df39cc3"), looks := false }, kinds := [], alts := [], laidByText := true, laidKinds := [.data, .data, .pinned], laidTests := true, laidLooks := .later }
def AccessApartCardSaid : Prop := Claim7.holds Tryz.pinned (.plain (OpenSpec.ofChange accessApartSpec)) accessApartCard

/-- THE TIED CARD OF 'memfaultlaw14.AccessNotices'. -/
def accessNoticesCard : Claim7 := { stood := { row := accessNoticesRow, standIns := [], harness := (true, "708d118a3fbf4fa7f6144e849a68056659feb62ddc7dd691a54814f63df39cc3"), looks := false }, kinds := [], alts := [], laidByText := true, laidKinds := [.data, .data, .pinned], laidTests := true, laidLooks := .later }
def AccessNoticesCardSaid : Prop := Claim7.holds Tryz.pinned (.plain (OpenSpec.ofChange accessNoticesSpec)) accessNoticesCard

/-- THE TIED CARD OF 'memfaultlaw15.ScrubParts'. -/
def scrubPartsCard : Claim7 := { stood := { row := scrubPartsRow, standIns := [], harness := (true, "708d118a3fbf4fa7f6144e849a68056659feb62ddc7dd691a54814f63df39cc3"), looks := false }, kinds := [], alts := [], laidByText := true, laidKinds := [.data, .data, .pinned], laidTests := true, laidLooks := .later }
def ScrubPartsCardSaid : Prop := Claim7.holds Tryz.pinned (.plain (OpenSpec.ofChange scrubPartsSpec)) scrubPartsCard

/-- THE TIED CARD OF 'memfaultlaw14.AccessPoisons'. -/
def accessPoisonsCard : Claim7 := { stood := { row := accessPoisonsRow, standIns := [], harness := (true, "708d118a3fbf4fa7f6144e849a68056659feb62ddc7dd691a54814f63df39cc3"), looks := false }, kinds := [], alts := [], laidByText := true, laidKinds := [.data, .data, .pinned], laidTests := true, laidLooks := .later }
def AccessPoisonsCardSaid : Prop := Claim7.holds Tryz.pinned (.plain (OpenSpec.ofChange accessPoisonsSpec)) accessPoisonsCard

/-- THE TIED CARD OF 'memfaultlaw14.AccessMade'. -/
def accessMadeCard : Claim7 := { stood := { row := accessMadeRow, standIns := [], harness := (true, "708d118a3fbf4fa7f6144e849a68056659feb62ddc7dd691a54814f63df39cc3"), looks := false }, kinds := [], alts := [], laidByText := true, laidKinds := [.data, .data, .pinned], laidTests := true, laidLooks := .later }
def AccessMadeCardSaid : Prop := Claim7.holds Tryz.pinned (.plain (OpenSpec.ofChange accessMadeSpec)) accessMadeCard

/-- THE TIED CARD OF 'memfaultlaw15.ScrubSettles'. -/
def scrubSettlesCard : Claim7 := { stood := { row := scrubSettlesRow, standIns := [], harness := (true, "708d118a3fbf4fa7f6144e849a68056659feb62ddc7dd691a54814f63df39cc3"), looks := false }, kinds := [], alts := [], laidByText := true, laidKinds := [.data, .data, .pinned], laidTests := true, laidLooks := .later }
def ScrubSettlesCardSaid : Prop := Claim7.holds Tryz.pinned (.plain (OpenSpec.ofChange scrubSettlesSpec)) scrubSettlesCard

/-- THE SECOND FORM's CARD OF 'memfaultlaw07.SymbolMade'. -/
def symbolMadeUptoCard : Claim7 := { stood := { row := symbolMadeUptoRow, standIns := [], harness := (true, "708d118a3fbf4fa7f6144e849a68056659feb62ddc7dd691a54814f63df39cc3"), looks := false }, kinds := [], alts := [], laidByText := true, laidKinds := [.data, .pinned], laidTests := true, laidLooks := .later }
def SymbolMadeUptoCardSaid : Prop := Claim7.holds Tryz.pinned (.plain (OpenSpec.upto symbolMadeSpec)) symbolMadeUptoCard

/-- THE SECOND FORM's CARD OF 'memfaultlaw14.AccessReturns'. -/
def accessReturnsUptoCard : Claim7 := { stood := { row := accessReturnsUptoRow, standIns := [], harness := (true, "708d118a3fbf4fa7f6144e849a68056659feb62ddc7dd691a54814f63df39cc3"), looks := false }, kinds := [], alts := [], laidByText := true, laidKinds := [.data, .data, .pinned], laidTests := true, laidLooks := .later }
def AccessReturnsUptoCardSaid : Prop := Claim7.holds Tryz.pinned (.plain (OpenSpec.upto accessReturnsSpec)) accessReturnsUptoCard

/-- THE SECOND FORM's CARD OF 'memfaultlaw14.AccessApart'. -/
def accessApartUptoCard : Claim7 := { stood := { row := accessApartUptoRow, standIns := [], harness := (true, "708d118a3fbf4fa7f6144e849a68056659feb62ddc7dd691a54814f63df39cc3"), looks := false }, kinds := [], alts := [], laidByText := true, laidKinds := [.data, .data, .pinned], laidTests := true, laidLooks := .later }
def AccessApartUptoCardSaid : Prop := Claim7.holds Tryz.pinned (.plain (OpenSpec.upto accessApartSpec)) accessApartUptoCard

/-- THE SECOND FORM's CARD OF 'memfaultlaw14.AccessNotices'. -/
def accessNoticesUptoCard : Claim7 := { stood := { row := accessNoticesUptoRow, standIns := [], harness := (true, "708d118a3fbf4fa7f6144e849a68056659feb62ddc7dd691a54814f63df39cc3"), looks := false }, kinds := [], alts := [], laidByText := true, laidKinds := [.data, .data, .pinned], laidTests := true, laidLooks := .later }
def AccessNoticesUptoCardSaid : Prop := Claim7.holds Tryz.pinned (.plain (OpenSpec.upto accessNoticesSpec)) accessNoticesUptoCard

/-- THE SECOND FORM's CARD OF 'memfaultlaw15.ScrubParts'. -/
def scrubPartsUptoCard : Claim7 := { stood := { row := scrubPartsUptoRow, standIns := [], harness := (true, "708d118a3fbf4fa7f6144e849a68056659feb62ddc7dd691a54814f63df39cc3"), looks := false }, kinds := [], alts := [], laidByText := true, laidKinds := [.data, .data, .pinned], laidTests := true, laidLooks := .later }
def ScrubPartsUptoCardSaid : Prop := Claim7.holds Tryz.pinned (.plain (OpenSpec.upto scrubPartsSpec)) scrubPartsUptoCard

/-- THE SECOND FORM's CARD OF 'memfaultlaw14.AccessPoisons'. -/
def accessPoisonsUptoCard : Claim7 := { stood := { row := accessPoisonsUptoRow, standIns := [], harness := (true, "708d118a3fbf4fa7f6144e849a68056659feb62ddc7dd691a54814f63df39cc3"), looks := false }, kinds := [], alts := [], laidByText := true, laidKinds := [.data, .data, .pinned], laidTests := true, laidLooks := .later }
def AccessPoisonsUptoCardSaid : Prop := Claim7.holds Tryz.pinned (.plain (OpenSpec.upto accessPoisonsSpec)) accessPoisonsUptoCard

/-- THE SECOND FORM's CARD OF 'memfaultlaw14.AccessMade'. -/
def accessMadeUptoCard : Claim7 := { stood := { row := accessMadeUptoRow, standIns := [], harness := (true, "708d118a3fbf4fa7f6144e849a68056659feb62ddc7dd691a54814f63df39cc3"), looks := false }, kinds := [], alts := [], laidByText := true, laidKinds := [.data, .data, .pinned], laidTests := true, laidLooks := .later }
def AccessMadeUptoCardSaid : Prop := Claim7.holds Tryz.pinned (.plain (OpenSpec.upto accessMadeSpec)) accessMadeUptoCard

/-- THE SECOND FORM's CARD OF 'memfaultlaw15.ScrubSettles'. -/
def scrubSettlesUptoCard : Claim7 := { stood := { row := scrubSettlesUptoRow, standIns := [], harness := (true, "708d118a3fbf4fa7f6144e849a68056659feb62ddc7dd691a54814f63df39cc3"), looks := false }, kinds := [], alts := [], laidByText := true, laidKinds := [.data, .data, .pinned], laidTests := true, laidLooks := .later }
def ScrubSettlesUptoCardSaid : Prop := Claim7.holds Tryz.pinned (.plain (OpenSpec.upto scrubSettlesSpec)) scrubSettlesUptoCard
end Rows
end Go.Proofs.YtnplaejlmbncfaaGreatDoor

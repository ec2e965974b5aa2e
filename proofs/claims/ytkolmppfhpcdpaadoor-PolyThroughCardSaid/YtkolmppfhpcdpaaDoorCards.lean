/-
  DERIVED. GIVEN WITH THE SEED: THE CARDS: each row of YtkolmppfhpcdpaaDoorRows.lean that lists a variable, with what it lists TIED to the program's text (the seventh form; the later family's looks); each row that meets fmt, with fmt's text TOLD by the authors' own Lean function (tested against real Go, not proved from fmt's source: count such statements apart). THE CARD IS WHAT COUNTS. Prove the row's statement (the work); the ties are given (YtkolmppfhpcdpaaDoorTie.lean); close each card by the builder's one call (the guide's Derived/Test/ToyasCard.lean, 'card_holds'). Laid BY PROGRAM, IN A SANDBOX (cutbox-door.mjs). By AI agents, Wed Nov 11 2026. No macro, syntax, notation, axiom, sorry.
-/
import Derived.Test.YtkolmppfhpcdpaaDoorRows
import GoSem.ClaimSeven
namespace Go.Proofs.YtkolmppfhpcdpaaDoor
namespace Rows

/-- THE TIED CARD OF 'memfaultlaw04.PolyRoots'. -/
def polyRootsCard : Claim7 := { stood := { row := polyRootsRow, standIns := [], harness := (true, "ebea4c759cfb3793a771f9995dde47dea120765ffcbb6987da758e6ee139300e"), looks := false }, kinds := [], alts := [], laidByText := true, laidKinds := [.data, .pinned], laidTests := true, laidLooks := .later }
def PolyRootsCardSaid : Prop := Claim7.holds Tryd.pinned (.plain (OpenSpec.ofChange polyRootsSpec)) polyRootsCard

/-- THE TIED CARD OF 'memfaultlaw04.PolyLaws'. -/
def polyLawsCard : Claim7 := { stood := { row := polyLawsRow, standIns := [], harness := (true, "ebea4c759cfb3793a771f9995dde47dea120765ffcbb6987da758e6ee139300e"), looks := false }, kinds := [], alts := [], laidByText := true, laidKinds := [.data, .pinned], laidTests := true, laidLooks := .later }
def PolyLawsCardSaid : Prop := Claim7.holds Tryd.pinned (.plain (OpenSpec.ofChange polyLawsSpec)) polyLawsCard

/-- THE TIED CARD OF 'memfaultlaw04.PolyThrough'. -/
def polyThroughCard : Claim7 := { stood := { row := polyThroughRow, standIns := [], harness := (true, "ebea4c759cfb3793a771f9995dde47dea120765ffcbb6987da758e6ee139300e"), looks := false }, kinds := [], alts := [], laidByText := true, laidKinds := [.data, .pinned], laidTests := true, laidLooks := .later }
def PolyThroughCardSaid : Prop := Claim7.holds Tryd.pinned (.plain (OpenSpec.ofChange polyThroughSpec)) polyThroughCard

/-- THE TIED CARD OF 'memfaultlaw04.PolyDivides'. -/
def polyDividesCard : Claim7 := { stood := { row := polyDividesRow, standIns := [], harness := (true, "ebea4c759cfb3793a771f9995dde47dea120765ffcbb6987da758e6ee139300e"), looks := false }, kinds := [], alts := [], laidByText := true, laidKinds := [.data, .pinned], laidTests := true, laidLooks := .later }
def PolyDividesCardSaid : Prop := Claim7.holds Tryd.pinned (.plain (OpenSpec.ofChange polyDividesSpec)) polyDividesCard

/-- THE TIED CARD OF 'memfaultlaw04.PolyRaw'. -/
def polyRawCard : Claim7 := { stood := { row := polyRawRow, standIns := [], harness := (true, "ebea4c759cfb3793a771f9995dde47dea120765ffcbb6987da758e6ee139300e"), looks := false }, kinds := [], alts := [], laidByText := true, laidKinds := [.data, .pinned], laidTests := true, laidLooks := .later }
def PolyRawCardSaid : Prop := Claim7.holds Tryd.pinned (.plain (OpenSpec.ofChange polyRawSpec)) polyRawCard

/-- THE TIED CARD OF 'memfaultlaw04.PolyMade'. -/
def polyMadeCard : Claim7 := { stood := { row := polyMadeRow, standIns := [], harness := (true, "ebea4c759cfb3793a771f9995dde47dea120765ffcbb6987da758e6ee139300e"), looks := false }, kinds := [], alts := [], laidByText := true, laidKinds := [.data, .pinned], laidTests := true, laidLooks := .later }
def PolyMadeCardSaid : Prop := Claim7.holds Tryd.pinned (.plain (OpenSpec.ofChange polyMadeSpec)) polyMadeCard

/-- THE SECOND FORM's CARD OF 'memfaultlaw04.PolyRoots'. -/
def polyRootsUptoCard : Claim7 := { stood := { row := polyRootsUptoRow, standIns := [], harness := (true, "ebea4c759cfb3793a771f9995dde47dea120765ffcbb6987da758e6ee139300e"), looks := false }, kinds := [], alts := [], laidByText := true, laidKinds := [.data, .pinned], laidTests := true, laidLooks := .later }
def PolyRootsUptoCardSaid : Prop := Claim7.holds Tryd.pinned (.plain (OpenSpec.upto polyRootsSpec)) polyRootsUptoCard

/-- THE SECOND FORM's CARD OF 'memfaultlaw04.PolyLaws'. -/
def polyLawsUptoCard : Claim7 := { stood := { row := polyLawsUptoRow, standIns := [], harness := (true, "ebea4c759cfb3793a771f9995dde47dea120765ffcbb6987da758e6ee139300e"), looks := false }, kinds := [], alts := [], laidByText := true, laidKinds := [.data, .pinned], laidTests := true, laidLooks := .later }
def PolyLawsUptoCardSaid : Prop := Claim7.holds Tryd.pinned (.plain (OpenSpec.upto polyLawsSpec)) polyLawsUptoCard

/-- THE SECOND FORM's CARD OF 'memfaultlaw04.PolyThrough'. -/
def polyThroughUptoCard : Claim7 := { stood := { row := polyThroughUptoRow, standIns := [], harness := (true, "ebea4c759cfb3793a771f9995dde47dea120765ffcbb6987da758e6ee139300e"), looks := false }, kinds := [], alts := [], laidByText := true, laidKinds := [.data, .pinned], laidTests := true, laidLooks := .later }
def PolyThroughUptoCardSaid : Prop := Claim7.holds Tryd.pinned (.plain (OpenSpec.upto polyThroughSpec)) polyThroughUptoCard

/-- THE SECOND FORM's CARD OF 'memfaultlaw04.PolyDivides'. -/
def polyDividesUptoCard : Claim7 := { stood := { row := polyDividesUptoRow, standIns := [], harness := (true, "ebea4c759cfb3793a771f9995dde47dea120765ffcbb6987da758e6ee139300e"), looks := false }, kinds := [], alts := [], laidByText := true, laidKinds := [.data, .pinned], laidTests := true, laidLooks := .later }
def PolyDividesUptoCardSaid : Prop := Claim7.holds Tryd.pinned (.plain (OpenSpec.upto polyDividesSpec)) polyDividesUptoCard

/-- THE SECOND FORM's CARD OF 'memfaultlaw04.PolyRaw'. -/
def polyRawUptoCard : Claim7 := { stood := { row := polyRawUptoRow, standIns := [], harness := (true, "ebea4c759cfb3793a771f9995dde47dea120765ffcbb6987da758e6ee139300e"), looks := false }, kinds := [], alts := [], laidByText := true, laidKinds := [.data, .pinned], laidTests := true, laidLooks := .later }
def PolyRawUptoCardSaid : Prop := Claim7.holds Tryd.pinned (.plain (OpenSpec.upto polyRawSpec)) polyRawUptoCard

/-- THE SECOND FORM's CARD OF 'memfaultlaw04.PolyMade'. -/
def polyMadeUptoCard : Claim7 := { stood := { row := polyMadeUptoRow, standIns := [], harness := (true, "ebea4c759cfb3793a771f9995dde47dea120765ffcbb6987da758e6ee139300e"), looks := false }, kinds := [], alts := [], laidByText := true, laidKinds := [.data, .pinned], laidTests := true, laidLooks := .later }
def PolyMadeUptoCardSaid : Prop := Claim7.holds Tryd.pinned (.plain (OpenSpec.upto polyMadeSpec)) polyMadeUptoCard
end Rows
end Go.Proofs.YtkolmppfhpcdpaaDoor

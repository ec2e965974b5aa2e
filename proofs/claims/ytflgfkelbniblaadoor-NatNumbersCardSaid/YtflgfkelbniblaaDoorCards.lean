/-
  DERIVED. GIVEN WITH THE SEED: THE CARDS: each row of YtflgfkelbniblaaDoorRows.lean that lists a variable, with what it lists TIED to the program's text (the seventh form; the later family's looks); each row that meets fmt, with fmt's text TOLD by the authors' own Lean function (tested against real Go, not proved from fmt's source: count such statements apart). THE CARD IS WHAT COUNTS. Prove the row's statement (the work); the ties are given (YtflgfkelbniblaaDoorTie.lean); close each card by the builder's one call (the guide's Derived/Test/ToyasCard.lean, 'card_holds'). Laid BY PROGRAM, IN A SANDBOX (cutbox-door.mjs). By AI agents, Wed Nov 11 2026. No macro, syntax, notation, axiom, sorry.
-/
import Derived.Test.YtflgfkelbniblaaDoorRows
import GoSem.ClaimSeven
namespace Go.Proofs.YtflgfkelbniblaaDoor
namespace Rows

/-- THE TIED CARD OF 'memfaultlaw01.NatLong'. -/
def natLongCard : Claim7 := { stood := { row := natLongRow, standIns := [], harness := (true, "6e306e65c59f177e1ca62b4671ff48591fba2db2ddf0ddfcf4178702e4113b73"), looks := false }, kinds := [], alts := [], laidByText := true, laidKinds := [.data, .pinned], laidTests := true, laidLooks := .later }
def NatLongCardSaid : Prop := Claim7.holds Tryd.pinned (.plain (OpenSpec.ofChange natLongSpec)) natLongCard

/-- THE TIED CARD OF 'memfaultlaw01.NatPowers'. -/
def natPowersCard : Claim7 := { stood := { row := natPowersRow, standIns := [], harness := (true, "6e306e65c59f177e1ca62b4671ff48591fba2db2ddf0ddfcf4178702e4113b73"), looks := false }, kinds := [], alts := [], laidByText := true, laidKinds := [.data, .pinned], laidTests := true, laidLooks := .later }
def NatPowersCardSaid : Prop := Claim7.holds Tryd.pinned (.plain (OpenSpec.ofChange natPowersSpec)) natPowersCard

/-- THE TIED CARD OF 'memfaultlaw01.NatNumbers'. -/
def natNumbersCard : Claim7 := { stood := { row := natNumbersRow, standIns := [], harness := (true, "6e306e65c59f177e1ca62b4671ff48591fba2db2ddf0ddfcf4178702e4113b73"), looks := false }, kinds := [], alts := [], laidByText := true, laidKinds := [.data, .pinned], laidTests := true, laidLooks := .later }
def NatNumbersCardSaid : Prop := Claim7.holds Tryd.pinned (.plain (OpenSpec.ofChange natNumbersSpec)) natNumbersCard

/-- THE TIED CARD OF 'memfaultlaw01.NatPascal'. -/
def natPascalCard : Claim7 := { stood := { row := natPascalRow, standIns := [], harness := (true, "6e306e65c59f177e1ca62b4671ff48591fba2db2ddf0ddfcf4178702e4113b73"), looks := false }, kinds := [], alts := [], laidByText := true, laidKinds := [.data, .pinned], laidTests := true, laidLooks := .later }
def NatPascalCardSaid : Prop := Claim7.holds Tryd.pinned (.plain (OpenSpec.ofChange natPascalSpec)) natPascalCard

/-- THE TIED CARD OF 'memfaultlaw01.NatOrder'. -/
def natOrderCard : Claim7 := { stood := { row := natOrderRow, standIns := [], harness := (true, "6e306e65c59f177e1ca62b4671ff48591fba2db2ddf0ddfcf4178702e4113b73"), looks := false }, kinds := [], alts := [], laidByText := true, laidKinds := [.data, .pinned], laidTests := true, laidLooks := .later }
def NatOrderCardSaid : Prop := Claim7.holds Tryd.pinned (.plain (OpenSpec.ofChange natOrderSpec)) natOrderCard

/-- THE TIED CARD OF 'memfaultlaw01.NatReturns'. -/
def natReturnsCard : Claim7 := { stood := { row := natReturnsRow, standIns := [], harness := (true, "6e306e65c59f177e1ca62b4671ff48591fba2db2ddf0ddfcf4178702e4113b73"), looks := false }, kinds := [], alts := [], laidByText := true, laidKinds := [.data, .pinned], laidTests := true, laidLooks := .later }
def NatReturnsCardSaid : Prop := Claim7.holds Tryd.pinned (.plain (OpenSpec.ofChange natReturnsSpec)) natReturnsCard

/-- THE TIED CARD OF 'memfaultlaw01.NatLaws'. -/
def natLawsCard : Claim7 := { stood := { row := natLawsRow, standIns := [], harness := (true, "6e306e65c59f177e1ca62b4671ff48591fba2db2ddf0ddfcf4178702e4113b73"), looks := false }, kinds := [], alts := [], laidByText := true, laidKinds := [.data, .data, .pinned], laidTests := true, laidLooks := .later }
def NatLawsCardSaid : Prop := Claim7.holds Tryd.pinned (.plain (OpenSpec.ofChange natLawsSpec)) natLawsCard

/-- THE TIED CARD OF 'memfaultlaw01.NatRaw'. -/
def natRawCard : Claim7 := { stood := { row := natRawRow, standIns := [], harness := (true, "6e306e65c59f177e1ca62b4671ff48591fba2db2ddf0ddfcf4178702e4113b73"), looks := false }, kinds := [], alts := [], laidByText := true, laidKinds := [.data, .data, .pinned], laidTests := true, laidLooks := .later }
def NatRawCardSaid : Prop := Claim7.holds Tryd.pinned (.plain (OpenSpec.ofChange natRawSpec)) natRawCard

/-- THE TIED CARD OF 'memfaultlaw01.NatMade'. -/
def natMadeCard : Claim7 := { stood := { row := natMadeRow, standIns := [], harness := (true, "6e306e65c59f177e1ca62b4671ff48591fba2db2ddf0ddfcf4178702e4113b73"), looks := false }, kinds := [], alts := [], laidByText := true, laidKinds := [.data, .data, .pinned], laidTests := true, laidLooks := .later }
def NatMadeCardSaid : Prop := Claim7.holds Tryd.pinned (.plain (OpenSpec.ofChange natMadeSpec)) natMadeCard

/-- THE SECOND FORM's CARD OF 'memfaultlaw01.NatLong'. -/
def natLongUptoCard : Claim7 := { stood := { row := natLongUptoRow, standIns := [], harness := (true, "6e306e65c59f177e1ca62b4671ff48591fba2db2ddf0ddfcf4178702e4113b73"), looks := false }, kinds := [], alts := [], laidByText := true, laidKinds := [.data, .pinned], laidTests := true, laidLooks := .later }
def NatLongUptoCardSaid : Prop := Claim7.holds Tryd.pinned (.plain (OpenSpec.upto natLongSpec)) natLongUptoCard

/-- THE SECOND FORM's CARD OF 'memfaultlaw01.NatPowers'. -/
def natPowersUptoCard : Claim7 := { stood := { row := natPowersUptoRow, standIns := [], harness := (true, "6e306e65c59f177e1ca62b4671ff48591fba2db2ddf0ddfcf4178702e4113b73"), looks := false }, kinds := [], alts := [], laidByText := true, laidKinds := [.data, .pinned], laidTests := true, laidLooks := .later }
def NatPowersUptoCardSaid : Prop := Claim7.holds Tryd.pinned (.plain (OpenSpec.upto natPowersSpec)) natPowersUptoCard

/-- THE SECOND FORM's CARD OF 'memfaultlaw01.NatNumbers'. -/
def natNumbersUptoCard : Claim7 := { stood := { row := natNumbersUptoRow, standIns := [], harness := (true, "6e306e65c59f177e1ca62b4671ff48591fba2db2ddf0ddfcf4178702e4113b73"), looks := false }, kinds := [], alts := [], laidByText := true, laidKinds := [.data, .pinned], laidTests := true, laidLooks := .later }
def NatNumbersUptoCardSaid : Prop := Claim7.holds Tryd.pinned (.plain (OpenSpec.upto natNumbersSpec)) natNumbersUptoCard

/-- THE SECOND FORM's CARD OF 'memfaultlaw01.NatPascal'. -/
def natPascalUptoCard : Claim7 := { stood := { row := natPascalUptoRow, standIns := [], harness := (true, "6e306e65c59f177e1ca62b4671ff48591fba2db2ddf0ddfcf4178702e4113b73"), looks := false }, kinds := [], alts := [], laidByText := true, laidKinds := [.data, .pinned], laidTests := true, laidLooks := .later }
def NatPascalUptoCardSaid : Prop := Claim7.holds Tryd.pinned (.plain (OpenSpec.upto natPascalSpec)) natPascalUptoCard

/-- THE SECOND FORM's CARD OF 'memfaultlaw01.NatOrder'. -/
def natOrderUptoCard : Claim7 := { stood := { row := natOrderUptoRow, standIns := [], harness := (true, "6e306e65c59f177e1ca62b4671ff48591fba2db2ddf0ddfcf4178702e4113b73"), looks := false }, kinds := [], alts := [], laidByText := true, laidKinds := [.data, .pinned], laidTests := true, laidLooks := .later }
def NatOrderUptoCardSaid : Prop := Claim7.holds Tryd.pinned (.plain (OpenSpec.upto natOrderSpec)) natOrderUptoCard

/-- THE SECOND FORM's CARD OF 'memfaultlaw01.NatReturns'. -/
def natReturnsUptoCard : Claim7 := { stood := { row := natReturnsUptoRow, standIns := [], harness := (true, "6e306e65c59f177e1ca62b4671ff48591fba2db2ddf0ddfcf4178702e4113b73"), looks := false }, kinds := [], alts := [], laidByText := true, laidKinds := [.data, .pinned], laidTests := true, laidLooks := .later }
def NatReturnsUptoCardSaid : Prop := Claim7.holds Tryd.pinned (.plain (OpenSpec.upto natReturnsSpec)) natReturnsUptoCard

/-- THE SECOND FORM's CARD OF 'memfaultlaw01.NatLaws'. -/
def natLawsUptoCard : Claim7 := { stood := { row := natLawsUptoRow, standIns := [], harness := (true, "6e306e65c59f177e1ca62b4671ff48591fba2db2ddf0ddfcf4178702e4113b73"), looks := false }, kinds := [], alts := [], laidByText := true, laidKinds := [.data, .data, .pinned], laidTests := true, laidLooks := .later }
def NatLawsUptoCardSaid : Prop := Claim7.holds Tryd.pinned (.plain (OpenSpec.upto natLawsSpec)) natLawsUptoCard

/-- THE SECOND FORM's CARD OF 'memfaultlaw01.NatRaw'. -/
def natRawUptoCard : Claim7 := { stood := { row := natRawUptoRow, standIns := [], harness := (true, "6e306e65c59f177e1ca62b4671ff48591fba2db2ddf0ddfcf4178702e4113b73"), looks := false }, kinds := [], alts := [], laidByText := true, laidKinds := [.data, .data, .pinned], laidTests := true, laidLooks := .later }
def NatRawUptoCardSaid : Prop := Claim7.holds Tryd.pinned (.plain (OpenSpec.upto natRawSpec)) natRawUptoCard

/-- THE SECOND FORM's CARD OF 'memfaultlaw01.NatMade'. -/
def natMadeUptoCard : Claim7 := { stood := { row := natMadeUptoRow, standIns := [], harness := (true, "6e306e65c59f177e1ca62b4671ff48591fba2db2ddf0ddfcf4178702e4113b73"), looks := false }, kinds := [], alts := [], laidByText := true, laidKinds := [.data, .data, .pinned], laidTests := true, laidLooks := .later }
def NatMadeUptoCardSaid : Prop := Claim7.holds Tryd.pinned (.plain (OpenSpec.upto natMadeSpec)) natMadeUptoCard
end Rows
end Go.Proofs.YtflgfkelbniblaaDoor

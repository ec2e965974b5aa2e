/-
  DERIVED. GIVEN WITH THE SEED: THE CARDS: each row of YtdjfbbfbdgiblaaGreatDoorRows.lean that lists a variable, with what it lists TIED to the program's text (the seventh form; the later family's looks); each row that meets fmt, with fmt's text TOLD by the authors' own Lean function (tested against real Go, not proved from fmt's source: count such statements apart). THE CARD IS WHAT COUNTS. Prove the row's statement (the work); the ties are given (YtdjfbbfbdgiblaaGreatDoorTie.lean); close each card by the builder's one call (the guide's Derived/Test/ToyasCard.lean, 'card_holds'). Laid BY PROGRAM, IN A SANDBOX (cutbox-door.mjs). By AI agents, Wed Nov 11 2026. No macro, syntax, notation, axiom, sorry.
-/
import Derived.Test.YtdjfbbfbdgiblaaGreatDoorRows
import GoSem.ClaimSeven
namespace Go.Proofs.YtdjfbbfbdgiblaaGreatDoor
namespace Rows

/-- THE TIED CARD OF 'memfaultlaw08.ChanceAdds'. -/
def chanceAddsCard : Claim7 := { stood := { row := chanceAddsRow, standIns := [], harness := (true, "e32675ec12ec77c0de6e6debda81991987585e62b0adc5d12f26cb65fac2f358"), looks := false }, kinds := [], alts := [], laidByText := true, laidKinds := [.data, .data, .pinned], laidTests := true, laidLooks := .later }
def ChanceAddsCardSaid : Prop := Claim7.holds Tryz.pinned (.plain (OpenSpec.ofChange chanceAddsSpec)) chanceAddsCard

/-- THE TIED CARD OF 'memfaultlaw08.ChanceBalls'. -/
def chanceBallsCard : Claim7 := { stood := { row := chanceBallsRow, standIns := [], harness := (true, "e32675ec12ec77c0de6e6debda81991987585e62b0adc5d12f26cb65fac2f358"), looks := false }, kinds := [], alts := [], laidByText := true, laidKinds := [.data, .data, .pinned], laidTests := true, laidLooks := .later }
def ChanceBallsCardSaid : Prop := Claim7.holds Tryz.pinned (.plain (OpenSpec.ofChange chanceBallsSpec)) chanceBallsCard

/-- THE TIED CARD OF 'memfaultlaw08.ChanceBits'. -/
def chanceBitsCard : Claim7 := { stood := { row := chanceBitsRow, standIns := [], harness := (true, "e32675ec12ec77c0de6e6debda81991987585e62b0adc5d12f26cb65fac2f358"), looks := false }, kinds := [], alts := [], laidByText := true, laidKinds := [.data, .data, .pinned], laidTests := true, laidLooks := .later }
def ChanceBitsCardSaid : Prop := Claim7.holds Tryz.pinned (.plain (OpenSpec.ofChange chanceBitsSpec)) chanceBitsCard

/-- THE TIED CARD OF 'memfaultlaw08.ChanceExact'. -/
def chanceExactCard : Claim7 := { stood := { row := chanceExactRow, standIns := [], harness := (true, "e32675ec12ec77c0de6e6debda81991987585e62b0adc5d12f26cb65fac2f358"), looks := false }, kinds := [], alts := [], laidByText := true, laidKinds := [.data, .data, .pinned], laidTests := true, laidLooks := .later }
def ChanceExactCardSaid : Prop := Claim7.holds Tryz.pinned (.plain (OpenSpec.ofChange chanceExactSpec)) chanceExactCard

/-- THE TIED CARD OF 'memfaultlaw08.ChanceFewer'. -/
def chanceFewerCard : Claim7 := { stood := { row := chanceFewerRow, standIns := [], harness := (true, "e32675ec12ec77c0de6e6debda81991987585e62b0adc5d12f26cb65fac2f358"), looks := false }, kinds := [], alts := [], laidByText := true, laidKinds := [.data, .data, .pinned], laidTests := true, laidLooks := .later }
def ChanceFewerCardSaid : Prop := Claim7.holds Tryz.pinned (.plain (OpenSpec.ofChange chanceFewerSpec)) chanceFewerCard

/-- THE TIED CARD OF 'memfaultlaw08.ChancePairs'. -/
def chancePairsCard : Claim7 := { stood := { row := chancePairsRow, standIns := [], harness := (true, "e32675ec12ec77c0de6e6debda81991987585e62b0adc5d12f26cb65fac2f358"), looks := false }, kinds := [], alts := [], laidByText := true, laidKinds := [.data, .data, .pinned], laidTests := true, laidLooks := .later }
def ChancePairsCardSaid : Prop := Claim7.holds Tryz.pinned (.plain (OpenSpec.ofChange chancePairsSpec)) chancePairsCard

/-- THE TIED CARD OF 'memfaultlaw08.ChanceSmall'. -/
def chanceSmallCard : Claim7 := { stood := { row := chanceSmallRow, standIns := [], harness := (true, "e32675ec12ec77c0de6e6debda81991987585e62b0adc5d12f26cb65fac2f358"), looks := false }, kinds := [], alts := [], laidByText := true, laidKinds := [.data, .data, .pinned], laidTests := true, laidLooks := .later }
def ChanceSmallCardSaid : Prop := Claim7.holds Tryz.pinned (.plain (OpenSpec.ofChange chanceSmallSpec)) chanceSmallCard

/-- THE TIED CARD OF 'memfaultlaw08.ChanceWhole'. -/
def chanceWholeCard : Claim7 := { stood := { row := chanceWholeRow, standIns := [], harness := (true, "e32675ec12ec77c0de6e6debda81991987585e62b0adc5d12f26cb65fac2f358"), looks := false }, kinds := [], alts := [], laidByText := true, laidKinds := [.data, .data, .pinned], laidTests := true, laidLooks := .later }
def ChanceWholeCardSaid : Prop := Claim7.holds Tryz.pinned (.plain (OpenSpec.ofChange chanceWholeSpec)) chanceWholeCard

/-- THE SECOND FORM's CARD OF 'memfaultlaw08.ChanceAdds'. -/
def chanceAddsUptoCard : Claim7 := { stood := { row := chanceAddsUptoRow, standIns := [], harness := (true, "e32675ec12ec77c0de6e6debda81991987585e62b0adc5d12f26cb65fac2f358"), looks := false }, kinds := [], alts := [], laidByText := true, laidKinds := [.data, .data, .pinned], laidTests := true, laidLooks := .later }
def ChanceAddsUptoCardSaid : Prop := Claim7.holds Tryz.pinned (.plain (OpenSpec.upto chanceAddsSpec)) chanceAddsUptoCard

/-- THE SECOND FORM's CARD OF 'memfaultlaw08.ChanceBalls'. -/
def chanceBallsUptoCard : Claim7 := { stood := { row := chanceBallsUptoRow, standIns := [], harness := (true, "e32675ec12ec77c0de6e6debda81991987585e62b0adc5d12f26cb65fac2f358"), looks := false }, kinds := [], alts := [], laidByText := true, laidKinds := [.data, .data, .pinned], laidTests := true, laidLooks := .later }
def ChanceBallsUptoCardSaid : Prop := Claim7.holds Tryz.pinned (.plain (OpenSpec.upto chanceBallsSpec)) chanceBallsUptoCard

/-- THE SECOND FORM's CARD OF 'memfaultlaw08.ChanceBits'. -/
def chanceBitsUptoCard : Claim7 := { stood := { row := chanceBitsUptoRow, standIns := [], harness := (true, "e32675ec12ec77c0de6e6debda81991987585e62b0adc5d12f26cb65fac2f358"), looks := false }, kinds := [], alts := [], laidByText := true, laidKinds := [.data, .data, .pinned], laidTests := true, laidLooks := .later }
def ChanceBitsUptoCardSaid : Prop := Claim7.holds Tryz.pinned (.plain (OpenSpec.upto chanceBitsSpec)) chanceBitsUptoCard

/-- THE SECOND FORM's CARD OF 'memfaultlaw08.ChanceExact'. -/
def chanceExactUptoCard : Claim7 := { stood := { row := chanceExactUptoRow, standIns := [], harness := (true, "e32675ec12ec77c0de6e6debda81991987585e62b0adc5d12f26cb65fac2f358"), looks := false }, kinds := [], alts := [], laidByText := true, laidKinds := [.data, .data, .pinned], laidTests := true, laidLooks := .later }
def ChanceExactUptoCardSaid : Prop := Claim7.holds Tryz.pinned (.plain (OpenSpec.upto chanceExactSpec)) chanceExactUptoCard

/-- THE SECOND FORM's CARD OF 'memfaultlaw08.ChanceFewer'. -/
def chanceFewerUptoCard : Claim7 := { stood := { row := chanceFewerUptoRow, standIns := [], harness := (true, "e32675ec12ec77c0de6e6debda81991987585e62b0adc5d12f26cb65fac2f358"), looks := false }, kinds := [], alts := [], laidByText := true, laidKinds := [.data, .data, .pinned], laidTests := true, laidLooks := .later }
def ChanceFewerUptoCardSaid : Prop := Claim7.holds Tryz.pinned (.plain (OpenSpec.upto chanceFewerSpec)) chanceFewerUptoCard

/-- THE SECOND FORM's CARD OF 'memfaultlaw08.ChancePairs'. -/
def chancePairsUptoCard : Claim7 := { stood := { row := chancePairsUptoRow, standIns := [], harness := (true, "e32675ec12ec77c0de6e6debda81991987585e62b0adc5d12f26cb65fac2f358"), looks := false }, kinds := [], alts := [], laidByText := true, laidKinds := [.data, .data, .pinned], laidTests := true, laidLooks := .later }
def ChancePairsUptoCardSaid : Prop := Claim7.holds Tryz.pinned (.plain (OpenSpec.upto chancePairsSpec)) chancePairsUptoCard

/-- THE SECOND FORM's CARD OF 'memfaultlaw08.ChanceSmall'. -/
def chanceSmallUptoCard : Claim7 := { stood := { row := chanceSmallUptoRow, standIns := [], harness := (true, "e32675ec12ec77c0de6e6debda81991987585e62b0adc5d12f26cb65fac2f358"), looks := false }, kinds := [], alts := [], laidByText := true, laidKinds := [.data, .data, .pinned], laidTests := true, laidLooks := .later }
def ChanceSmallUptoCardSaid : Prop := Claim7.holds Tryz.pinned (.plain (OpenSpec.upto chanceSmallSpec)) chanceSmallUptoCard

/-- THE SECOND FORM's CARD OF 'memfaultlaw08.ChanceWhole'. -/
def chanceWholeUptoCard : Claim7 := { stood := { row := chanceWholeUptoRow, standIns := [], harness := (true, "e32675ec12ec77c0de6e6debda81991987585e62b0adc5d12f26cb65fac2f358"), looks := false }, kinds := [], alts := [], laidByText := true, laidKinds := [.data, .data, .pinned], laidTests := true, laidLooks := .later }
def ChanceWholeUptoCardSaid : Prop := Claim7.holds Tryz.pinned (.plain (OpenSpec.upto chanceWholeSpec)) chanceWholeUptoCard
end Rows
end Go.Proofs.YtdjfbbfbdgiblaaGreatDoor

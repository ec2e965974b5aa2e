/-
  NARROWER THAN 'FOR EVERY INPUT', by the rows' own cells (each row's printed sentence says how): ChanceAdds: laid · ChanceBalls: laid · ChanceBits: laid · ChanceExact: laid · ChanceFewer: laid · ChancePairs: laid · ChanceSmall: laid · ChanceWhole: laid.
  DERIVED. THE GIVEN ROWS OF THIS SEAT. 8 by the template 'for every input the law returns true; each argument reads behind the call as it read before'; 0 by the template 'total and deterministic' (their statements: YtdjfbbfbdgiblaaGreatDoorTotals.lean).
  GIVEN WITH THE SEED: the statements are not yours to turn. If you find one false, say at which input.
  Laid BY PROGRAM, IN A SANDBOX (cutbox-rows.mjs): the forced cells as the released guide's own fill.sh prints them over the translation 2f35c7cf0ad5c23c… (all of the seat's roots in one cut). By AI agents, Wed Nov 11 2026. No macro, syntax, notation, axiom, sorry.
-/
import Derived.Test.YtdjfbbfbdgiblaaGreatDoorChecked
import GoSem.PinnedTables
import GoSem.Claim
import GoSem.ClaimJoined
import GoSem.ClaimMapViews
import Derived.JoinedTies
import Derived.KernelRfl
namespace Go.Proofs.YtdjfbbfbdgiblaaGreatDoor
/- THE CELL 'sum', in the pinned program and in every row, IS THE sha256 OF THE DUMP (.gsa) THAT YtdjfbbfbdgiblaaGreatDoorProg.lean LOADS. Nothing in Lean hashes anything: it is a label: what it is worth is what the hold of that sum in a sandbox is worth. -/
noncomputable def Tryz.pinned : Pinned := { name := "ytdjfbbfbdgiblaagreatdoor", sum := "2f35c7cf0ad5c23c8f9292282546d963d670644bd87bb50b9b356181bd40d126", checked := Tryz.checked }
namespace Rows
def none {H : Type} : Left H := { results := [], args := [] }

/- WHAT THE LISTED PACKAGE-LEVEL VARIABLES READ AS WHEN THE CALL BEGINS. Each datum BY PROGRAM (the guide's laid-datum.mjs) off the statement by which the dump's own 'gosem.cut.vars' lays the variable. In a bare row this is a premise. The card (YtdjfbbfbdgiblaaGreatDoorCards.lean) ties it to the program's text. -/
def laid_math_bits_deBruijn64tab {H : Type} : DataW H := .agg [.lit (.int .u8 0), .lit (.int .u8 1), .lit (.int .u8 56), .lit (.int .u8 2), .lit (.int .u8 57), .lit (.int .u8 49), .lit (.int .u8 28), .lit (.int .u8 3), .lit (.int .u8 61), .lit (.int .u8 58), .lit (.int .u8 42), .lit (.int .u8 50), .lit (.int .u8 38), .lit (.int .u8 29), .lit (.int .u8 17), .lit (.int .u8 4), .lit (.int .u8 62), .lit (.int .u8 47), .lit (.int .u8 59), .lit (.int .u8 36), .lit (.int .u8 45), .lit (.int .u8 43), .lit (.int .u8 51), .lit (.int .u8 22), .lit (.int .u8 53), .lit (.int .u8 39), .lit (.int .u8 33), .lit (.int .u8 30), .lit (.int .u8 24), .lit (.int .u8 18), .lit (.int .u8 12), .lit (.int .u8 5), .lit (.int .u8 63), .lit (.int .u8 55), .lit (.int .u8 48), .lit (.int .u8 27), .lit (.int .u8 60), .lit (.int .u8 41), .lit (.int .u8 37), .lit (.int .u8 16), .lit (.int .u8 46), .lit (.int .u8 35), .lit (.int .u8 44), .lit (.int .u8 21), .lit (.int .u8 52), .lit (.int .u8 32), .lit (.int .u8 23), .lit (.int .u8 11), .lit (.int .u8 54), .lit (.int .u8 26), .lit (.int .u8 40), .lit (.int .u8 15), .lit (.int .u8 34), .lit (.int .u8 20), .lit (.int .u8 31), .lit (.int .u8 10), .lit (.int .u8 25), .lit (.int .u8 14), .lit (.int .u8 19), .lit (.int .u8 9), .lit (.int .u8 13), .lit (.int .u8 8), .lit (.int .u8 7), .lit (.int .u8 6)]
def laid_unicode_utf8_acceptRanges {H : Type} : DataW H := .agg [.agg [.lit (.int .u8 128), .lit (.int .u8 191)], .agg [.lit (.int .u8 160), .lit (.int .u8 191)], .agg [.lit (.int .u8 128), .lit (.int .u8 159)], .agg [.lit (.int .u8 144), .lit (.int .u8 191)], .agg [.lit (.int .u8 128), .lit (.int .u8 143)], .agg [.lit (.int .u8 0), .lit (.int .u8 0)], .agg [.lit (.int .u8 0), .lit (.int .u8 0)], .agg [.lit (.int .u8 0), .lit (.int .u8 0)], .agg [.lit (.int .u8 0), .lit (.int .u8 0)], .agg [.lit (.int .u8 0), .lit (.int .u8 0)], .agg [.lit (.int .u8 0), .lit (.int .u8 0)], .agg [.lit (.int .u8 0), .lit (.int .u8 0)], .agg [.lit (.int .u8 0), .lit (.int .u8 0)], .agg [.lit (.int .u8 0), .lit (.int .u8 0)], .agg [.lit (.int .u8 0), .lit (.int .u8 0)], .agg [.lit (.int .u8 0), .lit (.int .u8 0)]]
/-- One of Go's own tables, pinned by name: the form's constant. -/
def laid_unicode_utf8_first : DataW Unit := Go.Pinned.utf8First

/-- 'memfaultlaw08.ChanceAdds': WHATEVER THE INPUT: true; the input reads as it did. -/
def chanceAddsSpec : ChangeSpec := { name := "chanceAdds", fn := fun _ => fun
  | [d] => { results := [.lit (.bool true)], args := [d] }
  | _ => none }
def chanceAddsRow : OpenClaim := { program := "ytdjfbbfbdgiblaagreatdoor", sum := "2f35c7cf0ad5c23c8f9292282546d963d670644bd87bb50b9b356181bd40d126", func := "memfault/memfaultlaw08.ChanceAdds", spec := "chanceAdds", inPlace := ["math/bits.Sub64", "math/bits.Add64", "internal/bytealg.IndexByteString", "internal/bytealg.IndexString"], unfollowed := true, recurses := true, named := ["math/bits.deBruijn64tab", "unicode/utf8.first", "unicode/utf8.acceptRanges", "internal/bytealg.MaxLen"], apart := false, laid := [("math/bits.deBruijn64tab", laid_math_bits_deBruijn64tab), ("unicode/utf8.acceptRanges", laid_unicode_utf8_acceptRanges), ("unicode/utf8.first", laid_unicode_utf8_first)] }
def ChanceAddsSaid : Prop := chanceAddsRow.holds Tryz.pinned (OpenSpec.ofChange chanceAddsSpec)

/-- ITS FALSE NEIGHBOUR: 'it returns false'. Refute it at one input. -/
def chanceAddsWrong : ChangeSpec := { name := "chanceAdds", fn := fun _ => fun
  | [d] => { results := [.lit (.bool false)], args := [d] }
  | _ => none }
def ChanceAddsWrongFalsely : Prop := chanceAddsRow.holds Tryz.pinned (OpenSpec.ofChange chanceAddsWrong)

/-- 'memfaultlaw08.ChanceBalls': WHATEVER THE INPUT: true; the input reads as it did. -/
def chanceBallsSpec : ChangeSpec := { name := "chanceBalls", fn := fun _ => fun
  | [d] => { results := [.lit (.bool true)], args := [d] }
  | _ => none }
def chanceBallsRow : OpenClaim := { program := "ytdjfbbfbdgiblaagreatdoor", sum := "2f35c7cf0ad5c23c8f9292282546d963d670644bd87bb50b9b356181bd40d126", func := "memfault/memfaultlaw08.ChanceBalls", spec := "chanceBalls", inPlace := ["math/bits.Sub64", "math/bits.Add64", "internal/bytealg.IndexByteString", "internal/bytealg.IndexString"], unfollowed := true, recurses := true, named := ["math/bits.deBruijn64tab", "unicode/utf8.first", "unicode/utf8.acceptRanges", "internal/bytealg.MaxLen"], apart := false, laid := [("math/bits.deBruijn64tab", laid_math_bits_deBruijn64tab), ("unicode/utf8.acceptRanges", laid_unicode_utf8_acceptRanges), ("unicode/utf8.first", laid_unicode_utf8_first)] }
def ChanceBallsSaid : Prop := chanceBallsRow.holds Tryz.pinned (OpenSpec.ofChange chanceBallsSpec)

/-- ITS FALSE NEIGHBOUR: 'it returns false'. Refute it at one input. -/
def chanceBallsWrong : ChangeSpec := { name := "chanceBalls", fn := fun _ => fun
  | [d] => { results := [.lit (.bool false)], args := [d] }
  | _ => none }
def ChanceBallsWrongFalsely : Prop := chanceBallsRow.holds Tryz.pinned (OpenSpec.ofChange chanceBallsWrong)

/-- 'memfaultlaw08.ChanceBits': WHATEVER THE INPUT: true; the input reads as it did. -/
def chanceBitsSpec : ChangeSpec := { name := "chanceBits", fn := fun _ => fun
  | [d] => { results := [.lit (.bool true)], args := [d] }
  | _ => none }
def chanceBitsRow : OpenClaim := { program := "ytdjfbbfbdgiblaagreatdoor", sum := "2f35c7cf0ad5c23c8f9292282546d963d670644bd87bb50b9b356181bd40d126", func := "memfault/memfaultlaw08.ChanceBits", spec := "chanceBits", inPlace := ["math/bits.Add64", "math/bits.Sub64", "internal/bytealg.IndexByteString", "internal/bytealg.IndexString"], unfollowed := true, recurses := true, named := ["math/bits.deBruijn64tab", "unicode/utf8.first", "unicode/utf8.acceptRanges", "internal/bytealg.MaxLen"], apart := false, laid := [("math/bits.deBruijn64tab", laid_math_bits_deBruijn64tab), ("unicode/utf8.acceptRanges", laid_unicode_utf8_acceptRanges), ("unicode/utf8.first", laid_unicode_utf8_first)] }
def ChanceBitsSaid : Prop := chanceBitsRow.holds Tryz.pinned (OpenSpec.ofChange chanceBitsSpec)

/-- ITS FALSE NEIGHBOUR: 'it returns false'. Refute it at one input. -/
def chanceBitsWrong : ChangeSpec := { name := "chanceBits", fn := fun _ => fun
  | [d] => { results := [.lit (.bool false)], args := [d] }
  | _ => none }
def ChanceBitsWrongFalsely : Prop := chanceBitsRow.holds Tryz.pinned (OpenSpec.ofChange chanceBitsWrong)

/-- 'memfaultlaw08.ChanceExact': WHATEVER THE INPUT: true; the input reads as it did. -/
def chanceExactSpec : ChangeSpec := { name := "chanceExact", fn := fun _ => fun
  | [d1, d2, d3] => { results := [.lit (.bool true)], args := [d1, d2, d3] }
  | _ => none }
def chanceExactRow : OpenClaim := { program := "ytdjfbbfbdgiblaagreatdoor", sum := "2f35c7cf0ad5c23c8f9292282546d963d670644bd87bb50b9b356181bd40d126", func := "memfault/memfaultlaw08.ChanceExact", spec := "chanceExact", inPlace := ["math/bits.Sub64", "math/bits.Add64", "internal/bytealg.IndexByteString", "internal/bytealg.IndexString"], unfollowed := true, recurses := true, named := ["math/bits.deBruijn64tab", "unicode/utf8.first", "unicode/utf8.acceptRanges", "internal/bytealg.MaxLen"], apart := false, laid := [("math/bits.deBruijn64tab", laid_math_bits_deBruijn64tab), ("unicode/utf8.acceptRanges", laid_unicode_utf8_acceptRanges), ("unicode/utf8.first", laid_unicode_utf8_first)] }
def ChanceExactSaid : Prop := chanceExactRow.holds Tryz.pinned (OpenSpec.ofChange chanceExactSpec)

/-- ITS FALSE NEIGHBOUR: 'it returns false'. Refute it at one input. -/
def chanceExactWrong : ChangeSpec := { name := "chanceExact", fn := fun _ => fun
  | [d1, d2, d3] => { results := [.lit (.bool false)], args := [d1, d2, d3] }
  | _ => none }
def ChanceExactWrongFalsely : Prop := chanceExactRow.holds Tryz.pinned (OpenSpec.ofChange chanceExactWrong)

/-- 'memfaultlaw08.ChanceFewer': WHATEVER THE INPUT: true; the input reads as it did. -/
def chanceFewerSpec : ChangeSpec := { name := "chanceFewer", fn := fun _ => fun
  | [d1, d2] => { results := [.lit (.bool true)], args := [d1, d2] }
  | _ => none }
def chanceFewerRow : OpenClaim := { program := "ytdjfbbfbdgiblaagreatdoor", sum := "2f35c7cf0ad5c23c8f9292282546d963d670644bd87bb50b9b356181bd40d126", func := "memfault/memfaultlaw08.ChanceFewer", spec := "chanceFewer", inPlace := ["math/bits.Sub64", "math/bits.Add64", "internal/bytealg.IndexByteString", "internal/bytealg.IndexString"], unfollowed := true, recurses := true, named := ["math/bits.deBruijn64tab", "unicode/utf8.first", "unicode/utf8.acceptRanges", "internal/bytealg.MaxLen"], apart := false, laid := [("math/bits.deBruijn64tab", laid_math_bits_deBruijn64tab), ("unicode/utf8.acceptRanges", laid_unicode_utf8_acceptRanges), ("unicode/utf8.first", laid_unicode_utf8_first)] }
def ChanceFewerSaid : Prop := chanceFewerRow.holds Tryz.pinned (OpenSpec.ofChange chanceFewerSpec)

/-- ITS FALSE NEIGHBOUR: 'it returns false'. Refute it at one input. -/
def chanceFewerWrong : ChangeSpec := { name := "chanceFewer", fn := fun _ => fun
  | [d1, d2] => { results := [.lit (.bool false)], args := [d1, d2] }
  | _ => none }
def ChanceFewerWrongFalsely : Prop := chanceFewerRow.holds Tryz.pinned (OpenSpec.ofChange chanceFewerWrong)

/-- 'memfaultlaw08.ChancePairs': WHATEVER THE INPUT: true; the input reads as it did. -/
def chancePairsSpec : ChangeSpec := { name := "chancePairs", fn := fun _ => fun
  | [d] => { results := [.lit (.bool true)], args := [d] }
  | _ => none }
def chancePairsRow : OpenClaim := { program := "ytdjfbbfbdgiblaagreatdoor", sum := "2f35c7cf0ad5c23c8f9292282546d963d670644bd87bb50b9b356181bd40d126", func := "memfault/memfaultlaw08.ChancePairs", spec := "chancePairs", inPlace := ["math/bits.Add64", "math/bits.Sub64", "internal/bytealg.IndexByteString", "internal/bytealg.IndexString"], unfollowed := true, recurses := true, named := ["math/bits.deBruijn64tab", "unicode/utf8.first", "unicode/utf8.acceptRanges", "internal/bytealg.MaxLen"], apart := false, laid := [("math/bits.deBruijn64tab", laid_math_bits_deBruijn64tab), ("unicode/utf8.acceptRanges", laid_unicode_utf8_acceptRanges), ("unicode/utf8.first", laid_unicode_utf8_first)] }
def ChancePairsSaid : Prop := chancePairsRow.holds Tryz.pinned (OpenSpec.ofChange chancePairsSpec)

/-- ITS FALSE NEIGHBOUR: 'it returns false'. Refute it at one input. -/
def chancePairsWrong : ChangeSpec := { name := "chancePairs", fn := fun _ => fun
  | [d] => { results := [.lit (.bool false)], args := [d] }
  | _ => none }
def ChancePairsWrongFalsely : Prop := chancePairsRow.holds Tryz.pinned (OpenSpec.ofChange chancePairsWrong)

/-- 'memfaultlaw08.ChanceSmall': WHATEVER THE INPUT: true; the input reads as it did. -/
def chanceSmallSpec : ChangeSpec := { name := "chanceSmall", fn := fun _ => fun
  | [d1, d2] => { results := [.lit (.bool true)], args := [d1, d2] }
  | _ => none }
def chanceSmallRow : OpenClaim := { program := "ytdjfbbfbdgiblaagreatdoor", sum := "2f35c7cf0ad5c23c8f9292282546d963d670644bd87bb50b9b356181bd40d126", func := "memfault/memfaultlaw08.ChanceSmall", spec := "chanceSmall", inPlace := ["math/bits.Sub64", "math/bits.Add64", "internal/bytealg.IndexByteString", "internal/bytealg.IndexString"], unfollowed := true, recurses := true, named := ["math/bits.deBruijn64tab", "unicode/utf8.first", "unicode/utf8.acceptRanges", "internal/bytealg.MaxLen"], apart := false, laid := [("math/bits.deBruijn64tab", laid_math_bits_deBruijn64tab), ("unicode/utf8.acceptRanges", laid_unicode_utf8_acceptRanges), ("unicode/utf8.first", laid_unicode_utf8_first)] }
def ChanceSmallSaid : Prop := chanceSmallRow.holds Tryz.pinned (OpenSpec.ofChange chanceSmallSpec)

/-- ITS FALSE NEIGHBOUR: 'it returns false'. Refute it at one input. -/
def chanceSmallWrong : ChangeSpec := { name := "chanceSmall", fn := fun _ => fun
  | [d1, d2] => { results := [.lit (.bool false)], args := [d1, d2] }
  | _ => none }
def ChanceSmallWrongFalsely : Prop := chanceSmallRow.holds Tryz.pinned (OpenSpec.ofChange chanceSmallWrong)

/-- 'memfaultlaw08.ChanceWhole': WHATEVER THE INPUT: true; the input reads as it did. -/
def chanceWholeSpec : ChangeSpec := { name := "chanceWhole", fn := fun _ => fun
  | [] => { results := [.lit (.bool true)], args := [] }
  | _ => none }
def chanceWholeRow : OpenClaim := { program := "ytdjfbbfbdgiblaagreatdoor", sum := "2f35c7cf0ad5c23c8f9292282546d963d670644bd87bb50b9b356181bd40d126", func := "memfault/memfaultlaw08.ChanceWhole", spec := "chanceWhole", inPlace := ["math/bits.Add64", "math/bits.Sub64", "internal/bytealg.IndexByteString", "internal/bytealg.IndexString"], unfollowed := true, recurses := true, named := ["math/bits.deBruijn64tab", "unicode/utf8.first", "unicode/utf8.acceptRanges", "internal/bytealg.MaxLen"], apart := false, laid := [("math/bits.deBruijn64tab", laid_math_bits_deBruijn64tab), ("unicode/utf8.acceptRanges", laid_unicode_utf8_acceptRanges), ("unicode/utf8.first", laid_unicode_utf8_first)] }
def ChanceWholeSaid : Prop := chanceWholeRow.holds Tryz.pinned (OpenSpec.ofChange chanceWholeSpec)

/-- ITS FALSE NEIGHBOUR: 'it returns false'. Refute it at one input. -/
def chanceWholeWrong : ChangeSpec := { name := "chanceWhole", fn := fun _ => fun
  | [] => { results := [.lit (.bool false)], args := [] }
  | _ => none }
def ChanceWholeWrongFalsely : Prop := chanceWholeRow.holds Tryz.pinned (OpenSpec.ofChange chanceWholeWrong)

/- THE SECOND FORM. 'bulk': how many values and letters a reading holds, each counted each time it is reached (what is shared counts as often as it is met; a slice's spare places count too). A statement '..UptoSaid' is the law's where the arguments, and the package variables that the reading takes, are together of bulk at most 1048576: NARROWER than '..Said'. Prove '..Said' where nothing that the law and all that it calls make is longer than what came in: it says more and counts as full. Else prove '..UptoSaid'. A law counts once. -/
mutual
def uptoBulk {H : Type} : DataW H → Nat
  | .lit (.string bytes) => bytes.length + 1
  | .lit _ => 1
  | .nil => 1
  | .ptr d => uptoBulk d + 1
  | .slice elems spare => uptoBulkAll elems + uptoBulkAll spare + 1
  | .agg parts => uptoBulkAll parts + 1
  | .iface _ d => uptoBulk d + 1
  | .map entries => uptoBulkEntries entries + 1
  | .held _ => 1
def uptoBulkAll {H : Type} : List (DataW H) → Nat
  | [] => 0
  | d :: r => uptoBulk d + uptoBulkAll r
def uptoBulkEntries {H : Type} : List (Lit × DataW H) → Nat
  | [] => 0
  | x :: r => uptoBulkEntry x + uptoBulkEntries r
def uptoBulkEntry {H : Type} : Lit × DataW H → Nat
  | (.string bytes, d) => bytes.length + uptoBulk d + 1
  | (_, d) => uptoBulk d + 1
 end
def uptoSmall : (H : Type) → List (DataW H) → Bool := fun _ ds => decide (uptoBulkAll ds ≤ 1048576)
def OpenSpec.upto (s : _root_.Go.ChangeSpec) : _root_.Go.OpenSpec := { _root_.Go.OpenSpec.ofChange s with cond := some uptoSmall }

/-- 'memfaultlaw08.ChanceAdds', WHERE WHAT IT READS IS OF BULK AT MOST 1048576: true; the input reads as it did. -/
def chanceAddsUptoRow : OpenClaim := { program := "ytdjfbbfbdgiblaagreatdoor", sum := "2f35c7cf0ad5c23c8f9292282546d963d670644bd87bb50b9b356181bd40d126", func := "memfault/memfaultlaw08.ChanceAdds", spec := "chanceAdds", inPlace := ["math/bits.Sub64", "math/bits.Add64", "internal/bytealg.IndexByteString", "internal/bytealg.IndexString"], unfollowed := true, recurses := true, named := ["math/bits.deBruijn64tab", "unicode/utf8.first", "unicode/utf8.acceptRanges", "internal/bytealg.MaxLen"], apart := false, laid := [("math/bits.deBruijn64tab", laid_math_bits_deBruijn64tab), ("unicode/utf8.acceptRanges", laid_unicode_utf8_acceptRanges), ("unicode/utf8.first", laid_unicode_utf8_first)], narrowed := true }
def ChanceAddsUptoSaid : Prop := chanceAddsUptoRow.holds Tryz.pinned (OpenSpec.upto chanceAddsSpec)

/-- 'memfaultlaw08.ChanceBalls', WHERE WHAT IT READS IS OF BULK AT MOST 1048576: true; the input reads as it did. -/
def chanceBallsUptoRow : OpenClaim := { program := "ytdjfbbfbdgiblaagreatdoor", sum := "2f35c7cf0ad5c23c8f9292282546d963d670644bd87bb50b9b356181bd40d126", func := "memfault/memfaultlaw08.ChanceBalls", spec := "chanceBalls", inPlace := ["math/bits.Sub64", "math/bits.Add64", "internal/bytealg.IndexByteString", "internal/bytealg.IndexString"], unfollowed := true, recurses := true, named := ["math/bits.deBruijn64tab", "unicode/utf8.first", "unicode/utf8.acceptRanges", "internal/bytealg.MaxLen"], apart := false, laid := [("math/bits.deBruijn64tab", laid_math_bits_deBruijn64tab), ("unicode/utf8.acceptRanges", laid_unicode_utf8_acceptRanges), ("unicode/utf8.first", laid_unicode_utf8_first)], narrowed := true }
def ChanceBallsUptoSaid : Prop := chanceBallsUptoRow.holds Tryz.pinned (OpenSpec.upto chanceBallsSpec)

/-- 'memfaultlaw08.ChanceBits', WHERE WHAT IT READS IS OF BULK AT MOST 1048576: true; the input reads as it did. -/
def chanceBitsUptoRow : OpenClaim := { program := "ytdjfbbfbdgiblaagreatdoor", sum := "2f35c7cf0ad5c23c8f9292282546d963d670644bd87bb50b9b356181bd40d126", func := "memfault/memfaultlaw08.ChanceBits", spec := "chanceBits", inPlace := ["math/bits.Add64", "math/bits.Sub64", "internal/bytealg.IndexByteString", "internal/bytealg.IndexString"], unfollowed := true, recurses := true, named := ["math/bits.deBruijn64tab", "unicode/utf8.first", "unicode/utf8.acceptRanges", "internal/bytealg.MaxLen"], apart := false, laid := [("math/bits.deBruijn64tab", laid_math_bits_deBruijn64tab), ("unicode/utf8.acceptRanges", laid_unicode_utf8_acceptRanges), ("unicode/utf8.first", laid_unicode_utf8_first)], narrowed := true }
def ChanceBitsUptoSaid : Prop := chanceBitsUptoRow.holds Tryz.pinned (OpenSpec.upto chanceBitsSpec)

/-- 'memfaultlaw08.ChanceExact', WHERE WHAT IT READS IS OF BULK AT MOST 1048576: true; the input reads as it did. -/
def chanceExactUptoRow : OpenClaim := { program := "ytdjfbbfbdgiblaagreatdoor", sum := "2f35c7cf0ad5c23c8f9292282546d963d670644bd87bb50b9b356181bd40d126", func := "memfault/memfaultlaw08.ChanceExact", spec := "chanceExact", inPlace := ["math/bits.Sub64", "math/bits.Add64", "internal/bytealg.IndexByteString", "internal/bytealg.IndexString"], unfollowed := true, recurses := true, named := ["math/bits.deBruijn64tab", "unicode/utf8.first", "unicode/utf8.acceptRanges", "internal/bytealg.MaxLen"], apart := false, laid := [("math/bits.deBruijn64tab", laid_math_bits_deBruijn64tab), ("unicode/utf8.acceptRanges", laid_unicode_utf8_acceptRanges), ("unicode/utf8.first", laid_unicode_utf8_first)], narrowed := true }
def ChanceExactUptoSaid : Prop := chanceExactUptoRow.holds Tryz.pinned (OpenSpec.upto chanceExactSpec)

/-- 'memfaultlaw08.ChanceFewer', WHERE WHAT IT READS IS OF BULK AT MOST 1048576: true; the input reads as it did. -/
def chanceFewerUptoRow : OpenClaim := { program := "ytdjfbbfbdgiblaagreatdoor", sum := "2f35c7cf0ad5c23c8f9292282546d963d670644bd87bb50b9b356181bd40d126", func := "memfault/memfaultlaw08.ChanceFewer", spec := "chanceFewer", inPlace := ["math/bits.Sub64", "math/bits.Add64", "internal/bytealg.IndexByteString", "internal/bytealg.IndexString"], unfollowed := true, recurses := true, named := ["math/bits.deBruijn64tab", "unicode/utf8.first", "unicode/utf8.acceptRanges", "internal/bytealg.MaxLen"], apart := false, laid := [("math/bits.deBruijn64tab", laid_math_bits_deBruijn64tab), ("unicode/utf8.acceptRanges", laid_unicode_utf8_acceptRanges), ("unicode/utf8.first", laid_unicode_utf8_first)], narrowed := true }
def ChanceFewerUptoSaid : Prop := chanceFewerUptoRow.holds Tryz.pinned (OpenSpec.upto chanceFewerSpec)

/-- 'memfaultlaw08.ChancePairs', WHERE WHAT IT READS IS OF BULK AT MOST 1048576: true; the input reads as it did. -/
def chancePairsUptoRow : OpenClaim := { program := "ytdjfbbfbdgiblaagreatdoor", sum := "2f35c7cf0ad5c23c8f9292282546d963d670644bd87bb50b9b356181bd40d126", func := "memfault/memfaultlaw08.ChancePairs", spec := "chancePairs", inPlace := ["math/bits.Add64", "math/bits.Sub64", "internal/bytealg.IndexByteString", "internal/bytealg.IndexString"], unfollowed := true, recurses := true, named := ["math/bits.deBruijn64tab", "unicode/utf8.first", "unicode/utf8.acceptRanges", "internal/bytealg.MaxLen"], apart := false, laid := [("math/bits.deBruijn64tab", laid_math_bits_deBruijn64tab), ("unicode/utf8.acceptRanges", laid_unicode_utf8_acceptRanges), ("unicode/utf8.first", laid_unicode_utf8_first)], narrowed := true }
def ChancePairsUptoSaid : Prop := chancePairsUptoRow.holds Tryz.pinned (OpenSpec.upto chancePairsSpec)

/-- 'memfaultlaw08.ChanceSmall', WHERE WHAT IT READS IS OF BULK AT MOST 1048576: true; the input reads as it did. -/
def chanceSmallUptoRow : OpenClaim := { program := "ytdjfbbfbdgiblaagreatdoor", sum := "2f35c7cf0ad5c23c8f9292282546d963d670644bd87bb50b9b356181bd40d126", func := "memfault/memfaultlaw08.ChanceSmall", spec := "chanceSmall", inPlace := ["math/bits.Sub64", "math/bits.Add64", "internal/bytealg.IndexByteString", "internal/bytealg.IndexString"], unfollowed := true, recurses := true, named := ["math/bits.deBruijn64tab", "unicode/utf8.first", "unicode/utf8.acceptRanges", "internal/bytealg.MaxLen"], apart := false, laid := [("math/bits.deBruijn64tab", laid_math_bits_deBruijn64tab), ("unicode/utf8.acceptRanges", laid_unicode_utf8_acceptRanges), ("unicode/utf8.first", laid_unicode_utf8_first)], narrowed := true }
def ChanceSmallUptoSaid : Prop := chanceSmallUptoRow.holds Tryz.pinned (OpenSpec.upto chanceSmallSpec)

/-- 'memfaultlaw08.ChanceWhole', WHERE WHAT IT READS IS OF BULK AT MOST 1048576: true; the input reads as it did. -/
def chanceWholeUptoRow : OpenClaim := { program := "ytdjfbbfbdgiblaagreatdoor", sum := "2f35c7cf0ad5c23c8f9292282546d963d670644bd87bb50b9b356181bd40d126", func := "memfault/memfaultlaw08.ChanceWhole", spec := "chanceWhole", inPlace := ["math/bits.Add64", "math/bits.Sub64", "internal/bytealg.IndexByteString", "internal/bytealg.IndexString"], unfollowed := true, recurses := true, named := ["math/bits.deBruijn64tab", "unicode/utf8.first", "unicode/utf8.acceptRanges", "internal/bytealg.MaxLen"], apart := false, laid := [("math/bits.deBruijn64tab", laid_math_bits_deBruijn64tab), ("unicode/utf8.acceptRanges", laid_unicode_utf8_acceptRanges), ("unicode/utf8.first", laid_unicode_utf8_first)], narrowed := true }
def ChanceWholeUptoSaid : Prop := chanceWholeUptoRow.holds Tryz.pinned (OpenSpec.upto chanceWholeSpec)

end Rows
end Go.Proofs.YtdjfbbfbdgiblaaGreatDoor

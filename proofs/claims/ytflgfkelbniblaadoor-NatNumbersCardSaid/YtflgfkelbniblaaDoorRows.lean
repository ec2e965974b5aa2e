/-
  NARROWER THAN 'FOR EVERY INPUT', by the rows' own cells (each row's printed sentence says how): NatLong: laid · NatPowers: laid · NatNumbers: laid · NatPascal: laid · NatOrder: laid · NatReturns: laid · NatLaws: laid · NatRaw: laid · NatMade: laid.
  DERIVED. THE GIVEN ROWS OF THIS SEAT. 9 by the template 'for every input the law returns true; each argument reads behind the call as it read before'; 0 by the template 'total and deterministic' (their statements: YtflgfkelbniblaaDoorTotals.lean).
  GIVEN WITH THE SEED: the statements are not yours to turn. If you find one false, say at which input.
  Laid BY PROGRAM, IN A SANDBOX (cutbox-rows.mjs): the forced cells as the released guide's own fill.sh prints them over the translation 06c9b8e9f50927d6… (all of the seat's roots in one cut). By AI agents, Wed Nov 11 2026. No macro, syntax, notation, axiom, sorry.
-/
import Derived.Test.YtflgfkelbniblaaDoorChecked
import GoSem.PinnedTables
import GoSem.Claim
import GoSem.ClaimJoined
import GoSem.ClaimMapViews
import Derived.JoinedTies
import Derived.KernelRfl
namespace Go.Proofs.YtflgfkelbniblaaDoor
/- THE CELL 'sum', in the pinned program and in every row, IS THE sha256 OF THE DUMP (.gsa) THAT YtflgfkelbniblaaDoorProg.lean LOADS. Nothing in Lean hashes anything: it is a label: what it is worth is what the hold of that sum in a sandbox is worth. -/
noncomputable def Tryd.pinned : Pinned := { name := "ytflgfkelbniblaadoor", sum := "06c9b8e9f50927d61d24ec3ffa45f759bc9fd8b8fab65563c8d1ff6d84027f50", checked := Tryd.checked }
namespace Rows
def none {H : Type} : Left H := { results := [], args := [] }

/- WHAT THE LISTED PACKAGE-LEVEL VARIABLES READ AS WHEN THE CALL BEGINS. Each datum BY PROGRAM (the guide's laid-datum.mjs) off the statement by which the dump's own 'gosem.cut.vars' lays the variable. In a bare row this is a premise. The card (YtflgfkelbniblaaDoorCards.lean) ties it to the program's text. -/
def laid_unicode_utf8_acceptRanges {H : Type} : DataW H := .agg [.agg [.lit (.int .u8 128), .lit (.int .u8 191)], .agg [.lit (.int .u8 160), .lit (.int .u8 191)], .agg [.lit (.int .u8 128), .lit (.int .u8 159)], .agg [.lit (.int .u8 144), .lit (.int .u8 191)], .agg [.lit (.int .u8 128), .lit (.int .u8 143)], .agg [.lit (.int .u8 0), .lit (.int .u8 0)], .agg [.lit (.int .u8 0), .lit (.int .u8 0)], .agg [.lit (.int .u8 0), .lit (.int .u8 0)], .agg [.lit (.int .u8 0), .lit (.int .u8 0)], .agg [.lit (.int .u8 0), .lit (.int .u8 0)], .agg [.lit (.int .u8 0), .lit (.int .u8 0)], .agg [.lit (.int .u8 0), .lit (.int .u8 0)], .agg [.lit (.int .u8 0), .lit (.int .u8 0)], .agg [.lit (.int .u8 0), .lit (.int .u8 0)], .agg [.lit (.int .u8 0), .lit (.int .u8 0)], .agg [.lit (.int .u8 0), .lit (.int .u8 0)]]
/-- One of Go's own tables, pinned by name: the form's constant. -/
def laid_unicode_utf8_first : DataW Unit := Go.Pinned.utf8First
def laid_math_bits_deBruijn64tab {H : Type} : DataW H := .agg [.lit (.int .u8 0), .lit (.int .u8 1), .lit (.int .u8 56), .lit (.int .u8 2), .lit (.int .u8 57), .lit (.int .u8 49), .lit (.int .u8 28), .lit (.int .u8 3), .lit (.int .u8 61), .lit (.int .u8 58), .lit (.int .u8 42), .lit (.int .u8 50), .lit (.int .u8 38), .lit (.int .u8 29), .lit (.int .u8 17), .lit (.int .u8 4), .lit (.int .u8 62), .lit (.int .u8 47), .lit (.int .u8 59), .lit (.int .u8 36), .lit (.int .u8 45), .lit (.int .u8 43), .lit (.int .u8 51), .lit (.int .u8 22), .lit (.int .u8 53), .lit (.int .u8 39), .lit (.int .u8 33), .lit (.int .u8 30), .lit (.int .u8 24), .lit (.int .u8 18), .lit (.int .u8 12), .lit (.int .u8 5), .lit (.int .u8 63), .lit (.int .u8 55), .lit (.int .u8 48), .lit (.int .u8 27), .lit (.int .u8 60), .lit (.int .u8 41), .lit (.int .u8 37), .lit (.int .u8 16), .lit (.int .u8 46), .lit (.int .u8 35), .lit (.int .u8 44), .lit (.int .u8 21), .lit (.int .u8 52), .lit (.int .u8 32), .lit (.int .u8 23), .lit (.int .u8 11), .lit (.int .u8 54), .lit (.int .u8 26), .lit (.int .u8 40), .lit (.int .u8 15), .lit (.int .u8 34), .lit (.int .u8 20), .lit (.int .u8 31), .lit (.int .u8 10), .lit (.int .u8 25), .lit (.int .u8 14), .lit (.int .u8 19), .lit (.int .u8 9), .lit (.int .u8 13), .lit (.int .u8 8), .lit (.int .u8 7), .lit (.int .u8 6)]

/-- 'memfaultlaw01.NatLong': WHATEVER THE INPUT: true; the input reads as it did. -/
def natLongSpec : ChangeSpec := { name := "natLong", fn := fun _ => fun
  | [d1, d2] => { results := [.lit (.bool true)], args := [d1, d2] }
  | _ => none }
def natLongRow : OpenClaim := { program := "ytflgfkelbniblaadoor", sum := "06c9b8e9f50927d61d24ec3ffa45f759bc9fd8b8fab65563c8d1ff6d84027f50", func := "memfault/memfaultlaw01.NatLong", spec := "natLong", inPlace := ["internal/bytealg.IndexByteString", "internal/bytealg.IndexString"], unfollowed := true, recurses := true, named := ["unicode/utf8.first", "unicode/utf8.acceptRanges", "internal/bytealg.MaxLen"], apart := false, laid := [("unicode/utf8.acceptRanges", laid_unicode_utf8_acceptRanges), ("unicode/utf8.first", laid_unicode_utf8_first)] }
def NatLongSaid : Prop := natLongRow.holds Tryd.pinned (OpenSpec.ofChange natLongSpec)

/-- ITS FALSE NEIGHBOUR: 'it returns false'. Refute it at one input. -/
def natLongWrong : ChangeSpec := { name := "natLong", fn := fun _ => fun
  | [d1, d2] => { results := [.lit (.bool false)], args := [d1, d2] }
  | _ => none }
def NatLongWrongFalsely : Prop := natLongRow.holds Tryd.pinned (OpenSpec.ofChange natLongWrong)

/-- 'memfaultlaw01.NatPowers': WHATEVER THE INPUT: true; the input reads as it did. -/
def natPowersSpec : ChangeSpec := { name := "natPowers", fn := fun _ => fun
  | [d1, d2, d3] => { results := [.lit (.bool true)], args := [d1, d2, d3] }
  | _ => none }
def natPowersRow : OpenClaim := { program := "ytflgfkelbniblaadoor", sum := "06c9b8e9f50927d61d24ec3ffa45f759bc9fd8b8fab65563c8d1ff6d84027f50", func := "memfault/memfaultlaw01.NatPowers", spec := "natPowers", inPlace := ["internal/bytealg.IndexByteString", "internal/bytealg.IndexString"], unfollowed := true, recurses := true, named := ["unicode/utf8.first", "unicode/utf8.acceptRanges", "internal/bytealg.MaxLen"], apart := false, laid := [("unicode/utf8.acceptRanges", laid_unicode_utf8_acceptRanges), ("unicode/utf8.first", laid_unicode_utf8_first)] }
def NatPowersSaid : Prop := natPowersRow.holds Tryd.pinned (OpenSpec.ofChange natPowersSpec)

/-- ITS FALSE NEIGHBOUR: 'it returns false'. Refute it at one input. -/
def natPowersWrong : ChangeSpec := { name := "natPowers", fn := fun _ => fun
  | [d1, d2, d3] => { results := [.lit (.bool false)], args := [d1, d2, d3] }
  | _ => none }
def NatPowersWrongFalsely : Prop := natPowersRow.holds Tryd.pinned (OpenSpec.ofChange natPowersWrong)

/-- 'memfaultlaw01.NatNumbers': WHATEVER THE INPUT: true; the input reads as it did. -/
def natNumbersSpec : ChangeSpec := { name := "natNumbers", fn := fun _ => fun
  | [d1, d2, d3] => { results := [.lit (.bool true)], args := [d1, d2, d3] }
  | _ => none }
def natNumbersRow : OpenClaim := { program := "ytflgfkelbniblaadoor", sum := "06c9b8e9f50927d61d24ec3ffa45f759bc9fd8b8fab65563c8d1ff6d84027f50", func := "memfault/memfaultlaw01.NatNumbers", spec := "natNumbers", inPlace := ["internal/bytealg.IndexByteString", "internal/bytealg.IndexString"], unfollowed := true, recurses := true, named := ["unicode/utf8.first", "unicode/utf8.acceptRanges", "internal/bytealg.MaxLen"], apart := false, laid := [("unicode/utf8.acceptRanges", laid_unicode_utf8_acceptRanges), ("unicode/utf8.first", laid_unicode_utf8_first)] }
def NatNumbersSaid : Prop := natNumbersRow.holds Tryd.pinned (OpenSpec.ofChange natNumbersSpec)

/-- ITS FALSE NEIGHBOUR: 'it returns false'. Refute it at one input. -/
def natNumbersWrong : ChangeSpec := { name := "natNumbers", fn := fun _ => fun
  | [d1, d2, d3] => { results := [.lit (.bool false)], args := [d1, d2, d3] }
  | _ => none }
def NatNumbersWrongFalsely : Prop := natNumbersRow.holds Tryd.pinned (OpenSpec.ofChange natNumbersWrong)

/-- 'memfaultlaw01.NatPascal': WHATEVER THE INPUT: true; the input reads as it did. -/
def natPascalSpec : ChangeSpec := { name := "natPascal", fn := fun _ => fun
  | [d1, d2] => { results := [.lit (.bool true)], args := [d1, d2] }
  | _ => none }
def natPascalRow : OpenClaim := { program := "ytflgfkelbniblaadoor", sum := "06c9b8e9f50927d61d24ec3ffa45f759bc9fd8b8fab65563c8d1ff6d84027f50", func := "memfault/memfaultlaw01.NatPascal", spec := "natPascal", inPlace := ["internal/bytealg.IndexByteString", "internal/bytealg.IndexString"], unfollowed := true, recurses := true, named := ["unicode/utf8.first", "unicode/utf8.acceptRanges", "internal/bytealg.MaxLen"], apart := false, laid := [("unicode/utf8.acceptRanges", laid_unicode_utf8_acceptRanges), ("unicode/utf8.first", laid_unicode_utf8_first)] }
def NatPascalSaid : Prop := natPascalRow.holds Tryd.pinned (OpenSpec.ofChange natPascalSpec)

/-- ITS FALSE NEIGHBOUR: 'it returns false'. Refute it at one input. -/
def natPascalWrong : ChangeSpec := { name := "natPascal", fn := fun _ => fun
  | [d1, d2] => { results := [.lit (.bool false)], args := [d1, d2] }
  | _ => none }
def NatPascalWrongFalsely : Prop := natPascalRow.holds Tryd.pinned (OpenSpec.ofChange natPascalWrong)

/-- 'memfaultlaw01.NatOrder': WHATEVER THE INPUT: true; the input reads as it did. -/
def natOrderSpec : ChangeSpec := { name := "natOrder", fn := fun _ => fun
  | [d1, d2] => { results := [.lit (.bool true)], args := [d1, d2] }
  | _ => none }
def natOrderRow : OpenClaim := { program := "ytflgfkelbniblaadoor", sum := "06c9b8e9f50927d61d24ec3ffa45f759bc9fd8b8fab65563c8d1ff6d84027f50", func := "memfault/memfaultlaw01.NatOrder", spec := "natOrder", inPlace := ["internal/bytealg.IndexByteString", "internal/bytealg.IndexString"], unfollowed := true, recurses := true, named := ["unicode/utf8.first", "unicode/utf8.acceptRanges", "internal/bytealg.MaxLen"], apart := false, laid := [("unicode/utf8.acceptRanges", laid_unicode_utf8_acceptRanges), ("unicode/utf8.first", laid_unicode_utf8_first)] }
def NatOrderSaid : Prop := natOrderRow.holds Tryd.pinned (OpenSpec.ofChange natOrderSpec)

/-- ITS FALSE NEIGHBOUR: 'it returns false'. Refute it at one input. -/
def natOrderWrong : ChangeSpec := { name := "natOrder", fn := fun _ => fun
  | [d1, d2] => { results := [.lit (.bool false)], args := [d1, d2] }
  | _ => none }
def NatOrderWrongFalsely : Prop := natOrderRow.holds Tryd.pinned (OpenSpec.ofChange natOrderWrong)

/-- 'memfaultlaw01.NatReturns': WHATEVER THE INPUT: true; the input reads as it did. -/
def natReturnsSpec : ChangeSpec := { name := "natReturns", fn := fun _ => fun
  | [d] => { results := [.lit (.bool true)], args := [d] }
  | _ => none }
def natReturnsRow : OpenClaim := { program := "ytflgfkelbniblaadoor", sum := "06c9b8e9f50927d61d24ec3ffa45f759bc9fd8b8fab65563c8d1ff6d84027f50", func := "memfault/memfaultlaw01.NatReturns", spec := "natReturns", inPlace := ["internal/bytealg.IndexByteString", "internal/bytealg.IndexString"], unfollowed := true, recurses := true, named := ["unicode/utf8.first", "unicode/utf8.acceptRanges", "internal/bytealg.MaxLen"], apart := false, laid := [("unicode/utf8.acceptRanges", laid_unicode_utf8_acceptRanges), ("unicode/utf8.first", laid_unicode_utf8_first)] }
def NatReturnsSaid : Prop := natReturnsRow.holds Tryd.pinned (OpenSpec.ofChange natReturnsSpec)

/-- ITS FALSE NEIGHBOUR: 'it returns false'. Refute it at one input. -/
def natReturnsWrong : ChangeSpec := { name := "natReturns", fn := fun _ => fun
  | [d] => { results := [.lit (.bool false)], args := [d] }
  | _ => none }
def NatReturnsWrongFalsely : Prop := natReturnsRow.holds Tryd.pinned (OpenSpec.ofChange natReturnsWrong)

/-- 'memfaultlaw01.NatLaws': WHATEVER THE INPUT: true; the input reads as it did. -/
def natLawsSpec : ChangeSpec := { name := "natLaws", fn := fun _ => fun
  | [d] => { results := [.lit (.bool true)], args := [d] }
  | _ => none }
def natLawsRow : OpenClaim := { program := "ytflgfkelbniblaadoor", sum := "06c9b8e9f50927d61d24ec3ffa45f759bc9fd8b8fab65563c8d1ff6d84027f50", func := "memfault/memfaultlaw01.NatLaws", spec := "natLaws", inPlace := ["internal/bytealg.IndexByteString", "internal/bytealg.IndexString", "math/bits.Sub64"], unfollowed := true, recurses := true, named := ["unicode/utf8.first", "unicode/utf8.acceptRanges", "math/bits.deBruijn64tab", "internal/bytealg.MaxLen"], apart := false, laid := [("math/bits.deBruijn64tab", laid_math_bits_deBruijn64tab), ("unicode/utf8.acceptRanges", laid_unicode_utf8_acceptRanges), ("unicode/utf8.first", laid_unicode_utf8_first)] }
def NatLawsSaid : Prop := natLawsRow.holds Tryd.pinned (OpenSpec.ofChange natLawsSpec)

/-- ITS FALSE NEIGHBOUR: 'it returns false'. Refute it at one input. -/
def natLawsWrong : ChangeSpec := { name := "natLaws", fn := fun _ => fun
  | [d] => { results := [.lit (.bool false)], args := [d] }
  | _ => none }
def NatLawsWrongFalsely : Prop := natLawsRow.holds Tryd.pinned (OpenSpec.ofChange natLawsWrong)

/-- 'memfaultlaw01.NatRaw': WHATEVER THE INPUT: true; the input reads as it did. -/
def natRawSpec : ChangeSpec := { name := "natRaw", fn := fun _ => fun
  | [d1, d2] => { results := [.lit (.bool true)], args := [d1, d2] }
  | _ => none }
def natRawRow : OpenClaim := { program := "ytflgfkelbniblaadoor", sum := "06c9b8e9f50927d61d24ec3ffa45f759bc9fd8b8fab65563c8d1ff6d84027f50", func := "memfault/memfaultlaw01.NatRaw", spec := "natRaw", inPlace := ["internal/bytealg.IndexByteString", "internal/bytealg.IndexString", "math/bits.Sub64"], unfollowed := true, recurses := true, named := ["unicode/utf8.first", "unicode/utf8.acceptRanges", "math/bits.deBruijn64tab", "internal/bytealg.MaxLen"], apart := false, laid := [("math/bits.deBruijn64tab", laid_math_bits_deBruijn64tab), ("unicode/utf8.acceptRanges", laid_unicode_utf8_acceptRanges), ("unicode/utf8.first", laid_unicode_utf8_first)] }
def NatRawSaid : Prop := natRawRow.holds Tryd.pinned (OpenSpec.ofChange natRawSpec)

/-- ITS FALSE NEIGHBOUR: 'it returns false'. Refute it at one input. -/
def natRawWrong : ChangeSpec := { name := "natRaw", fn := fun _ => fun
  | [d1, d2] => { results := [.lit (.bool false)], args := [d1, d2] }
  | _ => none }
def NatRawWrongFalsely : Prop := natRawRow.holds Tryd.pinned (OpenSpec.ofChange natRawWrong)

/-- 'memfaultlaw01.NatMade': WHATEVER THE INPUT: true; the input reads as it did. -/
def natMadeSpec : ChangeSpec := { name := "natMade", fn := fun _ => fun
  | [d] => { results := [.lit (.bool true)], args := [d] }
  | _ => none }
def natMadeRow : OpenClaim := { program := "ytflgfkelbniblaadoor", sum := "06c9b8e9f50927d61d24ec3ffa45f759bc9fd8b8fab65563c8d1ff6d84027f50", func := "memfault/memfaultlaw01.NatMade", spec := "natMade", inPlace := ["internal/bytealg.IndexByteString", "internal/bytealg.IndexString", "math/bits.Sub64"], unfollowed := true, recurses := true, named := ["unicode/utf8.first", "unicode/utf8.acceptRanges", "math/bits.deBruijn64tab", "internal/bytealg.MaxLen"], apart := false, laid := [("math/bits.deBruijn64tab", laid_math_bits_deBruijn64tab), ("unicode/utf8.acceptRanges", laid_unicode_utf8_acceptRanges), ("unicode/utf8.first", laid_unicode_utf8_first)] }
def NatMadeSaid : Prop := natMadeRow.holds Tryd.pinned (OpenSpec.ofChange natMadeSpec)

/-- ITS FALSE NEIGHBOUR: 'it returns false'. Refute it at one input. -/
def natMadeWrong : ChangeSpec := { name := "natMade", fn := fun _ => fun
  | [d] => { results := [.lit (.bool false)], args := [d] }
  | _ => none }
def NatMadeWrongFalsely : Prop := natMadeRow.holds Tryd.pinned (OpenSpec.ofChange natMadeWrong)

/- THE SECOND FORM. 'bulk': how many values and letters a reading holds, each counted each time it is reached (what is shared counts as often as it is met; a slice's spare places count too). A statement '..UptoSaid' is the law's where the arguments, and the package variables that the reading takes, are together of bulk at most 1048576: NARROWER than '..Said'. Prove '..Said' where nothing that the law and all that it calls make is longer than what came in: it says more and counts as full. Else prove '..UptoSaid'. A law counts once. -/
mutual
def uptoBulk {H : Type} : DataW H → Nat
  | .lit (.string bytes) => bytes.length + 1
  | .lit _ => 1
  | .nil => 1
  | .ptr d => uptoBulk d + 1
  | .slice elems spare => uptoBulkAll elems + uptoBulkAll spare + 1
  | .agg parts => uptoBulkAll parts + 1
  | .iface _ d => uptoBulk d + 1
  | .map entries => uptoBulkEntries entries + 1
  | .held _ => 1
def uptoBulkAll {H : Type} : List (DataW H) → Nat
  | [] => 0
  | d :: r => uptoBulk d + uptoBulkAll r
def uptoBulkEntries {H : Type} : List (Lit × DataW H) → Nat
  | [] => 0
  | x :: r => uptoBulkEntry x + uptoBulkEntries r
def uptoBulkEntry {H : Type} : Lit × DataW H → Nat
  | (.string bytes, d) => bytes.length + uptoBulk d + 1
  | (_, d) => uptoBulk d + 1
 end
def uptoSmall : (H : Type) → List (DataW H) → Bool := fun _ ds => decide (uptoBulkAll ds ≤ 1048576)
def OpenSpec.upto (s : _root_.Go.ChangeSpec) : _root_.Go.OpenSpec := { _root_.Go.OpenSpec.ofChange s with cond := some uptoSmall }

/-- 'memfaultlaw01.NatLong', WHERE WHAT IT READS IS OF BULK AT MOST 1048576: true; the input reads as it did. -/
def natLongUptoRow : OpenClaim := { program := "ytflgfkelbniblaadoor", sum := "06c9b8e9f50927d61d24ec3ffa45f759bc9fd8b8fab65563c8d1ff6d84027f50", func := "memfault/memfaultlaw01.NatLong", spec := "natLong", inPlace := ["internal/bytealg.IndexByteString", "internal/bytealg.IndexString"], unfollowed := true, recurses := true, named := ["unicode/utf8.first", "unicode/utf8.acceptRanges", "internal/bytealg.MaxLen"], apart := false, laid := [("unicode/utf8.acceptRanges", laid_unicode_utf8_acceptRanges), ("unicode/utf8.first", laid_unicode_utf8_first)], narrowed := true }
def NatLongUptoSaid : Prop := natLongUptoRow.holds Tryd.pinned (OpenSpec.upto natLongSpec)

/-- 'memfaultlaw01.NatPowers', WHERE WHAT IT READS IS OF BULK AT MOST 1048576: true; the input reads as it did. -/
def natPowersUptoRow : OpenClaim := { program := "ytflgfkelbniblaadoor", sum := "06c9b8e9f50927d61d24ec3ffa45f759bc9fd8b8fab65563c8d1ff6d84027f50", func := "memfault/memfaultlaw01.NatPowers", spec := "natPowers", inPlace := ["internal/bytealg.IndexByteString", "internal/bytealg.IndexString"], unfollowed := true, recurses := true, named := ["unicode/utf8.first", "unicode/utf8.acceptRanges", "internal/bytealg.MaxLen"], apart := false, laid := [("unicode/utf8.acceptRanges", laid_unicode_utf8_acceptRanges), ("unicode/utf8.first", laid_unicode_utf8_first)], narrowed := true }
def NatPowersUptoSaid : Prop := natPowersUptoRow.holds Tryd.pinned (OpenSpec.upto natPowersSpec)

/-- 'memfaultlaw01.NatNumbers', WHERE WHAT IT READS IS OF BULK AT MOST 1048576: true; the input reads as it did. -/
def natNumbersUptoRow : OpenClaim := { program := "ytflgfkelbniblaadoor", sum := "06c9b8e9f50927d61d24ec3ffa45f759bc9fd8b8fab65563c8d1ff6d84027f50", func := "memfault/memfaultlaw01.NatNumbers", spec := "natNumbers", inPlace := ["internal/bytealg.IndexByteString", "internal/bytealg.IndexString"], unfollowed := true, recurses := true, named := ["unicode/utf8.first", "unicode/utf8.acceptRanges", "internal/bytealg.MaxLen"], apart := false, laid := [("unicode/utf8.acceptRanges", laid_unicode_utf8_acceptRanges), ("unicode/utf8.first", laid_unicode_utf8_first)], narrowed := true }
def NatNumbersUptoSaid : Prop := natNumbersUptoRow.holds Tryd.pinned (OpenSpec.upto natNumbersSpec)

/-- 'memfaultlaw01.NatPascal', WHERE WHAT IT READS IS OF BULK AT MOST 1048576: true; the input reads as it did. -/
def natPascalUptoRow : OpenClaim := { program := "ytflgfkelbniblaadoor", sum := "06c9b8e9f50927d61d24ec3ffa45f759bc9fd8b8fab65563c8d1ff6d84027f50", func := "memfault/memfaultlaw01.NatPascal", spec := "natPascal", inPlace := ["internal/bytealg.IndexByteString", "internal/bytealg.IndexString"], unfollowed := true, recurses := true, named := ["unicode/utf8.first", "unicode/utf8.acceptRanges", "internal/bytealg.MaxLen"], apart := false, laid := [("unicode/utf8.acceptRanges", laid_unicode_utf8_acceptRanges), ("unicode/utf8.first", laid_unicode_utf8_first)], narrowed := true }
def NatPascalUptoSaid : Prop := natPascalUptoRow.holds Tryd.pinned (OpenSpec.upto natPascalSpec)

/-- 'memfaultlaw01.NatOrder', WHERE WHAT IT READS IS OF BULK AT MOST 1048576: true; the input reads as it did. -/
def natOrderUptoRow : OpenClaim := { program := "ytflgfkelbniblaadoor", sum := "06c9b8e9f50927d61d24ec3ffa45f759bc9fd8b8fab65563c8d1ff6d84027f50", func := "memfault/memfaultlaw01.NatOrder", spec := "natOrder", inPlace := ["internal/bytealg.IndexByteString", "internal/bytealg.IndexString"], unfollowed := true, recurses := true, named := ["unicode/utf8.first", "unicode/utf8.acceptRanges", "internal/bytealg.MaxLen"], apart := false, laid := [("unicode/utf8.acceptRanges", laid_unicode_utf8_acceptRanges), ("unicode/utf8.first", laid_unicode_utf8_first)], narrowed := true }
def NatOrderUptoSaid : Prop := natOrderUptoRow.holds Tryd.pinned (OpenSpec.upto natOrderSpec)

/-- 'memfaultlaw01.NatReturns', WHERE WHAT IT READS IS OF BULK AT MOST 1048576: true; the input reads as it did. -/
def natReturnsUptoRow : OpenClaim := { program := "ytflgfkelbniblaadoor", sum := "06c9b8e9f50927d61d24ec3ffa45f759bc9fd8b8fab65563c8d1ff6d84027f50", func := "memfault/memfaultlaw01.NatReturns", spec := "natReturns", inPlace := ["internal/bytealg.IndexByteString", "internal/bytealg.IndexString"], unfollowed := true, recurses := true, named := ["unicode/utf8.first", "unicode/utf8.acceptRanges", "internal/bytealg.MaxLen"], apart := false, laid := [("unicode/utf8.acceptRanges", laid_unicode_utf8_acceptRanges), ("unicode/utf8.first", laid_unicode_utf8_first)], narrowed := true }
def NatReturnsUptoSaid : Prop := natReturnsUptoRow.holds Tryd.pinned (OpenSpec.upto natReturnsSpec)

/-- 'memfaultlaw01.NatLaws', WHERE WHAT IT READS IS OF BULK AT MOST 1048576: true; the input reads as it did. -/
def natLawsUptoRow : OpenClaim := { program := "ytflgfkelbniblaadoor", sum := "06c9b8e9f50927d61d24ec3ffa45f759bc9fd8b8fab65563c8d1ff6d84027f50", func := "memfault/memfaultlaw01.NatLaws", spec := "natLaws", inPlace := ["internal/bytealg.IndexByteString", "internal/bytealg.IndexString", "math/bits.Sub64"], unfollowed := true, recurses := true, named := ["unicode/utf8.first", "unicode/utf8.acceptRanges", "math/bits.deBruijn64tab", "internal/bytealg.MaxLen"], apart := false, laid := [("math/bits.deBruijn64tab", laid_math_bits_deBruijn64tab), ("unicode/utf8.acceptRanges", laid_unicode_utf8_acceptRanges), ("unicode/utf8.first", laid_unicode_utf8_first)], narrowed := true }
def NatLawsUptoSaid : Prop := natLawsUptoRow.holds Tryd.pinned (OpenSpec.upto natLawsSpec)

/-- 'memfaultlaw01.NatRaw', WHERE WHAT IT READS IS OF BULK AT MOST 1048576: true; the input reads as it did. -/
def natRawUptoRow : OpenClaim := { program := "ytflgfkelbniblaadoor", sum := "06c9b8e9f50927d61d24ec3ffa45f759bc9fd8b8fab65563c8d1ff6d84027f50", func := "memfault/memfaultlaw01.NatRaw", spec := "natRaw", inPlace := ["internal/bytealg.IndexByteString", "internal/bytealg.IndexString", "math/bits.Sub64"], unfollowed := true, recurses := true, named := ["unicode/utf8.first", "unicode/utf8.acceptRanges", "math/bits.deBruijn64tab", "internal/bytealg.MaxLen"], apart := false, laid := [("math/bits.deBruijn64tab", laid_math_bits_deBruijn64tab), ("unicode/utf8.acceptRanges", laid_unicode_utf8_acceptRanges), ("unicode/utf8.first", laid_unicode_utf8_first)], narrowed := true }
def NatRawUptoSaid : Prop := natRawUptoRow.holds Tryd.pinned (OpenSpec.upto natRawSpec)

/-- 'memfaultlaw01.NatMade', WHERE WHAT IT READS IS OF BULK AT MOST 1048576: true; the input reads as it did. -/
def natMadeUptoRow : OpenClaim := { program := "ytflgfkelbniblaadoor", sum := "06c9b8e9f50927d61d24ec3ffa45f759bc9fd8b8fab65563c8d1ff6d84027f50", func := "memfault/memfaultlaw01.NatMade", spec := "natMade", inPlace := ["internal/bytealg.IndexByteString", "internal/bytealg.IndexString", "math/bits.Sub64"], unfollowed := true, recurses := true, named := ["unicode/utf8.first", "unicode/utf8.acceptRanges", "math/bits.deBruijn64tab", "internal/bytealg.MaxLen"], apart := false, laid := [("math/bits.deBruijn64tab", laid_math_bits_deBruijn64tab), ("unicode/utf8.acceptRanges", laid_unicode_utf8_acceptRanges), ("unicode/utf8.first", laid_unicode_utf8_first)], narrowed := true }
def NatMadeUptoSaid : Prop := natMadeUptoRow.holds Tryd.pinned (OpenSpec.upto natMadeSpec)

end Rows
end Go.Proofs.YtflgfkelbniblaaDoor

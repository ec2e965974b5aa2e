/-
  NARROWER THAN 'FOR EVERY INPUT', by the rows' own cells (each row's printed sentence says how): TailsCells: laid · TailsFew: laid · TailsOrder: laid · SymbolFixes: laid · SymbolNotices: laid · SymbolShort: laid · SymbolLinear: laid · SymbolWords: laid.
  DERIVED. THE GIVEN ROWS OF THIS SEAT. 8 by the template 'for every input the law returns true; each argument reads behind the call as it read before'; 0 by the template 'total and deterministic' (their statements: YtjhaogbopmhkoaaDoorTotals.lean).
  GIVEN WITH THE SEED: the statements are not yours to turn. If you find one false, say at which input.
  Laid BY PROGRAM, IN A SANDBOX (cutbox-rows.mjs): the forced cells as the released guide's own fill.sh prints them over the translation 7f1af61ab1472994… (all of the seat's roots in one cut). By AI agents, Wed Nov 11 2026. No macro, syntax, notation, axiom, sorry.
-/
import Derived.Test.YtjhaogbopmhkoaaDoorChecked
import GoSem.PinnedTables
import GoSem.Claim
import GoSem.ClaimJoined
import GoSem.ClaimMapViews
import Derived.JoinedTies
import Derived.KernelRfl
namespace Go.Proofs.YtjhaogbopmhkoaaDoor
/- THE CELL 'sum', in the pinned program and in every row, IS THE sha256 OF THE DUMP (.gsa) THAT YtjhaogbopmhkoaaDoorProg.lean LOADS. Nothing in Lean hashes anything: it is a label: what it is worth is what the hold of that sum in a sandbox is worth. -/
noncomputable def Tryd.pinned : Pinned := { name := "ytjhaogbopmhkoaadoor", sum := "7f1af61ab1472994607191dd879ee9a4f73e8b3b336ed5a33fd469631ab6c273", checked := Tryd.checked }
namespace Rows
def none {H : Type} : Left H := { results := [], args := [] }

/- WHAT THE LISTED PACKAGE-LEVEL VARIABLES READ AS WHEN THE CALL BEGINS. Each datum BY PROGRAM (the guide's laid-datum.mjs) off the statement by which the dump's own 'gosem.cut.vars' lays the variable. In a bare row this is a premise. The card (YtjhaogbopmhkoaaDoorCards.lean) ties it to the program's text. -/
def laid_math_bits_deBruijn64tab {H : Type} : DataW H := .agg [.lit (.int .u8 0), .lit (.int .u8 1), .lit (.int .u8 56), .lit (.int .u8 2), .lit (.int .u8 57), .lit (.int .u8 49), .lit (.int .u8 28), .lit (.int .u8 3), .lit (.int .u8 61), .lit (.int .u8 58), .lit (.int .u8 42), .lit (.int .u8 50), .lit (.int .u8 38), .lit (.int .u8 29), .lit (.int .u8 17), .lit (.int .u8 4), .lit (.int .u8 62), .lit (.int .u8 47), .lit (.int .u8 59), .lit (.int .u8 36), .lit (.int .u8 45), .lit (.int .u8 43), .lit (.int .u8 51), .lit (.int .u8 22), .lit (.int .u8 53), .lit (.int .u8 39), .lit (.int .u8 33), .lit (.int .u8 30), .lit (.int .u8 24), .lit (.int .u8 18), .lit (.int .u8 12), .lit (.int .u8 5), .lit (.int .u8 63), .lit (.int .u8 55), .lit (.int .u8 48), .lit (.int .u8 27), .lit (.int .u8 60), .lit (.int .u8 41), .lit (.int .u8 37), .lit (.int .u8 16), .lit (.int .u8 46), .lit (.int .u8 35), .lit (.int .u8 44), .lit (.int .u8 21), .lit (.int .u8 52), .lit (.int .u8 32), .lit (.int .u8 23), .lit (.int .u8 11), .lit (.int .u8 54), .lit (.int .u8 26), .lit (.int .u8 40), .lit (.int .u8 15), .lit (.int .u8 34), .lit (.int .u8 20), .lit (.int .u8 31), .lit (.int .u8 10), .lit (.int .u8 25), .lit (.int .u8 14), .lit (.int .u8 19), .lit (.int .u8 9), .lit (.int .u8 13), .lit (.int .u8 8), .lit (.int .u8 7), .lit (.int .u8 6)]
def laid_unicode_utf8_acceptRanges {H : Type} : DataW H := .agg [.agg [.lit (.int .u8 128), .lit (.int .u8 191)], .agg [.lit (.int .u8 160), .lit (.int .u8 191)], .agg [.lit (.int .u8 128), .lit (.int .u8 159)], .agg [.lit (.int .u8 144), .lit (.int .u8 191)], .agg [.lit (.int .u8 128), .lit (.int .u8 143)], .agg [.lit (.int .u8 0), .lit (.int .u8 0)], .agg [.lit (.int .u8 0), .lit (.int .u8 0)], .agg [.lit (.int .u8 0), .lit (.int .u8 0)], .agg [.lit (.int .u8 0), .lit (.int .u8 0)], .agg [.lit (.int .u8 0), .lit (.int .u8 0)], .agg [.lit (.int .u8 0), .lit (.int .u8 0)], .agg [.lit (.int .u8 0), .lit (.int .u8 0)], .agg [.lit (.int .u8 0), .lit (.int .u8 0)], .agg [.lit (.int .u8 0), .lit (.int .u8 0)], .agg [.lit (.int .u8 0), .lit (.int .u8 0)], .agg [.lit (.int .u8 0), .lit (.int .u8 0)]]
/-- One of Go's own tables, pinned by name: the form's constant. -/
def laid_unicode_utf8_first : DataW Unit := Go.Pinned.utf8First

/-- 'memfaultlaw23.TailsCells': WHATEVER THE INPUT: true; the input reads as it did. -/
def tailsCellsSpec : ChangeSpec := { name := "tailsCells", fn := fun _ => fun
  | [d1, d2, d3] => { results := [.lit (.bool true)], args := [d1, d2, d3] }
  | _ => none }
def tailsCellsRow : OpenClaim := { program := "ytjhaogbopmhkoaadoor", sum := "7f1af61ab1472994607191dd879ee9a4f73e8b3b336ed5a33fd469631ab6c273", func := "memfault/memfaultlaw23.TailsCells", spec := "tailsCells", inPlace := ["math/bits.Sub64"], unfollowed := true, recurses := true, named := ["math/bits.deBruijn64tab"], apart := false, laid := [("math/bits.deBruijn64tab", laid_math_bits_deBruijn64tab)] }
def TailsCellsSaid : Prop := tailsCellsRow.holds Tryd.pinned (OpenSpec.ofChange tailsCellsSpec)

/-- ITS FALSE NEIGHBOUR: 'it returns false'. Refute it at one input. -/
def tailsCellsWrong : ChangeSpec := { name := "tailsCells", fn := fun _ => fun
  | [d1, d2, d3] => { results := [.lit (.bool false)], args := [d1, d2, d3] }
  | _ => none }
def TailsCellsWrongFalsely : Prop := tailsCellsRow.holds Tryd.pinned (OpenSpec.ofChange tailsCellsWrong)

/-- 'memfaultlaw23.TailsFew': WHATEVER THE INPUT: true; the input reads as it did. -/
def tailsFewSpec : ChangeSpec := { name := "tailsFew", fn := fun _ => fun
  | [d1, d2, d3] => { results := [.lit (.bool true)], args := [d1, d2, d3] }
  | _ => none }
def tailsFewRow : OpenClaim := { program := "ytjhaogbopmhkoaadoor", sum := "7f1af61ab1472994607191dd879ee9a4f73e8b3b336ed5a33fd469631ab6c273", func := "memfault/memfaultlaw23.TailsFew", spec := "tailsFew", inPlace := ["math/bits.Sub64"], unfollowed := true, recurses := true, named := ["math/bits.deBruijn64tab"], apart := false, laid := [("math/bits.deBruijn64tab", laid_math_bits_deBruijn64tab)] }
def TailsFewSaid : Prop := tailsFewRow.holds Tryd.pinned (OpenSpec.ofChange tailsFewSpec)

/-- ITS FALSE NEIGHBOUR: 'it returns false'. Refute it at one input. -/
def tailsFewWrong : ChangeSpec := { name := "tailsFew", fn := fun _ => fun
  | [d1, d2, d3] => { results := [.lit (.bool false)], args := [d1, d2, d3] }
  | _ => none }
def TailsFewWrongFalsely : Prop := tailsFewRow.holds Tryd.pinned (OpenSpec.ofChange tailsFewWrong)

/-- 'memfaultlaw23.TailsOrder': WHATEVER THE INPUT: true; the input reads as it did. -/
def tailsOrderSpec : ChangeSpec := { name := "tailsOrder", fn := fun _ => fun
  | [d1, d2, d3, d4, d5] => { results := [.lit (.bool true)], args := [d1, d2, d3, d4, d5] }
  | _ => none }
def tailsOrderRow : OpenClaim := { program := "ytjhaogbopmhkoaadoor", sum := "7f1af61ab1472994607191dd879ee9a4f73e8b3b336ed5a33fd469631ab6c273", func := "memfault/memfaultlaw23.TailsOrder", spec := "tailsOrder", inPlace := ["math/bits.Sub64"], unfollowed := true, recurses := true, named := ["math/bits.deBruijn64tab"], apart := false, laid := [("math/bits.deBruijn64tab", laid_math_bits_deBruijn64tab)] }
def TailsOrderSaid : Prop := tailsOrderRow.holds Tryd.pinned (OpenSpec.ofChange tailsOrderSpec)

/-- ITS FALSE NEIGHBOUR: 'it returns false'. Refute it at one input. -/
def tailsOrderWrong : ChangeSpec := { name := "tailsOrder", fn := fun _ => fun
  | [d1, d2, d3, d4, d5] => { results := [.lit (.bool false)], args := [d1, d2, d3, d4, d5] }
  | _ => none }
def TailsOrderWrongFalsely : Prop := tailsOrderRow.holds Tryd.pinned (OpenSpec.ofChange tailsOrderWrong)

/-- 'memfaultlaw07.SymbolFixes': WHATEVER THE INPUT: true; the input reads as it did. -/
def symbolFixesSpec : ChangeSpec := { name := "symbolFixes", fn := fun _ => fun
  | [d] => { results := [.lit (.bool true)], args := [d] }
  | _ => none }
def symbolFixesRow : OpenClaim := { program := "ytjhaogbopmhkoaadoor", sum := "7f1af61ab1472994607191dd879ee9a4f73e8b3b336ed5a33fd469631ab6c273", func := "memfault/memfaultlaw07.SymbolFixes", spec := "symbolFixes", unfollowed := true, recurses := true, named := ["unicode/utf8.first", "unicode/utf8.acceptRanges"], apart := false, laid := [("unicode/utf8.acceptRanges", laid_unicode_utf8_acceptRanges), ("unicode/utf8.first", laid_unicode_utf8_first)] }
def SymbolFixesSaid : Prop := symbolFixesRow.holds Tryd.pinned (OpenSpec.ofChange symbolFixesSpec)

/-- ITS FALSE NEIGHBOUR: 'it returns false'. Refute it at one input. -/
def symbolFixesWrong : ChangeSpec := { name := "symbolFixes", fn := fun _ => fun
  | [d] => { results := [.lit (.bool false)], args := [d] }
  | _ => none }
def SymbolFixesWrongFalsely : Prop := symbolFixesRow.holds Tryd.pinned (OpenSpec.ofChange symbolFixesWrong)

/-- 'memfaultlaw07.SymbolNotices': WHATEVER THE INPUT: true; the input reads as it did. -/
def symbolNoticesSpec : ChangeSpec := { name := "symbolNotices", fn := fun _ => fun
  | [d] => { results := [.lit (.bool true)], args := [d] }
  | _ => none }
def symbolNoticesRow : OpenClaim := { program := "ytjhaogbopmhkoaadoor", sum := "7f1af61ab1472994607191dd879ee9a4f73e8b3b336ed5a33fd469631ab6c273", func := "memfault/memfaultlaw07.SymbolNotices", spec := "symbolNotices", unfollowed := true, recurses := true, named := ["unicode/utf8.first", "unicode/utf8.acceptRanges"], apart := false, laid := [("unicode/utf8.acceptRanges", laid_unicode_utf8_acceptRanges), ("unicode/utf8.first", laid_unicode_utf8_first)] }
def SymbolNoticesSaid : Prop := symbolNoticesRow.holds Tryd.pinned (OpenSpec.ofChange symbolNoticesSpec)

/-- ITS FALSE NEIGHBOUR: 'it returns false'. Refute it at one input. -/
def symbolNoticesWrong : ChangeSpec := { name := "symbolNotices", fn := fun _ => fun
  | [d] => { results := [.lit (.bool false)], args := [d] }
  | _ => none }
def SymbolNoticesWrongFalsely : Prop := symbolNoticesRow.holds Tryd.pinned (OpenSpec.ofChange symbolNoticesWrong)

/-- 'memfaultlaw07.SymbolShort': WHATEVER THE INPUT: true; the input reads as it did. -/
def symbolShortSpec : ChangeSpec := { name := "symbolShort", fn := fun _ => fun
  | [d1, d2] => { results := [.lit (.bool true)], args := [d1, d2] }
  | _ => none }
def symbolShortRow : OpenClaim := { program := "ytjhaogbopmhkoaadoor", sum := "7f1af61ab1472994607191dd879ee9a4f73e8b3b336ed5a33fd469631ab6c273", func := "memfault/memfaultlaw07.SymbolShort", spec := "symbolShort", unfollowed := true, recurses := true, named := ["unicode/utf8.first", "unicode/utf8.acceptRanges"], apart := false, laid := [("unicode/utf8.acceptRanges", laid_unicode_utf8_acceptRanges), ("unicode/utf8.first", laid_unicode_utf8_first)] }
def SymbolShortSaid : Prop := symbolShortRow.holds Tryd.pinned (OpenSpec.ofChange symbolShortSpec)

/-- ITS FALSE NEIGHBOUR: 'it returns false'. Refute it at one input. -/
def symbolShortWrong : ChangeSpec := { name := "symbolShort", fn := fun _ => fun
  | [d1, d2] => { results := [.lit (.bool false)], args := [d1, d2] }
  | _ => none }
def SymbolShortWrongFalsely : Prop := symbolShortRow.holds Tryd.pinned (OpenSpec.ofChange symbolShortWrong)

/-- 'memfaultlaw07.SymbolLinear': WHATEVER THE INPUT: true; the input reads as it did. -/
def symbolLinearSpec : ChangeSpec := { name := "symbolLinear", fn := fun _ => fun
  | [d1, d2] => { results := [.lit (.bool true)], args := [d1, d2] }
  | _ => none }
def symbolLinearRow : OpenClaim := { program := "ytjhaogbopmhkoaadoor", sum := "7f1af61ab1472994607191dd879ee9a4f73e8b3b336ed5a33fd469631ab6c273", func := "memfault/memfaultlaw07.SymbolLinear", spec := "symbolLinear", unfollowed := true, recurses := true, named := ["unicode/utf8.first", "unicode/utf8.acceptRanges"], apart := false, laid := [("unicode/utf8.acceptRanges", laid_unicode_utf8_acceptRanges), ("unicode/utf8.first", laid_unicode_utf8_first)] }
def SymbolLinearSaid : Prop := symbolLinearRow.holds Tryd.pinned (OpenSpec.ofChange symbolLinearSpec)

/-- ITS FALSE NEIGHBOUR: 'it returns false'. Refute it at one input. -/
def symbolLinearWrong : ChangeSpec := { name := "symbolLinear", fn := fun _ => fun
  | [d1, d2] => { results := [.lit (.bool false)], args := [d1, d2] }
  | _ => none }
def SymbolLinearWrongFalsely : Prop := symbolLinearRow.holds Tryd.pinned (OpenSpec.ofChange symbolLinearWrong)

/-- 'memfaultlaw07.SymbolWords': WHATEVER THE INPUT: true; the input reads as it did. -/
def symbolWordsSpec : ChangeSpec := { name := "symbolWords", fn := fun _ => fun
  | [d] => { results := [.lit (.bool true)], args := [d] }
  | _ => none }
def symbolWordsRow : OpenClaim := { program := "ytjhaogbopmhkoaadoor", sum := "7f1af61ab1472994607191dd879ee9a4f73e8b3b336ed5a33fd469631ab6c273", func := "memfault/memfaultlaw07.SymbolWords", spec := "symbolWords", unfollowed := true, recurses := true, named := ["unicode/utf8.first", "unicode/utf8.acceptRanges"], apart := false, laid := [("unicode/utf8.acceptRanges", laid_unicode_utf8_acceptRanges), ("unicode/utf8.first", laid_unicode_utf8_first)] }
def SymbolWordsSaid : Prop := symbolWordsRow.holds Tryd.pinned (OpenSpec.ofChange symbolWordsSpec)

/-- ITS FALSE NEIGHBOUR: 'it returns false'. Refute it at one input. -/
def symbolWordsWrong : ChangeSpec := { name := "symbolWords", fn := fun _ => fun
  | [d] => { results := [.lit (.bool false)], args := [d] }
  | _ => none }
def SymbolWordsWrongFalsely : Prop := symbolWordsRow.holds Tryd.pinned (OpenSpec.ofChange symbolWordsWrong)

/- THE SECOND FORM. 'bulk': how many values and letters a reading holds, each counted each time it is reached (what is shared counts as often as it is met; a slice's spare places count too). A statement '..UptoSaid' is the law's where the arguments, and the package variables that the reading takes, are together of bulk at most 1048576: NARROWER than '..Said'. Prove '..Said' where nothing that the law and all that it calls make is longer than what came in: it says more and counts as full. Else prove '..UptoSaid'. A law counts once. -/
mutual
def uptoBulk {H : Type} : DataW H → Nat
  | .lit (.string bytes) => bytes.length + 1
  | .lit _ => 1
  | .nil => 1
  | .ptr d => uptoBulk d + 1
  | .slice elems spare => uptoBulkAll elems + uptoBulkAll spare + 1
  | .agg parts => uptoBulkAll parts + 1
  | .iface _ d => uptoBulk d + 1
  | .map entries => uptoBulkEntries entries + 1
  | .held _ => 1
def uptoBulkAll {H : Type} : List (DataW H) → Nat
  | [] => 0
  | d :: r => uptoBulk d + uptoBulkAll r
def uptoBulkEntries {H : Type} : List (Lit × DataW H) → Nat
  | [] => 0
  | x :: r => uptoBulkEntry x + uptoBulkEntries r
def uptoBulkEntry {H : Type} : Lit × DataW H → Nat
  | (.string bytes, d) => bytes.length + uptoBulk d + 1
  | (_, d) => uptoBulk d + 1
 end
def uptoSmall : (H : Type) → List (DataW H) → Bool := fun _ ds => decide (uptoBulkAll ds ≤ 1048576)
def OpenSpec.upto (s : _root_.Go.ChangeSpec) : _root_.Go.OpenSpec := { _root_.Go.OpenSpec.ofChange s with cond := some uptoSmall }

/-- 'memfaultlaw23.TailsCells', WHERE WHAT IT READS IS OF BULK AT MOST 1048576: true; the input reads as it did. -/
def tailsCellsUptoRow : OpenClaim := { program := "ytjhaogbopmhkoaadoor", sum := "7f1af61ab1472994607191dd879ee9a4f73e8b3b336ed5a33fd469631ab6c273", func := "memfault/memfaultlaw23.TailsCells", spec := "tailsCells", inPlace := ["math/bits.Sub64"], unfollowed := true, recurses := true, named := ["math/bits.deBruijn64tab"], apart := false, laid := [("math/bits.deBruijn64tab", laid_math_bits_deBruijn64tab)], narrowed := true }
def TailsCellsUptoSaid : Prop := tailsCellsUptoRow.holds Tryd.pinned (OpenSpec.upto tailsCellsSpec)

/-- 'memfaultlaw23.TailsFew', WHERE WHAT IT READS IS OF BULK AT MOST 1048576: true; the input reads as it did. -/
def tailsFewUptoRow : OpenClaim := { program := "ytjhaogbopmhkoaadoor", sum := "7f1af61ab1472994607191dd879ee9a4f73e8b3b336ed5a33fd469631ab6c273", func := "memfault/memfaultlaw23.TailsFew", spec := "tailsFew", inPlace := ["math/bits.Sub64"], unfollowed := true, recurses := true, named := ["math/bits.deBruijn64tab"], apart := false, laid := [("math/bits.deBruijn64tab", laid_math_bits_deBruijn64tab)], narrowed := true }
def TailsFewUptoSaid : Prop := tailsFewUptoRow.holds Tryd.pinned (OpenSpec.upto tailsFewSpec)

/-- 'memfaultlaw23.TailsOrder', WHERE WHAT IT READS IS OF BULK AT MOST 1048576: true; the input reads as it did. -/
def tailsOrderUptoRow : OpenClaim := { program := "ytjhaogbopmhkoaadoor", sum := "7f1af61ab1472994607191dd879ee9a4f73e8b3b336ed5a33fd469631ab6c273", func := "memfault/memfaultlaw23.TailsOrder", spec := "tailsOrder", inPlace := ["math/bits.Sub64"], unfollowed := true, recurses := true, named := ["math/bits.deBruijn64tab"], apart := false, laid := [("math/bits.deBruijn64tab", laid_math_bits_deBruijn64tab)], narrowed := true }
def TailsOrderUptoSaid : Prop := tailsOrderUptoRow.holds Tryd.pinned (OpenSpec.upto tailsOrderSpec)

/-- 'memfaultlaw07.SymbolFixes', WHERE WHAT IT READS IS OF BULK AT MOST 1048576: true; the input reads as it did. -/
def symbolFixesUptoRow : OpenClaim := { program := "ytjhaogbopmhkoaadoor", sum := "7f1af61ab1472994607191dd879ee9a4f73e8b3b336ed5a33fd469631ab6c273", func := "memfault/memfaultlaw07.SymbolFixes", spec := "symbolFixes", unfollowed := true, recurses := true, named := ["unicode/utf8.first", "unicode/utf8.acceptRanges"], apart := false, laid := [("unicode/utf8.acceptRanges", laid_unicode_utf8_acceptRanges), ("unicode/utf8.first", laid_unicode_utf8_first)], narrowed := true }
def SymbolFixesUptoSaid : Prop := symbolFixesUptoRow.holds Tryd.pinned (OpenSpec.upto symbolFixesSpec)

/-- 'memfaultlaw07.SymbolNotices', WHERE WHAT IT READS IS OF BULK AT MOST 1048576: true; the input reads as it did. -/
def symbolNoticesUptoRow : OpenClaim := { program := "ytjhaogbopmhkoaadoor", sum := "7f1af61ab1472994607191dd879ee9a4f73e8b3b336ed5a33fd469631ab6c273", func := "memfault/memfaultlaw07.SymbolNotices", spec := "symbolNotices", unfollowed := true, recurses := true, named := ["unicode/utf8.first", "unicode/utf8.acceptRanges"], apart := false, laid := [("unicode/utf8.acceptRanges", laid_unicode_utf8_acceptRanges), ("unicode/utf8.first", laid_unicode_utf8_first)], narrowed := true }
def SymbolNoticesUptoSaid : Prop := symbolNoticesUptoRow.holds Tryd.pinned (OpenSpec.upto symbolNoticesSpec)

/-- 'memfaultlaw07.SymbolShort', WHERE WHAT IT READS IS OF BULK AT MOST 1048576: true; the input reads as it did. -/
def symbolShortUptoRow : OpenClaim := { program := "ytjhaogbopmhkoaadoor", sum := "7f1af61ab1472994607191dd879ee9a4f73e8b3b336ed5a33fd469631ab6c273", func := "memfault/memfaultlaw07.SymbolShort", spec := "symbolShort", unfollowed := true, recurses := true, named := ["unicode/utf8.first", "unicode/utf8.acceptRanges"], apart := false, laid := [("unicode/utf8.acceptRanges", laid_unicode_utf8_acceptRanges), ("unicode/utf8.first", laid_unicode_utf8_first)], narrowed := true }
def SymbolShortUptoSaid : Prop := symbolShortUptoRow.holds Tryd.pinned (OpenSpec.upto symbolShortSpec)

/-- 'memfaultlaw07.SymbolLinear', WHERE WHAT IT READS IS OF BULK AT MOST 1048576: true; the input reads as it did. -/
def symbolLinearUptoRow : OpenClaim := { program := "ytjhaogbopmhkoaadoor", sum := "7f1af61ab1472994607191dd879ee9a4f73e8b3b336ed5a33fd469631ab6c273", func := "memfault/memfaultlaw07.SymbolLinear", spec := "symbolLinear", unfollowed := true, recurses := true, named := ["unicode/utf8.first", "unicode/utf8.acceptRanges"], apart := false, laid := [("unicode/utf8.acceptRanges", laid_unicode_utf8_acceptRanges), ("unicode/utf8.first", laid_unicode_utf8_first)], narrowed := true }
def SymbolLinearUptoSaid : Prop := symbolLinearUptoRow.holds Tryd.pinned (OpenSpec.upto symbolLinearSpec)

/-- 'memfaultlaw07.SymbolWords', WHERE WHAT IT READS IS OF BULK AT MOST 1048576: true; the input reads as it did. -/
def symbolWordsUptoRow : OpenClaim := { program := "ytjhaogbopmhkoaadoor", sum := "7f1af61ab1472994607191dd879ee9a4f73e8b3b336ed5a33fd469631ab6c273", func := "memfault/memfaultlaw07.SymbolWords", spec := "symbolWords", unfollowed := true, recurses := true, named := ["unicode/utf8.first", "unicode/utf8.acceptRanges"], apart := false, laid := [("unicode/utf8.acceptRanges", laid_unicode_utf8_acceptRanges), ("unicode/utf8.first", laid_unicode_utf8_first)], narrowed := true }
def SymbolWordsUptoSaid : Prop := symbolWordsUptoRow.holds Tryd.pinned (OpenSpec.upto symbolWordsSpec)

end Rows
end Go.Proofs.YtjhaogbopmhkoaaDoor

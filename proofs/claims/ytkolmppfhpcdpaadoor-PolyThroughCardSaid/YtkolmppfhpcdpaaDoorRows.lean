/-
  NARROWER THAN 'FOR EVERY INPUT', by the rows' own cells (each row's printed sentence says how): PolyRoots: laid · PolyLaws: laid · PolyThrough: laid · PolyDivides: laid · PolyRaw: laid · PolyMade: laid.
  DERIVED. THE GIVEN ROWS OF THIS SEAT. 6 by the template 'for every input the law returns true; each argument reads behind the call as it read before'; 0 by the template 'total and deterministic' (their statements: YtkolmppfhpcdpaaDoorTotals.lean).
  GIVEN WITH THE SEED: the statements are not yours to turn. If you find one false, say at which input.
  Laid BY PROGRAM, IN A SANDBOX (cutbox-rows.mjs): the forced cells as the released guide's own fill.sh prints them over the translation 6b43abf3de9d02b0… (all of the seat's roots in one cut). By AI agents, Wed Nov 11 2026. No macro, syntax, notation, axiom, sorry.
-/
import Derived.Test.YtkolmppfhpcdpaaDoorChecked
import GoSem.PinnedTables
import GoSem.Claim
import GoSem.ClaimJoined
import GoSem.ClaimMapViews
import Derived.JoinedTies
import Derived.KernelRfl
namespace Go.Proofs.YtkolmppfhpcdpaaDoor
/- THE CELL 'sum', in the pinned program and in every row, IS THE sha256 OF THE DUMP (.gsa) THAT YtkolmppfhpcdpaaDoorProg.lean LOADS. Nothing in Lean hashes anything: it is a label: what it is worth is what the hold of that sum in a sandbox is worth. -/
noncomputable def Tryd.pinned : Pinned := { name := "ytkolmppfhpcdpaadoor", sum := "6b43abf3de9d02b0b87768816a94d3d484c85ba93f62a960ee668d90d842337c", checked := Tryd.checked }
namespace Rows
def none {H : Type} : Left H := { results := [], args := [] }

/- WHAT THE LISTED PACKAGE-LEVEL VARIABLES READ AS WHEN THE CALL BEGINS. Each datum BY PROGRAM (the guide's laid-datum.mjs) off the statement by which the dump's own 'gosem.cut.vars' lays the variable. In a bare row this is a premise. The card (YtkolmppfhpcdpaaDoorCards.lean) ties it to the program's text. -/
def laid_unicode_utf8_acceptRanges {H : Type} : DataW H := .agg [.agg [.lit (.int .u8 128), .lit (.int .u8 191)], .agg [.lit (.int .u8 160), .lit (.int .u8 191)], .agg [.lit (.int .u8 128), .lit (.int .u8 159)], .agg [.lit (.int .u8 144), .lit (.int .u8 191)], .agg [.lit (.int .u8 128), .lit (.int .u8 143)], .agg [.lit (.int .u8 0), .lit (.int .u8 0)], .agg [.lit (.int .u8 0), .lit (.int .u8 0)], .agg [.lit (.int .u8 0), .lit (.int .u8 0)], .agg [.lit (.int .u8 0), .lit (.int .u8 0)], .agg [.lit (.int .u8 0), .lit (.int .u8 0)], .agg [.lit (.int .u8 0), .lit (.int .u8 0)], .agg [.lit (.int .u8 0), .lit (.int .u8 0)], .agg [.lit (.int .u8 0), .lit (.int .u8 0)], .agg [.lit (.int .u8 0), .lit (.int .u8 0)], .agg [.lit (.int .u8 0), .lit (.int .u8 0)], .agg [.lit (.int .u8 0), .lit (.int .u8 0)]]
/-- One of Go's own tables, pinned by name: the form's constant. -/
def laid_unicode_utf8_first : DataW Unit := Go.Pinned.utf8First

/-- 'memfaultlaw04.PolyRoots': WHATEVER THE INPUT: true; the input reads as it did. -/
def polyRootsSpec : ChangeSpec := { name := "polyRoots", fn := fun _ => fun
  | [d] => { results := [.lit (.bool true)], args := [d] }
  | _ => none }
def polyRootsRow : OpenClaim := { program := "ytkolmppfhpcdpaadoor", sum := "6b43abf3de9d02b0b87768816a94d3d484c85ba93f62a960ee668d90d842337c", func := "memfault/memfaultlaw04.PolyRoots", spec := "polyRoots", unfollowed := true, recurses := true, named := ["unicode/utf8.first", "unicode/utf8.acceptRanges"], apart := false, laid := [("unicode/utf8.acceptRanges", laid_unicode_utf8_acceptRanges), ("unicode/utf8.first", laid_unicode_utf8_first)] }
def PolyRootsSaid : Prop := polyRootsRow.holds Tryd.pinned (OpenSpec.ofChange polyRootsSpec)

/-- ITS FALSE NEIGHBOUR: 'it returns false'. Refute it at one input. -/
def polyRootsWrong : ChangeSpec := { name := "polyRoots", fn := fun _ => fun
  | [d] => { results := [.lit (.bool false)], args := [d] }
  | _ => none }
def PolyRootsWrongFalsely : Prop := polyRootsRow.holds Tryd.pinned (OpenSpec.ofChange polyRootsWrong)

/-- 'memfaultlaw04.PolyLaws': WHATEVER THE INPUT: true; the input reads as it did. -/
def polyLawsSpec : ChangeSpec := { name := "polyLaws", fn := fun _ => fun
  | [d1, d2] => { results := [.lit (.bool true)], args := [d1, d2] }
  | _ => none }
def polyLawsRow : OpenClaim := { program := "ytkolmppfhpcdpaadoor", sum := "6b43abf3de9d02b0b87768816a94d3d484c85ba93f62a960ee668d90d842337c", func := "memfault/memfaultlaw04.PolyLaws", spec := "polyLaws", unfollowed := true, recurses := true, named := ["unicode/utf8.first", "unicode/utf8.acceptRanges"], apart := false, laid := [("unicode/utf8.acceptRanges", laid_unicode_utf8_acceptRanges), ("unicode/utf8.first", laid_unicode_utf8_first)] }
def PolyLawsSaid : Prop := polyLawsRow.holds Tryd.pinned (OpenSpec.ofChange polyLawsSpec)

/-- ITS FALSE NEIGHBOUR: 'it returns false'. Refute it at one input. -/
def polyLawsWrong : ChangeSpec := { name := "polyLaws", fn := fun _ => fun
  | [d1, d2] => { results := [.lit (.bool false)], args := [d1, d2] }
  | _ => none }
def PolyLawsWrongFalsely : Prop := polyLawsRow.holds Tryd.pinned (OpenSpec.ofChange polyLawsWrong)

/-- 'memfaultlaw04.PolyThrough': WHATEVER THE INPUT: true; the input reads as it did. -/
def polyThroughSpec : ChangeSpec := { name := "polyThrough", fn := fun _ => fun
  | [d1, d2, d3] => { results := [.lit (.bool true)], args := [d1, d2, d3] }
  | _ => none }
def polyThroughRow : OpenClaim := { program := "ytkolmppfhpcdpaadoor", sum := "6b43abf3de9d02b0b87768816a94d3d484c85ba93f62a960ee668d90d842337c", func := "memfault/memfaultlaw04.PolyThrough", spec := "polyThrough", unfollowed := true, recurses := true, named := ["unicode/utf8.first", "unicode/utf8.acceptRanges"], apart := false, laid := [("unicode/utf8.acceptRanges", laid_unicode_utf8_acceptRanges), ("unicode/utf8.first", laid_unicode_utf8_first)] }
def PolyThroughSaid : Prop := polyThroughRow.holds Tryd.pinned (OpenSpec.ofChange polyThroughSpec)

/-- ITS FALSE NEIGHBOUR: 'it returns false'. Refute it at one input. -/
def polyThroughWrong : ChangeSpec := { name := "polyThrough", fn := fun _ => fun
  | [d1, d2, d3] => { results := [.lit (.bool false)], args := [d1, d2, d3] }
  | _ => none }
def PolyThroughWrongFalsely : Prop := polyThroughRow.holds Tryd.pinned (OpenSpec.ofChange polyThroughWrong)

/-- 'memfaultlaw04.PolyDivides': WHATEVER THE INPUT: true; the input reads as it did. -/
def polyDividesSpec : ChangeSpec := { name := "polyDivides", fn := fun _ => fun
  | [d1, d2] => { results := [.lit (.bool true)], args := [d1, d2] }
  | _ => none }
def polyDividesRow : OpenClaim := { program := "ytkolmppfhpcdpaadoor", sum := "6b43abf3de9d02b0b87768816a94d3d484c85ba93f62a960ee668d90d842337c", func := "memfault/memfaultlaw04.PolyDivides", spec := "polyDivides", unfollowed := true, recurses := true, named := ["unicode/utf8.first", "unicode/utf8.acceptRanges"], apart := false, laid := [("unicode/utf8.acceptRanges", laid_unicode_utf8_acceptRanges), ("unicode/utf8.first", laid_unicode_utf8_first)] }
def PolyDividesSaid : Prop := polyDividesRow.holds Tryd.pinned (OpenSpec.ofChange polyDividesSpec)

/-- ITS FALSE NEIGHBOUR: 'it returns false'. Refute it at one input. -/
def polyDividesWrong : ChangeSpec := { name := "polyDivides", fn := fun _ => fun
  | [d1, d2] => { results := [.lit (.bool false)], args := [d1, d2] }
  | _ => none }
def PolyDividesWrongFalsely : Prop := polyDividesRow.holds Tryd.pinned (OpenSpec.ofChange polyDividesWrong)

/-- 'memfaultlaw04.PolyRaw': WHATEVER THE INPUT: true; the input reads as it did. -/
def polyRawSpec : ChangeSpec := { name := "polyRaw", fn := fun _ => fun
  | [d1, d2, d3] => { results := [.lit (.bool true)], args := [d1, d2, d3] }
  | _ => none }
def polyRawRow : OpenClaim := { program := "ytkolmppfhpcdpaadoor", sum := "6b43abf3de9d02b0b87768816a94d3d484c85ba93f62a960ee668d90d842337c", func := "memfault/memfaultlaw04.PolyRaw", spec := "polyRaw", unfollowed := true, recurses := true, named := ["unicode/utf8.first", "unicode/utf8.acceptRanges"], apart := false, laid := [("unicode/utf8.acceptRanges", laid_unicode_utf8_acceptRanges), ("unicode/utf8.first", laid_unicode_utf8_first)] }
def PolyRawSaid : Prop := polyRawRow.holds Tryd.pinned (OpenSpec.ofChange polyRawSpec)

/-- ITS FALSE NEIGHBOUR: 'it returns false'. Refute it at one input. -/
def polyRawWrong : ChangeSpec := { name := "polyRaw", fn := fun _ => fun
  | [d1, d2, d3] => { results := [.lit (.bool false)], args := [d1, d2, d3] }
  | _ => none }
def PolyRawWrongFalsely : Prop := polyRawRow.holds Tryd.pinned (OpenSpec.ofChange polyRawWrong)

/-- 'memfaultlaw04.PolyMade': WHATEVER THE INPUT: true; the input reads as it did. -/
def polyMadeSpec : ChangeSpec := { name := "polyMade", fn := fun _ => fun
  | [d1, d2] => { results := [.lit (.bool true)], args := [d1, d2] }
  | _ => none }
def polyMadeRow : OpenClaim := { program := "ytkolmppfhpcdpaadoor", sum := "6b43abf3de9d02b0b87768816a94d3d484c85ba93f62a960ee668d90d842337c", func := "memfault/memfaultlaw04.PolyMade", spec := "polyMade", unfollowed := true, recurses := true, named := ["unicode/utf8.first", "unicode/utf8.acceptRanges"], apart := false, laid := [("unicode/utf8.acceptRanges", laid_unicode_utf8_acceptRanges), ("unicode/utf8.first", laid_unicode_utf8_first)] }
def PolyMadeSaid : Prop := polyMadeRow.holds Tryd.pinned (OpenSpec.ofChange polyMadeSpec)

/-- ITS FALSE NEIGHBOUR: 'it returns false'. Refute it at one input. -/
def polyMadeWrong : ChangeSpec := { name := "polyMade", fn := fun _ => fun
  | [d1, d2] => { results := [.lit (.bool false)], args := [d1, d2] }
  | _ => none }
def PolyMadeWrongFalsely : Prop := polyMadeRow.holds Tryd.pinned (OpenSpec.ofChange polyMadeWrong)

/- THE SECOND FORM. 'bulk': how many values and letters a reading holds, each counted each time it is reached (what is shared counts as often as it is met; a slice's spare places count too). A statement '..UptoSaid' is the law's where the arguments, and the package variables that the reading takes, are together of bulk at most 1048576: NARROWER than '..Said'. Prove '..Said' where nothing that the law and all that it calls make is longer than what came in: it says more and counts as full. Else prove '..UptoSaid'. A law counts once. -/
mutual
def uptoBulk {H : Type} : DataW H → Nat
  | .lit (.string bytes) => bytes.length + 1
  | .lit _ => 1
  | .nil => 1
  | .ptr d => uptoBulk d + 1
  | .slice elems spare => uptoBulkAll elems + uptoBulkAll spare + 1
  | .agg parts => uptoBulkAll parts + 1
  | .iface _ d => uptoBulk d + 1
  | .map entries => uptoBulkEntries entries + 1
  | .held _ => 1
def uptoBulkAll {H : Type} : List (DataW H) → Nat
  | [] => 0
  | d :: r => uptoBulk d + uptoBulkAll r
def uptoBulkEntries {H : Type} : List (Lit × DataW H) → Nat
  | [] => 0
  | x :: r => uptoBulkEntry x + uptoBulkEntries r
def uptoBulkEntry {H : Type} : Lit × DataW H → Nat
  | (.string bytes, d) => bytes.length + uptoBulk d + 1
  | (_, d) => uptoBulk d + 1
 end
def uptoSmall : (H : Type) → List (DataW H) → Bool := fun _ ds => decide (uptoBulkAll ds ≤ 1048576)
def OpenSpec.upto (s : _root_.Go.ChangeSpec) : _root_.Go.OpenSpec := { _root_.Go.OpenSpec.ofChange s with cond := some uptoSmall }

/-- 'memfaultlaw04.PolyRoots', WHERE WHAT IT READS IS OF BULK AT MOST 1048576: true; the input reads as it did. -/
def polyRootsUptoRow : OpenClaim := { program := "ytkolmppfhpcdpaadoor", sum := "6b43abf3de9d02b0b87768816a94d3d484c85ba93f62a960ee668d90d842337c", func := "memfault/memfaultlaw04.PolyRoots", spec := "polyRoots", unfollowed := true, recurses := true, named := ["unicode/utf8.first", "unicode/utf8.acceptRanges"], apart := false, laid := [("unicode/utf8.acceptRanges", laid_unicode_utf8_acceptRanges), ("unicode/utf8.first", laid_unicode_utf8_first)], narrowed := true }
def PolyRootsUptoSaid : Prop := polyRootsUptoRow.holds Tryd.pinned (OpenSpec.upto polyRootsSpec)

/-- 'memfaultlaw04.PolyLaws', WHERE WHAT IT READS IS OF BULK AT MOST 1048576: true; the input reads as it did. -/
def polyLawsUptoRow : OpenClaim := { program := "ytkolmppfhpcdpaadoor", sum := "6b43abf3de9d02b0b87768816a94d3d484c85ba93f62a960ee668d90d842337c", func := "memfault/memfaultlaw04.PolyLaws", spec := "polyLaws", unfollowed := true, recurses := true, named := ["unicode/utf8.first", "unicode/utf8.acceptRanges"], apart := false, laid := [("unicode/utf8.acceptRanges", laid_unicode_utf8_acceptRanges), ("unicode/utf8.first", laid_unicode_utf8_first)], narrowed := true }
def PolyLawsUptoSaid : Prop := polyLawsUptoRow.holds Tryd.pinned (OpenSpec.upto polyLawsSpec)

/-- 'memfaultlaw04.PolyThrough', WHERE WHAT IT READS IS OF BULK AT MOST 1048576: true; the input reads as it did. -/
def polyThroughUptoRow : OpenClaim := { program := "ytkolmppfhpcdpaadoor", sum := "6b43abf3de9d02b0b87768816a94d3d484c85ba93f62a960ee668d90d842337c", func := "memfault/memfaultlaw04.PolyThrough", spec := "polyThrough", unfollowed := true, recurses := true, named := ["unicode/utf8.first", "unicode/utf8.acceptRanges"], apart := false, laid := [("unicode/utf8.acceptRanges", laid_unicode_utf8_acceptRanges), ("unicode/utf8.first", laid_unicode_utf8_first)], narrowed := true }
def PolyThroughUptoSaid : Prop := polyThroughUptoRow.holds Tryd.pinned (OpenSpec.upto polyThroughSpec)

/-- 'memfaultlaw04.PolyDivides', WHERE WHAT IT READS IS OF BULK AT MOST 1048576: true; the input reads as it did. -/
def polyDividesUptoRow : OpenClaim := { program := "ytkolmppfhpcdpaadoor", sum := "6b43abf3de9d02b0b87768816a94d3d484c85ba93f62a960ee668d90d842337c", func := "memfault/memfaultlaw04.PolyDivides", spec := "polyDivides", unfollowed := true, recurses := true, named := ["unicode/utf8.first", "unicode/utf8.acceptRanges"], apart := false, laid := [("unicode/utf8.acceptRanges", laid_unicode_utf8_acceptRanges), ("unicode/utf8.first", laid_unicode_utf8_first)], narrowed := true }
def PolyDividesUptoSaid : Prop := polyDividesUptoRow.holds Tryd.pinned (OpenSpec.upto polyDividesSpec)

/-- 'memfaultlaw04.PolyRaw', WHERE WHAT IT READS IS OF BULK AT MOST 1048576: true; the input reads as it did. -/
def polyRawUptoRow : OpenClaim := { program := "ytkolmppfhpcdpaadoor", sum := "6b43abf3de9d02b0b87768816a94d3d484c85ba93f62a960ee668d90d842337c", func := "memfault/memfaultlaw04.PolyRaw", spec := "polyRaw", unfollowed := true, recurses := true, named := ["unicode/utf8.first", "unicode/utf8.acceptRanges"], apart := false, laid := [("unicode/utf8.acceptRanges", laid_unicode_utf8_acceptRanges), ("unicode/utf8.first", laid_unicode_utf8_first)], narrowed := true }
def PolyRawUptoSaid : Prop := polyRawUptoRow.holds Tryd.pinned (OpenSpec.upto polyRawSpec)

/-- 'memfaultlaw04.PolyMade', WHERE WHAT IT READS IS OF BULK AT MOST 1048576: true; the input reads as it did. -/
def polyMadeUptoRow : OpenClaim := { program := "ytkolmppfhpcdpaadoor", sum := "6b43abf3de9d02b0b87768816a94d3d484c85ba93f62a960ee668d90d842337c", func := "memfault/memfaultlaw04.PolyMade", spec := "polyMade", unfollowed := true, recurses := true, named := ["unicode/utf8.first", "unicode/utf8.acceptRanges"], apart := false, laid := [("unicode/utf8.acceptRanges", laid_unicode_utf8_acceptRanges), ("unicode/utf8.first", laid_unicode_utf8_first)], narrowed := true }
def PolyMadeUptoSaid : Prop := polyMadeUptoRow.holds Tryd.pinned (OpenSpec.upto polyMadeSpec)

end Rows
end Go.Proofs.YtkolmppfhpcdpaaDoor

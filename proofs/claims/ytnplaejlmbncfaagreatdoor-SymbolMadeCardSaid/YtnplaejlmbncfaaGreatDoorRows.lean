/-
  NARROWER THAN 'FOR EVERY INPUT', by the rows' own cells (each row's printed sentence says how): SymbolMade: laid · AccessReturns: laid · AccessApart: laid · AccessNotices: laid · ScrubParts: laid · AccessPoisons: laid · AccessMade: laid · ScrubSettles: laid.
  DERIVED. THE GIVEN ROWS OF THIS SEAT. 8 by the template 'for every input the law returns true; each argument reads behind the call as it read before'; 0 by the template 'total and deterministic' (their statements: YtnplaejlmbncfaaGreatDoorTotals.lean).
  GIVEN WITH THE SEED: the statements are not yours to turn. If you find one false, say at which input.
  Laid BY PROGRAM, IN A SANDBOX (cutbox-rows.mjs): the forced cells as the released guide's own fill.sh prints them over the translation f14dd40ef73ad1f9… (all of the seat's roots in one cut). By AI agents, Wed Nov 11 2026. No macro, syntax, notation, axiom, sorry.
-/
import Derived.Test.YtnplaejlmbncfaaGreatDoorChecked
import GoSem.PinnedTables
import GoSem.Claim
import GoSem.ClaimJoined
import GoSem.ClaimMapViews
import Derived.JoinedTies
import Derived.KernelRfl
namespace Go.Proofs.YtnplaejlmbncfaaGreatDoor
/- THE CELL 'sum', in the pinned program and in every row, IS THE sha256 OF THE DUMP (.gsa) THAT YtnplaejlmbncfaaGreatDoorProg.lean LOADS. Nothing in Lean hashes anything: it is a label: what it is worth is what the hold of that sum in a sandbox is worth. -/
noncomputable def Tryz.pinned : Pinned := { name := "ytnplaejlmbncfaagreatdoor", sum := "f14dd40ef73ad1f9f384679cc817bb3e7539318905cc7e048ee6edf4b0bc2b0e", checked := Tryz.checked }
namespace Rows
def none {H : Type} : Left H := { results := [], args := [] }

/- WHAT THE LISTED PACKAGE-LEVEL VARIABLES READ AS WHEN THE CALL BEGINS. Each datum BY PROGRAM (the guide's laid-datum.mjs) off the statement by which the dump's own 'gosem.cut.vars' lays the variable. In a bare row this is a premise. The card (YtnplaejlmbncfaaGreatDoorCards.lean) ties it to the program's text. -/
def laid_unicode_utf8_acceptRanges {H : Type} : DataW H := .agg [.agg [.lit (.int .u8 128), .lit (.int .u8 191)], .agg [.lit (.int .u8 160), .lit (.int .u8 191)], .agg [.lit (.int .u8 128), .lit (.int .u8 159)], .agg [.lit (.int .u8 144), .lit (.int .u8 191)], .agg [.lit (.int .u8 128), .lit (.int .u8 143)], .agg [.lit (.int .u8 0), .lit (.int .u8 0)], .agg [.lit (.int .u8 0), .lit (.int .u8 0)], .agg [.lit (.int .u8 0), .lit (.int .u8 0)], .agg [.lit (.int .u8 0), .lit (.int .u8 0)], .agg [.lit (.int .u8 0), .lit (.int .u8 0)], .agg [.lit (.int .u8 0), .lit (.int .u8 0)], .agg [.lit (.int .u8 0), .lit (.int .u8 0)], .agg [.lit (.int .u8 0), .lit (.int .u8 0)], .agg [.lit (.int .u8 0), .lit (.int .u8 0)], .agg [.lit (.int .u8 0), .lit (.int .u8 0)], .agg [.lit (.int .u8 0), .lit (.int .u8 0)]]
/-- One of Go's own tables, pinned by name: the form's constant. -/
def laid_unicode_utf8_first : DataW Unit := Go.Pinned.utf8First
def laid_memfault_part_names {H : Type} : DataW H := .agg [.agg [.lit (.bool false), .lit (.bool false), .lit (.bool false), .lit (.bool false), .lit (.bool false), .lit (.bool false)], .agg [.lit (.bool true), .lit (.bool true), .lit (.bool true), .lit (.bool true), .lit (.bool true), .lit (.bool true)], .agg [.lit (.bool true), .lit (.bool true), .lit (.bool true), .lit (.bool true), .lit (.bool true), .lit (.bool false)], .agg [.lit (.bool true), .lit (.bool true), .lit (.bool true), .lit (.bool true), .lit (.bool false), .lit (.bool true)], .agg [.lit (.bool true), .lit (.bool true), .lit (.bool true), .lit (.bool true), .lit (.bool false), .lit (.bool false)], .agg [.lit (.bool true), .lit (.bool true), .lit (.bool true), .lit (.bool false), .lit (.bool false), .lit (.bool false)], .agg [.lit (.bool true), .lit (.bool true), .lit (.bool false), .lit (.bool false), .lit (.bool false), .lit (.bool false)]]

/-- 'memfaultlaw07.SymbolMade': WHATEVER THE INPUT: true; the input reads as it did. -/
def symbolMadeSpec : ChangeSpec := { name := "symbolMade", fn := fun _ => fun
  | [d] => { results := [.lit (.bool true)], args := [d] }
  | _ => none }
def symbolMadeRow : OpenClaim := { program := "ytnplaejlmbncfaagreatdoor", sum := "f14dd40ef73ad1f9f384679cc817bb3e7539318905cc7e048ee6edf4b0bc2b0e", func := "memfault/memfaultlaw07.SymbolMade", spec := "symbolMade", unfollowed := true, recurses := true, named := ["unicode/utf8.first", "unicode/utf8.acceptRanges"], apart := false, laid := [("unicode/utf8.acceptRanges", laid_unicode_utf8_acceptRanges), ("unicode/utf8.first", laid_unicode_utf8_first)] }
def SymbolMadeSaid : Prop := symbolMadeRow.holds Tryz.pinned (OpenSpec.ofChange symbolMadeSpec)

/-- ITS FALSE NEIGHBOUR: 'it returns false'. Refute it at one input. -/
def symbolMadeWrong : ChangeSpec := { name := "symbolMade", fn := fun _ => fun
  | [d] => { results := [.lit (.bool false)], args := [d] }
  | _ => none }
def SymbolMadeWrongFalsely : Prop := symbolMadeRow.holds Tryz.pinned (OpenSpec.ofChange symbolMadeWrong)

/-- 'memfaultlaw14.AccessReturns': WHATEVER THE INPUT: true; the input reads as it did. -/
def accessReturnsSpec : ChangeSpec := { name := "accessReturns", fn := fun _ => fun
  | [d] => { results := [.lit (.bool true)], args := [d] }
  | _ => none }
def accessReturnsRow : OpenClaim := { program := "ytnplaejlmbncfaagreatdoor", sum := "f14dd40ef73ad1f9f384679cc817bb3e7539318905cc7e048ee6edf4b0bc2b0e", func := "memfault/memfaultlaw14.AccessReturns", spec := "accessReturns", inPlace := ["slices.overlaps[memfault/api.Word]"], unfollowed := true, recurses := true, named := ["memfault/part.names", "unicode/utf8.first", "unicode/utf8.acceptRanges"], apart := false, laid := [("memfault/part.names", laid_memfault_part_names), ("unicode/utf8.acceptRanges", laid_unicode_utf8_acceptRanges), ("unicode/utf8.first", laid_unicode_utf8_first)] }
def AccessReturnsSaid : Prop := accessReturnsRow.holds Tryz.pinned (OpenSpec.ofChange accessReturnsSpec)

/-- ITS FALSE NEIGHBOUR: 'it returns false'. Refute it at one input. -/
def accessReturnsWrong : ChangeSpec := { name := "accessReturns", fn := fun _ => fun
  | [d] => { results := [.lit (.bool false)], args := [d] }
  | _ => none }
def AccessReturnsWrongFalsely : Prop := accessReturnsRow.holds Tryz.pinned (OpenSpec.ofChange accessReturnsWrong)

/-- 'memfaultlaw14.AccessApart': WHATEVER THE INPUT: true; the input reads as it did. -/
def accessApartSpec : ChangeSpec := { name := "accessApart", fn := fun _ => fun
  | [d1, d2, d3] => { results := [.lit (.bool true)], args := [d1, d2, d3] }
  | _ => none }
def accessApartRow : OpenClaim := { program := "ytnplaejlmbncfaagreatdoor", sum := "f14dd40ef73ad1f9f384679cc817bb3e7539318905cc7e048ee6edf4b0bc2b0e", func := "memfault/memfaultlaw14.AccessApart", spec := "accessApart", inPlace := ["slices.overlaps[memfault/api.Word]"], unfollowed := true, recurses := true, named := ["memfault/part.names", "unicode/utf8.first", "unicode/utf8.acceptRanges"], apart := false, laid := [("memfault/part.names", laid_memfault_part_names), ("unicode/utf8.acceptRanges", laid_unicode_utf8_acceptRanges), ("unicode/utf8.first", laid_unicode_utf8_first)] }
def AccessApartSaid : Prop := accessApartRow.holds Tryz.pinned (OpenSpec.ofChange accessApartSpec)

/-- ITS FALSE NEIGHBOUR: 'it returns false'. Refute it at one input. -/
def accessApartWrong : ChangeSpec := { name := "accessApart", fn := fun _ => fun
  | [d1, d2, d3] => { results := [.lit (.bool false)], args := [d1, d2, d3] }
  | _ => none }
def AccessApartWrongFalsely : Prop := accessApartRow.holds Tryz.pinned (OpenSpec.ofChange accessApartWrong)

/-- 'memfaultlaw14.AccessNotices': WHATEVER THE INPUT: true; the input reads as it did. -/
def accessNoticesSpec : ChangeSpec := { name := "accessNotices", fn := fun _ => fun
  | [d] => { results := [.lit (.bool true)], args := [d] }
  | _ => none }
def accessNoticesRow : OpenClaim := { program := "ytnplaejlmbncfaagreatdoor", sum := "f14dd40ef73ad1f9f384679cc817bb3e7539318905cc7e048ee6edf4b0bc2b0e", func := "memfault/memfaultlaw14.AccessNotices", spec := "accessNotices", inPlace := ["slices.overlaps[memfault/api.Word]"], unfollowed := true, recurses := true, named := ["memfault/part.names", "unicode/utf8.first", "unicode/utf8.acceptRanges"], apart := false, laid := [("memfault/part.names", laid_memfault_part_names), ("unicode/utf8.acceptRanges", laid_unicode_utf8_acceptRanges), ("unicode/utf8.first", laid_unicode_utf8_first)] }
def AccessNoticesSaid : Prop := accessNoticesRow.holds Tryz.pinned (OpenSpec.ofChange accessNoticesSpec)

/-- ITS FALSE NEIGHBOUR: 'it returns false'. Refute it at one input. -/
def accessNoticesWrong : ChangeSpec := { name := "accessNotices", fn := fun _ => fun
  | [d] => { results := [.lit (.bool false)], args := [d] }
  | _ => none }
def AccessNoticesWrongFalsely : Prop := accessNoticesRow.holds Tryz.pinned (OpenSpec.ofChange accessNoticesWrong)

/-- 'memfaultlaw15.ScrubParts': WHATEVER THE INPUT: true; the input reads as it did. -/
def scrubPartsSpec : ChangeSpec := { name := "scrubParts", fn := fun _ => fun
  | [d1, d2] => { results := [.lit (.bool true)], args := [d1, d2] }
  | _ => none }
def scrubPartsRow : OpenClaim := { program := "ytnplaejlmbncfaagreatdoor", sum := "f14dd40ef73ad1f9f384679cc817bb3e7539318905cc7e048ee6edf4b0bc2b0e", func := "memfault/memfaultlaw15.ScrubParts", spec := "scrubParts", inPlace := ["slices.overlaps[memfault/api.Word]"], unfollowed := true, recurses := true, named := ["memfault/part.names", "unicode/utf8.first", "unicode/utf8.acceptRanges"], apart := false, laid := [("memfault/part.names", laid_memfault_part_names), ("unicode/utf8.acceptRanges", laid_unicode_utf8_acceptRanges), ("unicode/utf8.first", laid_unicode_utf8_first)] }
def ScrubPartsSaid : Prop := scrubPartsRow.holds Tryz.pinned (OpenSpec.ofChange scrubPartsSpec)

/-- ITS FALSE NEIGHBOUR: 'it returns false'. Refute it at one input. -/
def scrubPartsWrong : ChangeSpec := { name := "scrubParts", fn := fun _ => fun
  | [d1, d2] => { results := [.lit (.bool false)], args := [d1, d2] }
  | _ => none }
def ScrubPartsWrongFalsely : Prop := scrubPartsRow.holds Tryz.pinned (OpenSpec.ofChange scrubPartsWrong)

/-- 'memfaultlaw14.AccessPoisons': WHATEVER THE INPUT: true; the input reads as it did. -/
def accessPoisonsSpec : ChangeSpec := { name := "accessPoisons", fn := fun _ => fun
  | [d1, d2, d3] => { results := [.lit (.bool true)], args := [d1, d2, d3] }
  | _ => none }
def accessPoisonsRow : OpenClaim := { program := "ytnplaejlmbncfaagreatdoor", sum := "f14dd40ef73ad1f9f384679cc817bb3e7539318905cc7e048ee6edf4b0bc2b0e", func := "memfault/memfaultlaw14.AccessPoisons", spec := "accessPoisons", inPlace := ["slices.overlaps[memfault/api.Word]"], unfollowed := true, recurses := true, named := ["memfault/part.names", "unicode/utf8.first", "unicode/utf8.acceptRanges"], apart := false, laid := [("memfault/part.names", laid_memfault_part_names), ("unicode/utf8.acceptRanges", laid_unicode_utf8_acceptRanges), ("unicode/utf8.first", laid_unicode_utf8_first)] }
def AccessPoisonsSaid : Prop := accessPoisonsRow.holds Tryz.pinned (OpenSpec.ofChange accessPoisonsSpec)

/-- ITS FALSE NEIGHBOUR: 'it returns false'. Refute it at one input. -/
def accessPoisonsWrong : ChangeSpec := { name := "accessPoisons", fn := fun _ => fun
  | [d1, d2, d3] => { results := [.lit (.bool false)], args := [d1, d2, d3] }
  | _ => none }
def AccessPoisonsWrongFalsely : Prop := accessPoisonsRow.holds Tryz.pinned (OpenSpec.ofChange accessPoisonsWrong)

/-- 'memfaultlaw14.AccessMade': WHATEVER THE INPUT: true; the input reads as it did. -/
def accessMadeSpec : ChangeSpec := { name := "accessMade", fn := fun _ => fun
  | [d] => { results := [.lit (.bool true)], args := [d] }
  | _ => none }
def accessMadeRow : OpenClaim := { program := "ytnplaejlmbncfaagreatdoor", sum := "f14dd40ef73ad1f9f384679cc817bb3e7539318905cc7e048ee6edf4b0bc2b0e", func := "memfault/memfaultlaw14.AccessMade", spec := "accessMade", inPlace := ["slices.overlaps[memfault/api.Word]"], unfollowed := true, recurses := true, named := ["memfault/part.names", "unicode/utf8.first", "unicode/utf8.acceptRanges"], apart := false, laid := [("memfault/part.names", laid_memfault_part_names), ("unicode/utf8.acceptRanges", laid_unicode_utf8_acceptRanges), ("unicode/utf8.first", laid_unicode_utf8_first)] }
def AccessMadeSaid : Prop := accessMadeRow.holds Tryz.pinned (OpenSpec.ofChange accessMadeSpec)

/-- ITS FALSE NEIGHBOUR: 'it returns false'. Refute it at one input. -/
def accessMadeWrong : ChangeSpec := { name := "accessMade", fn := fun _ => fun
  | [d] => { results := [.lit (.bool false)], args := [d] }
  | _ => none }
def AccessMadeWrongFalsely : Prop := accessMadeRow.holds Tryz.pinned (OpenSpec.ofChange accessMadeWrong)

/-- 'memfaultlaw15.ScrubSettles': WHATEVER THE INPUT: true; the input reads as it did. -/
def scrubSettlesSpec : ChangeSpec := { name := "scrubSettles", fn := fun _ => fun
  | [d] => { results := [.lit (.bool true)], args := [d] }
  | _ => none }
def scrubSettlesRow : OpenClaim := { program := "ytnplaejlmbncfaagreatdoor", sum := "f14dd40ef73ad1f9f384679cc817bb3e7539318905cc7e048ee6edf4b0bc2b0e", func := "memfault/memfaultlaw15.ScrubSettles", spec := "scrubSettles", inPlace := ["slices.overlaps[memfault/api.Word]"], unfollowed := true, recurses := true, named := ["memfault/part.names", "unicode/utf8.first", "unicode/utf8.acceptRanges"], apart := false, laid := [("memfault/part.names", laid_memfault_part_names), ("unicode/utf8.acceptRanges", laid_unicode_utf8_acceptRanges), ("unicode/utf8.first", laid_unicode_utf8_first)] }
def ScrubSettlesSaid : Prop := scrubSettlesRow.holds Tryz.pinned (OpenSpec.ofChange scrubSettlesSpec)

/-- ITS FALSE NEIGHBOUR: 'it returns false'. Refute it at one input. -/
def scrubSettlesWrong : ChangeSpec := { name := "scrubSettles", fn := fun _ => fun
  | [d] => { results := [.lit (.bool false)], args := [d] }
  | _ => none }
def ScrubSettlesWrongFalsely : Prop := scrubSettlesRow.holds Tryz.pinned (OpenSpec.ofChange scrubSettlesWrong)

/- THE SECOND FORM. 'bulk': how many values and letters a reading holds, each counted each time it is reached (what is shared counts as often as it is met; a slice's spare places count too). A statement '..UptoSaid' is the law's where the arguments, and the package variables that the reading takes, are together of bulk at most 1048576: NARROWER than '..Said'. Prove '..Said' where nothing that the law and all that it calls make is longer than what came in: it says more and counts as full. Else prove '..UptoSaid'. A law counts once. -/
mutual
def uptoBulk {H : Type} : DataW H → Nat
  | .lit (.string bytes) => bytes.length + 1
  | .lit _ => 1
  | .nil => 1
  | .ptr d => uptoBulk d + 1
  | .slice elems spare => uptoBulkAll elems + uptoBulkAll spare + 1
  | .agg parts => uptoBulkAll parts + 1
  | .iface _ d => uptoBulk d + 1
  | .map entries => uptoBulkEntries entries + 1
  | .held _ => 1
def uptoBulkAll {H : Type} : List (DataW H) → Nat
  | [] => 0
  | d :: r => uptoBulk d + uptoBulkAll r
def uptoBulkEntries {H : Type} : List (Lit × DataW H) → Nat
  | [] => 0
  | x :: r => uptoBulkEntry x + uptoBulkEntries r
def uptoBulkEntry {H : Type} : Lit × DataW H → Nat
  | (.string bytes, d) => bytes.length + uptoBulk d + 1
  | (_, d) => uptoBulk d + 1
 end
def uptoSmall : (H : Type) → List (DataW H) → Bool := fun _ ds => decide (uptoBulkAll ds ≤ 1048576)
def OpenSpec.upto (s : _root_.Go.ChangeSpec) : _root_.Go.OpenSpec := { _root_.Go.OpenSpec.ofChange s with cond := some uptoSmall }

/-- 'memfaultlaw07.SymbolMade', WHERE WHAT IT READS IS OF BULK AT MOST 1048576: true; the input reads as it did. -/
def symbolMadeUptoRow : OpenClaim := { program := "ytnplaejlmbncfaagreatdoor", sum := "f14dd40ef73ad1f9f384679cc817bb3e7539318905cc7e048ee6edf4b0bc2b0e", func := "memfault/memfaultlaw07.SymbolMade", spec := "symbolMade", unfollowed := true, recurses := true, named := ["unicode/utf8.first", "unicode/utf8.acceptRanges"], apart := false, laid := [("unicode/utf8.acceptRanges", laid_unicode_utf8_acceptRanges), ("unicode/utf8.first", laid_unicode_utf8_first)], narrowed := true }
def SymbolMadeUptoSaid : Prop := symbolMadeUptoRow.holds Tryz.pinned (OpenSpec.upto symbolMadeSpec)

/-- 'memfaultlaw14.AccessReturns', WHERE WHAT IT READS IS OF BULK AT MOST 1048576: true; the input reads as it did. -/
def accessReturnsUptoRow : OpenClaim := { program := "ytnplaejlmbncfaagreatdoor", sum := "f14dd40ef73ad1f9f384679cc817bb3e7539318905cc7e048ee6edf4b0bc2b0e", func := "memfault/memfaultlaw14.AccessReturns", spec := "accessReturns", inPlace := ["slices.overlaps[memfault/api.Word]"], unfollowed := true, recurses := true, named := ["memfault/part.names", "unicode/utf8.first", "unicode/utf8.acceptRanges"], apart := false, laid := [("memfault/part.names", laid_memfault_part_names), ("unicode/utf8.acceptRanges", laid_unicode_utf8_acceptRanges), ("unicode/utf8.first", laid_unicode_utf8_first)], narrowed := true }
def AccessReturnsUptoSaid : Prop := accessReturnsUptoRow.holds Tryz.pinned (OpenSpec.upto accessReturnsSpec)

/-- 'memfaultlaw14.AccessApart', WHERE WHAT IT READS IS OF BULK AT MOST 1048576: true; the input reads as it did. -/
def accessApartUptoRow : OpenClaim := { program := "ytnplaejlmbncfaagreatdoor", sum := "f14dd40ef73ad1f9f384679cc817bb3e7539318905cc7e048ee6edf4b0bc2b0e", func := "memfault/memfaultlaw14.AccessApart", spec := "accessApart", inPlace := ["slices.overlaps[memfault/api.Word]"], unfollowed := true, recurses := true, named := ["memfault/part.names", "unicode/utf8.first", "unicode/utf8.acceptRanges"], apart := false, laid := [("memfault/part.names", laid_memfault_part_names), ("unicode/utf8.acceptRanges", laid_unicode_utf8_acceptRanges), ("unicode/utf8.first", laid_unicode_utf8_first)], narrowed := true }
def AccessApartUptoSaid : Prop := accessApartUptoRow.holds Tryz.pinned (OpenSpec.upto accessApartSpec)

/-- 'memfaultlaw14.AccessNotices', WHERE WHAT IT READS IS OF BULK AT MOST 1048576: true; the input reads as it did. -/
def accessNoticesUptoRow : OpenClaim := { program := "ytnplaejlmbncfaagreatdoor", sum := "f14dd40ef73ad1f9f384679cc817bb3e7539318905cc7e048ee6edf4b0bc2b0e", func := "memfault/memfaultlaw14.AccessNotices", spec := "accessNotices", inPlace := ["slices.overlaps[memfault/api.Word]"], unfollowed := true, recurses := true, named := ["memfault/part.names", "unicode/utf8.first", "unicode/utf8.acceptRanges"], apart := false, laid := [("memfault/part.names", laid_memfault_part_names), ("unicode/utf8.acceptRanges", laid_unicode_utf8_acceptRanges), ("unicode/utf8.first", laid_unicode_utf8_first)], narrowed := true }
def AccessNoticesUptoSaid : Prop := accessNoticesUptoRow.holds Tryz.pinned (OpenSpec.upto accessNoticesSpec)

/-- 'memfaultlaw15.ScrubParts', WHERE WHAT IT READS IS OF BULK AT MOST 1048576: true; the input reads as it did. -/
def scrubPartsUptoRow : OpenClaim := { program := "ytnplaejlmbncfaagreatdoor", sum := "f14dd40ef73ad1f9f384679cc817bb3e7539318905cc7e048ee6edf4b0bc2b0e", func := "memfault/memfaultlaw15.ScrubParts", spec := "scrubParts", inPlace := ["slices.overlaps[memfault/api.Word]"], unfollowed := true, recurses := true, named := ["memfault/part.names", "unicode/utf8.first", "unicode/utf8.acceptRanges"], apart := false, laid := [("memfault/part.names", laid_memfault_part_names), ("unicode/utf8.acceptRanges", laid_unicode_utf8_acceptRanges), ("unicode/utf8.first", laid_unicode_utf8_first)], narrowed := true }
def ScrubPartsUptoSaid : Prop := scrubPartsUptoRow.holds Tryz.pinned (OpenSpec.upto scrubPartsSpec)

/-- 'memfaultlaw14.AccessPoisons', WHERE WHAT IT READS IS OF BULK AT MOST 1048576: true; the input reads as it did. -/
def accessPoisonsUptoRow : OpenClaim := { program := "ytnplaejlmbncfaagreatdoor", sum := "f14dd40ef73ad1f9f384679cc817bb3e7539318905cc7e048ee6edf4b0bc2b0e", func := "memfault/memfaultlaw14.AccessPoisons", spec := "accessPoisons", inPlace := ["slices.overlaps[memfault/api.Word]"], unfollowed := true, recurses := true, named := ["memfault/part.names", "unicode/utf8.first", "unicode/utf8.acceptRanges"], apart := false, laid := [("memfault/part.names", laid_memfault_part_names), ("unicode/utf8.acceptRanges", laid_unicode_utf8_acceptRanges), ("unicode/utf8.first", laid_unicode_utf8_first)], narrowed := true }
def AccessPoisonsUptoSaid : Prop := accessPoisonsUptoRow.holds Tryz.pinned (OpenSpec.upto accessPoisonsSpec)

/-- 'memfaultlaw14.AccessMade', WHERE WHAT IT READS IS OF BULK AT MOST 1048576: true; the input reads as it did. -/
def accessMadeUptoRow : OpenClaim := { program := "ytnplaejlmbncfaagreatdoor", sum := "f14dd40ef73ad1f9f384679cc817bb3e7539318905cc7e048ee6edf4b0bc2b0e", func := "memfault/memfaultlaw14.AccessMade", spec := "accessMade", inPlace := ["slices.overlaps[memfault/api.Word]"], unfollowed := true, recurses := true, named := ["memfault/part.names", "unicode/utf8.first", "unicode/utf8.acceptRanges"], apart := false, laid := [("memfault/part.names", laid_memfault_part_names), ("unicode/utf8.acceptRanges", laid_unicode_utf8_acceptRanges), ("unicode/utf8.first", laid_unicode_utf8_first)], narrowed := true }
def AccessMadeUptoSaid : Prop := accessMadeUptoRow.holds Tryz.pinned (OpenSpec.upto accessMadeSpec)

/-- 'memfaultlaw15.ScrubSettles', WHERE WHAT IT READS IS OF BULK AT MOST 1048576: true; the input reads as it did. -/
def scrubSettlesUptoRow : OpenClaim := { program := "ytnplaejlmbncfaagreatdoor", sum := "f14dd40ef73ad1f9f384679cc817bb3e7539318905cc7e048ee6edf4b0bc2b0e", func := "memfault/memfaultlaw15.ScrubSettles", spec := "scrubSettles", inPlace := ["slices.overlaps[memfault/api.Word]"], unfollowed := true, recurses := true, named := ["memfault/part.names", "unicode/utf8.first", "unicode/utf8.acceptRanges"], apart := false, laid := [("memfault/part.names", laid_memfault_part_names), ("unicode/utf8.acceptRanges", laid_unicode_utf8_acceptRanges), ("unicode/utf8.first", laid_unicode_utf8_first)], narrowed := true }
def ScrubSettlesUptoSaid : Prop := scrubSettlesUptoRow.holds Tryz.pinned (OpenSpec.upto scrubSettlesSpec)

end Rows
end Go.Proofs.YtnplaejlmbncfaaGreatDoor

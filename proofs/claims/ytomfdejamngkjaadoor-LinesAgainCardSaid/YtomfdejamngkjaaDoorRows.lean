/-
  NARROWER THAN 'FOR EVERY INPUT', by the rows' own cells (each row's printed sentence says how): LinesCut: laid · LinesGet: laid · LinesHeads: laid · LinesWrites: laid · LinesBack: laid · LinesAgain: laid.
  DERIVED. THE GIVEN ROWS OF THIS SEAT. 6 by the template 'for every input the law returns true; each argument reads behind the call as it read before'; 0 by the template 'total and deterministic' (their statements: YtomfdejamngkjaaDoorTotals.lean).
  GIVEN WITH THE SEED: the statements are not yours to turn. If you find one false, say at which input.
  Laid BY PROGRAM, IN A SANDBOX (cutbox-rows.mjs): the forced cells as the released guide's own fill.sh prints them over the translation 412bb12ce606d823… (all of the seat's roots in one cut). By AI agents, Wed Nov 11 2026. No macro, syntax, notation, axiom, sorry.
-/
import Derived.Test.YtomfdejamngkjaaDoorChecked
import GoSem.PinnedTables
import GoSem.Claim
import GoSem.ClaimJoined
import GoSem.ClaimMapViews
import Derived.JoinedTies
import Derived.KernelRfl
namespace Go.Proofs.YtomfdejamngkjaaDoor
/- THE CELL 'sum', in the pinned program and in every row, IS THE sha256 OF THE DUMP (.gsa) THAT YtomfdejamngkjaaDoorProg.lean LOADS. Nothing in Lean hashes anything: it is a label: what it is worth is what the hold of that sum in a sandbox is worth. -/
noncomputable def Tryd.pinned : Pinned := { name := "ytomfdejamngkjaadoor", sum := "412bb12ce606d823386e8f394caa7c001338cb22c8d96433a29836d167baec1d", checked := Tryd.checked }
namespace Rows
def none {H : Type} : Left H := { results := [], args := [] }

/- WHAT THE LISTED PACKAGE-LEVEL VARIABLES READ AS WHEN THE CALL BEGINS. Each datum BY PROGRAM (the guide's laid-datum.mjs) off the statement by which the dump's own 'gosem.cut.vars' lays the variable. In a bare row this is a premise. The card (YtomfdejamngkjaaDoorCards.lean) ties it to the program's text. -/
def laid_unicode_utf8_acceptRanges {H : Type} : DataW H := .agg [.agg [.lit (.int .u8 128), .lit (.int .u8 191)], .agg [.lit (.int .u8 160), .lit (.int .u8 191)], .agg [.lit (.int .u8 128), .lit (.int .u8 159)], .agg [.lit (.int .u8 144), .lit (.int .u8 191)], .agg [.lit (.int .u8 128), .lit (.int .u8 143)], .agg [.lit (.int .u8 0), .lit (.int .u8 0)], .agg [.lit (.int .u8 0), .lit (.int .u8 0)], .agg [.lit (.int .u8 0), .lit (.int .u8 0)], .agg [.lit (.int .u8 0), .lit (.int .u8 0)], .agg [.lit (.int .u8 0), .lit (.int .u8 0)], .agg [.lit (.int .u8 0), .lit (.int .u8 0)], .agg [.lit (.int .u8 0), .lit (.int .u8 0)], .agg [.lit (.int .u8 0), .lit (.int .u8 0)], .agg [.lit (.int .u8 0), .lit (.int .u8 0)], .agg [.lit (.int .u8 0), .lit (.int .u8 0)], .agg [.lit (.int .u8 0), .lit (.int .u8 0)]]
/-- One of Go's own tables, pinned by name: the form's constant. -/
def laid_unicode_utf8_first : DataW Unit := Go.Pinned.utf8First

/-- 'muslinlaw06.LinesCut': WHATEVER THE INPUT: true; the input reads as it did. -/
def linesCutSpec : ChangeSpec := { name := "linesCut", fn := fun _ => fun
  | [d] => { results := [.lit (.bool true)], args := [d] }
  | _ => none }
def linesCutRow : OpenClaim := { program := "ytomfdejamngkjaadoor", sum := "412bb12ce606d823386e8f394caa7c001338cb22c8d96433a29836d167baec1d", func := "muslin/muslinlaw06.LinesCut", spec := "linesCut", inPlace := ["internal/abi.NoEscape", "internal/bytealg.MakeNoZero", "internal/bytealg.IndexByteString", "internal/bytealg.IndexString"], unfollowed := true, recurses := true, named := ["unicode/utf8.first", "unicode/utf8.acceptRanges", "internal/bytealg.MaxLen"], apart := false, laid := [("unicode/utf8.acceptRanges", laid_unicode_utf8_acceptRanges), ("unicode/utf8.first", laid_unicode_utf8_first)] }
def LinesCutSaid : Prop := linesCutRow.holds Tryd.pinned (OpenSpec.ofChange linesCutSpec)

/-- ITS FALSE NEIGHBOUR: 'it returns false'. Refute it at one input. -/
def linesCutWrong : ChangeSpec := { name := "linesCut", fn := fun _ => fun
  | [d] => { results := [.lit (.bool false)], args := [d] }
  | _ => none }
def LinesCutWrongFalsely : Prop := linesCutRow.holds Tryd.pinned (OpenSpec.ofChange linesCutWrong)

/-- 'muslinlaw06.LinesGet': WHATEVER THE INPUT: true; the input reads as it did. -/
def linesGetSpec : ChangeSpec := { name := "linesGet", fn := fun _ => fun
  | [d1, d2, d3] => { results := [.lit (.bool true)], args := [d1, d2, d3] }
  | _ => none }
def linesGetRow : OpenClaim := { program := "ytomfdejamngkjaadoor", sum := "412bb12ce606d823386e8f394caa7c001338cb22c8d96433a29836d167baec1d", func := "muslin/muslinlaw06.LinesGet", spec := "linesGet", inPlace := ["internal/abi.NoEscape", "internal/bytealg.MakeNoZero", "internal/bytealg.IndexByteString", "internal/bytealg.IndexString"], unfollowed := true, recurses := true, named := ["unicode/utf8.first", "unicode/utf8.acceptRanges", "internal/bytealg.MaxLen"], apart := false, laid := [("unicode/utf8.acceptRanges", laid_unicode_utf8_acceptRanges), ("unicode/utf8.first", laid_unicode_utf8_first)] }
def LinesGetSaid : Prop := linesGetRow.holds Tryd.pinned (OpenSpec.ofChange linesGetSpec)

/-- ITS FALSE NEIGHBOUR: 'it returns false'. Refute it at one input. -/
def linesGetWrong : ChangeSpec := { name := "linesGet", fn := fun _ => fun
  | [d1, d2, d3] => { results := [.lit (.bool false)], args := [d1, d2, d3] }
  | _ => none }
def LinesGetWrongFalsely : Prop := linesGetRow.holds Tryd.pinned (OpenSpec.ofChange linesGetWrong)

/-- 'muslinlaw06.LinesHeads': WHATEVER THE INPUT: true; the input reads as it did. -/
def linesHeadsSpec : ChangeSpec := { name := "linesHeads", fn := fun _ => fun
  | [d1, d2] => { results := [.lit (.bool true)], args := [d1, d2] }
  | _ => none }
def linesHeadsRow : OpenClaim := { program := "ytomfdejamngkjaadoor", sum := "412bb12ce606d823386e8f394caa7c001338cb22c8d96433a29836d167baec1d", func := "muslin/muslinlaw06.LinesHeads", spec := "linesHeads", inPlace := ["internal/abi.NoEscape", "internal/bytealg.MakeNoZero", "internal/bytealg.IndexByteString", "internal/bytealg.IndexString"], unfollowed := true, recurses := true, named := ["unicode/utf8.first", "unicode/utf8.acceptRanges", "internal/bytealg.MaxLen"], apart := false, laid := [("unicode/utf8.acceptRanges", laid_unicode_utf8_acceptRanges), ("unicode/utf8.first", laid_unicode_utf8_first)] }
def LinesHeadsSaid : Prop := linesHeadsRow.holds Tryd.pinned (OpenSpec.ofChange linesHeadsSpec)

/-- ITS FALSE NEIGHBOUR: 'it returns false'. Refute it at one input. -/
def linesHeadsWrong : ChangeSpec := { name := "linesHeads", fn := fun _ => fun
  | [d1, d2] => { results := [.lit (.bool false)], args := [d1, d2] }
  | _ => none }
def LinesHeadsWrongFalsely : Prop := linesHeadsRow.holds Tryd.pinned (OpenSpec.ofChange linesHeadsWrong)

/-- 'muslinlaw06.LinesWrites': WHATEVER THE INPUT: true; the input reads as it did. -/
def linesWritesSpec : ChangeSpec := { name := "linesWrites", fn := fun _ => fun
  | [d1, d2] => { results := [.lit (.bool true)], args := [d1, d2] }
  | _ => none }
def linesWritesRow : OpenClaim := { program := "ytomfdejamngkjaadoor", sum := "412bb12ce606d823386e8f394caa7c001338cb22c8d96433a29836d167baec1d", func := "muslin/muslinlaw06.LinesWrites", spec := "linesWrites", inPlace := ["internal/abi.NoEscape", "internal/bytealg.MakeNoZero", "internal/bytealg.IndexByteString", "internal/bytealg.IndexString"], unfollowed := true, recurses := true, named := ["unicode/utf8.first", "unicode/utf8.acceptRanges", "internal/bytealg.MaxLen"], apart := false, laid := [("unicode/utf8.acceptRanges", laid_unicode_utf8_acceptRanges), ("unicode/utf8.first", laid_unicode_utf8_first)] }
def LinesWritesSaid : Prop := linesWritesRow.holds Tryd.pinned (OpenSpec.ofChange linesWritesSpec)

/-- ITS FALSE NEIGHBOUR: 'it returns false'. Refute it at one input. -/
def linesWritesWrong : ChangeSpec := { name := "linesWrites", fn := fun _ => fun
  | [d1, d2] => { results := [.lit (.bool false)], args := [d1, d2] }
  | _ => none }
def LinesWritesWrongFalsely : Prop := linesWritesRow.holds Tryd.pinned (OpenSpec.ofChange linesWritesWrong)

/-- 'muslinlaw06.LinesBack': WHATEVER THE INPUT: true; the input reads as it did. -/
def linesBackSpec : ChangeSpec := { name := "linesBack", fn := fun _ => fun
  | [d1, d2] => { results := [.lit (.bool true)], args := [d1, d2] }
  | _ => none }
def linesBackRow : OpenClaim := { program := "ytomfdejamngkjaadoor", sum := "412bb12ce606d823386e8f394caa7c001338cb22c8d96433a29836d167baec1d", func := "muslin/muslinlaw06.LinesBack", spec := "linesBack", inPlace := ["internal/abi.NoEscape", "internal/bytealg.MakeNoZero", "internal/bytealg.IndexByteString", "internal/bytealg.IndexString"], unfollowed := true, recurses := true, named := ["unicode/utf8.first", "unicode/utf8.acceptRanges", "internal/bytealg.MaxLen"], apart := false, laid := [("unicode/utf8.acceptRanges", laid_unicode_utf8_acceptRanges), ("unicode/utf8.first", laid_unicode_utf8_first)] }
def LinesBackSaid : Prop := linesBackRow.holds Tryd.pinned (OpenSpec.ofChange linesBackSpec)

/-- ITS FALSE NEIGHBOUR: 'it returns false'. Refute it at one input. -/
def linesBackWrong : ChangeSpec := { name := "linesBack", fn := fun _ => fun
  | [d1, d2] => { results := [.lit (.bool false)], args := [d1, d2] }
  | _ => none }
def LinesBackWrongFalsely : Prop := linesBackRow.holds Tryd.pinned (OpenSpec.ofChange linesBackWrong)

/-- 'muslinlaw06.LinesAgain': WHATEVER THE INPUT: true; the input reads as it did. -/
def linesAgainSpec : ChangeSpec := { name := "linesAgain", fn := fun _ => fun
  | [d] => { results := [.lit (.bool true)], args := [d] }
  | _ => none }
def linesAgainRow : OpenClaim := { program := "ytomfdejamngkjaadoor", sum := "412bb12ce606d823386e8f394caa7c001338cb22c8d96433a29836d167baec1d", func := "muslin/muslinlaw06.LinesAgain", spec := "linesAgain", inPlace := ["internal/abi.NoEscape", "internal/bytealg.MakeNoZero", "internal/bytealg.IndexByteString", "internal/bytealg.IndexString"], unfollowed := true, recurses := true, named := ["unicode/utf8.first", "unicode/utf8.acceptRanges", "internal/bytealg.MaxLen"], apart := false, laid := [("unicode/utf8.acceptRanges", laid_unicode_utf8_acceptRanges), ("unicode/utf8.first", laid_unicode_utf8_first)] }
def LinesAgainSaid : Prop := linesAgainRow.holds Tryd.pinned (OpenSpec.ofChange linesAgainSpec)

/-- ITS FALSE NEIGHBOUR: 'it returns false'. Refute it at one input. -/
def linesAgainWrong : ChangeSpec := { name := "linesAgain", fn := fun _ => fun
  | [d] => { results := [.lit (.bool false)], args := [d] }
  | _ => none }
def LinesAgainWrongFalsely : Prop := linesAgainRow.holds Tryd.pinned (OpenSpec.ofChange linesAgainWrong)

/- THE SECOND FORM. 'bulk': how many values and letters a reading holds, each counted each time it is reached (what is shared counts as often as it is met; a slice's spare places count too). A statement '..UptoSaid' is the law's where the arguments, and the package variables that the reading takes, are together of bulk at most 1048576: NARROWER than '..Said'. Prove '..Said' where nothing that the law and all that it calls make is longer than what came in: it says more and counts as full. Else prove '..UptoSaid'. A law counts once. -/
mutual
def uptoBulk {H : Type} : DataW H → Nat
  | .lit (.string bytes) => bytes.length + 1
  | .lit _ => 1
  | .nil => 1
  | .ptr d => uptoBulk d + 1
  | .slice elems spare => uptoBulkAll elems + uptoBulkAll spare + 1
  | .agg parts => uptoBulkAll parts + 1
  | .iface _ d => uptoBulk d + 1
  | .map entries => uptoBulkEntries entries + 1
  | .held _ => 1
def uptoBulkAll {H : Type} : List (DataW H) → Nat
  | [] => 0
  | d :: r => uptoBulk d + uptoBulkAll r
def uptoBulkEntries {H : Type} : List (Lit × DataW H) → Nat
  | [] => 0
  | x :: r => uptoBulkEntry x + uptoBulkEntries r
def uptoBulkEntry {H : Type} : Lit × DataW H → Nat
  | (.string bytes, d) => bytes.length + uptoBulk d + 1
  | (_, d) => uptoBulk d + 1
 end
def uptoSmall : (H : Type) → List (DataW H) → Bool := fun _ ds => decide (uptoBulkAll ds ≤ 1048576)
def OpenSpec.upto (s : _root_.Go.ChangeSpec) : _root_.Go.OpenSpec := { _root_.Go.OpenSpec.ofChange s with cond := some uptoSmall }

/-- 'muslinlaw06.LinesCut', WHERE WHAT IT READS IS OF BULK AT MOST 1048576: true; the input reads as it did. -/
def linesCutUptoRow : OpenClaim := { program := "ytomfdejamngkjaadoor", sum := "412bb12ce606d823386e8f394caa7c001338cb22c8d96433a29836d167baec1d", func := "muslin/muslinlaw06.LinesCut", spec := "linesCut", inPlace := ["internal/abi.NoEscape", "internal/bytealg.MakeNoZero", "internal/bytealg.IndexByteString", "internal/bytealg.IndexString"], unfollowed := true, recurses := true, named := ["unicode/utf8.first", "unicode/utf8.acceptRanges", "internal/bytealg.MaxLen"], apart := false, laid := [("unicode/utf8.acceptRanges", laid_unicode_utf8_acceptRanges), ("unicode/utf8.first", laid_unicode_utf8_first)], narrowed := true }
def LinesCutUptoSaid : Prop := linesCutUptoRow.holds Tryd.pinned (OpenSpec.upto linesCutSpec)

/-- 'muslinlaw06.LinesGet', WHERE WHAT IT READS IS OF BULK AT MOST 1048576: true; the input reads as it did. -/
def linesGetUptoRow : OpenClaim := { program := "ytomfdejamngkjaadoor", sum := "412bb12ce606d823386e8f394caa7c001338cb22c8d96433a29836d167baec1d", func := "muslin/muslinlaw06.LinesGet", spec := "linesGet", inPlace := ["internal/abi.NoEscape", "internal/bytealg.MakeNoZero", "internal/bytealg.IndexByteString", "internal/bytealg.IndexString"], unfollowed := true, recurses := true, named := ["unicode/utf8.first", "unicode/utf8.acceptRanges", "internal/bytealg.MaxLen"], apart := false, laid := [("unicode/utf8.acceptRanges", laid_unicode_utf8_acceptRanges), ("unicode/utf8.first", laid_unicode_utf8_first)], narrowed := true }
def LinesGetUptoSaid : Prop := linesGetUptoRow.holds Tryd.pinned (OpenSpec.upto linesGetSpec)

/-- 'muslinlaw06.LinesHeads', WHERE WHAT IT READS IS OF BULK AT MOST 1048576: true; the input reads as it did. -/
def linesHeadsUptoRow : OpenClaim := { program := "ytomfdejamngkjaadoor", sum := "412bb12ce606d823386e8f394caa7c001338cb22c8d96433a29836d167baec1d", func := "muslin/muslinlaw06.LinesHeads", spec := "linesHeads", inPlace := ["internal/abi.NoEscape", "internal/bytealg.MakeNoZero", "internal/bytealg.IndexByteString", "internal/bytealg.IndexString"], unfollowed := true, recurses := true, named := ["unicode/utf8.first", "unicode/utf8.acceptRanges", "internal/bytealg.MaxLen"], apart := false, laid := [("unicode/utf8.acceptRanges", laid_unicode_utf8_acceptRanges), ("unicode/utf8.first", laid_unicode_utf8_first)], narrowed := true }
def LinesHeadsUptoSaid : Prop := linesHeadsUptoRow.holds Tryd.pinned (OpenSpec.upto linesHeadsSpec)

/-- 'muslinlaw06.LinesWrites', WHERE WHAT IT READS IS OF BULK AT MOST 1048576: true; the input reads as it did. -/
def linesWritesUptoRow : OpenClaim := { program := "ytomfdejamngkjaadoor", sum := "412bb12ce606d823386e8f394caa7c001338cb22c8d96433a29836d167baec1d", func := "muslin/muslinlaw06.LinesWrites", spec := "linesWrites", inPlace := ["internal/abi.NoEscape", "internal/bytealg.MakeNoZero", "internal/bytealg.IndexByteString", "internal/bytealg.IndexString"], unfollowed := true, recurses := true, named := ["unicode/utf8.first", "unicode/utf8.acceptRanges", "internal/bytealg.MaxLen"], apart := false, laid := [("unicode/utf8.acceptRanges", laid_unicode_utf8_acceptRanges), ("unicode/utf8.first", laid_unicode_utf8_first)], narrowed := true }
def LinesWritesUptoSaid : Prop := linesWritesUptoRow.holds Tryd.pinned (OpenSpec.upto linesWritesSpec)

/-- 'muslinlaw06.LinesBack', WHERE WHAT IT READS IS OF BULK AT MOST 1048576: true; the input reads as it did. -/
def linesBackUptoRow : OpenClaim := { program := "ytomfdejamngkjaadoor", sum := "412bb12ce606d823386e8f394caa7c001338cb22c8d96433a29836d167baec1d", func := "muslin/muslinlaw06.LinesBack", spec := "linesBack", inPlace := ["internal/abi.NoEscape", "internal/bytealg.MakeNoZero", "internal/bytealg.IndexByteString", "internal/bytealg.IndexString"], unfollowed := true, recurses := true, named := ["unicode/utf8.first", "unicode/utf8.acceptRanges", "internal/bytealg.MaxLen"], apart := false, laid := [("unicode/utf8.acceptRanges", laid_unicode_utf8_acceptRanges), ("unicode/utf8.first", laid_unicode_utf8_first)], narrowed := true }
def LinesBackUptoSaid : Prop := linesBackUptoRow.holds Tryd.pinned (OpenSpec.upto linesBackSpec)

/-- 'muslinlaw06.LinesAgain', WHERE WHAT IT READS IS OF BULK AT MOST 1048576: true; the input reads as it did. -/
def linesAgainUptoRow : OpenClaim := { program := "ytomfdejamngkjaadoor", sum := "412bb12ce606d823386e8f394caa7c001338cb22c8d96433a29836d167baec1d", func := "muslin/muslinlaw06.LinesAgain", spec := "linesAgain", inPlace := ["internal/abi.NoEscape", "internal/bytealg.MakeNoZero", "internal/bytealg.IndexByteString", "internal/bytealg.IndexString"], unfollowed := true, recurses := true, named := ["unicode/utf8.first", "unicode/utf8.acceptRanges", "internal/bytealg.MaxLen"], apart := false, laid := [("unicode/utf8.acceptRanges", laid_unicode_utf8_acceptRanges), ("unicode/utf8.first", laid_unicode_utf8_first)], narrowed := true }
def LinesAgainUptoSaid : Prop := linesAgainUptoRow.holds Tryd.pinned (OpenSpec.upto linesAgainSpec)

end Rows
end Go.Proofs.YtomfdejamngkjaaDoor

/-
  NARROWER THAN 'FOR EVERY INPUT', by the rows' own cells (each row's printed sentence says how): CssCuts: laid · CssSafe: laid · CssStays: laid · CssOnce: laid · CssJoined: laid · CssOne: laid.
  DERIVED. THE GIVEN ROWS OF THIS SEAT. 6 by the template 'for every input the law returns true; each argument reads behind the call as it read before'; 0 by the template 'total and deterministic' (their statements: YtollfaphadcnnaaDoorTotals.lean).
  GIVEN WITH THE SEED: the statements are not yours to turn. If you find one false, say at which input.
  Laid BY PROGRAM, IN A SANDBOX (cutbox-rows.mjs): the forced cells as the released guide's own fill.sh prints them over the translation e8b216e3ae9729dc… (all of the seat's roots in one cut). By AI agents, Wed Nov 11 2026. No macro, syntax, notation, axiom, sorry.
-/
import Derived.Test.YtollfaphadcnnaaDoorChecked
import GoSem.PinnedTables
import GoSem.Claim
import GoSem.ClaimJoined
import GoSem.ClaimMapViews
import Derived.JoinedTies
import Derived.KernelRfl
namespace Go.Proofs.YtollfaphadcnnaaDoor
/- THE CELL 'sum', in the pinned program and in every row, IS THE sha256 OF THE DUMP (.gsa) THAT YtollfaphadcnnaaDoorProg.lean LOADS. Nothing in Lean hashes anything: it is a label: what it is worth is what the hold of that sum in a sandbox is worth. -/
noncomputable def Tryd.pinned : Pinned := { name := "ytollfaphadcnnaadoor", sum := "e8b216e3ae9729dcb4d8dd99ec3758b7e1521df2cceacb1650596bea956ad8da", checked := Tryd.checked }
namespace Rows
def none {H : Type} : Left H := { results := [], args := [] }

/- WHAT THE LISTED PACKAGE-LEVEL VARIABLES READ AS WHEN THE CALL BEGINS. Each datum BY PROGRAM (the guide's laid-datum.mjs) off the statement by which the dump's own 'gosem.cut.vars' lays the variable. In a bare row this is a premise. The card (YtollfaphadcnnaaDoorCards.lean) ties it to the program's text. -/
def laid_unicode_utf8_acceptRanges {H : Type} : DataW H := .agg [.agg [.lit (.int .u8 128), .lit (.int .u8 191)], .agg [.lit (.int .u8 160), .lit (.int .u8 191)], .agg [.lit (.int .u8 128), .lit (.int .u8 159)], .agg [.lit (.int .u8 144), .lit (.int .u8 191)], .agg [.lit (.int .u8 128), .lit (.int .u8 143)], .agg [.lit (.int .u8 0), .lit (.int .u8 0)], .agg [.lit (.int .u8 0), .lit (.int .u8 0)], .agg [.lit (.int .u8 0), .lit (.int .u8 0)], .agg [.lit (.int .u8 0), .lit (.int .u8 0)], .agg [.lit (.int .u8 0), .lit (.int .u8 0)], .agg [.lit (.int .u8 0), .lit (.int .u8 0)], .agg [.lit (.int .u8 0), .lit (.int .u8 0)], .agg [.lit (.int .u8 0), .lit (.int .u8 0)], .agg [.lit (.int .u8 0), .lit (.int .u8 0)], .agg [.lit (.int .u8 0), .lit (.int .u8 0)], .agg [.lit (.int .u8 0), .lit (.int .u8 0)]]
def laid_muslin_css_names {H : Type} : DataW H := .slice [.lit (.string [98, 97, 99, 107, 103, 114, 111, 117, 110, 100, 45, 99, 111, 108, 111, 114]), .lit (.string [98, 111, 114, 100, 101, 114]), .lit (.string [98, 111, 114, 100, 101, 114, 45, 98, 111, 116, 116, 111, 109]), .lit (.string [98, 111, 114, 100, 101, 114, 45, 99, 111, 108, 108, 97, 112, 115, 101]), .lit (.string [98, 111, 114, 100, 101, 114, 45, 99, 111, 108, 111, 114]), .lit (.string [98, 111, 114, 100, 101, 114, 45, 108, 101, 102, 116]), .lit (.string [98, 111, 114, 100, 101, 114, 45, 114, 105, 103, 104, 116]), .lit (.string [98, 111, 114, 100, 101, 114, 45, 115, 112, 97, 99, 105, 110, 103]), .lit (.string [98, 111, 114, 100, 101, 114, 45, 115, 116, 121, 108, 101]), .lit (.string [98, 111, 114, 100, 101, 114, 45, 116, 111, 112]), .lit (.string [98, 111, 114, 100, 101, 114, 45, 119, 105, 100, 116, 104]), .lit (.string [99, 111, 108, 111, 114]), .lit (.string [100, 105, 114, 101, 99, 116, 105, 111, 110]), .lit (.string [102, 111, 110, 116, 45, 115, 105, 122, 101]), .lit (.string [102, 111, 110, 116, 45, 115, 116, 121, 108, 101]), .lit (.string [102, 111, 110, 116, 45, 119, 101, 105, 103, 104, 116]), .lit (.string [104, 101, 105, 103, 104, 116]), .lit (.string [108, 101, 116, 116, 101, 114, 45, 115, 112, 97, 99, 105, 110, 103]), .lit (.string [108, 105, 110, 101, 45, 104, 101, 105, 103, 104, 116]), .lit (.string [108, 105, 115, 116, 45, 115, 116, 121, 108, 101, 45, 116, 121, 112, 101]), .lit (.string [109, 97, 114, 103, 105, 110]), .lit (.string [109, 97, 114, 103, 105, 110, 45, 98, 111, 116, 116, 111, 109]), .lit (.string [109, 97, 114, 103, 105, 110, 45, 108, 101, 102, 116]), .lit (.string [109, 97, 114, 103, 105, 110, 45, 114, 105, 103, 104, 116]), .lit (.string [109, 97, 114, 103, 105, 110, 45, 116, 111, 112]), .lit (.string [109, 97, 120, 45, 119, 105, 100, 116, 104]), .lit (.string [112, 97, 100, 100, 105, 110, 103]), .lit (.string [112, 97, 100, 100, 105, 110, 103, 45, 98, 111, 116, 116, 111, 109]), .lit (.string [112, 97, 100, 100, 105, 110, 103, 45, 108, 101, 102, 116]), .lit (.string [112, 97, 100, 100, 105, 110, 103, 45, 114, 105, 103, 104, 116]), .lit (.string [112, 97, 100, 100, 105, 110, 103, 45, 116, 111, 112]), .lit (.string [116, 101, 120, 116, 45, 97, 108, 105, 103, 110]), .lit (.string [116, 101, 120, 116, 45, 100, 101, 99, 111, 114, 97, 116, 105, 111, 110]), .lit (.string [116, 101, 120, 116, 45, 105, 110, 100, 101, 110, 116]), .lit (.string [116, 101, 120, 116, 45, 116, 114, 97, 110, 115, 102, 111, 114, 109]), .lit (.string [118, 101, 114, 116, 105, 99, 97, 108, 45, 97, 108, 105, 103, 110]), .lit (.string [119, 104, 105, 116, 101, 45, 115, 112, 97, 99, 101]), .lit (.string [119, 105, 100, 116, 104])] []
/-- One of Go's own tables, pinned by name: the form's constant. -/
def laid_unicode_utf8_first : DataW Unit := Go.Pinned.utf8First

/-- 'muslinlaw17.CssCuts': WHATEVER THE INPUT: true; the input reads as it did. -/
def cssCutsSpec : ChangeSpec := { name := "cssCuts", fn := fun _ => fun
  | [d] => { results := [.lit (.bool true)], args := [d] }
  | _ => none }
def cssCutsRow : OpenClaim := { program := "ytollfaphadcnnaadoor", sum := "e8b216e3ae9729dcb4d8dd99ec3758b7e1521df2cceacb1650596bea956ad8da", func := "muslin/muslinlaw17.CssCuts", spec := "cssCuts", inPlace := ["internal/bytealg.IndexByteString", "internal/bytealg.IndexString", "internal/abi.NoEscape", "internal/bytealg.MakeNoZero"], unfollowed := true, recurses := true, named := ["internal/bytealg.MaxLen", "unicode/utf8.first", "unicode/utf8.acceptRanges", "muslin/css.names"], apart := false, laid := [("unicode/utf8.acceptRanges", laid_unicode_utf8_acceptRanges), ("muslin/css.names", laid_muslin_css_names), ("unicode/utf8.first", laid_unicode_utf8_first)] }
def CssCutsSaid : Prop := cssCutsRow.holds Tryd.pinned (OpenSpec.ofChange cssCutsSpec)

/-- ITS FALSE NEIGHBOUR: 'it returns false'. Refute it at one input. -/
def cssCutsWrong : ChangeSpec := { name := "cssCuts", fn := fun _ => fun
  | [d] => { results := [.lit (.bool false)], args := [d] }
  | _ => none }
def CssCutsWrongFalsely : Prop := cssCutsRow.holds Tryd.pinned (OpenSpec.ofChange cssCutsWrong)

/-- 'muslinlaw17.CssSafe': WHATEVER THE INPUT: true; the input reads as it did. -/
def cssSafeSpec : ChangeSpec := { name := "cssSafe", fn := fun _ => fun
  | [d1, d2] => { results := [.lit (.bool true)], args := [d1, d2] }
  | _ => none }
def cssSafeRow : OpenClaim := { program := "ytollfaphadcnnaadoor", sum := "e8b216e3ae9729dcb4d8dd99ec3758b7e1521df2cceacb1650596bea956ad8da", func := "muslin/muslinlaw17.CssSafe", spec := "cssSafe", inPlace := ["internal/bytealg.IndexByteString", "internal/bytealg.IndexString", "internal/abi.NoEscape", "internal/bytealg.MakeNoZero"], unfollowed := true, recurses := true, named := ["internal/bytealg.MaxLen", "unicode/utf8.first", "unicode/utf8.acceptRanges", "muslin/css.names"], apart := false, laid := [("unicode/utf8.acceptRanges", laid_unicode_utf8_acceptRanges), ("muslin/css.names", laid_muslin_css_names), ("unicode/utf8.first", laid_unicode_utf8_first)] }
def CssSafeSaid : Prop := cssSafeRow.holds Tryd.pinned (OpenSpec.ofChange cssSafeSpec)

/-- ITS FALSE NEIGHBOUR: 'it returns false'. Refute it at one input. -/
def cssSafeWrong : ChangeSpec := { name := "cssSafe", fn := fun _ => fun
  | [d1, d2] => { results := [.lit (.bool false)], args := [d1, d2] }
  | _ => none }
def CssSafeWrongFalsely : Prop := cssSafeRow.holds Tryd.pinned (OpenSpec.ofChange cssSafeWrong)

/-- 'muslinlaw17.CssStays': WHATEVER THE INPUT: true; the input reads as it did. -/
def cssStaysSpec : ChangeSpec := { name := "cssStays", fn := fun _ => fun
  | [d] => { results := [.lit (.bool true)], args := [d] }
  | _ => none }
def cssStaysRow : OpenClaim := { program := "ytollfaphadcnnaadoor", sum := "e8b216e3ae9729dcb4d8dd99ec3758b7e1521df2cceacb1650596bea956ad8da", func := "muslin/muslinlaw17.CssStays", spec := "cssStays", inPlace := ["internal/bytealg.IndexByteString", "internal/bytealg.IndexString", "internal/abi.NoEscape", "internal/bytealg.MakeNoZero"], unfollowed := true, recurses := true, named := ["internal/bytealg.MaxLen", "unicode/utf8.first", "unicode/utf8.acceptRanges", "muslin/css.names"], apart := false, laid := [("unicode/utf8.acceptRanges", laid_unicode_utf8_acceptRanges), ("muslin/css.names", laid_muslin_css_names), ("unicode/utf8.first", laid_unicode_utf8_first)] }
def CssStaysSaid : Prop := cssStaysRow.holds Tryd.pinned (OpenSpec.ofChange cssStaysSpec)

/-- ITS FALSE NEIGHBOUR: 'it returns false'. Refute it at one input. -/
def cssStaysWrong : ChangeSpec := { name := "cssStays", fn := fun _ => fun
  | [d] => { results := [.lit (.bool false)], args := [d] }
  | _ => none }
def CssStaysWrongFalsely : Prop := cssStaysRow.holds Tryd.pinned (OpenSpec.ofChange cssStaysWrong)

/-- 'muslinlaw17.CssOnce': WHATEVER THE INPUT: true; the input reads as it did. -/
def cssOnceSpec : ChangeSpec := { name := "cssOnce", fn := fun _ => fun
  | [d] => { results := [.lit (.bool true)], args := [d] }
  | _ => none }
def cssOnceRow : OpenClaim := { program := "ytollfaphadcnnaadoor", sum := "e8b216e3ae9729dcb4d8dd99ec3758b7e1521df2cceacb1650596bea956ad8da", func := "muslin/muslinlaw17.CssOnce", spec := "cssOnce", inPlace := ["internal/bytealg.IndexByteString", "internal/bytealg.IndexString", "internal/abi.NoEscape", "internal/bytealg.MakeNoZero"], unfollowed := true, recurses := true, named := ["internal/bytealg.MaxLen", "unicode/utf8.first", "unicode/utf8.acceptRanges", "muslin/css.names"], apart := false, laid := [("unicode/utf8.acceptRanges", laid_unicode_utf8_acceptRanges), ("muslin/css.names", laid_muslin_css_names), ("unicode/utf8.first", laid_unicode_utf8_first)] }
def CssOnceSaid : Prop := cssOnceRow.holds Tryd.pinned (OpenSpec.ofChange cssOnceSpec)

/-- ITS FALSE NEIGHBOUR: 'it returns false'. Refute it at one input. -/
def cssOnceWrong : ChangeSpec := { name := "cssOnce", fn := fun _ => fun
  | [d] => { results := [.lit (.bool false)], args := [d] }
  | _ => none }
def CssOnceWrongFalsely : Prop := cssOnceRow.holds Tryd.pinned (OpenSpec.ofChange cssOnceWrong)

/-- 'muslinlaw17.CssJoined': WHATEVER THE INPUT: true; the input reads as it did. -/
def cssJoinedSpec : ChangeSpec := { name := "cssJoined", fn := fun _ => fun
  | [d1, d2] => { results := [.lit (.bool true)], args := [d1, d2] }
  | _ => none }
def cssJoinedRow : OpenClaim := { program := "ytollfaphadcnnaadoor", sum := "e8b216e3ae9729dcb4d8dd99ec3758b7e1521df2cceacb1650596bea956ad8da", func := "muslin/muslinlaw17.CssJoined", spec := "cssJoined", inPlace := ["internal/bytealg.IndexByteString", "internal/bytealg.IndexString", "internal/abi.NoEscape", "internal/bytealg.MakeNoZero"], unfollowed := true, recurses := true, named := ["internal/bytealg.MaxLen", "unicode/utf8.first", "unicode/utf8.acceptRanges", "muslin/css.names"], apart := false, laid := [("unicode/utf8.acceptRanges", laid_unicode_utf8_acceptRanges), ("muslin/css.names", laid_muslin_css_names), ("unicode/utf8.first", laid_unicode_utf8_first)] }
def CssJoinedSaid : Prop := cssJoinedRow.holds Tryd.pinned (OpenSpec.ofChange cssJoinedSpec)

/-- ITS FALSE NEIGHBOUR: 'it returns false'. Refute it at one input. -/
def cssJoinedWrong : ChangeSpec := { name := "cssJoined", fn := fun _ => fun
  | [d1, d2] => { results := [.lit (.bool false)], args := [d1, d2] }
  | _ => none }
def CssJoinedWrongFalsely : Prop := cssJoinedRow.holds Tryd.pinned (OpenSpec.ofChange cssJoinedWrong)

/-- 'muslinlaw17.CssOne': WHATEVER THE INPUT: true; the input reads as it did. -/
def cssOneSpec : ChangeSpec := { name := "cssOne", fn := fun _ => fun
  | [d1, d2, d3] => { results := [.lit (.bool true)], args := [d1, d2, d3] }
  | _ => none }
def cssOneRow : OpenClaim := { program := "ytollfaphadcnnaadoor", sum := "e8b216e3ae9729dcb4d8dd99ec3758b7e1521df2cceacb1650596bea956ad8da", func := "muslin/muslinlaw17.CssOne", spec := "cssOne", inPlace := ["internal/bytealg.IndexByteString", "internal/bytealg.IndexString", "internal/abi.NoEscape", "internal/bytealg.MakeNoZero"], unfollowed := true, recurses := true, named := ["muslin/css.names", "unicode/utf8.first", "unicode/utf8.acceptRanges", "internal/bytealg.MaxLen"], apart := false, laid := [("unicode/utf8.acceptRanges", laid_unicode_utf8_acceptRanges), ("muslin/css.names", laid_muslin_css_names), ("unicode/utf8.first", laid_unicode_utf8_first)] }
def CssOneSaid : Prop := cssOneRow.holds Tryd.pinned (OpenSpec.ofChange cssOneSpec)

/-- ITS FALSE NEIGHBOUR: 'it returns false'. Refute it at one input. -/
def cssOneWrong : ChangeSpec := { name := "cssOne", fn := fun _ => fun
  | [d1, d2, d3] => { results := [.lit (.bool false)], args := [d1, d2, d3] }
  | _ => none }
def CssOneWrongFalsely : Prop := cssOneRow.holds Tryd.pinned (OpenSpec.ofChange cssOneWrong)

/- THE SECOND FORM. 'bulk': how many values and letters a reading holds, each counted each time it is reached (what is shared counts as often as it is met; a slice's spare places count too). A statement '..UptoSaid' is the law's where the arguments, and the package variables that the reading takes, are together of bulk at most 1048576: NARROWER than '..Said'. Prove '..Said' where nothing that the law and all that it calls make is longer than what came in: it says more and counts as full. Else prove '..UptoSaid'. A law counts once. -/
mutual
def uptoBulk {H : Type} : DataW H → Nat
  | .lit (.string bytes) => bytes.length + 1
  | .lit _ => 1
  | .nil => 1
  | .ptr d => uptoBulk d + 1
  | .slice elems spare => uptoBulkAll elems + uptoBulkAll spare + 1
  | .agg parts => uptoBulkAll parts + 1
  | .iface _ d => uptoBulk d + 1
  | .map entries => uptoBulkEntries entries + 1
  | .held _ => 1
def uptoBulkAll {H : Type} : List (DataW H) → Nat
  | [] => 0
  | d :: r => uptoBulk d + uptoBulkAll r
def uptoBulkEntries {H : Type} : List (Lit × DataW H) → Nat
  | [] => 0
  | x :: r => uptoBulkEntry x + uptoBulkEntries r
def uptoBulkEntry {H : Type} : Lit × DataW H → Nat
  | (.string bytes, d) => bytes.length + uptoBulk d + 1
  | (_, d) => uptoBulk d + 1
 end
def uptoSmall : (H : Type) → List (DataW H) → Bool := fun _ ds => decide (uptoBulkAll ds ≤ 1048576)
def OpenSpec.upto (s : _root_.Go.ChangeSpec) : _root_.Go.OpenSpec := { _root_.Go.OpenSpec.ofChange s with cond := some uptoSmall }

/-- 'muslinlaw17.CssCuts', WHERE WHAT IT READS IS OF BULK AT MOST 1048576: true; the input reads as it did. -/
def cssCutsUptoRow : OpenClaim := { program := "ytollfaphadcnnaadoor", sum := "e8b216e3ae9729dcb4d8dd99ec3758b7e1521df2cceacb1650596bea956ad8da", func := "muslin/muslinlaw17.CssCuts", spec := "cssCuts", inPlace := ["internal/bytealg.IndexByteString", "internal/bytealg.IndexString", "internal/abi.NoEscape", "internal/bytealg.MakeNoZero"], unfollowed := true, recurses := true, named := ["internal/bytealg.MaxLen", "unicode/utf8.first", "unicode/utf8.acceptRanges", "muslin/css.names"], apart := false, laid := [("unicode/utf8.acceptRanges", laid_unicode_utf8_acceptRanges), ("muslin/css.names", laid_muslin_css_names), ("unicode/utf8.first", laid_unicode_utf8_first)], narrowed := true }
def CssCutsUptoSaid : Prop := cssCutsUptoRow.holds Tryd.pinned (OpenSpec.upto cssCutsSpec)

/-- 'muslinlaw17.CssSafe', WHERE WHAT IT READS IS OF BULK AT MOST 1048576: true; the input reads as it did. -/
def cssSafeUptoRow : OpenClaim := { program := "ytollfaphadcnnaadoor", sum := "e8b216e3ae9729dcb4d8dd99ec3758b7e1521df2cceacb1650596bea956ad8da", func := "muslin/muslinlaw17.CssSafe", spec := "cssSafe", inPlace := ["internal/bytealg.IndexByteString", "internal/bytealg.IndexString", "internal/abi.NoEscape", "internal/bytealg.MakeNoZero"], unfollowed := true, recurses := true, named := ["internal/bytealg.MaxLen", "unicode/utf8.first", "unicode/utf8.acceptRanges", "muslin/css.names"], apart := false, laid := [("unicode/utf8.acceptRanges", laid_unicode_utf8_acceptRanges), ("muslin/css.names", laid_muslin_css_names), ("unicode/utf8.first", laid_unicode_utf8_first)], narrowed := true }
def CssSafeUptoSaid : Prop := cssSafeUptoRow.holds Tryd.pinned (OpenSpec.upto cssSafeSpec)

/-- 'muslinlaw17.CssStays', WHERE WHAT IT READS IS OF BULK AT MOST 1048576: true; the input reads as it did. -/
def cssStaysUptoRow : OpenClaim := { program := "ytollfaphadcnnaadoor", sum := "e8b216e3ae9729dcb4d8dd99ec3758b7e1521df2cceacb1650596bea956ad8da", func := "muslin/muslinlaw17.CssStays", spec := "cssStays", inPlace := ["internal/bytealg.IndexByteString", "internal/bytealg.IndexString", "internal/abi.NoEscape", "internal/bytealg.MakeNoZero"], unfollowed := true, recurses := true, named := ["internal/bytealg.MaxLen", "unicode/utf8.first", "unicode/utf8.acceptRanges", "muslin/css.names"], apart := false, laid := [("unicode/utf8.acceptRanges", laid_unicode_utf8_acceptRanges), ("muslin/css.names", laid_muslin_css_names), ("unicode/utf8.first", laid_unicode_utf8_first)], narrowed := true }
def CssStaysUptoSaid : Prop := cssStaysUptoRow.holds Tryd.pinned (OpenSpec.upto cssStaysSpec)

/-- 'muslinlaw17.CssOnce', WHERE WHAT IT READS IS OF BULK AT MOST 1048576: true; the input reads as it did. -/
def cssOnceUptoRow : OpenClaim := { program := "ytollfaphadcnnaadoor", sum := "e8b216e3ae9729dcb4d8dd99ec3758b7e1521df2cceacb1650596bea956ad8da", func := "muslin/muslinlaw17.CssOnce", spec := "cssOnce", inPlace := ["internal/bytealg.IndexByteString", "internal/bytealg.IndexString", "internal/abi.NoEscape", "internal/bytealg.MakeNoZero"], unfollowed := true, recurses := true, named := ["internal/bytealg.MaxLen", "unicode/utf8.first", "unicode/utf8.acceptRanges", "muslin/css.names"], apart := false, laid := [("unicode/utf8.acceptRanges", laid_unicode_utf8_acceptRanges), ("muslin/css.names", laid_muslin_css_names), ("unicode/utf8.first", laid_unicode_utf8_first)], narrowed := true }
def CssOnceUptoSaid : Prop := cssOnceUptoRow.holds Tryd.pinned (OpenSpec.upto cssOnceSpec)

/-- 'muslinlaw17.CssJoined', WHERE WHAT IT READS IS OF BULK AT MOST 1048576: true; the input reads as it did. -/
def cssJoinedUptoRow : OpenClaim := { program := "ytollfaphadcnnaadoor", sum := "e8b216e3ae9729dcb4d8dd99ec3758b7e1521df2cceacb1650596bea956ad8da", func := "muslin/muslinlaw17.CssJoined", spec := "cssJoined", inPlace := ["internal/bytealg.IndexByteString", "internal/bytealg.IndexString", "internal/abi.NoEscape", "internal/bytealg.MakeNoZero"], unfollowed := true, recurses := true, named := ["internal/bytealg.MaxLen", "unicode/utf8.first", "unicode/utf8.acceptRanges", "muslin/css.names"], apart := false, laid := [("unicode/utf8.acceptRanges", laid_unicode_utf8_acceptRanges), ("muslin/css.names", laid_muslin_css_names), ("unicode/utf8.first", laid_unicode_utf8_first)], narrowed := true }
def CssJoinedUptoSaid : Prop := cssJoinedUptoRow.holds Tryd.pinned (OpenSpec.upto cssJoinedSpec)

/-- 'muslinlaw17.CssOne', WHERE WHAT IT READS IS OF BULK AT MOST 1048576: true; the input reads as it did. -/
def cssOneUptoRow : OpenClaim := { program := "ytollfaphadcnnaadoor", sum := "e8b216e3ae9729dcb4d8dd99ec3758b7e1521df2cceacb1650596bea956ad8da", func := "muslin/muslinlaw17.CssOne", spec := "cssOne", inPlace := ["internal/bytealg.IndexByteString", "internal/bytealg.IndexString", "internal/abi.NoEscape", "internal/bytealg.MakeNoZero"], unfollowed := true, recurses := true, named := ["muslin/css.names", "unicode/utf8.first", "unicode/utf8.acceptRanges", "internal/bytealg.MaxLen"], apart := false, laid := [("unicode/utf8.acceptRanges", laid_unicode_utf8_acceptRanges), ("muslin/css.names", laid_muslin_css_names), ("unicode/utf8.first", laid_unicode_utf8_first)], narrowed := true }
def CssOneUptoSaid : Prop := cssOneUptoRow.holds Tryd.pinned (OpenSpec.upto cssOneSpec)

end Rows
end Go.Proofs.YtollfaphadcnnaaDoor

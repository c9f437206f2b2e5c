/-
  NARROWER THAN 'FOR EVERY INPUT', by the rows' own cells (each row's printed sentence says how): FoldAny: loops, laid · FoldBack: loops, laid · FoldOnce: loops, laid · FoldKeeps: loops, laid · FoldMore: loops, laid.
  DERIVED. THE GIVEN ROWS OF THIS SEAT. 5 by the template 'for every input the law returns true; each argument reads behind the call as it read before'; 0 by the template 'total and deterministic' (their statements: YtdgdilbbpnlplaaDoorTotals.lean).
  GIVEN WITH THE SEED: the statements are not yours to turn. If you find one false, say at which input.
  Laid BY PROGRAM, IN A SANDBOX (cutbox-rows.mjs): the forced cells as the released guide's own fill.sh prints them over the translation a1149cb08624fe99… (all of the seat's roots in one cut). By AI agents, Wed Nov 11 2026. No macro, syntax, notation, axiom, sorry.
-/
import Derived.Test.YtdgdilbbpnlplaaDoorChecked
import GoSem.PinnedTables
import GoSem.Claim
import GoSem.ClaimJoined
import GoSem.ClaimMapViews
import Derived.JoinedTies
import Derived.KernelRfl
namespace Go.Proofs.YtdgdilbbpnlplaaDoor
/- THE CELL 'sum', in the pinned program and in every row, IS THE sha256 OF THE DUMP (.gsa) THAT YtdgdilbbpnlplaaDoorProg.lean LOADS. Nothing in Lean hashes anything: it is a label: what it is worth is what the hold of that sum in a sandbox is worth. -/
noncomputable def Tryd.pinned : Pinned := { name := "ytdgdilbbpnlplaadoor", sum := "a1149cb08624fe99dac4c9d2632ecf58c7abfc04afcebdb3590ad66607ecc8e5", checked := Tryd.checked }
namespace Rows
def none {H : Type} : Left H := { results := [], args := [] }

/- WHAT THE LISTED PACKAGE-LEVEL VARIABLES READ AS WHEN THE CALL BEGINS. Each datum BY PROGRAM (the guide's laid-datum.mjs) off the statement by which the dump's own 'gosem.cut.vars' lays the variable. In a bare row this is a premise. The card (YtdgdilbbpnlplaaDoorCards.lean) ties it to the program's text. -/
def laid_unicode_utf8_acceptRanges {H : Type} : DataW H := .agg [.agg [.lit (.int .u8 128), .lit (.int .u8 191)], .agg [.lit (.int .u8 160), .lit (.int .u8 191)], .agg [.lit (.int .u8 128), .lit (.int .u8 159)], .agg [.lit (.int .u8 144), .lit (.int .u8 191)], .agg [.lit (.int .u8 128), .lit (.int .u8 143)], .agg [.lit (.int .u8 0), .lit (.int .u8 0)], .agg [.lit (.int .u8 0), .lit (.int .u8 0)], .agg [.lit (.int .u8 0), .lit (.int .u8 0)], .agg [.lit (.int .u8 0), .lit (.int .u8 0)], .agg [.lit (.int .u8 0), .lit (.int .u8 0)], .agg [.lit (.int .u8 0), .lit (.int .u8 0)], .agg [.lit (.int .u8 0), .lit (.int .u8 0)], .agg [.lit (.int .u8 0), .lit (.int .u8 0)], .agg [.lit (.int .u8 0), .lit (.int .u8 0)], .agg [.lit (.int .u8 0), .lit (.int .u8 0)], .agg [.lit (.int .u8 0), .lit (.int .u8 0)]]
def laid_muslin_fold_mark {H : Type} : DataW H := .agg [.lit (.string [116, 105, 116, 108, 101]), .lit (.string [113, 117, 111, 116, 101, 100])]
/-- One of Go's own tables, pinned by name: the form's constant. -/
def laid_unicode_utf8_first : DataW Unit := Go.Pinned.utf8First

/-- 'muslinlaw21.FoldAny': WHATEVER THE INPUT: true; the input reads as it did. -/
def foldAnySpec : ChangeSpec := { name := "foldAny", fn := fun _ => fun
  | [d] => { results := [.lit (.bool true)], args := [d] }
  | _ => none }
def foldAnyRow : OpenClaim := { program := "ytdgdilbbpnlplaadoor", sum := "a1149cb08624fe99dac4c9d2632ecf58c7abfc04afcebdb3590ad66607ecc8e5", func := "muslin/muslinlaw21.FoldAny", spec := "foldAny", inPlace := ["internal/bytealg.CountString", "internal/bytealg.IndexByteString", "internal/bytealg.IndexString", "internal/abi.NoEscape", "internal/bytealg.MakeNoZero"], unfollowed := true, recurses := true, named := ["internal/bytealg.MaxLen", "unicode/utf8.first", "unicode/utf8.acceptRanges", "muslin/fold.mark"], loops := true, apart := false, laid := [("unicode/utf8.acceptRanges", laid_unicode_utf8_acceptRanges), ("muslin/fold.mark", laid_muslin_fold_mark), ("unicode/utf8.first", laid_unicode_utf8_first)] }
def FoldAnySaid : Prop := foldAnyRow.holds Tryd.pinned (OpenSpec.ofChange foldAnySpec)

/-- ITS FALSE NEIGHBOUR: 'it returns false'. Refute it at one input. -/
def foldAnyWrong : ChangeSpec := { name := "foldAny", fn := fun _ => fun
  | [d] => { results := [.lit (.bool false)], args := [d] }
  | _ => none }
def FoldAnyWrongFalsely : Prop := foldAnyRow.holds Tryd.pinned (OpenSpec.ofChange foldAnyWrong)

/-- 'muslinlaw21.FoldBack': WHATEVER THE INPUT: true; the input reads as it did. -/
def foldBackSpec : ChangeSpec := { name := "foldBack", fn := fun _ => fun
  | [d] => { results := [.lit (.bool true)], args := [d] }
  | _ => none }
def foldBackRow : OpenClaim := { program := "ytdgdilbbpnlplaadoor", sum := "a1149cb08624fe99dac4c9d2632ecf58c7abfc04afcebdb3590ad66607ecc8e5", func := "muslin/muslinlaw21.FoldBack", spec := "foldBack", inPlace := ["internal/bytealg.CountString", "internal/bytealg.IndexByteString", "internal/bytealg.IndexString", "internal/abi.NoEscape", "internal/bytealg.MakeNoZero"], unfollowed := true, recurses := true, named := ["internal/bytealg.MaxLen", "unicode/utf8.first", "unicode/utf8.acceptRanges", "muslin/fold.mark"], loops := true, apart := false, laid := [("unicode/utf8.acceptRanges", laid_unicode_utf8_acceptRanges), ("muslin/fold.mark", laid_muslin_fold_mark), ("unicode/utf8.first", laid_unicode_utf8_first)] }
def FoldBackSaid : Prop := foldBackRow.holds Tryd.pinned (OpenSpec.ofChange foldBackSpec)

/-- ITS FALSE NEIGHBOUR: 'it returns false'. Refute it at one input. -/
def foldBackWrong : ChangeSpec := { name := "foldBack", fn := fun _ => fun
  | [d] => { results := [.lit (.bool false)], args := [d] }
  | _ => none }
def FoldBackWrongFalsely : Prop := foldBackRow.holds Tryd.pinned (OpenSpec.ofChange foldBackWrong)

/-- 'muslinlaw21.FoldOnce': WHATEVER THE INPUT: true; the input reads as it did. -/
def foldOnceSpec : ChangeSpec := { name := "foldOnce", fn := fun _ => fun
  | [d] => { results := [.lit (.bool true)], args := [d] }
  | _ => none }
def foldOnceRow : OpenClaim := { program := "ytdgdilbbpnlplaadoor", sum := "a1149cb08624fe99dac4c9d2632ecf58c7abfc04afcebdb3590ad66607ecc8e5", func := "muslin/muslinlaw21.FoldOnce", spec := "foldOnce", inPlace := ["internal/bytealg.CountString", "internal/bytealg.IndexByteString", "internal/bytealg.IndexString", "internal/abi.NoEscape", "internal/bytealg.MakeNoZero"], unfollowed := true, recurses := true, named := ["internal/bytealg.MaxLen", "unicode/utf8.first", "unicode/utf8.acceptRanges", "muslin/fold.mark"], loops := true, apart := false, laid := [("unicode/utf8.acceptRanges", laid_unicode_utf8_acceptRanges), ("muslin/fold.mark", laid_muslin_fold_mark), ("unicode/utf8.first", laid_unicode_utf8_first)] }
def FoldOnceSaid : Prop := foldOnceRow.holds Tryd.pinned (OpenSpec.ofChange foldOnceSpec)

/-- ITS FALSE NEIGHBOUR: 'it returns false'. Refute it at one input. -/
def foldOnceWrong : ChangeSpec := { name := "foldOnce", fn := fun _ => fun
  | [d] => { results := [.lit (.bool false)], args := [d] }
  | _ => none }
def FoldOnceWrongFalsely : Prop := foldOnceRow.holds Tryd.pinned (OpenSpec.ofChange foldOnceWrong)

/-- 'muslinlaw21.FoldKeeps': WHATEVER THE INPUT: true; the input reads as it did. -/
def foldKeepsSpec : ChangeSpec := { name := "foldKeeps", fn := fun _ => fun
  | [d] => { results := [.lit (.bool true)], args := [d] }
  | _ => none }
def foldKeepsRow : OpenClaim := { program := "ytdgdilbbpnlplaadoor", sum := "a1149cb08624fe99dac4c9d2632ecf58c7abfc04afcebdb3590ad66607ecc8e5", func := "muslin/muslinlaw21.FoldKeeps", spec := "foldKeeps", inPlace := ["internal/bytealg.CountString", "internal/bytealg.IndexByteString", "internal/bytealg.IndexString", "internal/abi.NoEscape", "internal/bytealg.MakeNoZero"], unfollowed := true, recurses := true, named := ["internal/bytealg.MaxLen", "unicode/utf8.first", "unicode/utf8.acceptRanges", "muslin/fold.mark"], loops := true, apart := false, laid := [("unicode/utf8.acceptRanges", laid_unicode_utf8_acceptRanges), ("muslin/fold.mark", laid_muslin_fold_mark), ("unicode/utf8.first", laid_unicode_utf8_first)] }
def FoldKeepsSaid : Prop := foldKeepsRow.holds Tryd.pinned (OpenSpec.ofChange foldKeepsSpec)

/-- ITS FALSE NEIGHBOUR: 'it returns false'. Refute it at one input. -/
def foldKeepsWrong : ChangeSpec := { name := "foldKeeps", fn := fun _ => fun
  | [d] => { results := [.lit (.bool false)], args := [d] }
  | _ => none }
def FoldKeepsWrongFalsely : Prop := foldKeepsRow.holds Tryd.pinned (OpenSpec.ofChange foldKeepsWrong)

/-- 'muslinlaw21.FoldMore': WHATEVER THE INPUT: true; the input reads as it did. -/
def foldMoreSpec : ChangeSpec := { name := "foldMore", fn := fun _ => fun
  | [d] => { results := [.lit (.bool true)], args := [d] }
  | _ => none }
def foldMoreRow : OpenClaim := { program := "ytdgdilbbpnlplaadoor", sum := "a1149cb08624fe99dac4c9d2632ecf58c7abfc04afcebdb3590ad66607ecc8e5", func := "muslin/muslinlaw21.FoldMore", spec := "foldMore", inPlace := ["internal/bytealg.CountString", "internal/bytealg.IndexByteString", "internal/bytealg.IndexString", "internal/abi.NoEscape", "internal/bytealg.MakeNoZero"], unfollowed := true, recurses := true, named := ["internal/bytealg.MaxLen", "unicode/utf8.first", "unicode/utf8.acceptRanges", "muslin/fold.mark"], loops := true, apart := false, laid := [("unicode/utf8.acceptRanges", laid_unicode_utf8_acceptRanges), ("muslin/fold.mark", laid_muslin_fold_mark), ("unicode/utf8.first", laid_unicode_utf8_first)] }
def FoldMoreSaid : Prop := foldMoreRow.holds Tryd.pinned (OpenSpec.ofChange foldMoreSpec)

/-- ITS FALSE NEIGHBOUR: 'it returns false'. Refute it at one input. -/
def foldMoreWrong : ChangeSpec := { name := "foldMore", fn := fun _ => fun
  | [d] => { results := [.lit (.bool false)], args := [d] }
  | _ => none }
def FoldMoreWrongFalsely : Prop := foldMoreRow.holds Tryd.pinned (OpenSpec.ofChange foldMoreWrong)

/- THE SECOND FORM. 'bulk': how many values and letters a reading holds, each counted each time it is reached (what is shared counts as often as it is met; a slice's spare places count too). A statement '..UptoSaid' is the law's where the arguments, and the package variables that the reading takes, are together of bulk at most 1048576: NARROWER than '..Said'. Prove '..Said' where nothing that the law and all that it calls make is longer than what came in: it says more and counts as full. Else prove '..UptoSaid'. A law counts once. -/
mutual
def uptoBulk {H : Type} : DataW H → Nat
  | .lit (.string bytes) => bytes.length + 1
  | .lit _ => 1
  | .nil => 1
  | .ptr d => uptoBulk d + 1
  | .slice elems spare => uptoBulkAll elems + uptoBulkAll spare + 1
  | .agg parts => uptoBulkAll parts + 1
  | .iface _ d => uptoBulk d + 1
  | .map entries => uptoBulkEntries entries + 1
  | .held _ => 1
def uptoBulkAll {H : Type} : List (DataW H) → Nat
  | [] => 0
  | d :: r => uptoBulk d + uptoBulkAll r
def uptoBulkEntries {H : Type} : List (Lit × DataW H) → Nat
  | [] => 0
  | x :: r => uptoBulkEntry x + uptoBulkEntries r
def uptoBulkEntry {H : Type} : Lit × DataW H → Nat
  | (.string bytes, d) => bytes.length + uptoBulk d + 1
  | (_, d) => uptoBulk d + 1
 end
def uptoSmall : (H : Type) → List (DataW H) → Bool := fun _ ds => decide (uptoBulkAll ds ≤ 1048576)
def OpenSpec.upto (s : _root_.Go.ChangeSpec) : _root_.Go.OpenSpec := { _root_.Go.OpenSpec.ofChange s with cond := some uptoSmall }

/-- 'muslinlaw21.FoldAny', WHERE WHAT IT READS IS OF BULK AT MOST 1048576: true; the input reads as it did. -/
def foldAnyUptoRow : OpenClaim := { program := "ytdgdilbbpnlplaadoor", sum := "a1149cb08624fe99dac4c9d2632ecf58c7abfc04afcebdb3590ad66607ecc8e5", func := "muslin/muslinlaw21.FoldAny", spec := "foldAny", inPlace := ["internal/bytealg.CountString", "internal/bytealg.IndexByteString", "internal/bytealg.IndexString", "internal/abi.NoEscape", "internal/bytealg.MakeNoZero"], unfollowed := true, recurses := true, named := ["internal/bytealg.MaxLen", "unicode/utf8.first", "unicode/utf8.acceptRanges", "muslin/fold.mark"], loops := true, apart := false, laid := [("unicode/utf8.acceptRanges", laid_unicode_utf8_acceptRanges), ("muslin/fold.mark", laid_muslin_fold_mark), ("unicode/utf8.first", laid_unicode_utf8_first)], narrowed := true }
def FoldAnyUptoSaid : Prop := foldAnyUptoRow.holds Tryd.pinned (OpenSpec.upto foldAnySpec)

/-- 'muslinlaw21.FoldBack', WHERE WHAT IT READS IS OF BULK AT MOST 1048576: true; the input reads as it did. -/
def foldBackUptoRow : OpenClaim := { program := "ytdgdilbbpnlplaadoor", sum := "a1149cb08624fe99dac4c9d2632ecf58c7abfc04afcebdb3590ad66607ecc8e5", func := "muslin/muslinlaw21.FoldBack", spec := "foldBack", inPlace := ["internal/bytealg.CountString", "internal/bytealg.IndexByteString", "internal/bytealg.IndexString", "internal/abi.NoEscape", "internal/bytealg.MakeNoZero"], unfollowed := true, recurses := true, named := ["internal/bytealg.MaxLen", "unicode/utf8.first", "unicode/utf8.acceptRanges", "muslin/fold.mark"], loops := true, apart := false, laid := [("unicode/utf8.acceptRanges", laid_unicode_utf8_acceptRanges), ("muslin/fold.mark", laid_muslin_fold_mark), ("unicode/utf8.first", laid_unicode_utf8_first)], narrowed := true }
def FoldBackUptoSaid : Prop := foldBackUptoRow.holds Tryd.pinned (OpenSpec.upto foldBackSpec)

/-- 'muslinlaw21.FoldOnce', WHERE WHAT IT READS IS OF BULK AT MOST 1048576: true; the input reads as it did. -/
def foldOnceUptoRow : OpenClaim := { program := "ytdgdilbbpnlplaadoor", sum := "a1149cb08624fe99dac4c9d2632ecf58c7abfc04afcebdb3590ad66607ecc8e5", func := "muslin/muslinlaw21.FoldOnce", spec := "foldOnce", inPlace := ["internal/bytealg.CountString", "internal/bytealg.IndexByteString", "internal/bytealg.IndexString", "internal/abi.NoEscape", "internal/bytealg.MakeNoZero"], unfollowed := true, recurses := true, named := ["internal/bytealg.MaxLen", "unicode/utf8.first", "unicode/utf8.acceptRanges", "muslin/fold.mark"], loops := true, apart := false, laid := [("unicode/utf8.acceptRanges", laid_unicode_utf8_acceptRanges), ("muslin/fold.mark", laid_muslin_fold_mark), ("unicode/utf8.first", laid_unicode_utf8_first)], narrowed := true }
def FoldOnceUptoSaid : Prop := foldOnceUptoRow.holds Tryd.pinned (OpenSpec.upto foldOnceSpec)

/-- 'muslinlaw21.FoldKeeps', WHERE WHAT IT READS IS OF BULK AT MOST 1048576: true; the input reads as it did. -/
def foldKeepsUptoRow : OpenClaim := { program := "ytdgdilbbpnlplaadoor", sum := "a1149cb08624fe99dac4c9d2632ecf58c7abfc04afcebdb3590ad66607ecc8e5", func := "muslin/muslinlaw21.FoldKeeps", spec := "foldKeeps", inPlace := ["internal/bytealg.CountString", "internal/bytealg.IndexByteString", "internal/bytealg.IndexString", "internal/abi.NoEscape", "internal/bytealg.MakeNoZero"], unfollowed := true, recurses := true, named := ["internal/bytealg.MaxLen", "unicode/utf8.first", "unicode/utf8.acceptRanges", "muslin/fold.mark"], loops := true, apart := false, laid := [("unicode/utf8.acceptRanges", laid_unicode_utf8_acceptRanges), ("muslin/fold.mark", laid_muslin_fold_mark), ("unicode/utf8.first", laid_unicode_utf8_first)], narrowed := true }
def FoldKeepsUptoSaid : Prop := foldKeepsUptoRow.holds Tryd.pinned (OpenSpec.upto foldKeepsSpec)

/-- 'muslinlaw21.FoldMore', WHERE WHAT IT READS IS OF BULK AT MOST 1048576: true; the input reads as it did. -/
def foldMoreUptoRow : OpenClaim := { program := "ytdgdilbbpnlplaadoor", sum := "a1149cb08624fe99dac4c9d2632ecf58c7abfc04afcebdb3590ad66607ecc8e5", func := "muslin/muslinlaw21.FoldMore", spec := "foldMore", inPlace := ["internal/bytealg.CountString", "internal/bytealg.IndexByteString", "internal/bytealg.IndexString", "internal/abi.NoEscape", "internal/bytealg.MakeNoZero"], unfollowed := true, recurses := true, named := ["internal/bytealg.MaxLen", "unicode/utf8.first", "unicode/utf8.acceptRanges", "muslin/fold.mark"], loops := true, apart := false, laid := [("unicode/utf8.acceptRanges", laid_unicode_utf8_acceptRanges), ("muslin/fold.mark", laid_muslin_fold_mark), ("unicode/utf8.first", laid_unicode_utf8_first)], narrowed := true }
def FoldMoreUptoSaid : Prop := foldMoreUptoRow.holds Tryd.pinned (OpenSpec.upto foldMoreSpec)

end Rows
end Go.Proofs.YtdgdilbbpnlplaaDoor

/-
  NARROWER THAN 'FOR EVERY INPUT', by the rows' own cells (each row's printed sentence says how): PlainTexts: loops.
  DERIVED. THE GIVEN ROWS OF THIS SEAT. 6 by the template 'for every input the law returns true; each argument reads behind the call as it read before'; 0 by the template 'total and deterministic' (their statements: YthnbhcmekkadeaaTotals.lean).
  GIVEN WITH THE SEED: the statements are not yours to turn. If you find one false, say at which input.
  Laid BY PROGRAM, IN A SANDBOX (cutbox-rows.mjs): the forced cells as the released guide's own fill.sh prints them over the translation 92891db74111dc3e… (all of the seat's roots in one cut). By AI agents, Wed Nov 11 2026. No macro, syntax, notation, axiom, sorry.
-/
import Derived.Test.YthnbhcmekkadeaaChecked
import GoSem.Claim
import GoSem.ClaimJoined
import GoSem.ClaimMapViews
import Derived.JoinedTies
import Derived.KernelRfl
namespace Go.Proofs.Ythnbhcmekkadeaa
/- THE CELL 'sum', in the pinned program and in every row, IS THE sha256 OF THE DUMP (.gsa) THAT YthnbhcmekkadeaaProg.lean LOADS. Nothing in Lean hashes anything: it is a label: what it is worth is what the hold of that sum in a sandbox is worth. -/
noncomputable def Try.pinned : Pinned := { name := "ythnbhcmekkadeaa", sum := "92891db74111dc3e7933b9cb190a2ea572c1e5d841149171b2a2d16b0245f2ec", checked := Try.checked }
namespace Rows
def none {H : Type} : Left H := { results := [], args := [] }

/-- 'muslinlaw20.PlainTrees': WHATEVER THE INPUT: true; the input reads as it did. -/
def plainTreesSpec : ChangeSpec := { name := "plainTrees", fn := fun _ => fun
  | [d] => { results := [.lit (.bool true)], args := [d] }
  | _ => none }
def plainTreesRow : OpenClaim := { program := "ythnbhcmekkadeaa", sum := "92891db74111dc3e7933b9cb190a2ea572c1e5d841149171b2a2d16b0245f2ec", func := "muslin/muslinlaw20.PlainTrees", spec := "plainTrees", inPlace := ["internal/bytealg.IndexByteString", "internal/bytealg.IndexString"], unfollowed := true, recurses := true, named := ["internal/bytealg.MaxLen"], apart := false }
def PlainTreesSaid : Prop := plainTreesRow.holds Try.pinned (OpenSpec.ofChange plainTreesSpec)

/-- ITS FALSE NEIGHBOUR: 'it returns false'. Refute it at one input. -/
def plainTreesWrong : ChangeSpec := { name := "plainTrees", fn := fun _ => fun
  | [d] => { results := [.lit (.bool false)], args := [d] }
  | _ => none }
def PlainTreesWrongFalsely : Prop := plainTreesRow.holds Try.pinned (OpenSpec.ofChange plainTreesWrong)

/-- 'muslinlaw20.PlainTexts': WHATEVER THE INPUT: true; the input reads as it did. -/
def plainTextsSpec : ChangeSpec := { name := "plainTexts", fn := fun _ => fun
  | [d] => { results := [.lit (.bool true)], args := [d] }
  | _ => none }
def plainTextsRow : OpenClaim := { program := "ythnbhcmekkadeaa", sum := "92891db74111dc3e7933b9cb190a2ea572c1e5d841149171b2a2d16b0245f2ec", func := "muslin/muslinlaw20.PlainTexts", spec := "plainTexts", inPlace := ["internal/bytealg.IndexByteString", "internal/bytealg.IndexString"], unfollowed := true, recurses := true, named := ["internal/bytealg.MaxLen"], loops := true, apart := false }
def PlainTextsSaid : Prop := plainTextsRow.holds Try.pinned (OpenSpec.ofChange plainTextsSpec)

/-- ITS FALSE NEIGHBOUR: 'it returns false'. Refute it at one input. -/
def plainTextsWrong : ChangeSpec := { name := "plainTexts", fn := fun _ => fun
  | [d] => { results := [.lit (.bool false)], args := [d] }
  | _ => none }
def PlainTextsWrongFalsely : Prop := plainTextsRow.holds Try.pinned (OpenSpec.ofChange plainTextsWrong)

/-- 'muslinlaw20.PlainBack': WHATEVER THE INPUT: true; the input reads as it did. -/
def plainBackSpec : ChangeSpec := { name := "plainBack", fn := fun _ => fun
  | [d] => { results := [.lit (.bool true)], args := [d] }
  | _ => none }
def plainBackRow : OpenClaim := { program := "ythnbhcmekkadeaa", sum := "92891db74111dc3e7933b9cb190a2ea572c1e5d841149171b2a2d16b0245f2ec", func := "muslin/muslinlaw20.PlainBack", spec := "plainBack", inPlace := ["internal/bytealg.IndexByteString", "internal/bytealg.IndexString"], unfollowed := true, recurses := true, named := ["internal/bytealg.MaxLen"], apart := false }
def PlainBackSaid : Prop := plainBackRow.holds Try.pinned (OpenSpec.ofChange plainBackSpec)

/-- ITS FALSE NEIGHBOUR: 'it returns false'. Refute it at one input. -/
def plainBackWrong : ChangeSpec := { name := "plainBack", fn := fun _ => fun
  | [d] => { results := [.lit (.bool false)], args := [d] }
  | _ => none }
def PlainBackWrongFalsely : Prop := plainBackRow.holds Try.pinned (OpenSpec.ofChange plainBackWrong)

/-- 'muslinlaw20.PlainLevels': WHATEVER THE INPUT: true; the input reads as it did. -/
def plainLevelsSpec : ChangeSpec := { name := "plainLevels", fn := fun _ => fun
  | [d1, d2] => { results := [.lit (.bool true)], args := [d1, d2] }
  | _ => none }
def plainLevelsRow : OpenClaim := { program := "ythnbhcmekkadeaa", sum := "92891db74111dc3e7933b9cb190a2ea572c1e5d841149171b2a2d16b0245f2ec", func := "muslin/muslinlaw20.PlainLevels", spec := "plainLevels", inPlace := ["internal/bytealg.IndexByteString", "internal/bytealg.IndexString"], unfollowed := true, recurses := true, named := ["internal/bytealg.MaxLen"], apart := false }
def PlainLevelsSaid : Prop := plainLevelsRow.holds Try.pinned (OpenSpec.ofChange plainLevelsSpec)

/-- ITS FALSE NEIGHBOUR: 'it returns false'. Refute it at one input. -/
def plainLevelsWrong : ChangeSpec := { name := "plainLevels", fn := fun _ => fun
  | [d1, d2] => { results := [.lit (.bool false)], args := [d1, d2] }
  | _ => none }
def PlainLevelsWrongFalsely : Prop := plainLevelsRow.holds Try.pinned (OpenSpec.ofChange plainLevelsWrong)

/-- 'muslinlaw20.PlainQuoted': WHATEVER THE INPUT: true; the input reads as it did. -/
def plainQuotedSpec : ChangeSpec := { name := "plainQuoted", fn := fun _ => fun
  | [d] => { results := [.lit (.bool true)], args := [d] }
  | _ => none }
def plainQuotedRow : OpenClaim := { program := "ythnbhcmekkadeaa", sum := "92891db74111dc3e7933b9cb190a2ea572c1e5d841149171b2a2d16b0245f2ec", func := "muslin/muslinlaw20.PlainQuoted", spec := "plainQuoted", inPlace := ["internal/bytealg.IndexByteString", "internal/bytealg.IndexString"], unfollowed := true, recurses := true, named := ["internal/bytealg.MaxLen"], apart := false }
def PlainQuotedSaid : Prop := plainQuotedRow.holds Try.pinned (OpenSpec.ofChange plainQuotedSpec)

/-- ITS FALSE NEIGHBOUR: 'it returns false'. Refute it at one input. -/
def plainQuotedWrong : ChangeSpec := { name := "plainQuoted", fn := fun _ => fun
  | [d] => { results := [.lit (.bool false)], args := [d] }
  | _ => none }
def PlainQuotedWrongFalsely : Prop := plainQuotedRow.holds Try.pinned (OpenSpec.ofChange plainQuotedWrong)

/-- 'muslinlaw20.PlainJoined': WHATEVER THE INPUT: true; the input reads as it did. -/
def plainJoinedSpec : ChangeSpec := { name := "plainJoined", fn := fun _ => fun
  | [d1, d2] => { results := [.lit (.bool true)], args := [d1, d2] }
  | _ => none }
def plainJoinedRow : OpenClaim := { program := "ythnbhcmekkadeaa", sum := "92891db74111dc3e7933b9cb190a2ea572c1e5d841149171b2a2d16b0245f2ec", func := "muslin/muslinlaw20.PlainJoined", spec := "plainJoined", inPlace := ["internal/bytealg.IndexByteString", "internal/bytealg.IndexString"], unfollowed := true, recurses := true, named := ["internal/bytealg.MaxLen"], apart := false }
def PlainJoinedSaid : Prop := plainJoinedRow.holds Try.pinned (OpenSpec.ofChange plainJoinedSpec)

/-- ITS FALSE NEIGHBOUR: 'it returns false'. Refute it at one input. -/
def plainJoinedWrong : ChangeSpec := { name := "plainJoined", fn := fun _ => fun
  | [d1, d2] => { results := [.lit (.bool false)], args := [d1, d2] }
  | _ => none }
def PlainJoinedWrongFalsely : Prop := plainJoinedRow.holds Try.pinned (OpenSpec.ofChange plainJoinedWrong)

/- THE SECOND FORM. 'bulk': how many values and letters a reading holds, each counted each time it is reached (what is shared counts as often as it is met; a slice's spare places count too). A statement '..UptoSaid' is the law's where the arguments, and the package variables that the reading takes, are together of bulk at most 1048576: NARROWER than '..Said'. Prove '..Said' where nothing that the law and all that it calls make is longer than what came in: it says more and counts as full. Else prove '..UptoSaid'. A law counts once. -/
mutual
def uptoBulk {H : Type} : DataW H → Nat
  | .lit (.string bytes) => bytes.length + 1
  | .lit _ => 1
  | .nil => 1
  | .ptr d => uptoBulk d + 1
  | .slice elems spare => uptoBulkAll elems + uptoBulkAll spare + 1
  | .agg parts => uptoBulkAll parts + 1
  | .iface _ d => uptoBulk d + 1
  | .map entries => uptoBulkEntries entries + 1
  | .held _ => 1
def uptoBulkAll {H : Type} : List (DataW H) → Nat
  | [] => 0
  | d :: r => uptoBulk d + uptoBulkAll r
def uptoBulkEntries {H : Type} : List (Lit × DataW H) → Nat
  | [] => 0
  | x :: r => uptoBulkEntry x + uptoBulkEntries r
def uptoBulkEntry {H : Type} : Lit × DataW H → Nat
  | (.string bytes, d) => bytes.length + uptoBulk d + 1
  | (_, d) => uptoBulk d + 1
 end
def uptoSmall : (H : Type) → List (DataW H) → Bool := fun _ ds => decide (uptoBulkAll ds ≤ 1048576)
def OpenSpec.upto (s : _root_.Go.ChangeSpec) : _root_.Go.OpenSpec := { _root_.Go.OpenSpec.ofChange s with cond := some uptoSmall }

/-- 'muslinlaw20.PlainTrees', WHERE WHAT IT READS IS OF BULK AT MOST 1048576: true; the input reads as it did. -/
def plainTreesUptoRow : OpenClaim := { program := "ythnbhcmekkadeaa", sum := "92891db74111dc3e7933b9cb190a2ea572c1e5d841149171b2a2d16b0245f2ec", func := "muslin/muslinlaw20.PlainTrees", spec := "plainTrees", inPlace := ["internal/bytealg.IndexByteString", "internal/bytealg.IndexString"], unfollowed := true, recurses := true, named := ["internal/bytealg.MaxLen"], apart := false, narrowed := true }
def PlainTreesUptoSaid : Prop := plainTreesUptoRow.holds Try.pinned (OpenSpec.upto plainTreesSpec)

/-- 'muslinlaw20.PlainTexts', WHERE WHAT IT READS IS OF BULK AT MOST 1048576: true; the input reads as it did. -/
def plainTextsUptoRow : OpenClaim := { program := "ythnbhcmekkadeaa", sum := "92891db74111dc3e7933b9cb190a2ea572c1e5d841149171b2a2d16b0245f2ec", func := "muslin/muslinlaw20.PlainTexts", spec := "plainTexts", inPlace := ["internal/bytealg.IndexByteString", "internal/bytealg.IndexString"], unfollowed := true, recurses := true, named := ["internal/bytealg.MaxLen"], loops := true, apart := false, narrowed := true }
def PlainTextsUptoSaid : Prop := plainTextsUptoRow.holds Try.pinned (OpenSpec.upto plainTextsSpec)

/-- 'muslinlaw20.PlainBack', WHERE WHAT IT READS IS OF BULK AT MOST 1048576: true; the input reads as it did. -/
def plainBackUptoRow : OpenClaim := { program := "ythnbhcmekkadeaa", sum := "92891db74111dc3e7933b9cb190a2ea572c1e5d841149171b2a2d16b0245f2ec", func := "muslin/muslinlaw20.PlainBack", spec := "plainBack", inPlace := ["internal/bytealg.IndexByteString", "internal/bytealg.IndexString"], unfollowed := true, recurses := true, named := ["internal/bytealg.MaxLen"], apart := false, narrowed := true }
def PlainBackUptoSaid : Prop := plainBackUptoRow.holds Try.pinned (OpenSpec.upto plainBackSpec)

/-- 'muslinlaw20.PlainLevels', WHERE WHAT IT READS IS OF BULK AT MOST 1048576: true; the input reads as it did. -/
def plainLevelsUptoRow : OpenClaim := { program := "ythnbhcmekkadeaa", sum := "92891db74111dc3e7933b9cb190a2ea572c1e5d841149171b2a2d16b0245f2ec", func := "muslin/muslinlaw20.PlainLevels", spec := "plainLevels", inPlace := ["internal/bytealg.IndexByteString", "internal/bytealg.IndexString"], unfollowed := true, recurses := true, named := ["internal/bytealg.MaxLen"], apart := false, narrowed := true }
def PlainLevelsUptoSaid : Prop := plainLevelsUptoRow.holds Try.pinned (OpenSpec.upto plainLevelsSpec)

/-- 'muslinlaw20.PlainQuoted', WHERE WHAT IT READS IS OF BULK AT MOST 1048576: true; the input reads as it did. -/
def plainQuotedUptoRow : OpenClaim := { program := "ythnbhcmekkadeaa", sum := "92891db74111dc3e7933b9cb190a2ea572c1e5d841149171b2a2d16b0245f2ec", func := "muslin/muslinlaw20.PlainQuoted", spec := "plainQuoted", inPlace := ["internal/bytealg.IndexByteString", "internal/bytealg.IndexString"], unfollowed := true, recurses := true, named := ["internal/bytealg.MaxLen"], apart := false, narrowed := true }
def PlainQuotedUptoSaid : Prop := plainQuotedUptoRow.holds Try.pinned (OpenSpec.upto plainQuotedSpec)

/-- 'muslinlaw20.PlainJoined', WHERE WHAT IT READS IS OF BULK AT MOST 1048576: true; the input reads as it did. -/
def plainJoinedUptoRow : OpenClaim := { program := "ythnbhcmekkadeaa", sum := "92891db74111dc3e7933b9cb190a2ea572c1e5d841149171b2a2d16b0245f2ec", func := "muslin/muslinlaw20.PlainJoined", spec := "plainJoined", inPlace := ["internal/bytealg.IndexByteString", "internal/bytealg.IndexString"], unfollowed := true, recurses := true, named := ["internal/bytealg.MaxLen"], apart := false, narrowed := true }
def PlainJoinedUptoSaid : Prop := plainJoinedUptoRow.holds Try.pinned (OpenSpec.upto plainJoinedSpec)

end Rows
end Go.Proofs.Ythnbhcmekkadeaa

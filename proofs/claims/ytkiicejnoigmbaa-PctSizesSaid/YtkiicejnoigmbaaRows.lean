/-
  No cell of these rows narrows 'for every input' (looked for: loops, veiled, ifaces, maps, wideKeys, modest, calm, conditions, laid).
  DERIVED. THE GIVEN ROWS OF THIS SEAT. 5 by the template 'for every input the law returns true; each argument reads behind the call as it read before'; 0 by the template 'total and deterministic' (their statements: YtkiicejnoigmbaaTotals.lean).
  GIVEN WITH THE SEED: the statements are not yours to turn. If you find one false, say at which input.
  Laid BY PROGRAM, IN A SANDBOX (cutbox-rows.mjs): the forced cells as the released guide's own fill.sh prints them over the translation 763396bf15a53089… (all of the seat's roots in one cut). By AI agents, Wed Nov 11 2026. No macro, syntax, notation, axiom, sorry.
-/
import Derived.Test.YtkiicejnoigmbaaChecked
import GoSem.Claim
import GoSem.ClaimJoined
import GoSem.ClaimMapViews
import Derived.JoinedTies
import Derived.KernelRfl
namespace Go.Proofs.Ytkiicejnoigmbaa
/- THE CELL 'sum', in the pinned program and in every row, IS THE sha256 OF THE DUMP (.gsa) THAT YtkiicejnoigmbaaProg.lean LOADS. Nothing in Lean hashes anything: it is a label: what it is worth is what the hold of that sum in a sandbox is worth. -/
noncomputable def Try.pinned : Pinned := { name := "ytkiicejnoigmbaa", sum := "763396bf15a53089d9b6a3dfb599b7ba7d32ab3a8b101b2f0375e483a90409b6", checked := Try.checked }
namespace Rows
def none {H : Type} : Left H := { results := [], args := [] }

/-- 'muslinlaw03.PctDecodes': WHATEVER THE INPUT: true; the input reads as it did. -/
def pctDecodesSpec : ChangeSpec := { name := "pctDecodes", fn := fun _ => fun
  | [d] => { results := [.lit (.bool true)], args := [d] }
  | _ => none }
def pctDecodesRow : OpenClaim := { program := "ytkiicejnoigmbaa", sum := "763396bf15a53089d9b6a3dfb599b7ba7d32ab3a8b101b2f0375e483a90409b6", func := "muslin/muslinlaw03.PctDecodes", spec := "pctDecodes", inPlace := ["internal/bytealg.IndexByteString", "internal/bytealg.IndexString", "internal/abi.NoEscape"], unfollowed := true, recurses := true, named := ["internal/bytealg.MaxLen"], apart := false }
def PctDecodesSaid : Prop := pctDecodesRow.holds Try.pinned (OpenSpec.ofChange pctDecodesSpec)

/-- ITS FALSE NEIGHBOUR: 'it returns false'. Refute it at one input. -/
def pctDecodesWrong : ChangeSpec := { name := "pctDecodes", fn := fun _ => fun
  | [d] => { results := [.lit (.bool false)], args := [d] }
  | _ => none }
def PctDecodesWrongFalsely : Prop := pctDecodesRow.holds Try.pinned (OpenSpec.ofChange pctDecodesWrong)

/-- 'muslinlaw03.PctExtended': WHATEVER THE INPUT: true; the input reads as it did. -/
def pctExtendedSpec : ChangeSpec := { name := "pctExtended", fn := fun _ => fun
  | [d] => { results := [.lit (.bool true)], args := [d] }
  | _ => none }
def pctExtendedRow : OpenClaim := { program := "ytkiicejnoigmbaa", sum := "763396bf15a53089d9b6a3dfb599b7ba7d32ab3a8b101b2f0375e483a90409b6", func := "muslin/muslinlaw03.PctExtended", spec := "pctExtended", inPlace := ["internal/bytealg.IndexByteString", "internal/bytealg.IndexString", "internal/abi.NoEscape"], unfollowed := true, recurses := true, named := ["internal/bytealg.MaxLen"], apart := false }
def PctExtendedSaid : Prop := pctExtendedRow.holds Try.pinned (OpenSpec.ofChange pctExtendedSpec)

/-- ITS FALSE NEIGHBOUR: 'it returns false'. Refute it at one input. -/
def pctExtendedWrong : ChangeSpec := { name := "pctExtended", fn := fun _ => fun
  | [d] => { results := [.lit (.bool false)], args := [d] }
  | _ => none }
def PctExtendedWrongFalsely : Prop := pctExtendedRow.holds Try.pinned (OpenSpec.ofChange pctExtendedWrong)

/-- 'muslinlaw03.PctBack': WHATEVER THE INPUT: true; the input reads as it did. -/
def pctBackSpec : ChangeSpec := { name := "pctBack", fn := fun _ => fun
  | [d] => { results := [.lit (.bool true)], args := [d] }
  | _ => none }
def pctBackRow : OpenClaim := { program := "ytkiicejnoigmbaa", sum := "763396bf15a53089d9b6a3dfb599b7ba7d32ab3a8b101b2f0375e483a90409b6", func := "muslin/muslinlaw03.PctBack", spec := "pctBack", inPlace := ["internal/bytealg.IndexByteString", "internal/bytealg.IndexString", "internal/abi.NoEscape"], unfollowed := true, recurses := true, named := ["internal/bytealg.MaxLen"], apart := false }
def PctBackSaid : Prop := pctBackRow.holds Try.pinned (OpenSpec.ofChange pctBackSpec)

/-- ITS FALSE NEIGHBOUR: 'it returns false'. Refute it at one input. -/
def pctBackWrong : ChangeSpec := { name := "pctBack", fn := fun _ => fun
  | [d] => { results := [.lit (.bool false)], args := [d] }
  | _ => none }
def PctBackWrongFalsely : Prop := pctBackRow.holds Try.pinned (OpenSpec.ofChange pctBackWrong)

/-- 'muslinlaw03.PctJoined': WHATEVER THE INPUT: true; the input reads as it did. -/
def pctJoinedSpec : ChangeSpec := { name := "pctJoined", fn := fun _ => fun
  | [d1, d2] => { results := [.lit (.bool true)], args := [d1, d2] }
  | _ => none }
def pctJoinedRow : OpenClaim := { program := "ytkiicejnoigmbaa", sum := "763396bf15a53089d9b6a3dfb599b7ba7d32ab3a8b101b2f0375e483a90409b6", func := "muslin/muslinlaw03.PctJoined", spec := "pctJoined", inPlace := ["internal/bytealg.IndexByteString", "internal/bytealg.IndexString", "internal/abi.NoEscape"], unfollowed := true, recurses := true, named := ["internal/bytealg.MaxLen"], apart := false }
def PctJoinedSaid : Prop := pctJoinedRow.holds Try.pinned (OpenSpec.ofChange pctJoinedSpec)

/-- ITS FALSE NEIGHBOUR: 'it returns false'. Refute it at one input. -/
def pctJoinedWrong : ChangeSpec := { name := "pctJoined", fn := fun _ => fun
  | [d1, d2] => { results := [.lit (.bool false)], args := [d1, d2] }
  | _ => none }
def PctJoinedWrongFalsely : Prop := pctJoinedRow.holds Try.pinned (OpenSpec.ofChange pctJoinedWrong)

/-- 'muslinlaw03.PctSizes': WHATEVER THE INPUT: true; the input reads as it did. -/
def pctSizesSpec : ChangeSpec := { name := "pctSizes", fn := fun _ => fun
  | [d] => { results := [.lit (.bool true)], args := [d] }
  | _ => none }
def pctSizesRow : OpenClaim := { program := "ytkiicejnoigmbaa", sum := "763396bf15a53089d9b6a3dfb599b7ba7d32ab3a8b101b2f0375e483a90409b6", func := "muslin/muslinlaw03.PctSizes", spec := "pctSizes", inPlace := ["internal/bytealg.IndexByteString", "internal/bytealg.IndexString", "internal/abi.NoEscape"], unfollowed := true, recurses := true, named := ["internal/bytealg.MaxLen"], apart := false }
def PctSizesSaid : Prop := pctSizesRow.holds Try.pinned (OpenSpec.ofChange pctSizesSpec)

/-- ITS FALSE NEIGHBOUR: 'it returns false'. Refute it at one input. -/
def pctSizesWrong : ChangeSpec := { name := "pctSizes", fn := fun _ => fun
  | [d] => { results := [.lit (.bool false)], args := [d] }
  | _ => none }
def PctSizesWrongFalsely : Prop := pctSizesRow.holds Try.pinned (OpenSpec.ofChange pctSizesWrong)

/- THE SECOND FORM. 'bulk': how many values and letters a reading holds, each counted each time it is reached (what is shared counts as often as it is met; a slice's spare places count too). A statement '..UptoSaid' is the law's where the arguments, and the package variables that the reading takes, are together of bulk at most 1048576: NARROWER than '..Said'. Prove '..Said' where nothing that the law and all that it calls make is longer than what came in: it says more and counts as full. Else prove '..UptoSaid'. A law counts once. -/
mutual
def uptoBulk {H : Type} : DataW H → Nat
  | .lit (.string bytes) => bytes.length + 1
  | .lit _ => 1
  | .nil => 1
  | .ptr d => uptoBulk d + 1
  | .slice elems spare => uptoBulkAll elems + uptoBulkAll spare + 1
  | .agg parts => uptoBulkAll parts + 1
  | .iface _ d => uptoBulk d + 1
  | .map entries => uptoBulkEntries entries + 1
  | .held _ => 1
def uptoBulkAll {H : Type} : List (DataW H) → Nat
  | [] => 0
  | d :: r => uptoBulk d + uptoBulkAll r
def uptoBulkEntries {H : Type} : List (Lit × DataW H) → Nat
  | [] => 0
  | x :: r => uptoBulkEntry x + uptoBulkEntries r
def uptoBulkEntry {H : Type} : Lit × DataW H → Nat
  | (.string bytes, d) => bytes.length + uptoBulk d + 1
  | (_, d) => uptoBulk d + 1
 end
def uptoSmall : (H : Type) → List (DataW H) → Bool := fun _ ds => decide (uptoBulkAll ds ≤ 1048576)
def OpenSpec.upto (s : _root_.Go.ChangeSpec) : _root_.Go.OpenSpec := { _root_.Go.OpenSpec.ofChange s with cond := some uptoSmall }

/-- 'muslinlaw03.PctDecodes', WHERE WHAT IT READS IS OF BULK AT MOST 1048576: true; the input reads as it did. -/
def pctDecodesUptoRow : OpenClaim := { program := "ytkiicejnoigmbaa", sum := "763396bf15a53089d9b6a3dfb599b7ba7d32ab3a8b101b2f0375e483a90409b6", func := "muslin/muslinlaw03.PctDecodes", spec := "pctDecodes", inPlace := ["internal/bytealg.IndexByteString", "internal/bytealg.IndexString", "internal/abi.NoEscape"], unfollowed := true, recurses := true, named := ["internal/bytealg.MaxLen"], apart := false, narrowed := true }
def PctDecodesUptoSaid : Prop := pctDecodesUptoRow.holds Try.pinned (OpenSpec.upto pctDecodesSpec)

/-- 'muslinlaw03.PctExtended', WHERE WHAT IT READS IS OF BULK AT MOST 1048576: true; the input reads as it did. -/
def pctExtendedUptoRow : OpenClaim := { program := "ytkiicejnoigmbaa", sum := "763396bf15a53089d9b6a3dfb599b7ba7d32ab3a8b101b2f0375e483a90409b6", func := "muslin/muslinlaw03.PctExtended", spec := "pctExtended", inPlace := ["internal/bytealg.IndexByteString", "internal/bytealg.IndexString", "internal/abi.NoEscape"], unfollowed := true, recurses := true, named := ["internal/bytealg.MaxLen"], apart := false, narrowed := true }
def PctExtendedUptoSaid : Prop := pctExtendedUptoRow.holds Try.pinned (OpenSpec.upto pctExtendedSpec)

/-- 'muslinlaw03.PctBack', WHERE WHAT IT READS IS OF BULK AT MOST 1048576: true; the input reads as it did. -/
def pctBackUptoRow : OpenClaim := { program := "ytkiicejnoigmbaa", sum := "763396bf15a53089d9b6a3dfb599b7ba7d32ab3a8b101b2f0375e483a90409b6", func := "muslin/muslinlaw03.PctBack", spec := "pctBack", inPlace := ["internal/bytealg.IndexByteString", "internal/bytealg.IndexString", "internal/abi.NoEscape"], unfollowed := true, recurses := true, named := ["internal/bytealg.MaxLen"], apart := false, narrowed := true }
def PctBackUptoSaid : Prop := pctBackUptoRow.holds Try.pinned (OpenSpec.upto pctBackSpec)

/-- 'muslinlaw03.PctJoined', WHERE WHAT IT READS IS OF BULK AT MOST 1048576: true; the input reads as it did. -/
def pctJoinedUptoRow : OpenClaim := { program := "ytkiicejnoigmbaa", sum := "763396bf15a53089d9b6a3dfb599b7ba7d32ab3a8b101b2f0375e483a90409b6", func := "muslin/muslinlaw03.PctJoined", spec := "pctJoined", inPlace := ["internal/bytealg.IndexByteString", "internal/bytealg.IndexString", "internal/abi.NoEscape"], unfollowed := true, recurses := true, named := ["internal/bytealg.MaxLen"], apart := false, narrowed := true }
def PctJoinedUptoSaid : Prop := pctJoinedUptoRow.holds Try.pinned (OpenSpec.upto pctJoinedSpec)

/-- 'muslinlaw03.PctSizes', WHERE WHAT IT READS IS OF BULK AT MOST 1048576: true; the input reads as it did. -/
def pctSizesUptoRow : OpenClaim := { program := "ytkiicejnoigmbaa", sum := "763396bf15a53089d9b6a3dfb599b7ba7d32ab3a8b101b2f0375e483a90409b6", func := "muslin/muslinlaw03.PctSizes", spec := "pctSizes", inPlace := ["internal/bytealg.IndexByteString", "internal/bytealg.IndexString", "internal/abi.NoEscape"], unfollowed := true, recurses := true, named := ["internal/bytealg.MaxLen"], apart := false, narrowed := true }
def PctSizesUptoSaid : Prop := pctSizesUptoRow.holds Try.pinned (OpenSpec.upto pctSizesSpec)

end Rows
end Go.Proofs.Ytkiicejnoigmbaa

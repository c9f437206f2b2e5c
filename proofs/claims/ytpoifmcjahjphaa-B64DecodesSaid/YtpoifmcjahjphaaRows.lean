/-
  No cell of these rows narrows 'for every input' (looked for: loops, veiled, ifaces, maps, wideKeys, modest, calm, conditions, laid).
  DERIVED. THE GIVEN ROWS OF THIS SEAT. 6 by the template 'for every input the law returns true; each argument reads behind the call as it read before'; 0 by the template 'total and deterministic' (their statements: YtpoifmcjahjphaaTotals.lean).
  GIVEN WITH THE SEED: the statements are not yours to turn. If you find one false, say at which input.
  Laid BY PROGRAM, IN A SANDBOX (cutbox-rows.mjs): the forced cells as the released guide's own fill.sh prints them over the translation 376470fa6e533c1c… (all of the seat's roots in one cut). By AI agents, Wed Nov 11 2026. No macro, syntax, notation, axiom, sorry.
-/
import Derived.Test.YtpoifmcjahjphaaChecked
import GoSem.Claim
import GoSem.ClaimJoined
import GoSem.ClaimMapViews
import Derived.JoinedTies
import Derived.KernelRfl
namespace Go.Proofs.Ytpoifmcjahjphaa
/- THE CELL 'sum', in the pinned program and in every row, IS THE sha256 OF THE DUMP (.gsa) THAT YtpoifmcjahjphaaProg.lean LOADS. Nothing in Lean hashes anything: it is a label: what it is worth is what the hold of that sum in a sandbox is worth. -/
noncomputable def Try.pinned : Pinned := { name := "ytpoifmcjahjphaa", sum := "376470fa6e533c1c1f8027d10e10f7e864b06907de99e230806b347f493f5628", checked := Try.checked }
namespace Rows
def none {H : Type} : Left H := { results := [], args := [] }

/-- 'muslinlaw01.B64Encodes': WHATEVER THE INPUT: true; the input reads as it did. -/
def b64EncodesSpec : ChangeSpec := { name := "b64Encodes", fn := fun _ => fun
  | [d1, d2] => { results := [.lit (.bool true)], args := [d1, d2] }
  | _ => none }
def b64EncodesRow : OpenClaim := { program := "ytpoifmcjahjphaa", sum := "376470fa6e533c1c1f8027d10e10f7e864b06907de99e230806b347f493f5628", func := "muslin/muslinlaw01.B64Encodes", spec := "b64Encodes", inPlace := ["internal/abi.NoEscape", "internal/bytealg.MakeNoZero", "internal/bytealg.IndexByteString", "internal/bytealg.IndexString"], unfollowed := true, recurses := true, named := ["internal/bytealg.MaxLen"], apart := false }
def B64EncodesSaid : Prop := b64EncodesRow.holds Try.pinned (OpenSpec.ofChange b64EncodesSpec)

/-- ITS FALSE NEIGHBOUR: 'it returns false'. Refute it at one input. -/
def b64EncodesWrong : ChangeSpec := { name := "b64Encodes", fn := fun _ => fun
  | [d1, d2] => { results := [.lit (.bool false)], args := [d1, d2] }
  | _ => none }
def B64EncodesWrongFalsely : Prop := b64EncodesRow.holds Try.pinned (OpenSpec.ofChange b64EncodesWrong)

/-- 'muslinlaw01.B64Decodes': WHATEVER THE INPUT: true; the input reads as it did. -/
def b64DecodesSpec : ChangeSpec := { name := "b64Decodes", fn := fun _ => fun
  | [d] => { results := [.lit (.bool true)], args := [d] }
  | _ => none }
def b64DecodesRow : OpenClaim := { program := "ytpoifmcjahjphaa", sum := "376470fa6e533c1c1f8027d10e10f7e864b06907de99e230806b347f493f5628", func := "muslin/muslinlaw01.B64Decodes", spec := "b64Decodes", inPlace := ["internal/abi.NoEscape", "internal/bytealg.MakeNoZero", "internal/bytealg.IndexByteString", "internal/bytealg.IndexString"], unfollowed := true, recurses := true, named := ["internal/bytealg.MaxLen"], apart := false }
def B64DecodesSaid : Prop := b64DecodesRow.holds Try.pinned (OpenSpec.ofChange b64DecodesSpec)

/-- ITS FALSE NEIGHBOUR: 'it returns false'. Refute it at one input. -/
def b64DecodesWrong : ChangeSpec := { name := "b64Decodes", fn := fun _ => fun
  | [d] => { results := [.lit (.bool false)], args := [d] }
  | _ => none }
def B64DecodesWrongFalsely : Prop := b64DecodesRow.holds Try.pinned (OpenSpec.ofChange b64DecodesWrong)

/-- 'muslinlaw01.B64Back': WHATEVER THE INPUT: true; the input reads as it did. -/
def b64BackSpec : ChangeSpec := { name := "b64Back", fn := fun _ => fun
  | [d1, d2, d3] => { results := [.lit (.bool true)], args := [d1, d2, d3] }
  | _ => none }
def b64BackRow : OpenClaim := { program := "ytpoifmcjahjphaa", sum := "376470fa6e533c1c1f8027d10e10f7e864b06907de99e230806b347f493f5628", func := "muslin/muslinlaw01.B64Back", spec := "b64Back", inPlace := ["internal/abi.NoEscape", "internal/bytealg.MakeNoZero", "internal/bytealg.IndexByteString", "internal/bytealg.IndexString"], unfollowed := true, recurses := true, named := ["internal/bytealg.MaxLen"], apart := false }
def B64BackSaid : Prop := b64BackRow.holds Try.pinned (OpenSpec.ofChange b64BackSpec)

/-- ITS FALSE NEIGHBOUR: 'it returns false'. Refute it at one input. -/
def b64BackWrong : ChangeSpec := { name := "b64Back", fn := fun _ => fun
  | [d1, d2, d3] => { results := [.lit (.bool false)], args := [d1, d2, d3] }
  | _ => none }
def B64BackWrongFalsely : Prop := b64BackRow.holds Try.pinned (OpenSpec.ofChange b64BackWrong)

/-- 'muslinlaw01.B64Sizes': WHATEVER THE INPUT: true; the input reads as it did. -/
def b64SizesSpec : ChangeSpec := { name := "b64Sizes", fn := fun _ => fun
  | [d] => { results := [.lit (.bool true)], args := [d] }
  | _ => none }
def b64SizesRow : OpenClaim := { program := "ytpoifmcjahjphaa", sum := "376470fa6e533c1c1f8027d10e10f7e864b06907de99e230806b347f493f5628", func := "muslin/muslinlaw01.B64Sizes", spec := "b64Sizes", inPlace := ["internal/abi.NoEscape", "internal/bytealg.MakeNoZero", "internal/bytealg.IndexByteString", "internal/bytealg.IndexString"], unfollowed := true, recurses := true, named := ["internal/bytealg.MaxLen"], apart := false }
def B64SizesSaid : Prop := b64SizesRow.holds Try.pinned (OpenSpec.ofChange b64SizesSpec)

/-- ITS FALSE NEIGHBOUR: 'it returns false'. Refute it at one input. -/
def b64SizesWrong : ChangeSpec := { name := "b64Sizes", fn := fun _ => fun
  | [d] => { results := [.lit (.bool false)], args := [d] }
  | _ => none }
def B64SizesWrongFalsely : Prop := b64SizesRow.holds Try.pinned (OpenSpec.ofChange b64SizesWrong)

/-- 'muslinlaw01.B64Joined': WHATEVER THE INPUT: true; the input reads as it did. -/
def b64JoinedSpec : ChangeSpec := { name := "b64Joined", fn := fun _ => fun
  | [d1, d2] => { results := [.lit (.bool true)], args := [d1, d2] }
  | _ => none }
def b64JoinedRow : OpenClaim := { program := "ytpoifmcjahjphaa", sum := "376470fa6e533c1c1f8027d10e10f7e864b06907de99e230806b347f493f5628", func := "muslin/muslinlaw01.B64Joined", spec := "b64Joined", inPlace := ["internal/abi.NoEscape", "internal/bytealg.MakeNoZero", "internal/bytealg.IndexByteString", "internal/bytealg.IndexString"], unfollowed := true, recurses := true, named := ["internal/bytealg.MaxLen"], apart := false }
def B64JoinedSaid : Prop := b64JoinedRow.holds Try.pinned (OpenSpec.ofChange b64JoinedSpec)

/-- ITS FALSE NEIGHBOUR: 'it returns false'. Refute it at one input. -/
def b64JoinedWrong : ChangeSpec := { name := "b64Joined", fn := fun _ => fun
  | [d1, d2] => { results := [.lit (.bool false)], args := [d1, d2] }
  | _ => none }
def B64JoinedWrongFalsely : Prop := b64JoinedRow.holds Try.pinned (OpenSpec.ofChange b64JoinedWrong)

/-- 'muslinlaw01.B64Junk': WHATEVER THE INPUT: true; the input reads as it did. -/
def b64JunkSpec : ChangeSpec := { name := "b64Junk", fn := fun _ => fun
  | [d1, d2, d3] => { results := [.lit (.bool true)], args := [d1, d2, d3] }
  | _ => none }
def b64JunkRow : OpenClaim := { program := "ytpoifmcjahjphaa", sum := "376470fa6e533c1c1f8027d10e10f7e864b06907de99e230806b347f493f5628", func := "muslin/muslinlaw01.B64Junk", spec := "b64Junk", inPlace := ["internal/abi.NoEscape", "internal/bytealg.MakeNoZero", "internal/bytealg.IndexByteString", "internal/bytealg.IndexString"], unfollowed := true, recurses := true, named := ["internal/bytealg.MaxLen"], apart := false }
def B64JunkSaid : Prop := b64JunkRow.holds Try.pinned (OpenSpec.ofChange b64JunkSpec)

/-- ITS FALSE NEIGHBOUR: 'it returns false'. Refute it at one input. -/
def b64JunkWrong : ChangeSpec := { name := "b64Junk", fn := fun _ => fun
  | [d1, d2, d3] => { results := [.lit (.bool false)], args := [d1, d2, d3] }
  | _ => none }
def B64JunkWrongFalsely : Prop := b64JunkRow.holds Try.pinned (OpenSpec.ofChange b64JunkWrong)

/- THE SECOND FORM. 'bulk': how many values and letters a reading holds, each counted each time it is reached (what is shared counts as often as it is met; a slice's spare places count too). A statement '..UptoSaid' is the law's where the arguments, and the package variables that the reading takes, are together of bulk at most 1048576: NARROWER than '..Said'. Prove '..Said' where nothing that the law and all that it calls make is longer than what came in: it says more and counts as full. Else prove '..UptoSaid'. A law counts once. -/
mutual
def uptoBulk {H : Type} : DataW H → Nat
  | .lit (.string bytes) => bytes.length + 1
  | .lit _ => 1
  | .nil => 1
  | .ptr d => uptoBulk d + 1
  | .slice elems spare => uptoBulkAll elems + uptoBulkAll spare + 1
  | .agg parts => uptoBulkAll parts + 1
  | .iface _ d => uptoBulk d + 1
  | .map entries => uptoBulkEntries entries + 1
  | .held _ => 1
def uptoBulkAll {H : Type} : List (DataW H) → Nat
  | [] => 0
  | d :: r => uptoBulk d + uptoBulkAll r
def uptoBulkEntries {H : Type} : List (Lit × DataW H) → Nat
  | [] => 0
  | x :: r => uptoBulkEntry x + uptoBulkEntries r
def uptoBulkEntry {H : Type} : Lit × DataW H → Nat
  | (.string bytes, d) => bytes.length + uptoBulk d + 1
  | (_, d) => uptoBulk d + 1
 end
def uptoSmall : (H : Type) → List (DataW H) → Bool := fun _ ds => decide (uptoBulkAll ds ≤ 1048576)
def OpenSpec.upto (s : _root_.Go.ChangeSpec) : _root_.Go.OpenSpec := { _root_.Go.OpenSpec.ofChange s with cond := some uptoSmall }

/-- 'muslinlaw01.B64Encodes', WHERE WHAT IT READS IS OF BULK AT MOST 1048576: true; the input reads as it did. -/
def b64EncodesUptoRow : OpenClaim := { program := "ytpoifmcjahjphaa", sum := "376470fa6e533c1c1f8027d10e10f7e864b06907de99e230806b347f493f5628", func := "muslin/muslinlaw01.B64Encodes", spec := "b64Encodes", inPlace := ["internal/abi.NoEscape", "internal/bytealg.MakeNoZero", "internal/bytealg.IndexByteString", "internal/bytealg.IndexString"], unfollowed := true, recurses := true, named := ["internal/bytealg.MaxLen"], apart := false, narrowed := true }
def B64EncodesUptoSaid : Prop := b64EncodesUptoRow.holds Try.pinned (OpenSpec.upto b64EncodesSpec)

/-- 'muslinlaw01.B64Decodes', WHERE WHAT IT READS IS OF BULK AT MOST 1048576: true; the input reads as it did. -/
def b64DecodesUptoRow : OpenClaim := { program := "ytpoifmcjahjphaa", sum := "376470fa6e533c1c1f8027d10e10f7e864b06907de99e230806b347f493f5628", func := "muslin/muslinlaw01.B64Decodes", spec := "b64Decodes", inPlace := ["internal/abi.NoEscape", "internal/bytealg.MakeNoZero", "internal/bytealg.IndexByteString", "internal/bytealg.IndexString"], unfollowed := true, recurses := true, named := ["internal/bytealg.MaxLen"], apart := false, narrowed := true }
def B64DecodesUptoSaid : Prop := b64DecodesUptoRow.holds Try.pinned (OpenSpec.upto b64DecodesSpec)

/-- 'muslinlaw01.B64Back', WHERE WHAT IT READS IS OF BULK AT MOST 1048576: true; the input reads as it did. -/
def b64BackUptoRow : OpenClaim := { program := "ytpoifmcjahjphaa", sum := "376470fa6e533c1c1f8027d10e10f7e864b06907de99e230806b347f493f5628", func := "muslin/muslinlaw01.B64Back", spec := "b64Back", inPlace := ["internal/abi.NoEscape", "internal/bytealg.MakeNoZero", "internal/bytealg.IndexByteString", "internal/bytealg.IndexString"], unfollowed := true, recurses := true, named := ["internal/bytealg.MaxLen"], apart := false, narrowed := true }
def B64BackUptoSaid : Prop := b64BackUptoRow.holds Try.pinned (OpenSpec.upto b64BackSpec)

/-- 'muslinlaw01.B64Sizes', WHERE WHAT IT READS IS OF BULK AT MOST 1048576: true; the input reads as it did. -/
def b64SizesUptoRow : OpenClaim := { program := "ytpoifmcjahjphaa", sum := "376470fa6e533c1c1f8027d10e10f7e864b06907de99e230806b347f493f5628", func := "muslin/muslinlaw01.B64Sizes", spec := "b64Sizes", inPlace := ["internal/abi.NoEscape", "internal/bytealg.MakeNoZero", "internal/bytealg.IndexByteString", "internal/bytealg.IndexString"], unfollowed := true, recurses := true, named := ["internal/bytealg.MaxLen"], apart := false, narrowed := true }
def B64SizesUptoSaid : Prop := b64SizesUptoRow.holds Try.pinned (OpenSpec.upto b64SizesSpec)

/-- 'muslinlaw01.B64Joined', WHERE WHAT IT READS IS OF BULK AT MOST 1048576: true; the input reads as it did. -/
def b64JoinedUptoRow : OpenClaim := { program := "ytpoifmcjahjphaa", sum := "376470fa6e533c1c1f8027d10e10f7e864b06907de99e230806b347f493f5628", func := "muslin/muslinlaw01.B64Joined", spec := "b64Joined", inPlace := ["internal/abi.NoEscape", "internal/bytealg.MakeNoZero", "internal/bytealg.IndexByteString", "internal/bytealg.IndexString"], unfollowed := true, recurses := true, named := ["internal/bytealg.MaxLen"], apart := false, narrowed := true }
def B64JoinedUptoSaid : Prop := b64JoinedUptoRow.holds Try.pinned (OpenSpec.upto b64JoinedSpec)

/-- 'muslinlaw01.B64Junk', WHERE WHAT IT READS IS OF BULK AT MOST 1048576: true; the input reads as it did. -/
def b64JunkUptoRow : OpenClaim := { program := "ytpoifmcjahjphaa", sum := "376470fa6e533c1c1f8027d10e10f7e864b06907de99e230806b347f493f5628", func := "muslin/muslinlaw01.B64Junk", spec := "b64Junk", inPlace := ["internal/abi.NoEscape", "internal/bytealg.MakeNoZero", "internal/bytealg.IndexByteString", "internal/bytealg.IndexString"], unfollowed := true, recurses := true, named := ["internal/bytealg.MaxLen"], apart := false, narrowed := true }
def B64JunkUptoSaid : Prop := b64JunkUptoRow.holds Try.pinned (OpenSpec.upto b64JunkSpec)

end Rows
end Go.Proofs.Ytpoifmcjahjphaa

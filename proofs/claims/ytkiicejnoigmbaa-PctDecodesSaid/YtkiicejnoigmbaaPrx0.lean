/- Written by a program of this session (printx.py), with functions proved by hand counted as printed; Lean checks it. -/
import Derived.Test.YtkiicejnoigmbaaProg
import Derived.Below
import Derived.Deep.Draws
import Derived.Deep.AppendLies
import Derived.Maps.AppendAt
import Derived.OwnWalk
import Derived.Laws.BytesArg
import Derived.Laws.MakeOwn
import Derived.Laws.OwnMore
import Derived.Deep.OwnRows
import Derived.Tactics
import Derived.Lib.ConvBytes
import Derived.Laws.Slices
import Derived.WalkKit
import Derived.KernelRfl
import Derived.RowKit3
import Derived.Deep.LoopGhost
import Derived.Deep.QuietTactic
import Derived.BigQuiet
import Derived.WideLaws
import Derived.Deep.DeepCutAuto
import Derived.Deep.CutBlock
import Derived.Deep.RegionHeld3
import Derived.Laws.Rows
import Derived.Lib.AppendStr
import Derived.ArgAppend
import Derived.Laws.IdiomCopy
import Derived.OrdersHeld
import Derived.Laws.BitsLemmas
import Derived.RowKit
import Derived.Test.YtkiicejnoigmbaaWWords
import Derived.Test.YtkiicejnoigmbaaWLast
import Derived.Test.YtkiicejnoigmbaaWTab
import Derived.Test.YtkiicejnoigmbaaWFour
import Derived.Test.YtkiicejnoigmbaaWQPut
import Derived.Test.YtkiicejnoigmbaaWApart
import Derived.Test.YtkiicejnoigmbaaWArr
import Derived.Test.YtkiicejnoigmbaaWZeros
import Derived.Test.YtkiicejnoigmbaaWFoot
import Derived.Test.YtkiicejnoigmbaaWKept
import Derived.Test.YtkiicejnoigmbaaWShare
import Derived.Test.YtkiicejnoigmbaaWN
import Derived.Test.YtkiicejnoigmbaaWFootNe
import Derived.Test.YtkiicejnoigmbaaWAt
import Derived.Test.YtkiicejnoigmbaaWEqStruct
import Derived.Test.YtkiicejnoigmbaaWRepsOne
import Derived.Test.YtkiicejnoigmbaaWInv
import Derived.Test.YtkiicejnoigmbaaWInvWords
import Derived.Test.YtkiicejnoigmbaaWGuard
import Derived.Test.YtkiicejnoigmbaaWNEv
import Derived.Test.YtkiicejnoigmbaaWMore
namespace Go.Proofs.Ytkiicejnoigmbaa.Pr
open Go.RowKit Go.Proofs.YtkiicejnoigmbaaW.PrintWords Go.Proofs.YtkiicejnoigmbaaW.PrintLast Go.Proofs.YtkiicejnoigmbaaW.PrintMore
attribute [local go_sem] max2_int min2_int max_two min_two max_three min_three max_four min_four   -- for this text's walks alone
set_option linter.unusedVariables false
set_option linter.unusedSimpArgs false



def errW : Option Int → Value
  | none => .nilIface
  | some c => .iface 0 (.int .i64 c)
theorem errW_none : errW none = .nilIface := rfl
theorem errW_some (c : Int) : errW (some c) = .iface 0 (.int .i64 c) := rfl

theorem info5 : (Try.prog.info? 5).map (fun i => (i.zero, i.size, i.bytes)) = some (some (.int .u8 0), 1, 1) := by kernel_rfl
-- the values' own types

end Go.Proofs.Ytkiicejnoigmbaa.Pr

-- Written by this session's own tool (prn.py) over the kit's printer; its templates are the session's own. Lean checks it.
import Derived.Test.YtobkdcokickodaaProg
import Derived.Below
import Derived.Deep.Draws
import Derived.Deep.AppendLies
import Derived.Maps.AppendAt
import Derived.OwnWalk
import Derived.Laws.BytesArg
import Derived.Laws.MakeOwn
import Derived.Laws.OwnMore
import Derived.Deep.OwnRows
import Derived.Tactics
import Derived.Lib.ConvBytes
import Derived.Laws.Slices
import Derived.WalkKit
import Derived.KernelRfl
import Derived.RowKit3
import Derived.Deep.LoopGhost
import Derived.Deep.QuietTactic
import Derived.BigQuiet
import Derived.WideLaws
import Derived.Deep.DeepCutAuto
import Derived.Deep.CutBlock
import Derived.Deep.RegionHeld3
import Derived.Laws.Rows
import Derived.Lib.AppendStr
import Derived.ArgAppend
import Derived.Laws.IdiomCopy
import Derived.OrdersHeld
import Derived.Laws.BitsLemmas
import Derived.RowKit
import Derived.WalkSpells
import Derived.Test.YtobkdcokickodaaPlain
import Derived.Test.YtobkdcokickodaaPlainMem
import Derived.Test.YtobkdcokickodaaWWords
import Derived.Test.YtobkdcokickodaaWLast
import Derived.Test.YtobkdcokickodaaWTab
import Derived.Test.YtobkdcokickodaaWFour
import Derived.Test.YtobkdcokickodaaWQPut
import Derived.Test.YtobkdcokickodaaWApart
import Derived.Test.YtobkdcokickodaaWArr
import Derived.Test.YtobkdcokickodaaWZeros
import Derived.Test.YtobkdcokickodaaWFoot
import Derived.Test.YtobkdcokickodaaWKept
import Derived.Test.YtobkdcokickodaaWShare
import Derived.Test.YtobkdcokickodaaWN
import Derived.Test.YtobkdcokickodaaWFootNe
import Derived.Test.YtobkdcokickodaaWAt
import Derived.Test.YtobkdcokickodaaWEqStruct
import Derived.Test.YtobkdcokickodaaWRepsOne
import Derived.Test.YtobkdcokickodaaWInv
import Derived.Test.YtobkdcokickodaaWInvWords
import Derived.Test.YtobkdcokickodaaWGuard
import Derived.Test.YtobkdcokickodaaWNEv
import Derived.Test.YtobkdcokickodaaWMore
namespace Go.Proofs.Ytobkdcokickodaa.PPlanWays
open Go.RowKit Go.Proofs.YtobkdcokickodaaW.PrintWords Go.Proofs.YtobkdcokickodaaW.PrintLast Go.Proofs.YtobkdcokickodaaW.PrintMore
attribute [local go_sem] max2_int min2_int max_two min_two max_three min_three max_four min_four   -- for this text's walks alone
set_option linter.unusedVariables false
set_option linter.unusedSimpArgs false



def errW : Option Int → Value
  | none => .nilIface
  | some c => .iface 0 (.int .i64 c)
theorem errW_none : errW none = .nilIface := rfl
theorem errW_some (c : Int) : errW (some c) = .iface 0 (.int .i64 c) := rfl

theorem info3 : (Try.prog.info? 3).map (fun i => (i.zero, i.size, i.bytes)) = some (some (.int .i64 0), 1, 8) := by kernel_rfl
-- the values' own types

end Go.Proofs.Ytobkdcokickodaa.PPlanWays

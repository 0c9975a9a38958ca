-- Written by this session's own tool (prn.py) over the kit's printer; its templates are the session's own. Lean checks it.
import Derived.Test.YtbplffdmggbcdaaProg
import Derived.Below
import Derived.Deep.Draws
import Derived.Deep.AppendLies
import Derived.Maps.AppendAt
import Derived.OwnWalk
import Derived.Laws.BytesArg
import Derived.Laws.MakeOwn
import Derived.Laws.OwnMore
import Derived.Deep.OwnRows
import Derived.Tactics
import Derived.Lib.ConvBytes
import Derived.Laws.Slices
import Derived.WalkKit
import Derived.KernelRfl
import Derived.RowKit3
import Derived.Deep.LoopGhost
import Derived.Deep.QuietTactic
import Derived.BigQuiet
import Derived.WideLaws
import Derived.Deep.DeepCutAuto
import Derived.Deep.CutBlock
import Derived.Deep.RegionHeld3
import Derived.Laws.Rows
import Derived.Lib.AppendStr
import Derived.ArgAppend
import Derived.Laws.IdiomCopy
import Derived.OrdersHeld
import Derived.Laws.BitsLemmas
import Derived.RowKit
import Derived.WalkSpells
import Derived.Test.YtbplffdmggbcdaaPlain
import Derived.Test.YtbplffdmggbcdaaPlainMem
import Derived.Test.YtbplffdmggbcdaaPlainCrc
import Derived.RangeFuncBox
import Derived.RangeFuncLeaves
import Derived.RangeFuncBound
import Derived.RangeFuncCalls
import Derived.Shelf.Abstract
import Derived.OwnWalkIn
import Derived.TacticsInMore
import Derived.LoopNIn
import Derived.LoopIn
import Derived.Test.YtbplffdmggbcdaaWWords
import Derived.Test.YtbplffdmggbcdaaWLast
import Derived.Test.YtbplffdmggbcdaaWTab
import Derived.Test.YtbplffdmggbcdaaWQPut
import Derived.Test.YtbplffdmggbcdaaWApart
import Derived.Test.YtbplffdmggbcdaaWArr
import Derived.Test.YtbplffdmggbcdaaWZeros
import Derived.Test.YtbplffdmggbcdaaWFoot
import Derived.Test.YtbplffdmggbcdaaWKept
import Derived.Test.YtbplffdmggbcdaaWShare
import Derived.Test.YtbplffdmggbcdaaWN
import Derived.Test.YtbplffdmggbcdaaWFootNe
import Derived.Test.YtbplffdmggbcdaaWEqStruct
import Derived.Test.YtbplffdmggbcdaaWGuard
import Derived.Test.YtbplffdmggbcdaaWNEv
import Derived.Test.YtbplffdmggbcdaaWMore
namespace Go.Proofs.Ytbplffdmggbcdaa.PCodecHeads
open Go.RowKit Go.Proofs.YtbplffdmggbcdaaW.PrintWords Go.Proofs.YtbplffdmggbcdaaW.PrintLast Go.Proofs.YtbplffdmggbcdaaW.PrintMore
attribute [local go_sem] max2_int min2_int max_two min_two max_three min_three max_four min_four   -- for this text's walks alone
set_option linter.unusedVariables false
set_option linter.unusedSimpArgs false



def errW : Option Int → Value
  | none => .nilIface
  | some c => .iface 0 (.int .i64 c)
theorem errW_none : errW none = .nilIface := rfl
theorem errW_some (c : Int) : errW (some c) = .iface 0 (.int .i64 c) := rfl

theorem info5 : (Try.prog.info? 5).map (fun i => (i.zero, i.size, i.bytes)) = some (some (.int .u8 0), 1, 1) := by kernel_rfl
-- the values' own types

end Go.Proofs.Ytbplffdmggbcdaa.PCodecHeads

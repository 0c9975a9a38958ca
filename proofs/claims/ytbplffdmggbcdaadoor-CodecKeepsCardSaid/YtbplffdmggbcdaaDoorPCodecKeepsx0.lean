-- Written by this session's own tool (prn.py) over the kit's printer; its templates are the session's own. Lean checks it.
import Derived.Test.YtbplffdmggbcdaaDoorProg
import Derived.Below
import Derived.Deep.Draws
import Derived.Deep.AppendLies
import Derived.Maps.AppendAt
import Derived.OwnWalk
import Derived.Laws.BytesArg
import Derived.Laws.MakeOwn
import Derived.Laws.OwnMore
import Derived.Deep.OwnRows
import Derived.Tactics
import Derived.Lib.ConvBytes
import Derived.Laws.Slices
import Derived.WalkKit
import Derived.KernelRfl
import Derived.RowKit3
import Derived.Deep.LoopGhost
import Derived.Deep.QuietTactic
import Derived.BigQuiet
import Derived.WideLaws
import Derived.Deep.DeepCutAuto
import Derived.Deep.CutBlock
import Derived.Deep.RegionHeld3
import Derived.Laws.Rows
import Derived.Lib.AppendStr
import Derived.ArgAppend
import Derived.Laws.IdiomCopy
import Derived.OrdersHeld
import Derived.Laws.BitsLemmas
import Derived.RowKit
import Derived.WalkSpells
import Derived.Test.YtbplffdmggbcdaaDoorPlain
import Derived.Test.YtbplffdmggbcdaaDoorPlainMem
import Derived.RangeFuncBox
import Derived.RangeFuncLeaves
import Derived.RangeFuncBound
import Derived.RangeFuncCalls
import Derived.Shelf.Abstract
import Derived.OwnWalkIn
import Derived.TacticsInMore
import Derived.LoopNIn
import Derived.LoopIn
import Derived.Test.YtbplffdmggbcdaaDoorPlainCrc
import Derived.Test.YtbplffdmggbcdaaDoorWWords
import Derived.Test.YtbplffdmggbcdaaDoorWLast
import Derived.Test.YtbplffdmggbcdaaDoorWTab
import Derived.Test.YtbplffdmggbcdaaDoorWApart
import Derived.Test.YtbplffdmggbcdaaDoorWArr
import Derived.Test.YtbplffdmggbcdaaDoorWZeros
import Derived.Test.YtbplffdmggbcdaaDoorWFoot
import Derived.Test.YtbplffdmggbcdaaDoorWKept
import Derived.Test.YtbplffdmggbcdaaDoorWShare
import Derived.Test.YtbplffdmggbcdaaDoorWN
import Derived.Test.YtbplffdmggbcdaaDoorWEqStruct
import Derived.Test.YtbplffdmggbcdaaDoorWMore
namespace Go.Proofs.YtbplffdmggbcdaaDoor.PCodecKeeps
open Go.RowKit Go.Proofs.YtbplffdmggbcdaaDoorW.PrintWords Go.Proofs.YtbplffdmggbcdaaDoorW.PrintLast Go.Proofs.YtbplffdmggbcdaaDoorW.PrintMore
attribute [local go_sem] max2_int min2_int max_two min_two max_three min_three max_four min_four   -- for this text's walks alone
set_option linter.unusedVariables false
set_option linter.unusedSimpArgs false



def errW : Option Int → Value
  | none => .nilIface
  | some c => .iface 0 (.int .i64 c)
theorem errW_none : errW none = .nilIface := rfl
theorem errW_some (c : Int) : errW (some c) = .iface 0 (.int .i64 c) := rfl

theorem info5 : (Tryd.prog.info? 5).map (fun i => (i.zero, i.size, i.bytes)) = some (some (.int .u8 0), 1, 1) := by kernel_rfl
-- the values' own types
end Go.Proofs.YtbplffdmggbcdaaDoor.PCodecKeeps

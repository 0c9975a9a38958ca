-- Written by this session's own tool (prn.py) over the kit's printer; its templates are the session's own. Lean checks it.
import Derived.Test.YtkfeigigjilaiaaProg
import Derived.Below
import Derived.Deep.Draws
import Derived.Deep.AppendLies
import Derived.Maps.AppendAt
import Derived.OwnWalk
import Derived.Laws.BytesArg
import Derived.Laws.MakeOwn
import Derived.Laws.OwnMore
import Derived.Deep.OwnRows
import Derived.Tactics
import Derived.Lib.ConvBytes
import Derived.Laws.Slices
import Derived.WalkKit
import Derived.KernelRfl
import Derived.RowKit3
import Derived.Deep.LoopGhost
import Derived.Deep.QuietTactic
import Derived.BigQuiet
import Derived.WideLaws
import Derived.Deep.DeepCutAuto
import Derived.Deep.CutBlock
import Derived.Deep.RegionHeld3
import Derived.Laws.Rows
import Derived.Lib.AppendStr
import Derived.ArgAppend
import Derived.Laws.IdiomCopy
import Derived.OrdersHeld
import Derived.Laws.BitsLemmas
import Derived.RowKit
import Derived.WalkSpells
import Derived.RangeFuncBox
import Derived.RangeFuncLeaves
import Derived.RangeFuncBound
import Derived.RangeFuncCalls
import Derived.Shelf.Abstract
import Derived.OwnWalkIn
import Derived.TacticsInMore
import Derived.LoopNIn
import Derived.LoopIn
import Derived.Test.YtkfeigigjilaiaaPlain
import Derived.Test.YtkfeigigjilaiaaPlainMem
import Derived.Test.YtkfeigigjilaiaaWWords
import Derived.Test.YtkfeigigjilaiaaWLast
import Derived.Test.YtkfeigigjilaiaaWTab
import Derived.Test.YtkfeigigjilaiaaWFour
import Derived.Test.YtkfeigigjilaiaaWQPut
import Derived.Test.YtkfeigigjilaiaaWApart
import Derived.Test.YtkfeigigjilaiaaWArr
import Derived.Test.YtkfeigigjilaiaaWZeros
import Derived.Test.YtkfeigigjilaiaaWFoot
import Derived.Test.YtkfeigigjilaiaaWKept
import Derived.Test.YtkfeigigjilaiaaWShare
import Derived.Test.YtkfeigigjilaiaaWN
import Derived.Test.YtkfeigigjilaiaaWFootNe
import Derived.Test.YtkfeigigjilaiaaWAt
import Derived.Test.YtkfeigigjilaiaaWEqStruct
import Derived.Test.YtkfeigigjilaiaaWRepsOne
import Derived.Test.YtkfeigigjilaiaaWInv
import Derived.Test.YtkfeigigjilaiaaWInvWords
import Derived.Test.YtkfeigigjilaiaaWGuard
import Derived.Test.YtkfeigigjilaiaaWNEv
import Derived.Test.YtkfeigigjilaiaaWMore
namespace Go.Proofs.Ytkfeigigjilaiaa.PFieldBack
open Go.RowKit Go.Proofs.YtkfeigigjilaiaaW.PrintWords Go.Proofs.YtkfeigigjilaiaaW.PrintLast Go.Proofs.YtkfeigigjilaiaaW.PrintMore
attribute [local go_sem] max2_int min2_int max_two min_two max_three min_three max_four min_four   -- for this text's walks alone
set_option linter.unusedVariables false
set_option linter.unusedSimpArgs false



def errW : Option Int → Value
  | none => .nilIface
  | some c => .iface 0 (.int .i64 c)
theorem errW_none : errW none = .nilIface := rfl
theorem errW_some (c : Int) : errW (some c) = .iface 0 (.int .i64 c) := rfl

theorem info5 : (Try.prog.info? 5).map (fun i => (i.zero, i.size, i.bytes)) = some (some (.int .u8 0), 1, 1) := by kernel_rfl
-- the values' own types

end Go.Proofs.Ytkfeigigjilaiaa.PFieldBack

-- Written by this session's own tool (prn.py) over the kit's printer; its templates are the session's own. Lean checks it.
import Derived.Test.YtiogebcbndhgfaaProg
import Derived.Below
import Derived.Deep.Draws
import Derived.Deep.AppendLies
import Derived.Maps.AppendAt
import Derived.OwnWalk
import Derived.Laws.BytesArg
import Derived.Laws.MakeOwn
import Derived.Laws.OwnMore
import Derived.Deep.OwnRows
import Derived.Tactics
import Derived.Lib.ConvBytes
import Derived.Laws.Slices
import Derived.WalkKit
import Derived.KernelRfl
import Derived.RowKit3
import Derived.Deep.LoopGhost
import Derived.Deep.QuietTactic
import Derived.BigQuiet
import Derived.WideLaws
import Derived.Deep.DeepCutAuto
import Derived.Deep.CutBlock
import Derived.Deep.RegionHeld3
import Derived.Laws.Rows
import Derived.Lib.AppendStr
import Derived.ArgAppend
import Derived.Laws.IdiomCopy
import Derived.OrdersHeld
import Derived.Laws.BitsLemmas
import Derived.RowKit
import Derived.WalkSpells
import Derived.Test.YtiogebcbndhgfaaWWords
import Derived.Test.YtiogebcbndhgfaaWLast
import Derived.Test.YtiogebcbndhgfaaWTab
import Derived.Test.YtiogebcbndhgfaaWFour
import Derived.Test.YtiogebcbndhgfaaWQPut
import Derived.Test.YtiogebcbndhgfaaWApart
import Derived.Test.YtiogebcbndhgfaaWArr
import Derived.Test.YtiogebcbndhgfaaWZeros
import Derived.Test.YtiogebcbndhgfaaWFoot
import Derived.Test.YtiogebcbndhgfaaWKept
import Derived.Test.YtiogebcbndhgfaaWShare
import Derived.Test.YtiogebcbndhgfaaWN
import Derived.Test.YtiogebcbndhgfaaWFootNe
import Derived.Test.YtiogebcbndhgfaaWAt
import Derived.Test.YtiogebcbndhgfaaWEqStruct
import Derived.Test.YtiogebcbndhgfaaWRepsOne
import Derived.Test.YtiogebcbndhgfaaWInv
import Derived.Test.YtiogebcbndhgfaaWInvWords
import Derived.Test.YtiogebcbndhgfaaWGuard
import Derived.Test.YtiogebcbndhgfaaWNEv
import Derived.Test.YtiogebcbndhgfaaWMore
namespace Go.Proofs.Ytiogebcbndhgfaa.PCursorLines
open Go.RowKit Go.Proofs.YtiogebcbndhgfaaW.PrintWords Go.Proofs.YtiogebcbndhgfaaW.PrintLast Go.Proofs.YtiogebcbndhgfaaW.PrintMore
attribute [local go_sem] max2_int min2_int max_two min_two max_three min_three max_four min_four   -- for this text's walks alone
set_option linter.unusedVariables false
set_option linter.unusedSimpArgs false



def errW : Option Int → Value
  | none => .nilIface
  | some c => .iface 0 (.int .i64 c)
theorem errW_none : errW none = .nilIface := rfl
theorem errW_some (c : Int) : errW (some c) = .iface 0 (.int .i64 c) := rfl

-- the values' own types

end Go.Proofs.Ytiogebcbndhgfaa.PCursorLines

-- Written by this session's own tool (prn.py) over the kit's printer; its templates are the session's own. Lean checks it.
import Derived.Test.YtdjlbbfgobbcmaaProg
import Derived.Below
import Derived.Deep.Draws
import Derived.Deep.AppendLies
import Derived.Maps.AppendAt
import Derived.OwnWalk
import Derived.Laws.BytesArg
import Derived.Laws.MakeOwn
import Derived.Laws.OwnMore
import Derived.Deep.OwnRows
import Derived.Tactics
import Derived.Lib.ConvBytes
import Derived.Laws.Slices
import Derived.WalkKit
import Derived.KernelRfl
import Derived.RowKit3
import Derived.Deep.LoopGhost
import Derived.Deep.QuietTactic
import Derived.BigQuiet
import Derived.WideLaws
import Derived.Deep.DeepCutAuto
import Derived.Deep.CutBlock
import Derived.Deep.RegionHeld3
import Derived.Laws.Rows
import Derived.Lib.AppendStr
import Derived.ArgAppend
import Derived.Laws.IdiomCopy
import Derived.OrdersHeld
import Derived.Laws.BitsLemmas
import Derived.RowKit
import Derived.WalkSpells
import Derived.Test.YtdjlbbfgobbcmaaPlain
import Derived.Test.YtdjlbbfgobbcmaaPlainMem
import Derived.Test.YtdjlbbfgobbcmaaWWords
import Derived.Test.YtdjlbbfgobbcmaaWLast
import Derived.Test.YtdjlbbfgobbcmaaWTab
import Derived.Test.YtdjlbbfgobbcmaaWFour
import Derived.Test.YtdjlbbfgobbcmaaWQPut
import Derived.Test.YtdjlbbfgobbcmaaWApart
import Derived.Test.YtdjlbbfgobbcmaaWArr
import Derived.Test.YtdjlbbfgobbcmaaWZeros
import Derived.Test.YtdjlbbfgobbcmaaWFoot
import Derived.Test.YtdjlbbfgobbcmaaWKept
import Derived.Test.YtdjlbbfgobbcmaaWShare
import Derived.Test.YtdjlbbfgobbcmaaWN
import Derived.Test.YtdjlbbfgobbcmaaWFootNe
import Derived.Test.YtdjlbbfgobbcmaaWAt
import Derived.Test.YtdjlbbfgobbcmaaWEqStruct
import Derived.Test.YtdjlbbfgobbcmaaWRepsOne
import Derived.Test.YtdjlbbfgobbcmaaWInv
import Derived.Test.YtdjlbbfgobbcmaaWInvWords
import Derived.Test.YtdjlbbfgobbcmaaWGuard
import Derived.Test.YtdjlbbfgobbcmaaWNEv
import Derived.Test.YtdjlbbfgobbcmaaWMore
namespace Go.Proofs.Ytdjlbbfgobbcmaa.PNeedFiles
open Go.RowKit Go.Proofs.YtdjlbbfgobbcmaaW.PrintWords Go.Proofs.YtdjlbbfgobbcmaaW.PrintLast Go.Proofs.YtdjlbbfgobbcmaaW.PrintMore
attribute [local go_sem] max2_int min2_int max_two min_two max_three min_three max_four min_four   -- for this text's walks alone
set_option linter.unusedVariables false
set_option linter.unusedSimpArgs false



def errW : Option Int → Value
  | none => .nilIface
  | some c => .iface 0 (.int .i64 c)
theorem errW_none : errW none = .nilIface := rfl
theorem errW_some (c : Int) : errW (some c) = .iface 0 (.int .i64 c) := rfl

-- the values' own types

end Go.Proofs.Ytdjlbbfgobbcmaa.PNeedFiles

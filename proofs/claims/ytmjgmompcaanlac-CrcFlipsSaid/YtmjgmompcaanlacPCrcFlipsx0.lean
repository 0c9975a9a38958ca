-- Written by this session's own tool (prn.py) over the kit's printer; its templates are the session's own. Lean checks it.
import Derived.Test.YtmjgmompcaanlacProg
import Derived.Below
import Derived.Deep.Draws
import Derived.Deep.AppendLies
import Derived.Maps.AppendAt
import Derived.OwnWalk
import Derived.Laws.BytesArg
import Derived.Laws.MakeOwn
import Derived.Laws.OwnMore
import Derived.Deep.OwnRows
import Derived.Tactics
import Derived.Lib.ConvBytes
import Derived.Laws.Slices
import Derived.WalkKit
import Derived.KernelRfl
import Derived.RowKit3
import Derived.Deep.LoopGhost
import Derived.Deep.QuietTactic
import Derived.BigQuiet
import Derived.WideLaws
import Derived.Deep.DeepCutAuto
import Derived.Deep.CutBlock
import Derived.Deep.RegionHeld3
import Derived.Laws.Rows
import Derived.Lib.AppendStr
import Derived.ArgAppend
import Derived.Laws.IdiomCopy
import Derived.OrdersHeld
import Derived.Laws.BitsLemmas
import Derived.RowKit
import Derived.WalkSpells
import Derived.Test.YtmjgmompcaanlacPlainCrc
import Derived.Test.YtmjgmompcaanlacPlainMem
import Derived.Test.YtmjgmompcaanlacWWords
import Derived.Test.YtmjgmompcaanlacWLast
import Derived.Test.YtmjgmompcaanlacWTab
import Derived.Test.YtmjgmompcaanlacWFour
import Derived.Test.YtmjgmompcaanlacWQPut
import Derived.Test.YtmjgmompcaanlacWApart
import Derived.Test.YtmjgmompcaanlacWArr
import Derived.Test.YtmjgmompcaanlacWZeros
import Derived.Test.YtmjgmompcaanlacWFoot
import Derived.Test.YtmjgmompcaanlacWKept
import Derived.Test.YtmjgmompcaanlacWShare
import Derived.Test.YtmjgmompcaanlacWN
import Derived.Test.YtmjgmompcaanlacWFootNe
import Derived.Test.YtmjgmompcaanlacWAt
import Derived.Test.YtmjgmompcaanlacWEqStruct
import Derived.Test.YtmjgmompcaanlacWRepsOne
import Derived.Test.YtmjgmompcaanlacWInv
import Derived.Test.YtmjgmompcaanlacWInvWords
import Derived.Test.YtmjgmompcaanlacWGuard
import Derived.Test.YtmjgmompcaanlacWNEv
import Derived.Test.YtmjgmompcaanlacWMore
namespace Go.Proofs.Ytmjgmompcaanlac.PCrcFlips
open Go.RowKit Go.Proofs.YtmjgmompcaanlacW.PrintWords Go.Proofs.YtmjgmompcaanlacW.PrintLast Go.Proofs.YtmjgmompcaanlacW.PrintMore
attribute [local go_sem] max2_int min2_int max_two min_two max_three min_three max_four min_four   -- for this text's walks alone
set_option linter.unusedVariables false
set_option linter.unusedSimpArgs false



def errW : Option Int → Value
  | none => .nilIface
  | some c => .iface 0 (.int .i64 c)
theorem errW_none : errW none = .nilIface := rfl
theorem errW_some (c : Int) : errW (some c) = .iface 0 (.int .i64 c) := rfl

theorem info5 : (Try.prog.info? 5).map (fun i => (i.zero, i.size, i.bytes)) = some (some (.int .u8 0), 1, 1) := by kernel_rfl
-- the values' own types

end Go.Proofs.Ytmjgmompcaanlac.PCrcFlips

-- Written by this session's own tool (prn.py) over the kit's printer; its templates are the session's own. Lean checks it.
import Derived.Test.YtbplffdmggbcdaaDoorPCodecInodesx0
namespace Go.Proofs.YtbplffdmggbcdaaDoor.PCodecInodes
open Go.RowKit Go.Proofs.YtbplffdmggbcdaaDoorW.PrintWords Go.Proofs.YtbplffdmggbcdaaDoorW.PrintLast Go.Proofs.YtbplffdmggbcdaaDoorW.PrintMore
attribute [local go_sem] max2_int min2_int max_two min_two max_three min_three max_four min_four   -- for this text's walks alone
set_option linter.unusedVariables false
set_option linter.unusedSimpArgs false

-- NOT PRINTED: function 95 (stringslite_IndexByte)

-- NOT PRINTED: function 96 (bytealg_IndexString)

end Go.Proofs.YtbplffdmggbcdaaDoor.PCodecInodes

/- This session's words on memory: a block that is known whole, as a row that is read. -/
import Derived.Test.YtbplffdmggbcdaaDoorWWords
import Derived.Test.YtbplffdmggbcdaaDoorWMore
import Derived.Lib.SlBytesConst
namespace Go.Proofs.YtbplffdmggbcdaaDoor.Mem
open Go.RowKit Go.Proofs.YtbplffdmggbcdaaDoorW.PrintWords Go.Proofs.YtbplffdmggbcdaaDoorW.PrintMore

end Go.Proofs.YtbplffdmggbcdaaDoor.Mem

/- Words on memory, kind by kind, for the machine side (turned and cut down by a program of this session out of the kit's printed words). No condition. -/
import Derived.Test.YtibfeacgnadiaaaUFnPartOkInv
import Derived.Test.YtibfeacgnadiaaaUFnPartOkFootNe
namespace Go.Proofs.YtibfeacgnadiaaaUFnPartOk.PrintWords
open Go.RowKit
end Go.Proofs.YtibfeacgnadiaaaUFnPartOk.PrintWords
namespace Go.Proofs.YtibfeacgnadiaaaUFnPartOk.PrintLast
section
variable {ops : Array Oper} {a : Act} {o og : Oper} {g : Nat} {t : Tmp} {u : Bool}
end
end Go.Proofs.YtibfeacgnadiaaaUFnPartOk.PrintLast

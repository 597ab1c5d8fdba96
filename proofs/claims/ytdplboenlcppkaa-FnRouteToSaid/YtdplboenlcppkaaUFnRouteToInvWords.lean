/- Words on memory, kind by kind, for the machine side (turned and cut down by a program of this session out of the kit's printed words). No condition. -/
import Derived.Test.YtdplboenlcppkaaUFnRouteToInv
import Derived.Test.YtdplboenlcppkaaUFnRouteToFootNe
namespace Go.Proofs.YtdplboenlcppkaaUFnRouteTo.PrintWords
open Go.RowKit
end Go.Proofs.YtdplboenlcppkaaUFnRouteTo.PrintWords
namespace Go.Proofs.YtdplboenlcppkaaUFnRouteTo.PrintLast
section
variable {ops : Array Oper} {a : Act} {o og : Oper} {g : Nat} {t : Tmp} {u : Bool}
end
end Go.Proofs.YtdplboenlcppkaaUFnRouteTo.PrintLast

/- Words on memory, kind by kind, for the machine side (turned and cut down by a program of this session out of the kit's printed words). No condition. -/
import Derived.Test.YtdplboenlcppkaaUFnExactRouteDropInv
import Derived.Test.YtdplboenlcppkaaUFnExactRouteDropFootNe
namespace Go.Proofs.YtdplboenlcppkaaUFnExactRouteDrop.PrintWords
open Go.RowKit
end Go.Proofs.YtdplboenlcppkaaUFnExactRouteDrop.PrintWords
namespace Go.Proofs.YtdplboenlcppkaaUFnExactRouteDrop.PrintLast
section
variable {ops : Array Oper} {a : Act} {o og : Oper} {g : Nat} {t : Tmp} {u : Bool}
end
end Go.Proofs.YtdplboenlcppkaaUFnExactRouteDrop.PrintLast

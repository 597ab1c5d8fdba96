/- Words on memory, kind by kind, for the machine side (turned and cut down by a program of this session out of the kit's printed words). No condition. -/
import Derived.Test.YtdplboenlcppkaaUFnExactNearOkInv
import Derived.Test.YtdplboenlcppkaaUFnExactNearOkFootNe
namespace Go.Proofs.YtdplboenlcppkaaUFnExactNearOk.PrintWords
open Go.RowKit
end Go.Proofs.YtdplboenlcppkaaUFnExactNearOk.PrintWords
namespace Go.Proofs.YtdplboenlcppkaaUFnExactNearOk.PrintLast
section
variable {ops : Array Oper} {a : Act} {o og : Oper} {g : Nat} {t : Tmp} {u : Bool}
end
end Go.Proofs.YtdplboenlcppkaaUFnExactNearOk.PrintLast

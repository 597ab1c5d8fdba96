/- Words on memory, kind by kind, for the machine side (turned and cut down by a program of this session out of the kit's printed words). No condition. -/
import Derived.Test.YtdplboenlcppkaaUFnNearOkInv
import Derived.Test.YtdplboenlcppkaaUFnNearOkFootNe
namespace Go.Proofs.YtdplboenlcppkaaUFnNearOk.PrintWords
open Go.RowKit
end Go.Proofs.YtdplboenlcppkaaUFnNearOk.PrintWords
namespace Go.Proofs.YtdplboenlcppkaaUFnNearOk.PrintLast
section
variable {ops : Array Oper} {a : Act} {o og : Oper} {g : Nat} {t : Tmp} {u : Bool}
end
end Go.Proofs.YtdplboenlcppkaaUFnNearOk.PrintLast

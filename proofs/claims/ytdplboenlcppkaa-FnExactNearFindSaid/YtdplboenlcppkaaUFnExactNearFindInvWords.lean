/- Words on memory, kind by kind, for the machine side (turned and cut down by a program of this session out of the kit's printed words). No condition. -/
import Derived.Test.YtdplboenlcppkaaUFnExactNearFindInv
import Derived.Test.YtdplboenlcppkaaUFnExactNearFindFootNe
namespace Go.Proofs.YtdplboenlcppkaaUFnExactNearFind.PrintWords
open Go.RowKit
end Go.Proofs.YtdplboenlcppkaaUFnExactNearFind.PrintWords
namespace Go.Proofs.YtdplboenlcppkaaUFnExactNearFind.PrintLast
section
variable {ops : Array Oper} {a : Act} {o og : Oper} {g : Nat} {t : Tmp} {u : Bool}
end
end Go.Proofs.YtdplboenlcppkaaUFnExactNearFind.PrintLast

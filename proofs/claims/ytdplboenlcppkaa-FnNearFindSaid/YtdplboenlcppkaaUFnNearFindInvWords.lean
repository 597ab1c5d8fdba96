/- Words on memory, kind by kind, for the machine side (turned and cut down by a program of this session out of the kit's printed words). No condition. -/
import Derived.Test.YtdplboenlcppkaaUFnNearFindInv
import Derived.Test.YtdplboenlcppkaaUFnNearFindFootNe
namespace Go.Proofs.YtdplboenlcppkaaUFnNearFind.PrintWords
open Go.RowKit
end Go.Proofs.YtdplboenlcppkaaUFnNearFind.PrintWords
namespace Go.Proofs.YtdplboenlcppkaaUFnNearFind.PrintLast
section
variable {ops : Array Oper} {a : Act} {o og : Oper} {g : Nat} {t : Tmp} {u : Bool}
end
end Go.Proofs.YtdplboenlcppkaaUFnNearFind.PrintLast

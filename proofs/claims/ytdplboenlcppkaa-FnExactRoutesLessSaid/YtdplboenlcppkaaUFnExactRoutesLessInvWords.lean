/- Words on memory, kind by kind, for the machine side (turned and cut down by a program of this session out of the kit's printed words). No condition. -/
import Derived.Test.YtdplboenlcppkaaUFnExactRoutesLessInv
import Derived.Test.YtdplboenlcppkaaUFnExactRoutesLessFootNe
namespace Go.Proofs.YtdplboenlcppkaaUFnExactRoutesLess.PrintWords
open Go.RowKit
end Go.Proofs.YtdplboenlcppkaaUFnExactRoutesLess.PrintWords
namespace Go.Proofs.YtdplboenlcppkaaUFnExactRoutesLess.PrintLast
section
variable {ops : Array Oper} {a : Act} {o og : Oper} {g : Nat} {t : Tmp} {u : Bool}
end
end Go.Proofs.YtdplboenlcppkaaUFnExactRoutesLess.PrintLast

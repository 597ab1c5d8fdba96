/- Words on memory, kind by kind, for the machine side (turned and cut down by a program of this session out of the kit's printed words). No condition. -/
import Derived.Test.YtdplboenlcppkaaUFnExactPartOkInv
import Derived.Test.YtdplboenlcppkaaUFnExactPartOkFootNe
namespace Go.Proofs.YtdplboenlcppkaaUFnExactPartOk.PrintWords
open Go.RowKit
end Go.Proofs.YtdplboenlcppkaaUFnExactPartOk.PrintWords
namespace Go.Proofs.YtdplboenlcppkaaUFnExactPartOk.PrintLast
section
variable {ops : Array Oper} {a : Act} {o og : Oper} {g : Nat} {t : Tmp} {u : Bool}
end
end Go.Proofs.YtdplboenlcppkaaUFnExactPartOk.PrintLast

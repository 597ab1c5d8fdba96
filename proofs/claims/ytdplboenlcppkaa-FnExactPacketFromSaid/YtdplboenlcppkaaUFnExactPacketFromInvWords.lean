/- Words on memory, kind by kind, for the machine side (turned and cut down by a program of this session out of the kit's printed words). No condition. -/
import Derived.Test.YtdplboenlcppkaaUFnExactPacketFromInv
import Derived.Test.YtdplboenlcppkaaUFnExactPacketFromFootNe
namespace Go.Proofs.YtdplboenlcppkaaUFnExactPacketFrom.PrintWords
open Go.RowKit
end Go.Proofs.YtdplboenlcppkaaUFnExactPacketFrom.PrintWords
namespace Go.Proofs.YtdplboenlcppkaaUFnExactPacketFrom.PrintLast
section
variable {ops : Array Oper} {a : Act} {o og : Oper} {g : Nat} {t : Tmp} {u : Bool}
end
end Go.Proofs.YtdplboenlcppkaaUFnExactPacketFrom.PrintLast

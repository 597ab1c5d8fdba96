/- Words on memory, kind by kind, for the machine side (turned and cut down by a program of this session out of the kit's printed words). No condition. -/
import Derived.Test.YtpoedefohfonjaaUFnExactRoutePutInv
import Derived.Test.YtpoedefohfonjaaUFnExactRoutePutFootNe
namespace Go.Proofs.YtpoedefohfonjaaUFnExactRoutePut.PrintWords
open Go.RowKit
end Go.Proofs.YtpoedefohfonjaaUFnExactRoutePut.PrintWords
namespace Go.Proofs.YtpoedefohfonjaaUFnExactRoutePut.PrintLast
section
variable {ops : Array Oper} {a : Act} {o og : Oper} {g : Nat} {t : Tmp} {u : Bool}
end
end Go.Proofs.YtpoedefohfonjaaUFnExactRoutePut.PrintLast

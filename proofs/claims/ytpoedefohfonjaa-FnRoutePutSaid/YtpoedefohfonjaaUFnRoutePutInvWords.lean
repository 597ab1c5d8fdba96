/- Words on memory, kind by kind, for the machine side (turned and cut down by a program of this session out of the kit's printed words). No condition. -/
import Derived.Test.YtpoedefohfonjaaUFnRoutePutInv
import Derived.Test.YtpoedefohfonjaaUFnRoutePutFootNe
namespace Go.Proofs.YtpoedefohfonjaaUFnRoutePut.PrintWords
open Go.RowKit
end Go.Proofs.YtpoedefohfonjaaUFnRoutePut.PrintWords
namespace Go.Proofs.YtpoedefohfonjaaUFnRoutePut.PrintLast
section
variable {ops : Array Oper} {a : Act} {o og : Oper} {g : Nat} {t : Tmp} {u : Bool}
end
end Go.Proofs.YtpoedefohfonjaaUFnRoutePut.PrintLast

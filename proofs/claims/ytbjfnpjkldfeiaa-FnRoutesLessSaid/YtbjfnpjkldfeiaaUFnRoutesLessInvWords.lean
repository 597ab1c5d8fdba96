/- Words on memory, kind by kind, for the machine side (turned and cut down by a program of this session out of the kit's printed words). No condition. -/
import Derived.Test.YtbjfnpjkldfeiaaUFnRoutesLessInv
import Derived.Test.YtbjfnpjkldfeiaaUFnRoutesLessFootNe
namespace Go.Proofs.YtbjfnpjkldfeiaaUFnRoutesLess.PrintWords
open Go.RowKit
end Go.Proofs.YtbjfnpjkldfeiaaUFnRoutesLess.PrintWords
namespace Go.Proofs.YtbjfnpjkldfeiaaUFnRoutesLess.PrintLast
section
variable {ops : Array Oper} {a : Act} {o og : Oper} {g : Nat} {t : Tmp} {u : Bool}
end
end Go.Proofs.YtbjfnpjkldfeiaaUFnRoutesLess.PrintLast

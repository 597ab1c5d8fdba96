/- Words on memory, kind by kind, for the machine side (turned and cut down by a program of this session out of the kit's printed words). No condition. -/
import Derived.Test.YtbjfnpjkldfeiaaUFnExactPartsOkInv
import Derived.Test.YtbjfnpjkldfeiaaUFnExactPartsOkFootNe
namespace Go.Proofs.YtbjfnpjkldfeiaaUFnExactPartsOk.PrintWords
open Go.RowKit
end Go.Proofs.YtbjfnpjkldfeiaaUFnExactPartsOk.PrintWords
namespace Go.Proofs.YtbjfnpjkldfeiaaUFnExactPartsOk.PrintLast
section
variable {ops : Array Oper} {a : Act} {o og : Oper} {g : Nat} {t : Tmp} {u : Bool}
end
end Go.Proofs.YtbjfnpjkldfeiaaUFnExactPartsOk.PrintLast

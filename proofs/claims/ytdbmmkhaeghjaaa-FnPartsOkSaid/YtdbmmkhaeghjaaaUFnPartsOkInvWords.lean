/- Words on memory, kind by kind, for the machine side (turned and cut down by a program of this session out of the kit's printed words). No condition. -/
import Derived.Test.YtdbmmkhaeghjaaaUFnPartsOkInv
import Derived.Test.YtdbmmkhaeghjaaaUFnPartsOkFootNe
namespace Go.Proofs.YtdbmmkhaeghjaaaUFnPartsOk.PrintWords
open Go.RowKit
end Go.Proofs.YtdbmmkhaeghjaaaUFnPartsOk.PrintWords
namespace Go.Proofs.YtdbmmkhaeghjaaaUFnPartsOk.PrintLast
section
variable {ops : Array Oper} {a : Act} {o og : Oper} {g : Nat} {t : Tmp} {u : Bool}
end
end Go.Proofs.YtdbmmkhaeghjaaaUFnPartsOk.PrintLast

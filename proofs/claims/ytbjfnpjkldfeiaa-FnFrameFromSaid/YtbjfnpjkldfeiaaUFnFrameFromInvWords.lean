/- Words on memory, kind by kind, for the machine side (turned and cut down by a program of this session out of the kit's printed words). No condition. -/
import Derived.Test.YtbjfnpjkldfeiaaUFnFrameFromInv
import Derived.Test.YtbjfnpjkldfeiaaUFnFrameFromFootNe
namespace Go.Proofs.YtbjfnpjkldfeiaaUFnFrameFrom.PrintWords
open Go.RowKit
end Go.Proofs.YtbjfnpjkldfeiaaUFnFrameFrom.PrintWords
namespace Go.Proofs.YtbjfnpjkldfeiaaUFnFrameFrom.PrintLast
section
variable {ops : Array Oper} {a : Act} {o og : Oper} {g : Nat} {t : Tmp} {u : Bool}
end
end Go.Proofs.YtbjfnpjkldfeiaaUFnFrameFrom.PrintLast

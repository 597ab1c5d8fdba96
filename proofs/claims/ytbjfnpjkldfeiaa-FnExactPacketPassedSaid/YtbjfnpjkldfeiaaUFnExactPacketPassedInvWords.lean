/- Words on memory, kind by kind, for the machine side (turned and cut down by a program of this session out of the kit's printed words). No condition. -/
import Derived.Test.YtbjfnpjkldfeiaaUFnExactPacketPassedInv
import Derived.Test.YtbjfnpjkldfeiaaUFnExactPacketPassedFootNe
namespace Go.Proofs.YtbjfnpjkldfeiaaUFnExactPacketPassed.PrintWords
open Go.RowKit
end Go.Proofs.YtbjfnpjkldfeiaaUFnExactPacketPassed.PrintWords
namespace Go.Proofs.YtbjfnpjkldfeiaaUFnExactPacketPassed.PrintLast
section
variable {ops : Array Oper} {a : Act} {o og : Oper} {g : Nat} {t : Tmp} {u : Bool}
end
end Go.Proofs.YtbjfnpjkldfeiaaUFnExactPacketPassed.PrintLast

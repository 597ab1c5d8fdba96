/- Words on memory, kind by kind, for the machine side (turned and cut down by a program of this session out of the kit's printed words). No condition. -/
import Derived.Test.YtbjfnpjkldfeiaaUFnPacketPassedInv
import Derived.Test.YtbjfnpjkldfeiaaUFnPacketPassedFootNe
namespace Go.Proofs.YtbjfnpjkldfeiaaUFnPacketPassed.PrintWords
open Go.RowKit
end Go.Proofs.YtbjfnpjkldfeiaaUFnPacketPassed.PrintWords
namespace Go.Proofs.YtbjfnpjkldfeiaaUFnPacketPassed.PrintLast
section
variable {ops : Array Oper} {a : Act} {o og : Oper} {g : Nat} {t : Tmp} {u : Bool}
end
end Go.Proofs.YtbjfnpjkldfeiaaUFnPacketPassed.PrintLast

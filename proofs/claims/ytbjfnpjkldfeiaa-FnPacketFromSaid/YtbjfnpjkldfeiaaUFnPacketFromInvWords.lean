/- Words on memory, kind by kind, for the machine side (turned and cut down by a program of this session out of the kit's printed words). No condition. -/
import Derived.Test.YtbjfnpjkldfeiaaUFnPacketFromInv
import Derived.Test.YtbjfnpjkldfeiaaUFnPacketFromFootNe
namespace Go.Proofs.YtbjfnpjkldfeiaaUFnPacketFrom.PrintWords
open Go.RowKit
end Go.Proofs.YtbjfnpjkldfeiaaUFnPacketFrom.PrintWords
namespace Go.Proofs.YtbjfnpjkldfeiaaUFnPacketFrom.PrintLast
section
variable {ops : Array Oper} {a : Act} {o og : Oper} {g : Nat} {t : Tmp} {u : Bool}
end
end Go.Proofs.YtbjfnpjkldfeiaaUFnPacketFrom.PrintLast

/- Words on memory, kind by kind, for the machine side (turned and cut down by a program of this session out of the kit's printed words). No condition. -/
import Derived.Test.YtbjfnpjkldfeiaaUFnPacketBytesInv
import Derived.Test.YtbjfnpjkldfeiaaUFnPacketBytesFootNe
namespace Go.Proofs.YtbjfnpjkldfeiaaUFnPacketBytes.PrintWords
open Go.RowKit
end Go.Proofs.YtbjfnpjkldfeiaaUFnPacketBytes.PrintWords
namespace Go.Proofs.YtbjfnpjkldfeiaaUFnPacketBytes.PrintLast
section
variable {ops : Array Oper} {a : Act} {o og : Oper} {g : Nat} {t : Tmp} {u : Bool}
end
end Go.Proofs.YtbjfnpjkldfeiaaUFnPacketBytes.PrintLast

/- Words on memory, kind by kind, for the machine side (turned and cut down by a program of this session out of the kit's printed words). No condition. -/
import Derived.Test.YtdbmmkhaeghjaaaUFnPartsOkFootNe
namespace Go.Proofs.YtdbmmkhaeghjaaaUFnPartsOk.PrintWords
open Go.RowKit
section
variable {w w' u : World} {m B g : Nat} {o : Obj} {row : Option Nat} {S : Nat → Prop} {a : Addr} {v : Value}
end
namespace Kd
section
variable {α : Type} {d : Kd α} {e base n m : Nat} {ok : Nat → Prop} {w w' : World} {v : Value} {A : Option Addr} {xs : List α}
end
end Kd
end Go.Proofs.YtdbmmkhaeghjaaaUFnPartsOk.PrintWords

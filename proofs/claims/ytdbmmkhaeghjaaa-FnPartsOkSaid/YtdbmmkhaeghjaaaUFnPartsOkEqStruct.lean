/- Words on memory, kind by kind, for the machine side (turned and cut down by a program of this session out of the kit's printed words). No condition. -/
import Derived.Test.YtdbmmkhaeghjaaaUFnPartsOkWords
import Derived.Laws.StructEq
namespace Go.Proofs.YtdbmmkhaeghjaaaUFnPartsOk.PrintWords
open Go.RowKit
section
variable {P : Program} {d : Nat} {xs ys : Array Value} {f : Field} {fs : List Field} {a b : Value} {r s : Bool} {w : World}
end
end Go.Proofs.YtdbmmkhaeghjaaaUFnPartsOk.PrintWords

/- Words on memory, kind by kind, for the machine side (turned and cut down by a program of this session out of the kit's printed words). No condition. -/
import Derived.Test.YtdbmmkhaeghjaaaUFnPartsOkTab
namespace Go.Proofs.YtdbmmkhaeghjaaaUFnPartsOk.PrintLast
section
variable {P : Program} {ops : Array Oper} {Q : Exit → Act → World → Prop} {md : Region.Mode} {T : Bool × List (List Nat × List Nat)} {B : List Nat} {O : List Nat} {b : Nat → Bool} {i j n : Nat}
end
end Go.Proofs.YtdbmmkhaeghjaaaUFnPartsOk.PrintLast

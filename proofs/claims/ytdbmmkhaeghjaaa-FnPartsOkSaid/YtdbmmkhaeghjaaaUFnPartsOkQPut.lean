/- Words on memory, kind by kind, for the machine side (turned and cut down by a program of this session out of the kit's printed words). No condition. -/
import Derived.Test.YtdbmmkhaeghjaaaUFnPartsOkWords
import Derived.Test.YtdbmmkhaeghjaaaUFnPartsOkLast
namespace Go.Proofs.YtdbmmkhaeghjaaaUFnPartsOk.PrintWords
open Go.RowKit
namespace Kd
section
variable {α : Type} {d : Kd α} {e base g o n cap : Nat} {ok okp : Nat → Prop} {w W : World} {v : Value} {xs : List α}
end
section
variable {α : Type} {enc : α → Value} {h1 : ∀ x, (enc x).oneCell' = true} {e base g o n cap : Nat} {ok : Nat → Prop} {W : World} {xs : List α}
end
end Kd
end Go.Proofs.YtdbmmkhaeghjaaaUFnPartsOk.PrintWords

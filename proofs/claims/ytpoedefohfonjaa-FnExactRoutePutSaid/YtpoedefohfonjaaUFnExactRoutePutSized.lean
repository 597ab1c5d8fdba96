/- Words on memory, kind by kind, for the machine side (turned and cut down by a program of this session out of the kit's printed words). No condition. -/
import Derived.SizedLaws
import Derived.ChangeSlices
namespace Go.Proofs.YtpoedefohfonjaaUFnExactRoutePut.PrintWords
open Go.ChangeShapes Go.WideShapes
end Go.Proofs.YtpoedefohfonjaaUFnExactRoutePut.PrintWords

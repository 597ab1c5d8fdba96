/- How the arguments of FnRouteOk open: structs by their fields, slices to lists. No condition. -/
import Derived.Test.YtpoedefohfonjaaPFnRouteOkx0
import Derived.Test.YtpoedefohfonjaaOpen
namespace Go.Proofs.Ytpoedefohfonjaa.ArgFnRouteOk
set_option linter.unusedVariables false
open Go Go.RowKit Go.ChangeShapes Go.WideShapes Go.Proofs.Ytpoedefohfonjaa.PFnRouteOk Go.Proofs.Ytpoedefohfonjaa.Opens Go.Proofs.YtpoedefohfonjaaW.PrintWords Go.Proofs.YtpoedefohfonjaaW.PrintLast
theorem one_cell {a b : Value} (h : [a] = [b]) : a = b := by injection h
theorem arr_of {cs : Array Value} {l : List Value} (h : cs.toList = l) : cs = l.toArray := by rw [← h]
end Go.Proofs.Ytpoedefohfonjaa.ArgFnRouteOk

/- The law FnExactConstants, printed as a closed function, answers true. No condition. -/
import Derived.Test.YtcfjgdbinciakaaPFnExactConstantsx1
namespace Go.Proofs.Ytcfjgdbinciakaa.Pure
open Go.RowKit Go.Proofs.Ytcfjgdbinciakaa.PFnExactConstants Go.Proofs.YtcfjgdbinciakaaW.PrintWords Go.Proofs.YtcfjgdbinciakaaW.PrintLast

/-- YOURS: laws_FnExactConstants.f  = some true
What it reaches (each with k first where it has rounds; `.mono`: more rounds tell the same; `.l0`, ..: its loops, with `.mono_l`): laws_FnExactConstants.f -/
theorem FnExactConstants : laws_FnExactConstants.Pure := by
  rfl

end Go.Proofs.Ytcfjgdbinciakaa.Pure

/- The machine side of some functions: each comes to its pure answer (written by a program of this session with the kit's print). No condition. -/
import Derived.Test.YtbjfnpjkldfeiaaProg
import Derived.Below
import Derived.Deep.Draws
import Derived.Deep.AppendLies
import Derived.Maps.AppendAt
import Derived.OwnWalk
import Derived.Laws.BytesArg
import Derived.Laws.MakeOwn
import Derived.Laws.OwnMore
import Derived.Deep.OwnRows
import Derived.Tactics
import Derived.Lib.ConvBytes
import Derived.Laws.Slices
import Derived.WalkKit
import Derived.KernelRfl
import Derived.RowKit3
import Derived.Deep.LoopGhost
import Derived.Deep.QuietTactic
import Derived.BigQuiet
import Derived.WideLaws
import Derived.Deep.DeepCutAuto
import Derived.Deep.CutBlock
import Derived.Deep.RegionHeld3
import Derived.Laws.Rows
import Derived.Lib.AppendStr
import Derived.ArgAppend
import Derived.Laws.IdiomCopy
import Derived.OrdersHeld
import Derived.Laws.BitsLemmas
import Derived.RowKit
import Derived.RangeFuncNested
import Derived.RangeFuncBound
import Derived.RangeFuncCalls
import Derived.RangeFuncLeaves
import Derived.Shelf.Abstract
import Derived.OwnWalkIn
import Derived.TacticsInMore
import Derived.LoopNIn
import Derived.LoopIn
import Derived.RegionIn
import Derived.Deep.Slices
import Derived.Lib.Hide
import Derived.Lib.AppendZerosOnto
import Derived.Lib.SliceRun
import Derived.Lib.Walk
import Derived.Test.YtbjfnpjkldfeiaaUFnPacketFromWords
import Derived.Test.YtbjfnpjkldfeiaaUFnPacketFromLast
import Derived.Test.YtbjfnpjkldfeiaaUFnPacketFromTab
import Derived.Test.YtbjfnpjkldfeiaaUFnPacketFromFour
import Derived.Test.YtbjfnpjkldfeiaaUFnPacketFromQPut
import Derived.Test.YtbjfnpjkldfeiaaUFnPacketFromApart
import Derived.Test.YtbjfnpjkldfeiaaUFnPacketFromArr
import Derived.Test.YtbjfnpjkldfeiaaUFnPacketFromZeros
import Derived.Test.YtbjfnpjkldfeiaaUFnPacketFromFoot
import Derived.Test.YtbjfnpjkldfeiaaUFnPacketFromKept
import Derived.Test.YtbjfnpjkldfeiaaUFnPacketFromShare
import Derived.Test.YtbjfnpjkldfeiaaUFnPacketFromN
import Derived.Test.YtbjfnpjkldfeiaaUFnPacketFromFootNe
import Derived.Test.YtbjfnpjkldfeiaaUFnPacketFromAt
import Derived.Test.YtbjfnpjkldfeiaaUFnPacketFromEqStruct
import Derived.Test.YtbjfnpjkldfeiaaUFnPacketFromRepsOne
import Derived.Test.YtbjfnpjkldfeiaaUFnPacketFromInv
import Derived.Test.YtbjfnpjkldfeiaaUFnPacketFromInvWords
import Derived.Test.YtbjfnpjkldfeiaaUFnPacketFromGuard
import Derived.Test.YtbjfnpjkldfeiaaUFnPacketFromNEv
import Derived.Test.YtbjfnpjkldfeiaaUFnPacketFromMore
namespace Go.Proofs.Ytbjfnpjkldfeiaa.PFnPacketFrom
open Go.RowKit Go.Proofs.YtbjfnpjkldfeiaaUFnPacketFrom.PrintWords Go.Proofs.YtbjfnpjkldfeiaaUFnPacketFrom.PrintLast Go.Proofs.YtbjfnpjkldfeiaaUFnPacketFrom.PrintMore
attribute [local go_sem] max2_int min2_int max_two min_two max_three min_three max_four min_four   -- for this text's walks alone
set_option linter.unusedVariables false
set_option linter.unusedSimpArgs false



def errW : Option Int → Value
 | none => .nilIface
 | some c => .iface 0 (.int .i64 c)
theorem errW_none : errW none = .nilIface := rfl
theorem errW_some (c : Int) : errW (some c) = .iface 0 (.int .i64 c) := rfl

theorem info5 : (Try.prog.info? 5).map (fun i => (i.zero, i.size, i.bytes)) = some (some (.int .u8 0), 1, 1) := by kernel_rfl
-- the values' own types

end Go.Proofs.Ytbjfnpjkldfeiaa.PFnPacketFrom

/- The machine side of some functions: each comes to its pure answer (written by a program of this session with the kit's print). No condition. -/
import Derived.Test.YtbjfnpjkldfeiaaProg
import Derived.Below
import Derived.Deep.Draws
import Derived.Deep.AppendLies
import Derived.Maps.AppendAt
import Derived.OwnWalk
import Derived.Laws.BytesArg
import Derived.Laws.MakeOwn
import Derived.Laws.OwnMore
import Derived.Deep.OwnRows
import Derived.Tactics
import Derived.Lib.ConvBytes
import Derived.Laws.Slices
import Derived.WalkKit
import Derived.KernelRfl
import Derived.RowKit3
import Derived.Deep.LoopGhost
import Derived.Deep.QuietTactic
import Derived.BigQuiet
import Derived.WideLaws
import Derived.Deep.DeepCutAuto
import Derived.Deep.CutBlock
import Derived.Deep.RegionHeld3
import Derived.Laws.Rows
import Derived.Lib.AppendStr
import Derived.ArgAppend
import Derived.Laws.IdiomCopy
import Derived.OrdersHeld
import Derived.Laws.BitsLemmas
import Derived.RowKit
import Derived.RangeFuncNested
import Derived.RangeFuncBound
import Derived.RangeFuncCalls
import Derived.RangeFuncLeaves
import Derived.Shelf.Abstract
import Derived.OwnWalkIn
import Derived.TacticsInMore
import Derived.LoopNIn
import Derived.LoopIn
import Derived.RegionIn
import Derived.Deep.Slices
import Derived.Lib.Hide
import Derived.Lib.AppendZerosOnto
import Derived.Lib.SliceRun
import Derived.Lib.Walk
import Derived.Test.YtbjfnpjkldfeiaaUFnExactPacketPassedWords
import Derived.Test.YtbjfnpjkldfeiaaUFnExactPacketPassedLast
import Derived.Test.YtbjfnpjkldfeiaaUFnExactPacketPassedTab
import Derived.Test.YtbjfnpjkldfeiaaUFnExactPacketPassedFour
import Derived.Test.YtbjfnpjkldfeiaaUFnExactPacketPassedQPut
import Derived.Test.YtbjfnpjkldfeiaaUFnExactPacketPassedApart
import Derived.Test.YtbjfnpjkldfeiaaUFnExactPacketPassedArr
import Derived.Test.YtbjfnpjkldfeiaaUFnExactPacketPassedZeros
import Derived.Test.YtbjfnpjkldfeiaaUFnExactPacketPassedFoot
import Derived.Test.YtbjfnpjkldfeiaaUFnExactPacketPassedKept
import Derived.Test.YtbjfnpjkldfeiaaUFnExactPacketPassedShare
import Derived.Test.YtbjfnpjkldfeiaaUFnExactPacketPassedN
import Derived.Test.YtbjfnpjkldfeiaaUFnExactPacketPassedFootNe
import Derived.Test.YtbjfnpjkldfeiaaUFnExactPacketPassedAt
import Derived.Test.YtbjfnpjkldfeiaaUFnExactPacketPassedEqStruct
import Derived.Test.YtbjfnpjkldfeiaaUFnExactPacketPassedRepsOne
import Derived.Test.YtbjfnpjkldfeiaaUFnExactPacketPassedInv
import Derived.Test.YtbjfnpjkldfeiaaUFnExactPacketPassedInvWords
import Derived.Test.YtbjfnpjkldfeiaaUFnExactPacketPassedGuard
import Derived.Test.YtbjfnpjkldfeiaaUFnExactPacketPassedNEv
import Derived.Test.YtbjfnpjkldfeiaaUFnExactPacketPassedMore
namespace Go.Proofs.Ytbjfnpjkldfeiaa.PFnExactPacketPassed
open Go.RowKit Go.Proofs.YtbjfnpjkldfeiaaUFnExactPacketPassed.PrintWords Go.Proofs.YtbjfnpjkldfeiaaUFnExactPacketPassed.PrintLast Go.Proofs.YtbjfnpjkldfeiaaUFnExactPacketPassed.PrintMore
attribute [local go_sem] max2_int min2_int max_two min_two max_three min_three max_four min_four   -- for this text's walks alone
set_option linter.unusedVariables false
set_option linter.unusedSimpArgs false



def errW : Option Int → Value
 | none => .nilIface
 | some c => .iface 0 (.int .i64 c)
theorem errW_none : errW none = .nilIface := rfl
theorem errW_some (c : Int) : errW (some c) = .iface 0 (.int .i64 c) := rfl

theorem info3 : (Try.prog.info? 3).map (fun i => (i.zero, i.size, i.bytes)) = some (some (.int .i64 0), 1, 8) := by kernel_rfl
theorem info5 : (Try.prog.info? 5).map (fun i => (i.zero, i.size, i.bytes)) = some (some (.int .u8 0), 1, 1) := by kernel_rfl
-- the values' own types

end Go.Proofs.Ytbjfnpjkldfeiaa.PFnExactPacketPassed

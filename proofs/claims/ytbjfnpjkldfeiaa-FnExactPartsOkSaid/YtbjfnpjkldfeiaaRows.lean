/-
  No cell of these rows narrows 'for every input' (looked for: loops, veiled, ifaces, maps, wideKeys, modest, calm, conditions, laid).
  DERIVED. THE GIVEN ROWS OF THIS SEAT. 10 by the template 'for every input the law returns true; each argument reads behind the call as it read before'; 0 by the template 'total and deterministic' (their statements: YtbjfnpjkldfeiaaTotals.lean).
  GIVEN WITH THE SEED: the statements are not yours to turn. If you find one false, say at which input.
  Laid BY PROGRAM, IN A SANDBOX (cutbox-rows.mjs): the forced cells as the released guide's own fill.sh prints them over the translation 431d4e267f647974… (all of the seat's roots in one cut). By AI agents, Wed Nov 11 2026. No macro, syntax, notation, axiom, sorry.
-/
import Derived.Test.YtbjfnpjkldfeiaaChecked
import GoSem.Claim
import GoSem.ClaimJoined
import GoSem.ClaimMapViews
import Derived.JoinedTies
import Derived.KernelRfl
namespace Go.Proofs.Ytbjfnpjkldfeiaa
/- THE CELL 'sum', in the pinned program and in every row, IS THE sha256 OF THE DUMP (.gsa) THAT YtbjfnpjkldfeiaaProg.lean LOADS. Nothing in Lean hashes anything: it is a label: what it is worth is what the hold of that sum in a sandbox is worth. -/
noncomputable def Try.pinned : Pinned := { name := "ytbjfnpjkldfeiaa", sum := "431d4e267f647974b1c3f7ea49b442795261a2a098a1ee9826de18215d74e13c", checked := Try.checked }
namespace Rows
def none {H : Type} : Left H := { results := [], args := [] }

/-- 'laws.FnExactFrameFrom': WHATEVER THE INPUT: true; the input reads as it did. -/
def fnExactFrameFromSpec : ChangeSpec := { name := "fnExactFrameFrom", fn := fun _ => fun
  | [d] => { results := [.lit (.bool true)], args := [d] }
  | _ => none }
def fnExactFrameFromRow : OpenClaim := { program := "ytbjfnpjkldfeiaa", sum := "431d4e267f647974b1c3f7ea49b442795261a2a098a1ee9826de18215d74e13c", func := "loop.example/netstack/laws.FnExactFrameFrom", spec := "fnExactFrameFrom", unfollowed := true, recurses := true, apart := false }
def FnExactFrameFromSaid : Prop := fnExactFrameFromRow.holds Try.pinned (OpenSpec.ofChange fnExactFrameFromSpec)

/-- ITS FALSE NEIGHBOUR: 'it returns false'. Refute it at one input. -/
def fnExactFrameFromWrong : ChangeSpec := { name := "fnExactFrameFrom", fn := fun _ => fun
  | [d] => { results := [.lit (.bool false)], args := [d] }
  | _ => none }
def FnExactFrameFromWrongFalsely : Prop := fnExactFrameFromRow.holds Try.pinned (OpenSpec.ofChange fnExactFrameFromWrong)

/-- 'laws.FnExactPacketPassed': WHATEVER THE INPUT: true; the input reads as it did. -/
def fnExactPacketPassedSpec : ChangeSpec := { name := "fnExactPacketPassed", fn := fun _ => fun
  | [d] => { results := [.lit (.bool true)], args := [d] }
  | _ => none }
def fnExactPacketPassedRow : OpenClaim := { program := "ytbjfnpjkldfeiaa", sum := "431d4e267f647974b1c3f7ea49b442795261a2a098a1ee9826de18215d74e13c", func := "loop.example/netstack/laws.FnExactPacketPassed", spec := "fnExactPacketPassed", unfollowed := true, recurses := true, apart := false }
def FnExactPacketPassedSaid : Prop := fnExactPacketPassedRow.holds Try.pinned (OpenSpec.ofChange fnExactPacketPassedSpec)

/-- ITS FALSE NEIGHBOUR: 'it returns false'. Refute it at one input. -/
def fnExactPacketPassedWrong : ChangeSpec := { name := "fnExactPacketPassed", fn := fun _ => fun
  | [d] => { results := [.lit (.bool false)], args := [d] }
  | _ => none }
def FnExactPacketPassedWrongFalsely : Prop := fnExactPacketPassedRow.holds Try.pinned (OpenSpec.ofChange fnExactPacketPassedWrong)

/-- 'laws.FnFrameBytes': WHATEVER THE INPUT: true; the input reads as it did. -/
def fnFrameBytesSpec : ChangeSpec := { name := "fnFrameBytes", fn := fun _ => fun
  | [d] => { results := [.lit (.bool true)], args := [d] }
  | _ => none }
def fnFrameBytesRow : OpenClaim := { program := "ytbjfnpjkldfeiaa", sum := "431d4e267f647974b1c3f7ea49b442795261a2a098a1ee9826de18215d74e13c", func := "loop.example/netstack/laws.FnFrameBytes", spec := "fnFrameBytes", unfollowed := true, recurses := true, apart := false }
def FnFrameBytesSaid : Prop := fnFrameBytesRow.holds Try.pinned (OpenSpec.ofChange fnFrameBytesSpec)

/-- ITS FALSE NEIGHBOUR: 'it returns false'. Refute it at one input. -/
def fnFrameBytesWrong : ChangeSpec := { name := "fnFrameBytes", fn := fun _ => fun
  | [d] => { results := [.lit (.bool false)], args := [d] }
  | _ => none }
def FnFrameBytesWrongFalsely : Prop := fnFrameBytesRow.holds Try.pinned (OpenSpec.ofChange fnFrameBytesWrong)

/-- 'laws.FnRoutesLess': WHATEVER THE INPUT: true; the input reads as it did. -/
def fnRoutesLessSpec : ChangeSpec := { name := "fnRoutesLess", fn := fun _ => fun
  | [d] => { results := [.lit (.bool true)], args := [d] }
  | _ => none }
def fnRoutesLessRow : OpenClaim := { program := "ytbjfnpjkldfeiaa", sum := "431d4e267f647974b1c3f7ea49b442795261a2a098a1ee9826de18215d74e13c", func := "loop.example/netstack/laws.FnRoutesLess", spec := "fnRoutesLess", unfollowed := true, recurses := true, apart := false }
def FnRoutesLessSaid : Prop := fnRoutesLessRow.holds Try.pinned (OpenSpec.ofChange fnRoutesLessSpec)

/-- ITS FALSE NEIGHBOUR: 'it returns false'. Refute it at one input. -/
def fnRoutesLessWrong : ChangeSpec := { name := "fnRoutesLess", fn := fun _ => fun
  | [d] => { results := [.lit (.bool false)], args := [d] }
  | _ => none }
def FnRoutesLessWrongFalsely : Prop := fnRoutesLessRow.holds Try.pinned (OpenSpec.ofChange fnRoutesLessWrong)

/-- 'laws.FnExactPartsOk': WHATEVER THE INPUT: true; the input reads as it did. -/
def fnExactPartsOkSpec : ChangeSpec := { name := "fnExactPartsOk", fn := fun _ => fun
  | [d] => { results := [.lit (.bool true)], args := [d] }
  | _ => none }
def fnExactPartsOkRow : OpenClaim := { program := "ytbjfnpjkldfeiaa", sum := "431d4e267f647974b1c3f7ea49b442795261a2a098a1ee9826de18215d74e13c", func := "loop.example/netstack/laws.FnExactPartsOk", spec := "fnExactPartsOk", unfollowed := true, recurses := true, apart := false }
def FnExactPartsOkSaid : Prop := fnExactPartsOkRow.holds Try.pinned (OpenSpec.ofChange fnExactPartsOkSpec)

/-- ITS FALSE NEIGHBOUR: 'it returns false'. Refute it at one input. -/
def fnExactPartsOkWrong : ChangeSpec := { name := "fnExactPartsOk", fn := fun _ => fun
  | [d] => { results := [.lit (.bool false)], args := [d] }
  | _ => none }
def FnExactPartsOkWrongFalsely : Prop := fnExactPartsOkRow.holds Try.pinned (OpenSpec.ofChange fnExactPartsOkWrong)

/-- 'laws.FnExactPacketBytes': WHATEVER THE INPUT: true; the input reads as it did. -/
def fnExactPacketBytesSpec : ChangeSpec := { name := "fnExactPacketBytes", fn := fun _ => fun
  | [d] => { results := [.lit (.bool true)], args := [d] }
  | _ => none }
def fnExactPacketBytesRow : OpenClaim := { program := "ytbjfnpjkldfeiaa", sum := "431d4e267f647974b1c3f7ea49b442795261a2a098a1ee9826de18215d74e13c", func := "loop.example/netstack/laws.FnExactPacketBytes", spec := "fnExactPacketBytes", unfollowed := true, recurses := true, apart := false }
def FnExactPacketBytesSaid : Prop := fnExactPacketBytesRow.holds Try.pinned (OpenSpec.ofChange fnExactPacketBytesSpec)

/-- ITS FALSE NEIGHBOUR: 'it returns false'. Refute it at one input. -/
def fnExactPacketBytesWrong : ChangeSpec := { name := "fnExactPacketBytes", fn := fun _ => fun
  | [d] => { results := [.lit (.bool false)], args := [d] }
  | _ => none }
def FnExactPacketBytesWrongFalsely : Prop := fnExactPacketBytesRow.holds Try.pinned (OpenSpec.ofChange fnExactPacketBytesWrong)

/-- 'laws.FnPacketFrom': WHATEVER THE INPUT: true; the input reads as it did. -/
def fnPacketFromSpec : ChangeSpec := { name := "fnPacketFrom", fn := fun _ => fun
  | [d] => { results := [.lit (.bool true)], args := [d] }
  | _ => none }
def fnPacketFromRow : OpenClaim := { program := "ytbjfnpjkldfeiaa", sum := "431d4e267f647974b1c3f7ea49b442795261a2a098a1ee9826de18215d74e13c", func := "loop.example/netstack/laws.FnPacketFrom", spec := "fnPacketFrom", unfollowed := true, recurses := true, apart := false }
def FnPacketFromSaid : Prop := fnPacketFromRow.holds Try.pinned (OpenSpec.ofChange fnPacketFromSpec)

/-- ITS FALSE NEIGHBOUR: 'it returns false'. Refute it at one input. -/
def fnPacketFromWrong : ChangeSpec := { name := "fnPacketFrom", fn := fun _ => fun
  | [d] => { results := [.lit (.bool false)], args := [d] }
  | _ => none }
def FnPacketFromWrongFalsely : Prop := fnPacketFromRow.holds Try.pinned (OpenSpec.ofChange fnPacketFromWrong)

/-- 'laws.FnFrameFrom': WHATEVER THE INPUT: true; the input reads as it did. -/
def fnFrameFromSpec : ChangeSpec := { name := "fnFrameFrom", fn := fun _ => fun
  | [d] => { results := [.lit (.bool true)], args := [d] }
  | _ => none }
def fnFrameFromRow : OpenClaim := { program := "ytbjfnpjkldfeiaa", sum := "431d4e267f647974b1c3f7ea49b442795261a2a098a1ee9826de18215d74e13c", func := "loop.example/netstack/laws.FnFrameFrom", spec := "fnFrameFrom", unfollowed := true, recurses := true, apart := false }
def FnFrameFromSaid : Prop := fnFrameFromRow.holds Try.pinned (OpenSpec.ofChange fnFrameFromSpec)

/-- ITS FALSE NEIGHBOUR: 'it returns false'. Refute it at one input. -/
def fnFrameFromWrong : ChangeSpec := { name := "fnFrameFrom", fn := fun _ => fun
  | [d] => { results := [.lit (.bool false)], args := [d] }
  | _ => none }
def FnFrameFromWrongFalsely : Prop := fnFrameFromRow.holds Try.pinned (OpenSpec.ofChange fnFrameFromWrong)

/-- 'laws.FnPacketBytes': WHATEVER THE INPUT: true; the input reads as it did. -/
def fnPacketBytesSpec : ChangeSpec := { name := "fnPacketBytes", fn := fun _ => fun
  | [d] => { results := [.lit (.bool true)], args := [d] }
  | _ => none }
def fnPacketBytesRow : OpenClaim := { program := "ytbjfnpjkldfeiaa", sum := "431d4e267f647974b1c3f7ea49b442795261a2a098a1ee9826de18215d74e13c", func := "loop.example/netstack/laws.FnPacketBytes", spec := "fnPacketBytes", unfollowed := true, recurses := true, apart := false }
def FnPacketBytesSaid : Prop := fnPacketBytesRow.holds Try.pinned (OpenSpec.ofChange fnPacketBytesSpec)

/-- ITS FALSE NEIGHBOUR: 'it returns false'. Refute it at one input. -/
def fnPacketBytesWrong : ChangeSpec := { name := "fnPacketBytes", fn := fun _ => fun
  | [d] => { results := [.lit (.bool false)], args := [d] }
  | _ => none }
def FnPacketBytesWrongFalsely : Prop := fnPacketBytesRow.holds Try.pinned (OpenSpec.ofChange fnPacketBytesWrong)

/-- 'laws.FnPacketPassed': WHATEVER THE INPUT: true; the input reads as it did. -/
def fnPacketPassedSpec : ChangeSpec := { name := "fnPacketPassed", fn := fun _ => fun
  | [d] => { results := [.lit (.bool true)], args := [d] }
  | _ => none }
def fnPacketPassedRow : OpenClaim := { program := "ytbjfnpjkldfeiaa", sum := "431d4e267f647974b1c3f7ea49b442795261a2a098a1ee9826de18215d74e13c", func := "loop.example/netstack/laws.FnPacketPassed", spec := "fnPacketPassed", unfollowed := true, recurses := true, apart := false }
def FnPacketPassedSaid : Prop := fnPacketPassedRow.holds Try.pinned (OpenSpec.ofChange fnPacketPassedSpec)

/-- ITS FALSE NEIGHBOUR: 'it returns false'. Refute it at one input. -/
def fnPacketPassedWrong : ChangeSpec := { name := "fnPacketPassed", fn := fun _ => fun
  | [d] => { results := [.lit (.bool false)], args := [d] }
  | _ => none }
def FnPacketPassedWrongFalsely : Prop := fnPacketPassedRow.holds Try.pinned (OpenSpec.ofChange fnPacketPassedWrong)

/- THE SECOND FORM. 'bulk': how many values and letters a reading holds, each counted each time it is reached (what is shared counts as often as it is met; a slice's spare places count too). A statement '..UptoSaid' is the law's where the arguments, and the package variables that the reading takes, are together of bulk at most 1048576: NARROWER than '..Said'. Prove '..Said' where nothing that the law and all that it calls make is longer than what came in: it says more and counts as full. Else prove '..UptoSaid'. A law counts once. -/
mutual
def uptoBulk {H : Type} : DataW H → Nat
  | .lit (.string bytes) => bytes.length + 1
  | .lit _ => 1
  | .nil => 1
  | .ptr d => uptoBulk d + 1
  | .slice elems spare => uptoBulkAll elems + uptoBulkAll spare + 1
  | .agg parts => uptoBulkAll parts + 1
  | .iface _ d => uptoBulk d + 1
  | .map entries => uptoBulkEntries entries + 1
  | .held _ => 1
def uptoBulkAll {H : Type} : List (DataW H) → Nat
  | [] => 0
  | d :: r => uptoBulk d + uptoBulkAll r
def uptoBulkEntries {H : Type} : List (Lit × DataW H) → Nat
  | [] => 0
  | x :: r => uptoBulkEntry x + uptoBulkEntries r
def uptoBulkEntry {H : Type} : Lit × DataW H → Nat
  | (.string bytes, d) => bytes.length + uptoBulk d + 1
  | (_, d) => uptoBulk d + 1
 end
def uptoSmall : (H : Type) → List (DataW H) → Bool := fun _ ds => decide (uptoBulkAll ds ≤ 1048576)
def OpenSpec.upto (s : _root_.Go.ChangeSpec) : _root_.Go.OpenSpec := { _root_.Go.OpenSpec.ofChange s with cond := some uptoSmall }

/-- 'laws.FnExactFrameFrom', WHERE WHAT IT READS IS OF BULK AT MOST 1048576: true; the input reads as it did. -/
def fnExactFrameFromUptoRow : OpenClaim := { program := "ytbjfnpjkldfeiaa", sum := "431d4e267f647974b1c3f7ea49b442795261a2a098a1ee9826de18215d74e13c", func := "loop.example/netstack/laws.FnExactFrameFrom", spec := "fnExactFrameFrom", unfollowed := true, recurses := true, apart := false, narrowed := true }
def FnExactFrameFromUptoSaid : Prop := fnExactFrameFromUptoRow.holds Try.pinned (OpenSpec.upto fnExactFrameFromSpec)

/-- 'laws.FnExactPacketPassed', WHERE WHAT IT READS IS OF BULK AT MOST 1048576: true; the input reads as it did. -/
def fnExactPacketPassedUptoRow : OpenClaim := { program := "ytbjfnpjkldfeiaa", sum := "431d4e267f647974b1c3f7ea49b442795261a2a098a1ee9826de18215d74e13c", func := "loop.example/netstack/laws.FnExactPacketPassed", spec := "fnExactPacketPassed", unfollowed := true, recurses := true, apart := false, narrowed := true }
def FnExactPacketPassedUptoSaid : Prop := fnExactPacketPassedUptoRow.holds Try.pinned (OpenSpec.upto fnExactPacketPassedSpec)

/-- 'laws.FnFrameBytes', WHERE WHAT IT READS IS OF BULK AT MOST 1048576: true; the input reads as it did. -/
def fnFrameBytesUptoRow : OpenClaim := { program := "ytbjfnpjkldfeiaa", sum := "431d4e267f647974b1c3f7ea49b442795261a2a098a1ee9826de18215d74e13c", func := "loop.example/netstack/laws.FnFrameBytes", spec := "fnFrameBytes", unfollowed := true, recurses := true, apart := false, narrowed := true }
def FnFrameBytesUptoSaid : Prop := fnFrameBytesUptoRow.holds Try.pinned (OpenSpec.upto fnFrameBytesSpec)

/-- 'laws.FnRoutesLess', WHERE WHAT IT READS IS OF BULK AT MOST 1048576: true; the input reads as it did. -/
def fnRoutesLessUptoRow : OpenClaim := { program := "ytbjfnpjkldfeiaa", sum := "431d4e267f647974b1c3f7ea49b442795261a2a098a1ee9826de18215d74e13c", func := "loop.example/netstack/laws.FnRoutesLess", spec := "fnRoutesLess", unfollowed := true, recurses := true, apart := false, narrowed := true }
def FnRoutesLessUptoSaid : Prop := fnRoutesLessUptoRow.holds Try.pinned (OpenSpec.upto fnRoutesLessSpec)

/-- 'laws.FnExactPartsOk', WHERE WHAT IT READS IS OF BULK AT MOST 1048576: true; the input reads as it did. -/
def fnExactPartsOkUptoRow : OpenClaim := { program := "ytbjfnpjkldfeiaa", sum := "431d4e267f647974b1c3f7ea49b442795261a2a098a1ee9826de18215d74e13c", func := "loop.example/netstack/laws.FnExactPartsOk", spec := "fnExactPartsOk", unfollowed := true, recurses := true, apart := false, narrowed := true }
def FnExactPartsOkUptoSaid : Prop := fnExactPartsOkUptoRow.holds Try.pinned (OpenSpec.upto fnExactPartsOkSpec)

/-- 'laws.FnExactPacketBytes', WHERE WHAT IT READS IS OF BULK AT MOST 1048576: true; the input reads as it did. -/
def fnExactPacketBytesUptoRow : OpenClaim := { program := "ytbjfnpjkldfeiaa", sum := "431d4e267f647974b1c3f7ea49b442795261a2a098a1ee9826de18215d74e13c", func := "loop.example/netstack/laws.FnExactPacketBytes", spec := "fnExactPacketBytes", unfollowed := true, recurses := true, apart := false, narrowed := true }
def FnExactPacketBytesUptoSaid : Prop := fnExactPacketBytesUptoRow.holds Try.pinned (OpenSpec.upto fnExactPacketBytesSpec)

/-- 'laws.FnPacketFrom', WHERE WHAT IT READS IS OF BULK AT MOST 1048576: true; the input reads as it did. -/
def fnPacketFromUptoRow : OpenClaim := { program := "ytbjfnpjkldfeiaa", sum := "431d4e267f647974b1c3f7ea49b442795261a2a098a1ee9826de18215d74e13c", func := "loop.example/netstack/laws.FnPacketFrom", spec := "fnPacketFrom", unfollowed := true, recurses := true, apart := false, narrowed := true }
def FnPacketFromUptoSaid : Prop := fnPacketFromUptoRow.holds Try.pinned (OpenSpec.upto fnPacketFromSpec)

/-- 'laws.FnFrameFrom', WHERE WHAT IT READS IS OF BULK AT MOST 1048576: true; the input reads as it did. -/
def fnFrameFromUptoRow : OpenClaim := { program := "ytbjfnpjkldfeiaa", sum := "431d4e267f647974b1c3f7ea49b442795261a2a098a1ee9826de18215d74e13c", func := "loop.example/netstack/laws.FnFrameFrom", spec := "fnFrameFrom", unfollowed := true, recurses := true, apart := false, narrowed := true }
def FnFrameFromUptoSaid : Prop := fnFrameFromUptoRow.holds Try.pinned (OpenSpec.upto fnFrameFromSpec)

/-- 'laws.FnPacketBytes', WHERE WHAT IT READS IS OF BULK AT MOST 1048576: true; the input reads as it did. -/
def fnPacketBytesUptoRow : OpenClaim := { program := "ytbjfnpjkldfeiaa", sum := "431d4e267f647974b1c3f7ea49b442795261a2a098a1ee9826de18215d74e13c", func := "loop.example/netstack/laws.FnPacketBytes", spec := "fnPacketBytes", unfollowed := true, recurses := true, apart := false, narrowed := true }
def FnPacketBytesUptoSaid : Prop := fnPacketBytesUptoRow.holds Try.pinned (OpenSpec.upto fnPacketBytesSpec)

/-- 'laws.FnPacketPassed', WHERE WHAT IT READS IS OF BULK AT MOST 1048576: true; the input reads as it did. -/
def fnPacketPassedUptoRow : OpenClaim := { program := "ytbjfnpjkldfeiaa", sum := "431d4e267f647974b1c3f7ea49b442795261a2a098a1ee9826de18215d74e13c", func := "loop.example/netstack/laws.FnPacketPassed", spec := "fnPacketPassed", unfollowed := true, recurses := true, apart := false, narrowed := true }
def FnPacketPassedUptoSaid : Prop := fnPacketPassedUptoRow.holds Try.pinned (OpenSpec.upto fnPacketPassedSpec)

end Rows
end Go.Proofs.Ytbjfnpjkldfeiaa

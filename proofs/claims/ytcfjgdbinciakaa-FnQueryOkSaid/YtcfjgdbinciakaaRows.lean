/-
  No cell of these rows narrows 'for every input' (looked for: loops, veiled, ifaces, maps, wideKeys, modest, calm, conditions, laid).
  DERIVED. THE GIVEN ROWS OF THIS SEAT. 12 by the template 'for every input the law returns true; each argument reads behind the call as it read before'; 0 by the template 'total and deterministic' (their statements: YtcfjgdbinciakaaTotals.lean).
  GIVEN WITH THE SEED: the statements are not yours to turn. If you find one false, say at which input.
  Laid BY PROGRAM, IN A SANDBOX (cutbox-rows.mjs): the forced cells as the released guide's own fill.sh prints them over the translation 9b685fc99ad6e857… (all of the seat's roots in one cut). By AI agents, Wed Nov 11 2026. No macro, syntax, notation, axiom, sorry.
-/
import Derived.Test.YtcfjgdbinciakaaChecked
import GoSem.Claim
import GoSem.ClaimJoined
import GoSem.ClaimMapViews
import Derived.JoinedTies
import Derived.KernelRfl
namespace Go.Proofs.Ytcfjgdbinciakaa
/- THE CELL 'sum', in the pinned program and in every row, IS THE sha256 OF THE DUMP (.gsa) THAT YtcfjgdbinciakaaProg.lean LOADS. Nothing in Lean hashes anything: it is a label: what it is worth is what the hold of that sum in a sandbox is worth. -/
noncomputable def Try.pinned : Pinned := { name := "ytcfjgdbinciakaa", sum := "9b685fc99ad6e857d07f902a923e7ecd49ba9392cb2de50df9e894a6671a2e2f", checked := Try.checked }
namespace Rows
def none {H : Type} : Left H := { results := [], args := [] }

/-- 'laws.FnExactConstants': WHATEVER THE INPUT: true; the input reads as it did. -/
def fnExactConstantsSpec : ChangeSpec := { name := "fnExactConstants", fn := fun _ => fun
  | [] => { results := [.lit (.bool true)], args := [] }
  | _ => none }
def fnExactConstantsRow : OpenClaim := { program := "ytcfjgdbinciakaa", sum := "9b685fc99ad6e857d07f902a923e7ecd49ba9392cb2de50df9e894a6671a2e2f", func := "loop.example/netstack/laws.FnExactConstants", spec := "fnExactConstants", apart := false }
def FnExactConstantsSaid : Prop := fnExactConstantsRow.holds Try.pinned (OpenSpec.ofChange fnExactConstantsSpec)

/-- ITS FALSE NEIGHBOUR: 'it returns false'. Refute it at one input. -/
def fnExactConstantsWrong : ChangeSpec := { name := "fnExactConstants", fn := fun _ => fun
  | [] => { results := [.lit (.bool false)], args := [] }
  | _ => none }
def FnExactConstantsWrongFalsely : Prop := fnExactConstantsRow.holds Try.pinned (OpenSpec.ofChange fnExactConstantsWrong)

/-- 'laws.FnExactQueryOk': WHATEVER THE INPUT: true; the input reads as it did. -/
def fnExactQueryOkSpec : ChangeSpec := { name := "fnExactQueryOk", fn := fun _ => fun
  | [d] => { results := [.lit (.bool true)], args := [d] }
  | _ => none }
def fnExactQueryOkRow : OpenClaim := { program := "ytcfjgdbinciakaa", sum := "9b685fc99ad6e857d07f902a923e7ecd49ba9392cb2de50df9e894a6671a2e2f", func := "loop.example/netstack/laws.FnExactQueryOk", spec := "fnExactQueryOk", apart := false }
def FnExactQueryOkSaid : Prop := fnExactQueryOkRow.holds Try.pinned (OpenSpec.ofChange fnExactQueryOkSpec)

/-- ITS FALSE NEIGHBOUR: 'it returns false'. Refute it at one input. -/
def fnExactQueryOkWrong : ChangeSpec := { name := "fnExactQueryOk", fn := fun _ => fun
  | [d] => { results := [.lit (.bool false)], args := [d] }
  | _ => none }
def FnExactQueryOkWrongFalsely : Prop := fnExactQueryOkRow.holds Try.pinned (OpenSpec.ofChange fnExactQueryOkWrong)

/-- 'laws.FnExactRouteOk': WHATEVER THE INPUT: true; the input reads as it did. -/
def fnExactRouteOkSpec : ChangeSpec := { name := "fnExactRouteOk", fn := fun _ => fun
  | [d] => { results := [.lit (.bool true)], args := [d] }
  | _ => none }
def fnExactRouteOkRow : OpenClaim := { program := "ytcfjgdbinciakaa", sum := "9b685fc99ad6e857d07f902a923e7ecd49ba9392cb2de50df9e894a6671a2e2f", func := "loop.example/netstack/laws.FnExactRouteOk", spec := "fnExactRouteOk", apart := false }
def FnExactRouteOkSaid : Prop := fnExactRouteOkRow.holds Try.pinned (OpenSpec.ofChange fnExactRouteOkSpec)

/-- ITS FALSE NEIGHBOUR: 'it returns false'. Refute it at one input. -/
def fnExactRouteOkWrong : ChangeSpec := { name := "fnExactRouteOk", fn := fun _ => fun
  | [d] => { results := [.lit (.bool false)], args := [d] }
  | _ => none }
def FnExactRouteOkWrongFalsely : Prop := fnExactRouteOkRow.holds Try.pinned (OpenSpec.ofChange fnExactRouteOkWrong)

/-- 'laws.FnExactRouteFits': WHATEVER THE INPUT: true; the input reads as it did. -/
def fnExactRouteFitsSpec : ChangeSpec := { name := "fnExactRouteFits", fn := fun _ => fun
  | [d1, d2] => { results := [.lit (.bool true)], args := [d1, d2] }
  | _ => none }
def fnExactRouteFitsRow : OpenClaim := { program := "ytcfjgdbinciakaa", sum := "9b685fc99ad6e857d07f902a923e7ecd49ba9392cb2de50df9e894a6671a2e2f", func := "loop.example/netstack/laws.FnExactRouteFits", spec := "fnExactRouteFits", apart := false }
def FnExactRouteFitsSaid : Prop := fnExactRouteFitsRow.holds Try.pinned (OpenSpec.ofChange fnExactRouteFitsSpec)

/-- ITS FALSE NEIGHBOUR: 'it returns false'. Refute it at one input. -/
def fnExactRouteFitsWrong : ChangeSpec := { name := "fnExactRouteFits", fn := fun _ => fun
  | [d1, d2] => { results := [.lit (.bool false)], args := [d1, d2] }
  | _ => none }
def FnExactRouteFitsWrongFalsely : Prop := fnExactRouteFitsRow.holds Try.pinned (OpenSpec.ofChange fnExactRouteFitsWrong)

/-- 'laws.FnExactSumTurned': WHATEVER THE INPUT: true; the input reads as it did. -/
def fnExactSumTurnedSpec : ChangeSpec := { name := "fnExactSumTurned", fn := fun _ => fun
  | [d1, d2, d3] => { results := [.lit (.bool true)], args := [d1, d2, d3] }
  | _ => none }
def fnExactSumTurnedRow : OpenClaim := { program := "ytcfjgdbinciakaa", sum := "9b685fc99ad6e857d07f902a923e7ecd49ba9392cb2de50df9e894a6671a2e2f", func := "loop.example/netstack/laws.FnExactSumTurned", spec := "fnExactSumTurned", apart := false }
def FnExactSumTurnedSaid : Prop := fnExactSumTurnedRow.holds Try.pinned (OpenSpec.ofChange fnExactSumTurnedSpec)

/-- ITS FALSE NEIGHBOUR: 'it returns false'. Refute it at one input. -/
def fnExactSumTurnedWrong : ChangeSpec := { name := "fnExactSumTurned", fn := fun _ => fun
  | [d1, d2, d3] => { results := [.lit (.bool false)], args := [d1, d2, d3] }
  | _ => none }
def FnExactSumTurnedWrongFalsely : Prop := fnExactSumTurnedRow.holds Try.pinned (OpenSpec.ofChange fnExactSumTurnedWrong)

/-- 'laws.FnExactNumberAt': WHATEVER THE INPUT: true; the input reads as it did. -/
def fnExactNumberAtSpec : ChangeSpec := { name := "fnExactNumberAt", fn := fun _ => fun
  | [d1, d2, d3] => { results := [.lit (.bool true)], args := [d1, d2, d3] }
  | _ => none }
def fnExactNumberAtRow : OpenClaim := { program := "ytcfjgdbinciakaa", sum := "9b685fc99ad6e857d07f902a923e7ecd49ba9392cb2de50df9e894a6671a2e2f", func := "loop.example/netstack/laws.FnExactNumberAt", spec := "fnExactNumberAt", apart := false }
def FnExactNumberAtSaid : Prop := fnExactNumberAtRow.holds Try.pinned (OpenSpec.ofChange fnExactNumberAtSpec)

/-- ITS FALSE NEIGHBOUR: 'it returns false'. Refute it at one input. -/
def fnExactNumberAtWrong : ChangeSpec := { name := "fnExactNumberAt", fn := fun _ => fun
  | [d1, d2, d3] => { results := [.lit (.bool false)], args := [d1, d2, d3] }
  | _ => none }
def FnExactNumberAtWrongFalsely : Prop := fnExactNumberAtRow.holds Try.pinned (OpenSpec.ofChange fnExactNumberAtWrong)

/-- 'laws.FnPartsOk': WHATEVER THE INPUT: true; the input reads as it did. -/
def fnPartsOkSpec : ChangeSpec := { name := "fnPartsOk", fn := fun _ => fun
  | [d] => { results := [.lit (.bool true)], args := [d] }
  | _ => none }
def fnPartsOkRow : OpenClaim := { program := "ytcfjgdbinciakaa", sum := "9b685fc99ad6e857d07f902a923e7ecd49ba9392cb2de50df9e894a6671a2e2f", func := "loop.example/netstack/laws.FnPartsOk", spec := "fnPartsOk", unfollowed := true, recurses := true, apart := false }
def FnPartsOkSaid : Prop := fnPartsOkRow.holds Try.pinned (OpenSpec.ofChange fnPartsOkSpec)

/-- ITS FALSE NEIGHBOUR: 'it returns false'. Refute it at one input. -/
def fnPartsOkWrong : ChangeSpec := { name := "fnPartsOk", fn := fun _ => fun
  | [d] => { results := [.lit (.bool false)], args := [d] }
  | _ => none }
def FnPartsOkWrongFalsely : Prop := fnPartsOkRow.holds Try.pinned (OpenSpec.ofChange fnPartsOkWrong)

/-- 'laws.FnExactNearTells': WHATEVER THE INPUT: true; the input reads as it did. -/
def fnExactNearTellsSpec : ChangeSpec := { name := "fnExactNearTells", fn := fun _ => fun
  | [d1, d2, d3] => { results := [.lit (.bool true)], args := [d1, d2, d3] }
  | _ => none }
def fnExactNearTellsRow : OpenClaim := { program := "ytcfjgdbinciakaa", sum := "9b685fc99ad6e857d07f902a923e7ecd49ba9392cb2de50df9e894a6671a2e2f", func := "loop.example/netstack/laws.FnExactNearTells", spec := "fnExactNearTells", apart := false }
def FnExactNearTellsSaid : Prop := fnExactNearTellsRow.holds Try.pinned (OpenSpec.ofChange fnExactNearTellsSpec)

/-- ITS FALSE NEIGHBOUR: 'it returns false'. Refute it at one input. -/
def fnExactNearTellsWrong : ChangeSpec := { name := "fnExactNearTells", fn := fun _ => fun
  | [d1, d2, d3] => { results := [.lit (.bool false)], args := [d1, d2, d3] }
  | _ => none }
def FnExactNearTellsWrongFalsely : Prop := fnExactNearTellsRow.holds Try.pinned (OpenSpec.ofChange fnExactNearTellsWrong)

/-- 'laws.FnExactBytesOf': WHATEVER THE INPUT: true; the input reads as it did. -/
def fnExactBytesOfSpec : ChangeSpec := { name := "fnExactBytesOf", fn := fun _ => fun
  | [d1, d2] => { results := [.lit (.bool true)], args := [d1, d2] }
  | _ => none }
def fnExactBytesOfRow : OpenClaim := { program := "ytcfjgdbinciakaa", sum := "9b685fc99ad6e857d07f902a923e7ecd49ba9392cb2de50df9e894a6671a2e2f", func := "loop.example/netstack/laws.FnExactBytesOf", spec := "fnExactBytesOf", apart := false }
def FnExactBytesOfSaid : Prop := fnExactBytesOfRow.holds Try.pinned (OpenSpec.ofChange fnExactBytesOfSpec)

/-- ITS FALSE NEIGHBOUR: 'it returns false'. Refute it at one input. -/
def fnExactBytesOfWrong : ChangeSpec := { name := "fnExactBytesOf", fn := fun _ => fun
  | [d1, d2] => { results := [.lit (.bool false)], args := [d1, d2] }
  | _ => none }
def FnExactBytesOfWrongFalsely : Prop := fnExactBytesOfRow.holds Try.pinned (OpenSpec.ofChange fnExactBytesOfWrong)

/-- 'laws.FnExactFrameOk': WHATEVER THE INPUT: true; the input reads as it did. -/
def fnExactFrameOkSpec : ChangeSpec := { name := "fnExactFrameOk", fn := fun _ => fun
  | [d] => { results := [.lit (.bool true)], args := [d] }
  | _ => none }
def fnExactFrameOkRow : OpenClaim := { program := "ytcfjgdbinciakaa", sum := "9b685fc99ad6e857d07f902a923e7ecd49ba9392cb2de50df9e894a6671a2e2f", func := "loop.example/netstack/laws.FnExactFrameOk", spec := "fnExactFrameOk", apart := false }
def FnExactFrameOkSaid : Prop := fnExactFrameOkRow.holds Try.pinned (OpenSpec.ofChange fnExactFrameOkSpec)

/-- ITS FALSE NEIGHBOUR: 'it returns false'. Refute it at one input. -/
def fnExactFrameOkWrong : ChangeSpec := { name := "fnExactFrameOk", fn := fun _ => fun
  | [d] => { results := [.lit (.bool false)], args := [d] }
  | _ => none }
def FnExactFrameOkWrongFalsely : Prop := fnExactFrameOkRow.holds Try.pinned (OpenSpec.ofChange fnExactFrameOkWrong)

/-- 'laws.FnQueryOk': WHATEVER THE INPUT: true; the input reads as it did. -/
def fnQueryOkSpec : ChangeSpec := { name := "fnQueryOk", fn := fun _ => fun
  | [d] => { results := [.lit (.bool true)], args := [d] }
  | _ => none }
def fnQueryOkRow : OpenClaim := { program := "ytcfjgdbinciakaa", sum := "9b685fc99ad6e857d07f902a923e7ecd49ba9392cb2de50df9e894a6671a2e2f", func := "loop.example/netstack/laws.FnQueryOk", spec := "fnQueryOk", apart := false }
def FnQueryOkSaid : Prop := fnQueryOkRow.holds Try.pinned (OpenSpec.ofChange fnQueryOkSpec)

/-- ITS FALSE NEIGHBOUR: 'it returns false'. Refute it at one input. -/
def fnQueryOkWrong : ChangeSpec := { name := "fnQueryOk", fn := fun _ => fun
  | [d] => { results := [.lit (.bool false)], args := [d] }
  | _ => none }
def FnQueryOkWrongFalsely : Prop := fnQueryOkRow.holds Try.pinned (OpenSpec.ofChange fnQueryOkWrong)

/-- 'laws.FnExactFrameFor': WHATEVER THE INPUT: true; the input reads as it did. -/
def fnExactFrameForSpec : ChangeSpec := { name := "fnExactFrameFor", fn := fun _ => fun
  | [d1, d2] => { results := [.lit (.bool true)], args := [d1, d2] }
  | _ => none }
def fnExactFrameForRow : OpenClaim := { program := "ytcfjgdbinciakaa", sum := "9b685fc99ad6e857d07f902a923e7ecd49ba9392cb2de50df9e894a6671a2e2f", func := "loop.example/netstack/laws.FnExactFrameFor", spec := "fnExactFrameFor", apart := false }
def FnExactFrameForSaid : Prop := fnExactFrameForRow.holds Try.pinned (OpenSpec.ofChange fnExactFrameForSpec)

/-- ITS FALSE NEIGHBOUR: 'it returns false'. Refute it at one input. -/
def fnExactFrameForWrong : ChangeSpec := { name := "fnExactFrameFor", fn := fun _ => fun
  | [d1, d2] => { results := [.lit (.bool false)], args := [d1, d2] }
  | _ => none }
def FnExactFrameForWrongFalsely : Prop := fnExactFrameForRow.holds Try.pinned (OpenSpec.ofChange fnExactFrameForWrong)

/- THE SECOND FORM. 'bulk': how many values and letters a reading holds, each counted each time it is reached (what is shared counts as often as it is met; a slice's spare places count too). A statement '..UptoSaid' is the law's where the arguments, and the package variables that the reading takes, are together of bulk at most 1048576: NARROWER than '..Said'. Prove '..Said' where nothing that the law and all that it calls make is longer than what came in: it says more and counts as full. Else prove '..UptoSaid'. A law counts once. -/
mutual
def uptoBulk {H : Type} : DataW H → Nat
  | .lit (.string bytes) => bytes.length + 1
  | .lit _ => 1
  | .nil => 1
  | .ptr d => uptoBulk d + 1
  | .slice elems spare => uptoBulkAll elems + uptoBulkAll spare + 1
  | .agg parts => uptoBulkAll parts + 1
  | .iface _ d => uptoBulk d + 1
  | .map entries => uptoBulkEntries entries + 1
  | .held _ => 1
def uptoBulkAll {H : Type} : List (DataW H) → Nat
  | [] => 0
  | d :: r => uptoBulk d + uptoBulkAll r
def uptoBulkEntries {H : Type} : List (Lit × DataW H) → Nat
  | [] => 0
  | x :: r => uptoBulkEntry x + uptoBulkEntries r
def uptoBulkEntry {H : Type} : Lit × DataW H → Nat
  | (.string bytes, d) => bytes.length + uptoBulk d + 1
  | (_, d) => uptoBulk d + 1
 end
def uptoSmall : (H : Type) → List (DataW H) → Bool := fun _ ds => decide (uptoBulkAll ds ≤ 1048576)
def OpenSpec.upto (s : _root_.Go.ChangeSpec) : _root_.Go.OpenSpec := { _root_.Go.OpenSpec.ofChange s with cond := some uptoSmall }

/-- 'laws.FnExactConstants', WHERE WHAT IT READS IS OF BULK AT MOST 1048576: true; the input reads as it did. -/
def fnExactConstantsUptoRow : OpenClaim := { program := "ytcfjgdbinciakaa", sum := "9b685fc99ad6e857d07f902a923e7ecd49ba9392cb2de50df9e894a6671a2e2f", func := "loop.example/netstack/laws.FnExactConstants", spec := "fnExactConstants", apart := false, narrowed := true }
def FnExactConstantsUptoSaid : Prop := fnExactConstantsUptoRow.holds Try.pinned (OpenSpec.upto fnExactConstantsSpec)

/-- 'laws.FnExactQueryOk', WHERE WHAT IT READS IS OF BULK AT MOST 1048576: true; the input reads as it did. -/
def fnExactQueryOkUptoRow : OpenClaim := { program := "ytcfjgdbinciakaa", sum := "9b685fc99ad6e857d07f902a923e7ecd49ba9392cb2de50df9e894a6671a2e2f", func := "loop.example/netstack/laws.FnExactQueryOk", spec := "fnExactQueryOk", apart := false, narrowed := true }
def FnExactQueryOkUptoSaid : Prop := fnExactQueryOkUptoRow.holds Try.pinned (OpenSpec.upto fnExactQueryOkSpec)

/-- 'laws.FnExactRouteOk', WHERE WHAT IT READS IS OF BULK AT MOST 1048576: true; the input reads as it did. -/
def fnExactRouteOkUptoRow : OpenClaim := { program := "ytcfjgdbinciakaa", sum := "9b685fc99ad6e857d07f902a923e7ecd49ba9392cb2de50df9e894a6671a2e2f", func := "loop.example/netstack/laws.FnExactRouteOk", spec := "fnExactRouteOk", apart := false, narrowed := true }
def FnExactRouteOkUptoSaid : Prop := fnExactRouteOkUptoRow.holds Try.pinned (OpenSpec.upto fnExactRouteOkSpec)

/-- 'laws.FnExactRouteFits', WHERE WHAT IT READS IS OF BULK AT MOST 1048576: true; the input reads as it did. -/
def fnExactRouteFitsUptoRow : OpenClaim := { program := "ytcfjgdbinciakaa", sum := "9b685fc99ad6e857d07f902a923e7ecd49ba9392cb2de50df9e894a6671a2e2f", func := "loop.example/netstack/laws.FnExactRouteFits", spec := "fnExactRouteFits", apart := false, narrowed := true }
def FnExactRouteFitsUptoSaid : Prop := fnExactRouteFitsUptoRow.holds Try.pinned (OpenSpec.upto fnExactRouteFitsSpec)

/-- 'laws.FnExactSumTurned', WHERE WHAT IT READS IS OF BULK AT MOST 1048576: true; the input reads as it did. -/
def fnExactSumTurnedUptoRow : OpenClaim := { program := "ytcfjgdbinciakaa", sum := "9b685fc99ad6e857d07f902a923e7ecd49ba9392cb2de50df9e894a6671a2e2f", func := "loop.example/netstack/laws.FnExactSumTurned", spec := "fnExactSumTurned", apart := false, narrowed := true }
def FnExactSumTurnedUptoSaid : Prop := fnExactSumTurnedUptoRow.holds Try.pinned (OpenSpec.upto fnExactSumTurnedSpec)

/-- 'laws.FnExactNumberAt', WHERE WHAT IT READS IS OF BULK AT MOST 1048576: true; the input reads as it did. -/
def fnExactNumberAtUptoRow : OpenClaim := { program := "ytcfjgdbinciakaa", sum := "9b685fc99ad6e857d07f902a923e7ecd49ba9392cb2de50df9e894a6671a2e2f", func := "loop.example/netstack/laws.FnExactNumberAt", spec := "fnExactNumberAt", apart := false, narrowed := true }
def FnExactNumberAtUptoSaid : Prop := fnExactNumberAtUptoRow.holds Try.pinned (OpenSpec.upto fnExactNumberAtSpec)

/-- 'laws.FnPartsOk', WHERE WHAT IT READS IS OF BULK AT MOST 1048576: true; the input reads as it did. -/
def fnPartsOkUptoRow : OpenClaim := { program := "ytcfjgdbinciakaa", sum := "9b685fc99ad6e857d07f902a923e7ecd49ba9392cb2de50df9e894a6671a2e2f", func := "loop.example/netstack/laws.FnPartsOk", spec := "fnPartsOk", unfollowed := true, recurses := true, apart := false, narrowed := true }
def FnPartsOkUptoSaid : Prop := fnPartsOkUptoRow.holds Try.pinned (OpenSpec.upto fnPartsOkSpec)

/-- 'laws.FnExactNearTells', WHERE WHAT IT READS IS OF BULK AT MOST 1048576: true; the input reads as it did. -/
def fnExactNearTellsUptoRow : OpenClaim := { program := "ytcfjgdbinciakaa", sum := "9b685fc99ad6e857d07f902a923e7ecd49ba9392cb2de50df9e894a6671a2e2f", func := "loop.example/netstack/laws.FnExactNearTells", spec := "fnExactNearTells", apart := false, narrowed := true }
def FnExactNearTellsUptoSaid : Prop := fnExactNearTellsUptoRow.holds Try.pinned (OpenSpec.upto fnExactNearTellsSpec)

/-- 'laws.FnExactBytesOf', WHERE WHAT IT READS IS OF BULK AT MOST 1048576: true; the input reads as it did. -/
def fnExactBytesOfUptoRow : OpenClaim := { program := "ytcfjgdbinciakaa", sum := "9b685fc99ad6e857d07f902a923e7ecd49ba9392cb2de50df9e894a6671a2e2f", func := "loop.example/netstack/laws.FnExactBytesOf", spec := "fnExactBytesOf", apart := false, narrowed := true }
def FnExactBytesOfUptoSaid : Prop := fnExactBytesOfUptoRow.holds Try.pinned (OpenSpec.upto fnExactBytesOfSpec)

/-- 'laws.FnExactFrameOk', WHERE WHAT IT READS IS OF BULK AT MOST 1048576: true; the input reads as it did. -/
def fnExactFrameOkUptoRow : OpenClaim := { program := "ytcfjgdbinciakaa", sum := "9b685fc99ad6e857d07f902a923e7ecd49ba9392cb2de50df9e894a6671a2e2f", func := "loop.example/netstack/laws.FnExactFrameOk", spec := "fnExactFrameOk", apart := false, narrowed := true }
def FnExactFrameOkUptoSaid : Prop := fnExactFrameOkUptoRow.holds Try.pinned (OpenSpec.upto fnExactFrameOkSpec)

/-- 'laws.FnQueryOk', WHERE WHAT IT READS IS OF BULK AT MOST 1048576: true; the input reads as it did. -/
def fnQueryOkUptoRow : OpenClaim := { program := "ytcfjgdbinciakaa", sum := "9b685fc99ad6e857d07f902a923e7ecd49ba9392cb2de50df9e894a6671a2e2f", func := "loop.example/netstack/laws.FnQueryOk", spec := "fnQueryOk", apart := false, narrowed := true }
def FnQueryOkUptoSaid : Prop := fnQueryOkUptoRow.holds Try.pinned (OpenSpec.upto fnQueryOkSpec)

/-- 'laws.FnExactFrameFor', WHERE WHAT IT READS IS OF BULK AT MOST 1048576: true; the input reads as it did. -/
def fnExactFrameForUptoRow : OpenClaim := { program := "ytcfjgdbinciakaa", sum := "9b685fc99ad6e857d07f902a923e7ecd49ba9392cb2de50df9e894a6671a2e2f", func := "loop.example/netstack/laws.FnExactFrameFor", spec := "fnExactFrameFor", apart := false, narrowed := true }
def FnExactFrameForUptoSaid : Prop := fnExactFrameForUptoRow.holds Try.pinned (OpenSpec.upto fnExactFrameForSpec)

end Rows
end Go.Proofs.Ytcfjgdbinciakaa

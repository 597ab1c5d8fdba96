/-
  No cell of these rows narrows 'for every input' (looked for: loops, veiled, ifaces, maps, wideKeys, modest, calm, conditions, laid).
  DERIVED. THE GIVEN ROWS OF THIS SEAT. 12 by the template 'for every input the law returns true; each argument reads behind the call as it read before'; 0 by the template 'total and deterministic' (their statements: YtpoedefohfonjaaTotals.lean).
  GIVEN WITH THE SEED: the statements are not yours to turn. If you find one false, say at which input.
  Laid BY PROGRAM, IN A SANDBOX (cutbox-rows.mjs): the forced cells as the released guide's own fill.sh prints them over the translation 58ab3aed33394e65… (all of the seat's roots in one cut). By AI agents, Wed Nov 11 2026. No macro, syntax, notation, axiom, sorry.
-/
import Derived.Test.YtpoedefohfonjaaChecked
import GoSem.Claim
import GoSem.ClaimJoined
import GoSem.ClaimMapViews
import Derived.JoinedTies
import Derived.KernelRfl
namespace Go.Proofs.Ytpoedefohfonjaa
/- THE CELL 'sum', in the pinned program and in every row, IS THE sha256 OF THE DUMP (.gsa) THAT YtpoedefohfonjaaProg.lean LOADS. Nothing in Lean hashes anything: it is a label: what it is worth is what the hold of that sum in a sandbox is worth. -/
noncomputable def Try.pinned : Pinned := { name := "ytpoedefohfonjaa", sum := "58ab3aed33394e659c295b53d325de36076a14418517b67a5a889e463c7a460e", checked := Try.checked }
namespace Rows
def none {H : Type} : Left H := { results := [], args := [] }

/-- 'laws.FnRouteOk': WHATEVER THE INPUT: true; the input reads as it did. -/
def fnRouteOkSpec : ChangeSpec := { name := "fnRouteOk", fn := fun _ => fun
  | [d] => { results := [.lit (.bool true)], args := [d] }
  | _ => none }
def fnRouteOkRow : OpenClaim := { program := "ytpoedefohfonjaa", sum := "58ab3aed33394e659c295b53d325de36076a14418517b67a5a889e463c7a460e", func := "loop.example/netstack/laws.FnRouteOk", spec := "fnRouteOk", apart := false }
def FnRouteOkSaid : Prop := fnRouteOkRow.holds Try.pinned (OpenSpec.ofChange fnRouteOkSpec)

/-- ITS FALSE NEIGHBOUR: 'it returns false'. Refute it at one input. -/
def fnRouteOkWrong : ChangeSpec := { name := "fnRouteOk", fn := fun _ => fun
  | [d] => { results := [.lit (.bool false)], args := [d] }
  | _ => none }
def FnRouteOkWrongFalsely : Prop := fnRouteOkRow.holds Try.pinned (OpenSpec.ofChange fnRouteOkWrong)

/-- 'laws.FnExactRoutePut': WHATEVER THE INPUT: true; the input reads as it did. -/
def fnExactRoutePutSpec : ChangeSpec := { name := "fnExactRoutePut", fn := fun _ => fun
  | [d1, d2] => { results := [.lit (.bool true)], args := [d1, d2] }
  | _ => none }
def fnExactRoutePutRow : OpenClaim := { program := "ytpoedefohfonjaa", sum := "58ab3aed33394e659c295b53d325de36076a14418517b67a5a889e463c7a460e", func := "loop.example/netstack/laws.FnExactRoutePut", spec := "fnExactRoutePut", inPlace := ["slices.overlaps[loop.example/netstack/impl.Route]"], unfollowed := true, recurses := true, apart := false }
def FnExactRoutePutSaid : Prop := fnExactRoutePutRow.holds Try.pinned (OpenSpec.ofChange fnExactRoutePutSpec)

/-- ITS FALSE NEIGHBOUR: 'it returns false'. Refute it at one input. -/
def fnExactRoutePutWrong : ChangeSpec := { name := "fnExactRoutePut", fn := fun _ => fun
  | [d1, d2] => { results := [.lit (.bool false)], args := [d1, d2] }
  | _ => none }
def FnExactRoutePutWrongFalsely : Prop := fnExactRoutePutRow.holds Try.pinned (OpenSpec.ofChange fnExactRoutePutWrong)

/-- 'laws.FnExactSumOf': WHATEVER THE INPUT: true; the input reads as it did. -/
def fnExactSumOfSpec : ChangeSpec := { name := "fnExactSumOf", fn := fun _ => fun
  | [d] => { results := [.lit (.bool true)], args := [d] }
  | _ => none }
def fnExactSumOfRow : OpenClaim := { program := "ytpoedefohfonjaa", sum := "58ab3aed33394e659c295b53d325de36076a14418517b67a5a889e463c7a460e", func := "loop.example/netstack/laws.FnExactSumOf", spec := "fnExactSumOf", unfollowed := true, recurses := true, apart := false }
def FnExactSumOfSaid : Prop := fnExactSumOfRow.holds Try.pinned (OpenSpec.ofChange fnExactSumOfSpec)

/-- ITS FALSE NEIGHBOUR: 'it returns false'. Refute it at one input. -/
def fnExactSumOfWrong : ChangeSpec := { name := "fnExactSumOf", fn := fun _ => fun
  | [d] => { results := [.lit (.bool false)], args := [d] }
  | _ => none }
def FnExactSumOfWrongFalsely : Prop := fnExactSumOfRow.holds Try.pinned (OpenSpec.ofChange fnExactSumOfWrong)

/-- 'laws.FnNumberAt': WHATEVER THE INPUT: true; the input reads as it did. -/
def fnNumberAtSpec : ChangeSpec := { name := "fnNumberAt", fn := fun _ => fun
  | [d] => { results := [.lit (.bool true)], args := [d] }
  | _ => none }
def fnNumberAtRow : OpenClaim := { program := "ytpoedefohfonjaa", sum := "58ab3aed33394e659c295b53d325de36076a14418517b67a5a889e463c7a460e", func := "loop.example/netstack/laws.FnNumberAt", spec := "fnNumberAt", apart := false }
def FnNumberAtSaid : Prop := fnNumberAtRow.holds Try.pinned (OpenSpec.ofChange fnNumberAtSpec)

/-- ITS FALSE NEIGHBOUR: 'it returns false'. Refute it at one input. -/
def fnNumberAtWrong : ChangeSpec := { name := "fnNumberAt", fn := fun _ => fun
  | [d] => { results := [.lit (.bool false)], args := [d] }
  | _ => none }
def FnNumberAtWrongFalsely : Prop := fnNumberAtRow.holds Try.pinned (OpenSpec.ofChange fnNumberAtWrong)

/-- 'laws.FnBytesOf': WHATEVER THE INPUT: true; the input reads as it did. -/
def fnBytesOfSpec : ChangeSpec := { name := "fnBytesOf", fn := fun _ => fun
  | [d] => { results := [.lit (.bool true)], args := [d] }
  | _ => none }
def fnBytesOfRow : OpenClaim := { program := "ytpoedefohfonjaa", sum := "58ab3aed33394e659c295b53d325de36076a14418517b67a5a889e463c7a460e", func := "loop.example/netstack/laws.FnBytesOf", spec := "fnBytesOf", apart := false }
def FnBytesOfSaid : Prop := fnBytesOfRow.holds Try.pinned (OpenSpec.ofChange fnBytesOfSpec)

/-- ITS FALSE NEIGHBOUR: 'it returns false'. Refute it at one input. -/
def fnBytesOfWrong : ChangeSpec := { name := "fnBytesOf", fn := fun _ => fun
  | [d] => { results := [.lit (.bool false)], args := [d] }
  | _ => none }
def FnBytesOfWrongFalsely : Prop := fnBytesOfRow.holds Try.pinned (OpenSpec.ofChange fnBytesOfWrong)

/-- 'laws.FnFrameOk': WHATEVER THE INPUT: true; the input reads as it did. -/
def fnFrameOkSpec : ChangeSpec := { name := "fnFrameOk", fn := fun _ => fun
  | [d] => { results := [.lit (.bool true)], args := [d] }
  | _ => none }
def fnFrameOkRow : OpenClaim := { program := "ytpoedefohfonjaa", sum := "58ab3aed33394e659c295b53d325de36076a14418517b67a5a889e463c7a460e", func := "loop.example/netstack/laws.FnFrameOk", spec := "fnFrameOk", apart := false }
def FnFrameOkSaid : Prop := fnFrameOkRow.holds Try.pinned (OpenSpec.ofChange fnFrameOkSpec)

/-- ITS FALSE NEIGHBOUR: 'it returns false'. Refute it at one input. -/
def fnFrameOkWrong : ChangeSpec := { name := "fnFrameOk", fn := fun _ => fun
  | [d] => { results := [.lit (.bool false)], args := [d] }
  | _ => none }
def FnFrameOkWrongFalsely : Prop := fnFrameOkRow.holds Try.pinned (OpenSpec.ofChange fnFrameOkWrong)

/-- 'laws.FnNearTells': WHATEVER THE INPUT: true; the input reads as it did. -/
def fnNearTellsSpec : ChangeSpec := { name := "fnNearTells", fn := fun _ => fun
  | [d] => { results := [.lit (.bool true)], args := [d] }
  | _ => none }
def fnNearTellsRow : OpenClaim := { program := "ytpoedefohfonjaa", sum := "58ab3aed33394e659c295b53d325de36076a14418517b67a5a889e463c7a460e", func := "loop.example/netstack/laws.FnNearTells", spec := "fnNearTells", apart := false }
def FnNearTellsSaid : Prop := fnNearTellsRow.holds Try.pinned (OpenSpec.ofChange fnNearTellsSpec)

/-- ITS FALSE NEIGHBOUR: 'it returns false'. Refute it at one input. -/
def fnNearTellsWrong : ChangeSpec := { name := "fnNearTells", fn := fun _ => fun
  | [d] => { results := [.lit (.bool false)], args := [d] }
  | _ => none }
def FnNearTellsWrongFalsely : Prop := fnNearTellsRow.holds Try.pinned (OpenSpec.ofChange fnNearTellsWrong)

/-- 'laws.FnRouteFits': WHATEVER THE INPUT: true; the input reads as it did. -/
def fnRouteFitsSpec : ChangeSpec := { name := "fnRouteFits", fn := fun _ => fun
  | [d] => { results := [.lit (.bool true)], args := [d] }
  | _ => none }
def fnRouteFitsRow : OpenClaim := { program := "ytpoedefohfonjaa", sum := "58ab3aed33394e659c295b53d325de36076a14418517b67a5a889e463c7a460e", func := "loop.example/netstack/laws.FnRouteFits", spec := "fnRouteFits", apart := false }
def FnRouteFitsSaid : Prop := fnRouteFitsRow.holds Try.pinned (OpenSpec.ofChange fnRouteFitsSpec)

/-- ITS FALSE NEIGHBOUR: 'it returns false'. Refute it at one input. -/
def fnRouteFitsWrong : ChangeSpec := { name := "fnRouteFits", fn := fun _ => fun
  | [d] => { results := [.lit (.bool false)], args := [d] }
  | _ => none }
def FnRouteFitsWrongFalsely : Prop := fnRouteFitsRow.holds Try.pinned (OpenSpec.ofChange fnRouteFitsWrong)

/-- 'laws.FnRoutePut': WHATEVER THE INPUT: true; the input reads as it did. -/
def fnRoutePutSpec : ChangeSpec := { name := "fnRoutePut", fn := fun _ => fun
  | [d] => { results := [.lit (.bool true)], args := [d] }
  | _ => none }
def fnRoutePutRow : OpenClaim := { program := "ytpoedefohfonjaa", sum := "58ab3aed33394e659c295b53d325de36076a14418517b67a5a889e463c7a460e", func := "loop.example/netstack/laws.FnRoutePut", spec := "fnRoutePut", inPlace := ["slices.overlaps[loop.example/netstack/impl.Route]"], unfollowed := true, recurses := true, apart := false }
def FnRoutePutSaid : Prop := fnRoutePutRow.holds Try.pinned (OpenSpec.ofChange fnRoutePutSpec)

/-- ITS FALSE NEIGHBOUR: 'it returns false'. Refute it at one input. -/
def fnRoutePutWrong : ChangeSpec := { name := "fnRoutePut", fn := fun _ => fun
  | [d] => { results := [.lit (.bool false)], args := [d] }
  | _ => none }
def FnRoutePutWrongFalsely : Prop := fnRoutePutRow.holds Try.pinned (OpenSpec.ofChange fnRoutePutWrong)

/-- 'laws.FnExactQueryFrom': WHATEVER THE INPUT: true; the input reads as it did. -/
def fnExactQueryFromSpec : ChangeSpec := { name := "fnExactQueryFrom", fn := fun _ => fun
  | [d] => { results := [.lit (.bool true)], args := [d] }
  | _ => none }
def fnExactQueryFromRow : OpenClaim := { program := "ytpoedefohfonjaa", sum := "58ab3aed33394e659c295b53d325de36076a14418517b67a5a889e463c7a460e", func := "loop.example/netstack/laws.FnExactQueryFrom", spec := "fnExactQueryFrom", apart := false }
def FnExactQueryFromSaid : Prop := fnExactQueryFromRow.holds Try.pinned (OpenSpec.ofChange fnExactQueryFromSpec)

/-- ITS FALSE NEIGHBOUR: 'it returns false'. Refute it at one input. -/
def fnExactQueryFromWrong : ChangeSpec := { name := "fnExactQueryFrom", fn := fun _ => fun
  | [d] => { results := [.lit (.bool false)], args := [d] }
  | _ => none }
def FnExactQueryFromWrongFalsely : Prop := fnExactQueryFromRow.holds Try.pinned (OpenSpec.ofChange fnExactQueryFromWrong)

/-- 'laws.FnExactSumFits': WHATEVER THE INPUT: true; the input reads as it did. -/
def fnExactSumFitsSpec : ChangeSpec := { name := "fnExactSumFits", fn := fun _ => fun
  | [d1, d2] => { results := [.lit (.bool true)], args := [d1, d2] }
  | _ => none }
def fnExactSumFitsRow : OpenClaim := { program := "ytpoedefohfonjaa", sum := "58ab3aed33394e659c295b53d325de36076a14418517b67a5a889e463c7a460e", func := "loop.example/netstack/laws.FnExactSumFits", spec := "fnExactSumFits", unfollowed := true, recurses := true, apart := false }
def FnExactSumFitsSaid : Prop := fnExactSumFitsRow.holds Try.pinned (OpenSpec.ofChange fnExactSumFitsSpec)

/-- ITS FALSE NEIGHBOUR: 'it returns false'. Refute it at one input. -/
def fnExactSumFitsWrong : ChangeSpec := { name := "fnExactSumFits", fn := fun _ => fun
  | [d1, d2] => { results := [.lit (.bool false)], args := [d1, d2] }
  | _ => none }
def FnExactSumFitsWrongFalsely : Prop := fnExactSumFitsRow.holds Try.pinned (OpenSpec.ofChange fnExactSumFitsWrong)

/-- 'laws.FnFrameFor': WHATEVER THE INPUT: true; the input reads as it did. -/
def fnFrameForSpec : ChangeSpec := { name := "fnFrameFor", fn := fun _ => fun
  | [d] => { results := [.lit (.bool true)], args := [d] }
  | _ => none }
def fnFrameForRow : OpenClaim := { program := "ytpoedefohfonjaa", sum := "58ab3aed33394e659c295b53d325de36076a14418517b67a5a889e463c7a460e", func := "loop.example/netstack/laws.FnFrameFor", spec := "fnFrameFor", apart := false }
def FnFrameForSaid : Prop := fnFrameForRow.holds Try.pinned (OpenSpec.ofChange fnFrameForSpec)

/-- ITS FALSE NEIGHBOUR: 'it returns false'. Refute it at one input. -/
def fnFrameForWrong : ChangeSpec := { name := "fnFrameFor", fn := fun _ => fun
  | [d] => { results := [.lit (.bool false)], args := [d] }
  | _ => none }
def FnFrameForWrongFalsely : Prop := fnFrameForRow.holds Try.pinned (OpenSpec.ofChange fnFrameForWrong)

/- THE SECOND FORM. 'bulk': how many values and letters a reading holds, each counted each time it is reached (what is shared counts as often as it is met; a slice's spare places count too). A statement '..UptoSaid' is the law's where the arguments, and the package variables that the reading takes, are together of bulk at most 1048576: NARROWER than '..Said'. Prove '..Said' where nothing that the law and all that it calls make is longer than what came in: it says more and counts as full. Else prove '..UptoSaid'. A law counts once. -/
mutual
def uptoBulk {H : Type} : DataW H → Nat
  | .lit (.string bytes) => bytes.length + 1
  | .lit _ => 1
  | .nil => 1
  | .ptr d => uptoBulk d + 1
  | .slice elems spare => uptoBulkAll elems + uptoBulkAll spare + 1
  | .agg parts => uptoBulkAll parts + 1
  | .iface _ d => uptoBulk d + 1
  | .map entries => uptoBulkEntries entries + 1
  | .held _ => 1
def uptoBulkAll {H : Type} : List (DataW H) → Nat
  | [] => 0
  | d :: r => uptoBulk d + uptoBulkAll r
def uptoBulkEntries {H : Type} : List (Lit × DataW H) → Nat
  | [] => 0
  | x :: r => uptoBulkEntry x + uptoBulkEntries r
def uptoBulkEntry {H : Type} : Lit × DataW H → Nat
  | (.string bytes, d) => bytes.length + uptoBulk d + 1
  | (_, d) => uptoBulk d + 1
 end
def uptoSmall : (H : Type) → List (DataW H) → Bool := fun _ ds => decide (uptoBulkAll ds ≤ 1048576)
def OpenSpec.upto (s : _root_.Go.ChangeSpec) : _root_.Go.OpenSpec := { _root_.Go.OpenSpec.ofChange s with cond := some uptoSmall }

/-- 'laws.FnRouteOk', WHERE WHAT IT READS IS OF BULK AT MOST 1048576: true; the input reads as it did. -/
def fnRouteOkUptoRow : OpenClaim := { program := "ytpoedefohfonjaa", sum := "58ab3aed33394e659c295b53d325de36076a14418517b67a5a889e463c7a460e", func := "loop.example/netstack/laws.FnRouteOk", spec := "fnRouteOk", apart := false, narrowed := true }
def FnRouteOkUptoSaid : Prop := fnRouteOkUptoRow.holds Try.pinned (OpenSpec.upto fnRouteOkSpec)

/-- 'laws.FnExactRoutePut', WHERE WHAT IT READS IS OF BULK AT MOST 1048576: true; the input reads as it did. -/
def fnExactRoutePutUptoRow : OpenClaim := { program := "ytpoedefohfonjaa", sum := "58ab3aed33394e659c295b53d325de36076a14418517b67a5a889e463c7a460e", func := "loop.example/netstack/laws.FnExactRoutePut", spec := "fnExactRoutePut", inPlace := ["slices.overlaps[loop.example/netstack/impl.Route]"], unfollowed := true, recurses := true, apart := false, narrowed := true }
def FnExactRoutePutUptoSaid : Prop := fnExactRoutePutUptoRow.holds Try.pinned (OpenSpec.upto fnExactRoutePutSpec)

/-- 'laws.FnExactSumOf', WHERE WHAT IT READS IS OF BULK AT MOST 1048576: true; the input reads as it did. -/
def fnExactSumOfUptoRow : OpenClaim := { program := "ytpoedefohfonjaa", sum := "58ab3aed33394e659c295b53d325de36076a14418517b67a5a889e463c7a460e", func := "loop.example/netstack/laws.FnExactSumOf", spec := "fnExactSumOf", unfollowed := true, recurses := true, apart := false, narrowed := true }
def FnExactSumOfUptoSaid : Prop := fnExactSumOfUptoRow.holds Try.pinned (OpenSpec.upto fnExactSumOfSpec)

/-- 'laws.FnNumberAt', WHERE WHAT IT READS IS OF BULK AT MOST 1048576: true; the input reads as it did. -/
def fnNumberAtUptoRow : OpenClaim := { program := "ytpoedefohfonjaa", sum := "58ab3aed33394e659c295b53d325de36076a14418517b67a5a889e463c7a460e", func := "loop.example/netstack/laws.FnNumberAt", spec := "fnNumberAt", apart := false, narrowed := true }
def FnNumberAtUptoSaid : Prop := fnNumberAtUptoRow.holds Try.pinned (OpenSpec.upto fnNumberAtSpec)

/-- 'laws.FnBytesOf', WHERE WHAT IT READS IS OF BULK AT MOST 1048576: true; the input reads as it did. -/
def fnBytesOfUptoRow : OpenClaim := { program := "ytpoedefohfonjaa", sum := "58ab3aed33394e659c295b53d325de36076a14418517b67a5a889e463c7a460e", func := "loop.example/netstack/laws.FnBytesOf", spec := "fnBytesOf", apart := false, narrowed := true }
def FnBytesOfUptoSaid : Prop := fnBytesOfUptoRow.holds Try.pinned (OpenSpec.upto fnBytesOfSpec)

/-- 'laws.FnFrameOk', WHERE WHAT IT READS IS OF BULK AT MOST 1048576: true; the input reads as it did. -/
def fnFrameOkUptoRow : OpenClaim := { program := "ytpoedefohfonjaa", sum := "58ab3aed33394e659c295b53d325de36076a14418517b67a5a889e463c7a460e", func := "loop.example/netstack/laws.FnFrameOk", spec := "fnFrameOk", apart := false, narrowed := true }
def FnFrameOkUptoSaid : Prop := fnFrameOkUptoRow.holds Try.pinned (OpenSpec.upto fnFrameOkSpec)

/-- 'laws.FnNearTells', WHERE WHAT IT READS IS OF BULK AT MOST 1048576: true; the input reads as it did. -/
def fnNearTellsUptoRow : OpenClaim := { program := "ytpoedefohfonjaa", sum := "58ab3aed33394e659c295b53d325de36076a14418517b67a5a889e463c7a460e", func := "loop.example/netstack/laws.FnNearTells", spec := "fnNearTells", apart := false, narrowed := true }
def FnNearTellsUptoSaid : Prop := fnNearTellsUptoRow.holds Try.pinned (OpenSpec.upto fnNearTellsSpec)

/-- 'laws.FnRouteFits', WHERE WHAT IT READS IS OF BULK AT MOST 1048576: true; the input reads as it did. -/
def fnRouteFitsUptoRow : OpenClaim := { program := "ytpoedefohfonjaa", sum := "58ab3aed33394e659c295b53d325de36076a14418517b67a5a889e463c7a460e", func := "loop.example/netstack/laws.FnRouteFits", spec := "fnRouteFits", apart := false, narrowed := true }
def FnRouteFitsUptoSaid : Prop := fnRouteFitsUptoRow.holds Try.pinned (OpenSpec.upto fnRouteFitsSpec)

/-- 'laws.FnRoutePut', WHERE WHAT IT READS IS OF BULK AT MOST 1048576: true; the input reads as it did. -/
def fnRoutePutUptoRow : OpenClaim := { program := "ytpoedefohfonjaa", sum := "58ab3aed33394e659c295b53d325de36076a14418517b67a5a889e463c7a460e", func := "loop.example/netstack/laws.FnRoutePut", spec := "fnRoutePut", inPlace := ["slices.overlaps[loop.example/netstack/impl.Route]"], unfollowed := true, recurses := true, apart := false, narrowed := true }
def FnRoutePutUptoSaid : Prop := fnRoutePutUptoRow.holds Try.pinned (OpenSpec.upto fnRoutePutSpec)

/-- 'laws.FnExactQueryFrom', WHERE WHAT IT READS IS OF BULK AT MOST 1048576: true; the input reads as it did. -/
def fnExactQueryFromUptoRow : OpenClaim := { program := "ytpoedefohfonjaa", sum := "58ab3aed33394e659c295b53d325de36076a14418517b67a5a889e463c7a460e", func := "loop.example/netstack/laws.FnExactQueryFrom", spec := "fnExactQueryFrom", apart := false, narrowed := true }
def FnExactQueryFromUptoSaid : Prop := fnExactQueryFromUptoRow.holds Try.pinned (OpenSpec.upto fnExactQueryFromSpec)

/-- 'laws.FnExactSumFits', WHERE WHAT IT READS IS OF BULK AT MOST 1048576: true; the input reads as it did. -/
def fnExactSumFitsUptoRow : OpenClaim := { program := "ytpoedefohfonjaa", sum := "58ab3aed33394e659c295b53d325de36076a14418517b67a5a889e463c7a460e", func := "loop.example/netstack/laws.FnExactSumFits", spec := "fnExactSumFits", unfollowed := true, recurses := true, apart := false, narrowed := true }
def FnExactSumFitsUptoSaid : Prop := fnExactSumFitsUptoRow.holds Try.pinned (OpenSpec.upto fnExactSumFitsSpec)

/-- 'laws.FnFrameFor', WHERE WHAT IT READS IS OF BULK AT MOST 1048576: true; the input reads as it did. -/
def fnFrameForUptoRow : OpenClaim := { program := "ytpoedefohfonjaa", sum := "58ab3aed33394e659c295b53d325de36076a14418517b67a5a889e463c7a460e", func := "loop.example/netstack/laws.FnFrameFor", spec := "fnFrameFor", apart := false, narrowed := true }
def FnFrameForUptoSaid : Prop := fnFrameForUptoRow.holds Try.pinned (OpenSpec.upto fnFrameForSpec)

end Rows
end Go.Proofs.Ytpoedefohfonjaa

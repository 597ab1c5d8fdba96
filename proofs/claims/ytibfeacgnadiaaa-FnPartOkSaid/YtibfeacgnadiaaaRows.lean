/-
  No cell of these rows narrows 'for every input' (looked for: loops, veiled, ifaces, maps, wideKeys, modest, calm, conditions, laid).
  DERIVED. THE GIVEN ROWS OF THIS SEAT. 12 by the template 'for every input the law returns true; each argument reads behind the call as it read before'; 0 by the template 'total and deterministic' (their statements: YtibfeacgnadiaaaTotals.lean).
  GIVEN WITH THE SEED: the statements are not yours to turn. If you find one false, say at which input.
  Laid BY PROGRAM, IN A SANDBOX (cutbox-rows.mjs): the forced cells as the released guide's own fill.sh prints them over the translation fda1c74d1a24d759… (all of the seat's roots in one cut). By AI agents, Wed Nov 11 2026. No macro, syntax, notation, axiom, sorry.
-/
import Derived.Test.YtibfeacgnadiaaaChecked
import GoSem.Claim
import GoSem.ClaimJoined
import GoSem.ClaimMapViews
import Derived.JoinedTies
import Derived.KernelRfl
namespace Go.Proofs.Ytibfeacgnadiaaa
/- THE CELL 'sum', in the pinned program and in every row, IS THE sha256 OF THE DUMP (.gsa) THAT YtibfeacgnadiaaaProg.lean LOADS. Nothing in Lean hashes anything: it is a label: what it is worth is what the hold of that sum in a sandbox is worth. -/
noncomputable def Try.pinned : Pinned := { name := "ytibfeacgnadiaaa", sum := "fda1c74d1a24d7599bd1ee5f6e74da9e4559695c76b997c7d7226cab4ad602a6", checked := Try.checked }
namespace Rows
def none {H : Type} : Left H := { results := [], args := [] }

/-- 'laws.FnExactPacketOk': WHATEVER THE INPUT: true; the input reads as it did. -/
def fnExactPacketOkSpec : ChangeSpec := { name := "fnExactPacketOk", fn := fun _ => fun
  | [d] => { results := [.lit (.bool true)], args := [d] }
  | _ => none }
def fnExactPacketOkRow : OpenClaim := { program := "ytibfeacgnadiaaa", sum := "fda1c74d1a24d7599bd1ee5f6e74da9e4559695c76b997c7d7226cab4ad602a6", func := "loop.example/netstack/laws.FnExactPacketOk", spec := "fnExactPacketOk", apart := false }
def FnExactPacketOkSaid : Prop := fnExactPacketOkRow.holds Try.pinned (OpenSpec.ofChange fnExactPacketOkSpec)

/-- ITS FALSE NEIGHBOUR: 'it returns false'. Refute it at one input. -/
def fnExactPacketOkWrong : ChangeSpec := { name := "fnExactPacketOk", fn := fun _ => fun
  | [d] => { results := [.lit (.bool false)], args := [d] }
  | _ => none }
def FnExactPacketOkWrongFalsely : Prop := fnExactPacketOkRow.holds Try.pinned (OpenSpec.ofChange fnExactPacketOkWrong)

/-- 'laws.FnPacketOk': WHATEVER THE INPUT: true; the input reads as it did. -/
def fnPacketOkSpec : ChangeSpec := { name := "fnPacketOk", fn := fun _ => fun
  | [d] => { results := [.lit (.bool true)], args := [d] }
  | _ => none }
def fnPacketOkRow : OpenClaim := { program := "ytibfeacgnadiaaa", sum := "fda1c74d1a24d7599bd1ee5f6e74da9e4559695c76b997c7d7226cab4ad602a6", func := "loop.example/netstack/laws.FnPacketOk", spec := "fnPacketOk", apart := false }
def FnPacketOkSaid : Prop := fnPacketOkRow.holds Try.pinned (OpenSpec.ofChange fnPacketOkSpec)

/-- ITS FALSE NEIGHBOUR: 'it returns false'. Refute it at one input. -/
def fnPacketOkWrong : ChangeSpec := { name := "fnPacketOk", fn := fun _ => fun
  | [d] => { results := [.lit (.bool false)], args := [d] }
  | _ => none }
def FnPacketOkWrongFalsely : Prop := fnPacketOkRow.holds Try.pinned (OpenSpec.ofChange fnPacketOkWrong)

/-- 'laws.FnExactQueryBytes': WHATEVER THE INPUT: true; the input reads as it did. -/
def fnExactQueryBytesSpec : ChangeSpec := { name := "fnExactQueryBytes", fn := fun _ => fun
  | [d] => { results := [.lit (.bool true)], args := [d] }
  | _ => none }
def fnExactQueryBytesRow : OpenClaim := { program := "ytibfeacgnadiaaa", sum := "fda1c74d1a24d7599bd1ee5f6e74da9e4559695c76b997c7d7226cab4ad602a6", func := "loop.example/netstack/laws.FnExactQueryBytes", spec := "fnExactQueryBytes", apart := false }
def FnExactQueryBytesSaid : Prop := fnExactQueryBytesRow.holds Try.pinned (OpenSpec.ofChange fnExactQueryBytesSpec)

/-- ITS FALSE NEIGHBOUR: 'it returns false'. Refute it at one input. -/
def fnExactQueryBytesWrong : ChangeSpec := { name := "fnExactQueryBytes", fn := fun _ => fun
  | [d] => { results := [.lit (.bool false)], args := [d] }
  | _ => none }
def FnExactQueryBytesWrongFalsely : Prop := fnExactQueryBytesRow.holds Try.pinned (OpenSpec.ofChange fnExactQueryBytesWrong)

/-- 'laws.FnSumOf': WHATEVER THE INPUT: true; the input reads as it did. -/
def fnSumOfSpec : ChangeSpec := { name := "fnSumOf", fn := fun _ => fun
  | [d] => { results := [.lit (.bool true)], args := [d] }
  | _ => none }
def fnSumOfRow : OpenClaim := { program := "ytibfeacgnadiaaa", sum := "fda1c74d1a24d7599bd1ee5f6e74da9e4559695c76b997c7d7226cab4ad602a6", func := "loop.example/netstack/laws.FnSumOf", spec := "fnSumOf", unfollowed := true, recurses := true, apart := false }
def FnSumOfSaid : Prop := fnSumOfRow.holds Try.pinned (OpenSpec.ofChange fnSumOfSpec)

/-- ITS FALSE NEIGHBOUR: 'it returns false'. Refute it at one input. -/
def fnSumOfWrong : ChangeSpec := { name := "fnSumOf", fn := fun _ => fun
  | [d] => { results := [.lit (.bool false)], args := [d] }
  | _ => none }
def FnSumOfWrongFalsely : Prop := fnSumOfRow.holds Try.pinned (OpenSpec.ofChange fnSumOfWrong)

/-- 'laws.FnExactRoutesOk': WHATEVER THE INPUT: true; the input reads as it did. -/
def fnExactRoutesOkSpec : ChangeSpec := { name := "fnExactRoutesOk", fn := fun _ => fun
  | [d] => { results := [.lit (.bool true)], args := [d] }
  | _ => none }
def fnExactRoutesOkRow : OpenClaim := { program := "ytibfeacgnadiaaa", sum := "fda1c74d1a24d7599bd1ee5f6e74da9e4559695c76b997c7d7226cab4ad602a6", func := "loop.example/netstack/laws.FnExactRoutesOk", spec := "fnExactRoutesOk", apart := false }
def FnExactRoutesOkSaid : Prop := fnExactRoutesOkRow.holds Try.pinned (OpenSpec.ofChange fnExactRoutesOkSpec)

/-- ITS FALSE NEIGHBOUR: 'it returns false'. Refute it at one input. -/
def fnExactRoutesOkWrong : ChangeSpec := { name := "fnExactRoutesOk", fn := fun _ => fun
  | [d] => { results := [.lit (.bool false)], args := [d] }
  | _ => none }
def FnExactRoutesOkWrongFalsely : Prop := fnExactRoutesOkRow.holds Try.pinned (OpenSpec.ofChange fnExactRoutesOkWrong)

/-- 'laws.FnSumTurned': WHATEVER THE INPUT: true; the input reads as it did. -/
def fnSumTurnedSpec : ChangeSpec := { name := "fnSumTurned", fn := fun _ => fun
  | [d] => { results := [.lit (.bool true)], args := [d] }
  | _ => none }
def fnSumTurnedRow : OpenClaim := { program := "ytibfeacgnadiaaa", sum := "fda1c74d1a24d7599bd1ee5f6e74da9e4559695c76b997c7d7226cab4ad602a6", func := "loop.example/netstack/laws.FnSumTurned", spec := "fnSumTurned", unfollowed := true, recurses := true, apart := false }
def FnSumTurnedSaid : Prop := fnSumTurnedRow.holds Try.pinned (OpenSpec.ofChange fnSumTurnedSpec)

/-- ITS FALSE NEIGHBOUR: 'it returns false'. Refute it at one input. -/
def fnSumTurnedWrong : ChangeSpec := { name := "fnSumTurned", fn := fun _ => fun
  | [d] => { results := [.lit (.bool false)], args := [d] }
  | _ => none }
def FnSumTurnedWrongFalsely : Prop := fnSumTurnedRow.holds Try.pinned (OpenSpec.ofChange fnSumTurnedWrong)

/-- 'laws.FnSumFits': WHATEVER THE INPUT: true; the input reads as it did. -/
def fnSumFitsSpec : ChangeSpec := { name := "fnSumFits", fn := fun _ => fun
  | [d] => { results := [.lit (.bool true)], args := [d] }
  | _ => none }
def fnSumFitsRow : OpenClaim := { program := "ytibfeacgnadiaaa", sum := "fda1c74d1a24d7599bd1ee5f6e74da9e4559695c76b997c7d7226cab4ad602a6", func := "loop.example/netstack/laws.FnSumFits", spec := "fnSumFits", unfollowed := true, recurses := true, apart := false }
def FnSumFitsSaid : Prop := fnSumFitsRow.holds Try.pinned (OpenSpec.ofChange fnSumFitsSpec)

/-- ITS FALSE NEIGHBOUR: 'it returns false'. Refute it at one input. -/
def fnSumFitsWrong : ChangeSpec := { name := "fnSumFits", fn := fun _ => fun
  | [d] => { results := [.lit (.bool false)], args := [d] }
  | _ => none }
def FnSumFitsWrongFalsely : Prop := fnSumFitsRow.holds Try.pinned (OpenSpec.ofChange fnSumFitsWrong)

/-- 'laws.FnQueryBytes': WHATEVER THE INPUT: true; the input reads as it did. -/
def fnQueryBytesSpec : ChangeSpec := { name := "fnQueryBytes", fn := fun _ => fun
  | [d] => { results := [.lit (.bool true)], args := [d] }
  | _ => none }
def fnQueryBytesRow : OpenClaim := { program := "ytibfeacgnadiaaa", sum := "fda1c74d1a24d7599bd1ee5f6e74da9e4559695c76b997c7d7226cab4ad602a6", func := "loop.example/netstack/laws.FnQueryBytes", spec := "fnQueryBytes", apart := false }
def FnQueryBytesSaid : Prop := fnQueryBytesRow.holds Try.pinned (OpenSpec.ofChange fnQueryBytesSpec)

/-- ITS FALSE NEIGHBOUR: 'it returns false'. Refute it at one input. -/
def fnQueryBytesWrong : ChangeSpec := { name := "fnQueryBytes", fn := fun _ => fun
  | [d] => { results := [.lit (.bool false)], args := [d] }
  | _ => none }
def FnQueryBytesWrongFalsely : Prop := fnQueryBytesRow.holds Try.pinned (OpenSpec.ofChange fnQueryBytesWrong)

/-- 'laws.FnExactRouteTo': WHATEVER THE INPUT: true; the input reads as it did. -/
def fnExactRouteToSpec : ChangeSpec := { name := "fnExactRouteTo", fn := fun _ => fun
  | [d1, d2] => { results := [.lit (.bool true)], args := [d1, d2] }
  | _ => none }
def fnExactRouteToRow : OpenClaim := { program := "ytibfeacgnadiaaa", sum := "fda1c74d1a24d7599bd1ee5f6e74da9e4559695c76b997c7d7226cab4ad602a6", func := "loop.example/netstack/laws.FnExactRouteTo", spec := "fnExactRouteTo", unfollowed := true, recurses := true, apart := false }
def FnExactRouteToSaid : Prop := fnExactRouteToRow.holds Try.pinned (OpenSpec.ofChange fnExactRouteToSpec)

/-- ITS FALSE NEIGHBOUR: 'it returns false'. Refute it at one input. -/
def fnExactRouteToWrong : ChangeSpec := { name := "fnExactRouteTo", fn := fun _ => fun
  | [d1, d2] => { results := [.lit (.bool false)], args := [d1, d2] }
  | _ => none }
def FnExactRouteToWrongFalsely : Prop := fnExactRouteToRow.holds Try.pinned (OpenSpec.ofChange fnExactRouteToWrong)

/-- 'laws.FnRoutesOk': WHATEVER THE INPUT: true; the input reads as it did. -/
def fnRoutesOkSpec : ChangeSpec := { name := "fnRoutesOk", fn := fun _ => fun
  | [d] => { results := [.lit (.bool true)], args := [d] }
  | _ => none }
def fnRoutesOkRow : OpenClaim := { program := "ytibfeacgnadiaaa", sum := "fda1c74d1a24d7599bd1ee5f6e74da9e4559695c76b997c7d7226cab4ad602a6", func := "loop.example/netstack/laws.FnRoutesOk", spec := "fnRoutesOk", apart := false }
def FnRoutesOkSaid : Prop := fnRoutesOkRow.holds Try.pinned (OpenSpec.ofChange fnRoutesOkSpec)

/-- ITS FALSE NEIGHBOUR: 'it returns false'. Refute it at one input. -/
def fnRoutesOkWrong : ChangeSpec := { name := "fnRoutesOk", fn := fun _ => fun
  | [d] => { results := [.lit (.bool false)], args := [d] }
  | _ => none }
def FnRoutesOkWrongFalsely : Prop := fnRoutesOkRow.holds Try.pinned (OpenSpec.ofChange fnRoutesOkWrong)

/-- 'laws.FnQueryFrom': WHATEVER THE INPUT: true; the input reads as it did. -/
def fnQueryFromSpec : ChangeSpec := { name := "fnQueryFrom", fn := fun _ => fun
  | [d] => { results := [.lit (.bool true)], args := [d] }
  | _ => none }
def fnQueryFromRow : OpenClaim := { program := "ytibfeacgnadiaaa", sum := "fda1c74d1a24d7599bd1ee5f6e74da9e4559695c76b997c7d7226cab4ad602a6", func := "loop.example/netstack/laws.FnQueryFrom", spec := "fnQueryFrom", apart := false }
def FnQueryFromSaid : Prop := fnQueryFromRow.holds Try.pinned (OpenSpec.ofChange fnQueryFromSpec)

/-- ITS FALSE NEIGHBOUR: 'it returns false'. Refute it at one input. -/
def fnQueryFromWrong : ChangeSpec := { name := "fnQueryFrom", fn := fun _ => fun
  | [d] => { results := [.lit (.bool false)], args := [d] }
  | _ => none }
def FnQueryFromWrongFalsely : Prop := fnQueryFromRow.holds Try.pinned (OpenSpec.ofChange fnQueryFromWrong)

/-- 'laws.FnPartOk': WHATEVER THE INPUT: true; the input reads as it did. -/
def fnPartOkSpec : ChangeSpec := { name := "fnPartOk", fn := fun _ => fun
  | [d] => { results := [.lit (.bool true)], args := [d] }
  | _ => none }
def fnPartOkRow : OpenClaim := { program := "ytibfeacgnadiaaa", sum := "fda1c74d1a24d7599bd1ee5f6e74da9e4559695c76b997c7d7226cab4ad602a6", func := "loop.example/netstack/laws.FnPartOk", spec := "fnPartOk", apart := false }
def FnPartOkSaid : Prop := fnPartOkRow.holds Try.pinned (OpenSpec.ofChange fnPartOkSpec)

/-- ITS FALSE NEIGHBOUR: 'it returns false'. Refute it at one input. -/
def fnPartOkWrong : ChangeSpec := { name := "fnPartOk", fn := fun _ => fun
  | [d] => { results := [.lit (.bool false)], args := [d] }
  | _ => none }
def FnPartOkWrongFalsely : Prop := fnPartOkRow.holds Try.pinned (OpenSpec.ofChange fnPartOkWrong)

/- THE SECOND FORM. 'bulk': how many values and letters a reading holds, each counted each time it is reached (what is shared counts as often as it is met; a slice's spare places count too). A statement '..UptoSaid' is the law's where the arguments, and the package variables that the reading takes, are together of bulk at most 1048576: NARROWER than '..Said'. Prove '..Said' where nothing that the law and all that it calls make is longer than what came in: it says more and counts as full. Else prove '..UptoSaid'. A law counts once. -/
mutual
def uptoBulk {H : Type} : DataW H → Nat
  | .lit (.string bytes) => bytes.length + 1
  | .lit _ => 1
  | .nil => 1
  | .ptr d => uptoBulk d + 1
  | .slice elems spare => uptoBulkAll elems + uptoBulkAll spare + 1
  | .agg parts => uptoBulkAll parts + 1
  | .iface _ d => uptoBulk d + 1
  | .map entries => uptoBulkEntries entries + 1
  | .held _ => 1
def uptoBulkAll {H : Type} : List (DataW H) → Nat
  | [] => 0
  | d :: r => uptoBulk d + uptoBulkAll r
def uptoBulkEntries {H : Type} : List (Lit × DataW H) → Nat
  | [] => 0
  | x :: r => uptoBulkEntry x + uptoBulkEntries r
def uptoBulkEntry {H : Type} : Lit × DataW H → Nat
  | (.string bytes, d) => bytes.length + uptoBulk d + 1
  | (_, d) => uptoBulk d + 1
 end
def uptoSmall : (H : Type) → List (DataW H) → Bool := fun _ ds => decide (uptoBulkAll ds ≤ 1048576)
def OpenSpec.upto (s : _root_.Go.ChangeSpec) : _root_.Go.OpenSpec := { _root_.Go.OpenSpec.ofChange s with cond := some uptoSmall }

/-- 'laws.FnExactPacketOk', WHERE WHAT IT READS IS OF BULK AT MOST 1048576: true; the input reads as it did. -/
def fnExactPacketOkUptoRow : OpenClaim := { program := "ytibfeacgnadiaaa", sum := "fda1c74d1a24d7599bd1ee5f6e74da9e4559695c76b997c7d7226cab4ad602a6", func := "loop.example/netstack/laws.FnExactPacketOk", spec := "fnExactPacketOk", apart := false, narrowed := true }
def FnExactPacketOkUptoSaid : Prop := fnExactPacketOkUptoRow.holds Try.pinned (OpenSpec.upto fnExactPacketOkSpec)

/-- 'laws.FnPacketOk', WHERE WHAT IT READS IS OF BULK AT MOST 1048576: true; the input reads as it did. -/
def fnPacketOkUptoRow : OpenClaim := { program := "ytibfeacgnadiaaa", sum := "fda1c74d1a24d7599bd1ee5f6e74da9e4559695c76b997c7d7226cab4ad602a6", func := "loop.example/netstack/laws.FnPacketOk", spec := "fnPacketOk", apart := false, narrowed := true }
def FnPacketOkUptoSaid : Prop := fnPacketOkUptoRow.holds Try.pinned (OpenSpec.upto fnPacketOkSpec)

/-- 'laws.FnExactQueryBytes', WHERE WHAT IT READS IS OF BULK AT MOST 1048576: true; the input reads as it did. -/
def fnExactQueryBytesUptoRow : OpenClaim := { program := "ytibfeacgnadiaaa", sum := "fda1c74d1a24d7599bd1ee5f6e74da9e4559695c76b997c7d7226cab4ad602a6", func := "loop.example/netstack/laws.FnExactQueryBytes", spec := "fnExactQueryBytes", apart := false, narrowed := true }
def FnExactQueryBytesUptoSaid : Prop := fnExactQueryBytesUptoRow.holds Try.pinned (OpenSpec.upto fnExactQueryBytesSpec)

/-- 'laws.FnSumOf', WHERE WHAT IT READS IS OF BULK AT MOST 1048576: true; the input reads as it did. -/
def fnSumOfUptoRow : OpenClaim := { program := "ytibfeacgnadiaaa", sum := "fda1c74d1a24d7599bd1ee5f6e74da9e4559695c76b997c7d7226cab4ad602a6", func := "loop.example/netstack/laws.FnSumOf", spec := "fnSumOf", unfollowed := true, recurses := true, apart := false, narrowed := true }
def FnSumOfUptoSaid : Prop := fnSumOfUptoRow.holds Try.pinned (OpenSpec.upto fnSumOfSpec)

/-- 'laws.FnExactRoutesOk', WHERE WHAT IT READS IS OF BULK AT MOST 1048576: true; the input reads as it did. -/
def fnExactRoutesOkUptoRow : OpenClaim := { program := "ytibfeacgnadiaaa", sum := "fda1c74d1a24d7599bd1ee5f6e74da9e4559695c76b997c7d7226cab4ad602a6", func := "loop.example/netstack/laws.FnExactRoutesOk", spec := "fnExactRoutesOk", apart := false, narrowed := true }
def FnExactRoutesOkUptoSaid : Prop := fnExactRoutesOkUptoRow.holds Try.pinned (OpenSpec.upto fnExactRoutesOkSpec)

/-- 'laws.FnSumTurned', WHERE WHAT IT READS IS OF BULK AT MOST 1048576: true; the input reads as it did. -/
def fnSumTurnedUptoRow : OpenClaim := { program := "ytibfeacgnadiaaa", sum := "fda1c74d1a24d7599bd1ee5f6e74da9e4559695c76b997c7d7226cab4ad602a6", func := "loop.example/netstack/laws.FnSumTurned", spec := "fnSumTurned", unfollowed := true, recurses := true, apart := false, narrowed := true }
def FnSumTurnedUptoSaid : Prop := fnSumTurnedUptoRow.holds Try.pinned (OpenSpec.upto fnSumTurnedSpec)

/-- 'laws.FnSumFits', WHERE WHAT IT READS IS OF BULK AT MOST 1048576: true; the input reads as it did. -/
def fnSumFitsUptoRow : OpenClaim := { program := "ytibfeacgnadiaaa", sum := "fda1c74d1a24d7599bd1ee5f6e74da9e4559695c76b997c7d7226cab4ad602a6", func := "loop.example/netstack/laws.FnSumFits", spec := "fnSumFits", unfollowed := true, recurses := true, apart := false, narrowed := true }
def FnSumFitsUptoSaid : Prop := fnSumFitsUptoRow.holds Try.pinned (OpenSpec.upto fnSumFitsSpec)

/-- 'laws.FnQueryBytes', WHERE WHAT IT READS IS OF BULK AT MOST 1048576: true; the input reads as it did. -/
def fnQueryBytesUptoRow : OpenClaim := { program := "ytibfeacgnadiaaa", sum := "fda1c74d1a24d7599bd1ee5f6e74da9e4559695c76b997c7d7226cab4ad602a6", func := "loop.example/netstack/laws.FnQueryBytes", spec := "fnQueryBytes", apart := false, narrowed := true }
def FnQueryBytesUptoSaid : Prop := fnQueryBytesUptoRow.holds Try.pinned (OpenSpec.upto fnQueryBytesSpec)

/-- 'laws.FnExactRouteTo', WHERE WHAT IT READS IS OF BULK AT MOST 1048576: true; the input reads as it did. -/
def fnExactRouteToUptoRow : OpenClaim := { program := "ytibfeacgnadiaaa", sum := "fda1c74d1a24d7599bd1ee5f6e74da9e4559695c76b997c7d7226cab4ad602a6", func := "loop.example/netstack/laws.FnExactRouteTo", spec := "fnExactRouteTo", unfollowed := true, recurses := true, apart := false, narrowed := true }
def FnExactRouteToUptoSaid : Prop := fnExactRouteToUptoRow.holds Try.pinned (OpenSpec.upto fnExactRouteToSpec)

/-- 'laws.FnRoutesOk', WHERE WHAT IT READS IS OF BULK AT MOST 1048576: true; the input reads as it did. -/
def fnRoutesOkUptoRow : OpenClaim := { program := "ytibfeacgnadiaaa", sum := "fda1c74d1a24d7599bd1ee5f6e74da9e4559695c76b997c7d7226cab4ad602a6", func := "loop.example/netstack/laws.FnRoutesOk", spec := "fnRoutesOk", apart := false, narrowed := true }
def FnRoutesOkUptoSaid : Prop := fnRoutesOkUptoRow.holds Try.pinned (OpenSpec.upto fnRoutesOkSpec)

/-- 'laws.FnQueryFrom', WHERE WHAT IT READS IS OF BULK AT MOST 1048576: true; the input reads as it did. -/
def fnQueryFromUptoRow : OpenClaim := { program := "ytibfeacgnadiaaa", sum := "fda1c74d1a24d7599bd1ee5f6e74da9e4559695c76b997c7d7226cab4ad602a6", func := "loop.example/netstack/laws.FnQueryFrom", spec := "fnQueryFrom", apart := false, narrowed := true }
def FnQueryFromUptoSaid : Prop := fnQueryFromUptoRow.holds Try.pinned (OpenSpec.upto fnQueryFromSpec)

/-- 'laws.FnPartOk', WHERE WHAT IT READS IS OF BULK AT MOST 1048576: true; the input reads as it did. -/
def fnPartOkUptoRow : OpenClaim := { program := "ytibfeacgnadiaaa", sum := "fda1c74d1a24d7599bd1ee5f6e74da9e4559695c76b997c7d7226cab4ad602a6", func := "loop.example/netstack/laws.FnPartOk", spec := "fnPartOk", apart := false, narrowed := true }
def FnPartOkUptoSaid : Prop := fnPartOkUptoRow.holds Try.pinned (OpenSpec.upto fnPartOkSpec)

end Rows
end Go.Proofs.Ytibfeacgnadiaaa

/-
  No cell of these rows narrows 'for every input' (looked for: loops, veiled, ifaces, maps, wideKeys, modest, calm, conditions, laid).
  DERIVED. THE GIVEN ROWS OF THIS SEAT. 10 by the template 'for every input the law returns true; each argument reads behind the call as it read before'; 0 by the template 'total and deterministic' (their statements: YtdplboenlcppkaaTotals.lean).
  GIVEN WITH THE SEED: the statements are not yours to turn. If you find one false, say at which input.
  Laid BY PROGRAM, IN A SANDBOX (cutbox-rows.mjs): the forced cells as the released guide's own fill.sh prints them over the translation 67292cda48bb2ac2… (all of the seat's roots in one cut). By AI agents, Wed Nov 11 2026. No macro, syntax, notation, axiom, sorry.
-/
import Derived.Test.YtdplboenlcppkaaChecked
import GoSem.Claim
import GoSem.ClaimJoined
import GoSem.ClaimMapViews
import Derived.JoinedTies
import Derived.KernelRfl
namespace Go.Proofs.Ytdplboenlcppkaa
/- THE CELL 'sum', in the pinned program and in every row, IS THE sha256 OF THE DUMP (.gsa) THAT YtdplboenlcppkaaProg.lean LOADS. Nothing in Lean hashes anything: it is a label: what it is worth is what the hold of that sum in a sandbox is worth. -/
noncomputable def Try.pinned : Pinned := { name := "ytdplboenlcppkaa", sum := "67292cda48bb2ac2716f3b6343e0077f66113e074a0d17283090798b2225bd4f", checked := Try.checked }
namespace Rows
def none {H : Type} : Left H := { results := [], args := [] }

/-- 'laws.FnExactPartOk': WHATEVER THE INPUT: true; the input reads as it did. -/
def fnExactPartOkSpec : ChangeSpec := { name := "fnExactPartOk", fn := fun _ => fun
  | [d] => { results := [.lit (.bool true)], args := [d] }
  | _ => none }
def fnExactPartOkRow : OpenClaim := { program := "ytdplboenlcppkaa", sum := "67292cda48bb2ac2716f3b6343e0077f66113e074a0d17283090798b2225bd4f", func := "loop.example/netstack/laws.FnExactPartOk", spec := "fnExactPartOk", apart := false }
def FnExactPartOkSaid : Prop := fnExactPartOkRow.holds Try.pinned (OpenSpec.ofChange fnExactPartOkSpec)

/-- ITS FALSE NEIGHBOUR: 'it returns false'. Refute it at one input. -/
def fnExactPartOkWrong : ChangeSpec := { name := "fnExactPartOk", fn := fun _ => fun
  | [d] => { results := [.lit (.bool false)], args := [d] }
  | _ => none }
def FnExactPartOkWrongFalsely : Prop := fnExactPartOkRow.holds Try.pinned (OpenSpec.ofChange fnExactPartOkWrong)

/-- 'laws.FnExactNearOk': WHATEVER THE INPUT: true; the input reads as it did. -/
def fnExactNearOkSpec : ChangeSpec := { name := "fnExactNearOk", fn := fun _ => fun
  | [d] => { results := [.lit (.bool true)], args := [d] }
  | _ => none }
def fnExactNearOkRow : OpenClaim := { program := "ytdplboenlcppkaa", sum := "67292cda48bb2ac2716f3b6343e0077f66113e074a0d17283090798b2225bd4f", func := "loop.example/netstack/laws.FnExactNearOk", spec := "fnExactNearOk", unfollowed := true, recurses := true, apart := false }
def FnExactNearOkSaid : Prop := fnExactNearOkRow.holds Try.pinned (OpenSpec.ofChange fnExactNearOkSpec)

/-- ITS FALSE NEIGHBOUR: 'it returns false'. Refute it at one input. -/
def fnExactNearOkWrong : ChangeSpec := { name := "fnExactNearOk", fn := fun _ => fun
  | [d] => { results := [.lit (.bool false)], args := [d] }
  | _ => none }
def FnExactNearOkWrongFalsely : Prop := fnExactNearOkRow.holds Try.pinned (OpenSpec.ofChange fnExactNearOkWrong)

/-- 'laws.FnNearOk': WHATEVER THE INPUT: true; the input reads as it did. -/
def fnNearOkSpec : ChangeSpec := { name := "fnNearOk", fn := fun _ => fun
  | [d] => { results := [.lit (.bool true)], args := [d] }
  | _ => none }
def fnNearOkRow : OpenClaim := { program := "ytdplboenlcppkaa", sum := "67292cda48bb2ac2716f3b6343e0077f66113e074a0d17283090798b2225bd4f", func := "loop.example/netstack/laws.FnNearOk", spec := "fnNearOk", unfollowed := true, recurses := true, apart := false }
def FnNearOkSaid : Prop := fnNearOkRow.holds Try.pinned (OpenSpec.ofChange fnNearOkSpec)

/-- ITS FALSE NEIGHBOUR: 'it returns false'. Refute it at one input. -/
def fnNearOkWrong : ChangeSpec := { name := "fnNearOk", fn := fun _ => fun
  | [d] => { results := [.lit (.bool false)], args := [d] }
  | _ => none }
def FnNearOkWrongFalsely : Prop := fnNearOkRow.holds Try.pinned (OpenSpec.ofChange fnNearOkWrong)

/-- 'laws.FnExactFrameBytes': WHATEVER THE INPUT: true; the input reads as it did. -/
def fnExactFrameBytesSpec : ChangeSpec := { name := "fnExactFrameBytes", fn := fun _ => fun
  | [d] => { results := [.lit (.bool true)], args := [d] }
  | _ => none }
def fnExactFrameBytesRow : OpenClaim := { program := "ytdplboenlcppkaa", sum := "67292cda48bb2ac2716f3b6343e0077f66113e074a0d17283090798b2225bd4f", func := "loop.example/netstack/laws.FnExactFrameBytes", spec := "fnExactFrameBytes", unfollowed := true, recurses := true, apart := false }
def FnExactFrameBytesSaid : Prop := fnExactFrameBytesRow.holds Try.pinned (OpenSpec.ofChange fnExactFrameBytesSpec)

/-- ITS FALSE NEIGHBOUR: 'it returns false'. Refute it at one input. -/
def fnExactFrameBytesWrong : ChangeSpec := { name := "fnExactFrameBytes", fn := fun _ => fun
  | [d] => { results := [.lit (.bool false)], args := [d] }
  | _ => none }
def FnExactFrameBytesWrongFalsely : Prop := fnExactFrameBytesRow.holds Try.pinned (OpenSpec.ofChange fnExactFrameBytesWrong)

/-- 'laws.FnRouteTo': WHATEVER THE INPUT: true; the input reads as it did. -/
def fnRouteToSpec : ChangeSpec := { name := "fnRouteTo", fn := fun _ => fun
  | [d] => { results := [.lit (.bool true)], args := [d] }
  | _ => none }
def fnRouteToRow : OpenClaim := { program := "ytdplboenlcppkaa", sum := "67292cda48bb2ac2716f3b6343e0077f66113e074a0d17283090798b2225bd4f", func := "loop.example/netstack/laws.FnRouteTo", spec := "fnRouteTo", unfollowed := true, recurses := true, apart := false }
def FnRouteToSaid : Prop := fnRouteToRow.holds Try.pinned (OpenSpec.ofChange fnRouteToSpec)

/-- ITS FALSE NEIGHBOUR: 'it returns false'. Refute it at one input. -/
def fnRouteToWrong : ChangeSpec := { name := "fnRouteTo", fn := fun _ => fun
  | [d] => { results := [.lit (.bool false)], args := [d] }
  | _ => none }
def FnRouteToWrongFalsely : Prop := fnRouteToRow.holds Try.pinned (OpenSpec.ofChange fnRouteToWrong)

/-- 'laws.FnExactPacketFrom': WHATEVER THE INPUT: true; the input reads as it did. -/
def fnExactPacketFromSpec : ChangeSpec := { name := "fnExactPacketFrom", fn := fun _ => fun
  | [d] => { results := [.lit (.bool true)], args := [d] }
  | _ => none }
def fnExactPacketFromRow : OpenClaim := { program := "ytdplboenlcppkaa", sum := "67292cda48bb2ac2716f3b6343e0077f66113e074a0d17283090798b2225bd4f", func := "loop.example/netstack/laws.FnExactPacketFrom", spec := "fnExactPacketFrom", unfollowed := true, recurses := true, apart := false }
def FnExactPacketFromSaid : Prop := fnExactPacketFromRow.holds Try.pinned (OpenSpec.ofChange fnExactPacketFromSpec)

/-- ITS FALSE NEIGHBOUR: 'it returns false'. Refute it at one input. -/
def fnExactPacketFromWrong : ChangeSpec := { name := "fnExactPacketFrom", fn := fun _ => fun
  | [d] => { results := [.lit (.bool false)], args := [d] }
  | _ => none }
def FnExactPacketFromWrongFalsely : Prop := fnExactPacketFromRow.holds Try.pinned (OpenSpec.ofChange fnExactPacketFromWrong)

/-- 'laws.FnExactRoutesLess': WHATEVER THE INPUT: true; the input reads as it did. -/
def fnExactRoutesLessSpec : ChangeSpec := { name := "fnExactRoutesLess", fn := fun _ => fun
  | [d] => { results := [.lit (.bool true)], args := [d] }
  | _ => none }
def fnExactRoutesLessRow : OpenClaim := { program := "ytdplboenlcppkaa", sum := "67292cda48bb2ac2716f3b6343e0077f66113e074a0d17283090798b2225bd4f", func := "loop.example/netstack/laws.FnExactRoutesLess", spec := "fnExactRoutesLess", unfollowed := true, recurses := true, apart := false }
def FnExactRoutesLessSaid : Prop := fnExactRoutesLessRow.holds Try.pinned (OpenSpec.ofChange fnExactRoutesLessSpec)

/-- ITS FALSE NEIGHBOUR: 'it returns false'. Refute it at one input. -/
def fnExactRoutesLessWrong : ChangeSpec := { name := "fnExactRoutesLess", fn := fun _ => fun
  | [d] => { results := [.lit (.bool false)], args := [d] }
  | _ => none }
def FnExactRoutesLessWrongFalsely : Prop := fnExactRoutesLessRow.holds Try.pinned (OpenSpec.ofChange fnExactRoutesLessWrong)

/-- 'laws.FnNearFind': WHATEVER THE INPUT: true; the input reads as it did. -/
def fnNearFindSpec : ChangeSpec := { name := "fnNearFind", fn := fun _ => fun
  | [d] => { results := [.lit (.bool true)], args := [d] }
  | _ => none }
def fnNearFindRow : OpenClaim := { program := "ytdplboenlcppkaa", sum := "67292cda48bb2ac2716f3b6343e0077f66113e074a0d17283090798b2225bd4f", func := "loop.example/netstack/laws.FnNearFind", spec := "fnNearFind", unfollowed := true, recurses := true, apart := false }
def FnNearFindSaid : Prop := fnNearFindRow.holds Try.pinned (OpenSpec.ofChange fnNearFindSpec)

/-- ITS FALSE NEIGHBOUR: 'it returns false'. Refute it at one input. -/
def fnNearFindWrong : ChangeSpec := { name := "fnNearFind", fn := fun _ => fun
  | [d] => { results := [.lit (.bool false)], args := [d] }
  | _ => none }
def FnNearFindWrongFalsely : Prop := fnNearFindRow.holds Try.pinned (OpenSpec.ofChange fnNearFindWrong)

/-- 'laws.FnExactRouteDrop': WHATEVER THE INPUT: true; the input reads as it did. -/
def fnExactRouteDropSpec : ChangeSpec := { name := "fnExactRouteDrop", fn := fun _ => fun
  | [d1, d2, d3] => { results := [.lit (.bool true)], args := [d1, d2, d3] }
  | _ => none }
def fnExactRouteDropRow : OpenClaim := { program := "ytdplboenlcppkaa", sum := "67292cda48bb2ac2716f3b6343e0077f66113e074a0d17283090798b2225bd4f", func := "loop.example/netstack/laws.FnExactRouteDrop", spec := "fnExactRouteDrop", unfollowed := true, recurses := true, apart := false }
def FnExactRouteDropSaid : Prop := fnExactRouteDropRow.holds Try.pinned (OpenSpec.ofChange fnExactRouteDropSpec)

/-- ITS FALSE NEIGHBOUR: 'it returns false'. Refute it at one input. -/
def fnExactRouteDropWrong : ChangeSpec := { name := "fnExactRouteDrop", fn := fun _ => fun
  | [d1, d2, d3] => { results := [.lit (.bool false)], args := [d1, d2, d3] }
  | _ => none }
def FnExactRouteDropWrongFalsely : Prop := fnExactRouteDropRow.holds Try.pinned (OpenSpec.ofChange fnExactRouteDropWrong)

/-- 'laws.FnExactNearFind': WHATEVER THE INPUT: true; the input reads as it did. -/
def fnExactNearFindSpec : ChangeSpec := { name := "fnExactNearFind", fn := fun _ => fun
  | [d1, d2, d3] => { results := [.lit (.bool true)], args := [d1, d2, d3] }
  | _ => none }
def fnExactNearFindRow : OpenClaim := { program := "ytdplboenlcppkaa", sum := "67292cda48bb2ac2716f3b6343e0077f66113e074a0d17283090798b2225bd4f", func := "loop.example/netstack/laws.FnExactNearFind", spec := "fnExactNearFind", unfollowed := true, recurses := true, apart := false }
def FnExactNearFindSaid : Prop := fnExactNearFindRow.holds Try.pinned (OpenSpec.ofChange fnExactNearFindSpec)

/-- ITS FALSE NEIGHBOUR: 'it returns false'. Refute it at one input. -/
def fnExactNearFindWrong : ChangeSpec := { name := "fnExactNearFind", fn := fun _ => fun
  | [d1, d2, d3] => { results := [.lit (.bool false)], args := [d1, d2, d3] }
  | _ => none }
def FnExactNearFindWrongFalsely : Prop := fnExactNearFindRow.holds Try.pinned (OpenSpec.ofChange fnExactNearFindWrong)

/- THE SECOND FORM. 'bulk': how many values and letters a reading holds, each counted each time it is reached (what is shared counts as often as it is met; a slice's spare places count too). A statement '..UptoSaid' is the law's where the arguments, and the package variables that the reading takes, are together of bulk at most 1048576: NARROWER than '..Said'. Prove '..Said' where nothing that the law and all that it calls make is longer than what came in: it says more and counts as full. Else prove '..UptoSaid'. A law counts once. -/
mutual
def uptoBulk {H : Type} : DataW H → Nat
  | .lit (.string bytes) => bytes.length + 1
  | .lit _ => 1
  | .nil => 1
  | .ptr d => uptoBulk d + 1
  | .slice elems spare => uptoBulkAll elems + uptoBulkAll spare + 1
  | .agg parts => uptoBulkAll parts + 1
  | .iface _ d => uptoBulk d + 1
  | .map entries => uptoBulkEntries entries + 1
  | .held _ => 1
def uptoBulkAll {H : Type} : List (DataW H) → Nat
  | [] => 0
  | d :: r => uptoBulk d + uptoBulkAll r
def uptoBulkEntries {H : Type} : List (Lit × DataW H) → Nat
  | [] => 0
  | x :: r => uptoBulkEntry x + uptoBulkEntries r
def uptoBulkEntry {H : Type} : Lit × DataW H → Nat
  | (.string bytes, d) => bytes.length + uptoBulk d + 1
  | (_, d) => uptoBulk d + 1
 end
def uptoSmall : (H : Type) → List (DataW H) → Bool := fun _ ds => decide (uptoBulkAll ds ≤ 1048576)
def OpenSpec.upto (s : _root_.Go.ChangeSpec) : _root_.Go.OpenSpec := { _root_.Go.OpenSpec.ofChange s with cond := some uptoSmall }

/-- 'laws.FnExactPartOk', WHERE WHAT IT READS IS OF BULK AT MOST 1048576: true; the input reads as it did. -/
def fnExactPartOkUptoRow : OpenClaim := { program := "ytdplboenlcppkaa", sum := "67292cda48bb2ac2716f3b6343e0077f66113e074a0d17283090798b2225bd4f", func := "loop.example/netstack/laws.FnExactPartOk", spec := "fnExactPartOk", apart := false, narrowed := true }
def FnExactPartOkUptoSaid : Prop := fnExactPartOkUptoRow.holds Try.pinned (OpenSpec.upto fnExactPartOkSpec)

/-- 'laws.FnExactNearOk', WHERE WHAT IT READS IS OF BULK AT MOST 1048576: true; the input reads as it did. -/
def fnExactNearOkUptoRow : OpenClaim := { program := "ytdplboenlcppkaa", sum := "67292cda48bb2ac2716f3b6343e0077f66113e074a0d17283090798b2225bd4f", func := "loop.example/netstack/laws.FnExactNearOk", spec := "fnExactNearOk", unfollowed := true, recurses := true, apart := false, narrowed := true }
def FnExactNearOkUptoSaid : Prop := fnExactNearOkUptoRow.holds Try.pinned (OpenSpec.upto fnExactNearOkSpec)

/-- 'laws.FnNearOk', WHERE WHAT IT READS IS OF BULK AT MOST 1048576: true; the input reads as it did. -/
def fnNearOkUptoRow : OpenClaim := { program := "ytdplboenlcppkaa", sum := "67292cda48bb2ac2716f3b6343e0077f66113e074a0d17283090798b2225bd4f", func := "loop.example/netstack/laws.FnNearOk", spec := "fnNearOk", unfollowed := true, recurses := true, apart := false, narrowed := true }
def FnNearOkUptoSaid : Prop := fnNearOkUptoRow.holds Try.pinned (OpenSpec.upto fnNearOkSpec)

/-- 'laws.FnExactFrameBytes', WHERE WHAT IT READS IS OF BULK AT MOST 1048576: true; the input reads as it did. -/
def fnExactFrameBytesUptoRow : OpenClaim := { program := "ytdplboenlcppkaa", sum := "67292cda48bb2ac2716f3b6343e0077f66113e074a0d17283090798b2225bd4f", func := "loop.example/netstack/laws.FnExactFrameBytes", spec := "fnExactFrameBytes", unfollowed := true, recurses := true, apart := false, narrowed := true }
def FnExactFrameBytesUptoSaid : Prop := fnExactFrameBytesUptoRow.holds Try.pinned (OpenSpec.upto fnExactFrameBytesSpec)

/-- 'laws.FnRouteTo', WHERE WHAT IT READS IS OF BULK AT MOST 1048576: true; the input reads as it did. -/
def fnRouteToUptoRow : OpenClaim := { program := "ytdplboenlcppkaa", sum := "67292cda48bb2ac2716f3b6343e0077f66113e074a0d17283090798b2225bd4f", func := "loop.example/netstack/laws.FnRouteTo", spec := "fnRouteTo", unfollowed := true, recurses := true, apart := false, narrowed := true }
def FnRouteToUptoSaid : Prop := fnRouteToUptoRow.holds Try.pinned (OpenSpec.upto fnRouteToSpec)

/-- 'laws.FnExactPacketFrom', WHERE WHAT IT READS IS OF BULK AT MOST 1048576: true; the input reads as it did. -/
def fnExactPacketFromUptoRow : OpenClaim := { program := "ytdplboenlcppkaa", sum := "67292cda48bb2ac2716f3b6343e0077f66113e074a0d17283090798b2225bd4f", func := "loop.example/netstack/laws.FnExactPacketFrom", spec := "fnExactPacketFrom", unfollowed := true, recurses := true, apart := false, narrowed := true }
def FnExactPacketFromUptoSaid : Prop := fnExactPacketFromUptoRow.holds Try.pinned (OpenSpec.upto fnExactPacketFromSpec)

/-- 'laws.FnExactRoutesLess', WHERE WHAT IT READS IS OF BULK AT MOST 1048576: true; the input reads as it did. -/
def fnExactRoutesLessUptoRow : OpenClaim := { program := "ytdplboenlcppkaa", sum := "67292cda48bb2ac2716f3b6343e0077f66113e074a0d17283090798b2225bd4f", func := "loop.example/netstack/laws.FnExactRoutesLess", spec := "fnExactRoutesLess", unfollowed := true, recurses := true, apart := false, narrowed := true }
def FnExactRoutesLessUptoSaid : Prop := fnExactRoutesLessUptoRow.holds Try.pinned (OpenSpec.upto fnExactRoutesLessSpec)

/-- 'laws.FnNearFind', WHERE WHAT IT READS IS OF BULK AT MOST 1048576: true; the input reads as it did. -/
def fnNearFindUptoRow : OpenClaim := { program := "ytdplboenlcppkaa", sum := "67292cda48bb2ac2716f3b6343e0077f66113e074a0d17283090798b2225bd4f", func := "loop.example/netstack/laws.FnNearFind", spec := "fnNearFind", unfollowed := true, recurses := true, apart := false, narrowed := true }
def FnNearFindUptoSaid : Prop := fnNearFindUptoRow.holds Try.pinned (OpenSpec.upto fnNearFindSpec)

/-- 'laws.FnExactRouteDrop', WHERE WHAT IT READS IS OF BULK AT MOST 1048576: true; the input reads as it did. -/
def fnExactRouteDropUptoRow : OpenClaim := { program := "ytdplboenlcppkaa", sum := "67292cda48bb2ac2716f3b6343e0077f66113e074a0d17283090798b2225bd4f", func := "loop.example/netstack/laws.FnExactRouteDrop", spec := "fnExactRouteDrop", unfollowed := true, recurses := true, apart := false, narrowed := true }
def FnExactRouteDropUptoSaid : Prop := fnExactRouteDropUptoRow.holds Try.pinned (OpenSpec.upto fnExactRouteDropSpec)

/-- 'laws.FnExactNearFind', WHERE WHAT IT READS IS OF BULK AT MOST 1048576: true; the input reads as it did. -/
def fnExactNearFindUptoRow : OpenClaim := { program := "ytdplboenlcppkaa", sum := "67292cda48bb2ac2716f3b6343e0077f66113e074a0d17283090798b2225bd4f", func := "loop.example/netstack/laws.FnExactNearFind", spec := "fnExactNearFind", unfollowed := true, recurses := true, apart := false, narrowed := true }
def FnExactNearFindUptoSaid : Prop := fnExactNearFindUptoRow.holds Try.pinned (OpenSpec.upto fnExactNearFindSpec)

end Rows
end Go.Proofs.Ytdplboenlcppkaa

/- The machine side of some functions: each comes to its pure answer (written by a program of this session with the kit's print). No condition. -/
import Derived.Test.YtdplboenlcppkaaProg
import Derived.Below
import Derived.Deep.Draws
import Derived.Deep.AppendLies
import Derived.Maps.AppendAt
import Derived.OwnWalk
import Derived.Laws.BytesArg
import Derived.Laws.MakeOwn
import Derived.Laws.OwnMore
import Derived.Deep.OwnRows
import Derived.Tactics
import Derived.Lib.ConvBytes
import Derived.Laws.Slices
import Derived.WalkKit
import Derived.KernelRfl
import Derived.RowKit3
import Derived.Deep.LoopGhost
import Derived.Deep.QuietTactic
import Derived.BigQuiet
import Derived.WideLaws
import Derived.Deep.DeepCutAuto
import Derived.Deep.CutBlock
import Derived.Deep.RegionHeld3
import Derived.Laws.Rows
import Derived.Lib.AppendStr
import Derived.ArgAppend
import Derived.Laws.IdiomCopy
import Derived.OrdersHeld
import Derived.Laws.BitsLemmas
import Derived.RowKit
import Derived.RangeFuncNested
import Derived.RangeFuncBound
import Derived.RangeFuncCalls
import Derived.RangeFuncLeaves
import Derived.Shelf.Abstract
import Derived.OwnWalkIn
import Derived.TacticsInMore
import Derived.LoopNIn
import Derived.LoopIn
import Derived.RegionIn
import Derived.Deep.Slices
import Derived.Lib.Hide
import Derived.Lib.AppendZerosOnto
import Derived.Lib.SliceRun
import Derived.Lib.Walk
import Derived.Test.YtdplboenlcppkaaUFnExactPartOkWords
import Derived.Test.YtdplboenlcppkaaUFnExactPartOkLast
import Derived.Test.YtdplboenlcppkaaUFnExactPartOkTab
import Derived.Test.YtdplboenlcppkaaUFnExactPartOkFour
import Derived.Test.YtdplboenlcppkaaUFnExactPartOkQPut
import Derived.Test.YtdplboenlcppkaaUFnExactPartOkApart
import Derived.Test.YtdplboenlcppkaaUFnExactPartOkArr
import Derived.Test.YtdplboenlcppkaaUFnExactPartOkZeros
import Derived.Test.YtdplboenlcppkaaUFnExactPartOkFoot
import Derived.Test.YtdplboenlcppkaaUFnExactPartOkKept
import Derived.Test.YtdplboenlcppkaaUFnExactPartOkShare
import Derived.Test.YtdplboenlcppkaaUFnExactPartOkN
import Derived.Test.YtdplboenlcppkaaUFnExactPartOkFootNe
import Derived.Test.YtdplboenlcppkaaUFnExactPartOkAt
import Derived.Test.YtdplboenlcppkaaUFnExactPartOkEqStruct
import Derived.Test.YtdplboenlcppkaaUFnExactPartOkRepsOne
import Derived.Test.YtdplboenlcppkaaUFnExactPartOkInv
import Derived.Test.YtdplboenlcppkaaUFnExactPartOkInvWords
import Derived.Test.YtdplboenlcppkaaUFnExactPartOkGuard
import Derived.Test.YtdplboenlcppkaaUFnExactPartOkNEv
import Derived.Test.YtdplboenlcppkaaUFnExactPartOkMore
namespace Go.Proofs.Ytdplboenlcppkaa.PFnExactPartOk
open Go.RowKit Go.Proofs.YtdplboenlcppkaaUFnExactPartOk.PrintWords Go.Proofs.YtdplboenlcppkaaUFnExactPartOk.PrintLast Go.Proofs.YtdplboenlcppkaaUFnExactPartOk.PrintMore
attribute [local go_sem] max2_int min2_int max_two min_two max_three min_three max_four min_four   -- for this text's walks alone
set_option linter.unusedVariables false
set_option linter.unusedSimpArgs false



def errW : Option Int → Value
 | none => .nilIface
 | some c => .iface 0 (.int .i64 c)
theorem errW_none : errW none = .nilIface := rfl
theorem errW_some (c : Int) : errW (some c) = .iface 0 (.int .i64 c) := rfl

theorem info5 : (Try.prog.info? 5).map (fun i => (i.zero, i.size, i.bytes)) = some (some (.int .u8 0), 1, 1) := by kernel_rfl
theorem info71 : (Try.prog.info? 71).map (fun i => (i.zero, i.size, i.bytes)) = some (some (.agg #[(.int .i64 0), (.int .i64 0), (.int .i64 0), (.int .i64 0), (.int .i64 0), (.int .i64 0), (.bool false), (.bool false), (.slice none 0 0)]), 9, 80) := by kernel_rfl
-- the values' own types
def rd_L3 (xs : List (List Int)) (i : Int) : (List Int) := xs.getD i.toNat ([] : List Int)
theorem at_L3 {w : World} {A : Option Addr} {n : Nat} {xs : List (List Int)} (h : Kd.C (Kd.slice 5 (Kd.int .u8)) w A n xs) (i : Int) (h0 : 0 ≤ i) (h1 : i < n) : ∃ ad A0 c0, A = some ad ∧ w.cell? (ad.add i.toNat) = some (.slice A0 (rd_L3 xs i).length c0) ∧ (rd_L3 xs i).length ≤ c0 ∧ (Kd.int .u8).C w A0 (rd_L3 xs i).length (rd_L3 xs i) := by
 obtain ⟨ad, c, e, _, hK, hc0⟩ := Kd.C_get h ([] : List Int) i h0 h1;have hc : ∀ j u, c[j]? = some u → w.cell? (ad.add (i.toNat * 1 + j)) = some u := hc0;obtain ⟨A0, c0, rfl, l0, g0⟩ := hK;exact ⟨ad, A0, c0, e, by have hq := hc 0 _ rfl; rwa [Nat.mul_one, Nat.add_zero] at hq, l0, g0⟩

/-! #### struct type 130 -/
structure S130 where
 f0 : Int
 f1 : Int
 f2 : Int
 f3 : Int
 f4 : Int
 f5 : Int
 f6 : Bool
 f7 : Bool
 f8 : (List Int)
def z130 : S130 := ⟨(0 : Int), (0 : Int), (0 : Int), (0 : Int), (0 : Int), (0 : Int), false, false, ([] : List Int)⟩
def k130 : Kd S130 := Kd.iso (Kd.pair (Kd.int .i64) (Kd.pair (Kd.int .i64) (Kd.pair (Kd.int .i64) (Kd.pair (Kd.int .i64) (Kd.pair (Kd.int .i64) (Kd.pair (Kd.int .i64) (Kd.pair Kd.bool (Kd.pair Kd.bool (Kd.slice 5 (Kd.int .u8)))))))))) (fun x : S130 => (x.f0, x.f1, x.f2, x.f3, x.f4, x.f5, x.f6, x.f7, x.f8))
theorem k130_open {w : World} {x : S130} {cs : List Value} (h : k130.K w x cs) : ∃ A8 c8, cs = [.int .i64 x.f0, .int .i64 x.f1, .int .i64 x.f2, .int .i64 x.f3, .int .i64 x.f4, .int .i64 x.f5, .bool x.f6, .bool x.f7, .slice A8 x.f8.length c8] ∧ x.f8.length ≤ c8 ∧ (Kd.int .u8).C w A8 x.f8.length x.f8 := by
 obtain ⟨_, _, rfl, rfl, ⟨_, _, rfl, rfl, ⟨_, _, rfl, rfl, ⟨_, _, rfl, rfl, ⟨_, _, rfl, rfl, ⟨_, _, rfl, rfl, ⟨_, _, rfl, rfl, ⟨_, _, rfl, rfl, ⟨A8, c8, rfl, l8, g8⟩⟩⟩⟩⟩⟩⟩⟩⟩ := h;exact ⟨A8, c8, rfl, l8, g8⟩
theorem k130_openM {w : World} {base : Nat} {ok : Nat → Prop} {x : S130} {cs : List Value} (h : k130.M w base ok x cs) : ∃ v8, cs = [.int .i64 x.f0, .int .i64 x.f1, .int .i64 x.f2, .int .i64 x.f3, .int .i64 x.f4, .int .i64 x.f5, .bool x.f6, .bool x.f7, v8] ∧ (Kd.int .u8).R 5 w base ok v8 x.f8 := by
 obtain ⟨_, _, rfl, rfl, ⟨_, _, rfl, rfl, ⟨_, _, rfl, rfl, ⟨_, _, rfl, rfl, ⟨_, _, rfl, rfl, ⟨_, _, rfl, rfl, ⟨_, _, rfl, rfl, ⟨_, _, rfl, rfl, ⟨v8, rfl, g8⟩⟩⟩⟩⟩⟩⟩⟩⟩ := h;exact ⟨v8, rfl, g8⟩
theorem k130_mk (w : World) (x : S130) {A8 : Option Addr} {c8 : Nat} (l8 : x.f8.length ≤ c8) (g8 : (Kd.int .u8).C w A8 x.f8.length x.f8) : k130.K w x [.int .i64 x.f0, .int .i64 x.f1, .int .i64 x.f2, .int .i64 x.f3, .int .i64 x.f4, .int .i64 x.f5, .bool x.f6, .bool x.f7, .slice A8 x.f8.length c8] := ⟨[.int .i64 x.f0], [.int .i64 x.f1, .int .i64 x.f2, .int .i64 x.f3, .int .i64 x.f4, .int .i64 x.f5, .bool x.f6, .bool x.f7, .slice A8 x.f8.length c8], rfl, rfl, ⟨[.int .i64 x.f1], [.int .i64 x.f2, .int .i64 x.f3, .int .i64 x.f4, .int .i64 x.f5, .bool x.f6, .bool x.f7, .slice A8 x.f8.length c8], rfl, rfl, ⟨[.int .i64 x.f2], [.int .i64 x.f3, .int .i64 x.f4, .int .i64 x.f5, .bool x.f6, .bool x.f7, .slice A8 x.f8.length c8], rfl, rfl, ⟨[.int .i64 x.f3], [.int .i64 x.f4, .int .i64 x.f5, .bool x.f6, .bool x.f7, .slice A8 x.f8.length c8], rfl, rfl, ⟨[.int .i64 x.f4], [.int .i64 x.f5, .bool x.f6, .bool x.f7, .slice A8 x.f8.length c8], rfl, rfl, ⟨[.int .i64 x.f5], [.bool x.f6, .bool x.f7, .slice A8 x.f8.length c8], rfl, rfl, ⟨[.bool x.f6], [.bool x.f7, .slice A8 x.f8.length c8], rfl, rfl, ⟨[.bool x.f7], [.slice A8 x.f8.length c8], rfl, rfl, ⟨A8, c8, rfl, l8, g8⟩⟩⟩⟩⟩⟩⟩⟩⟩
theorem k130_mkM (w : World) (base : Nat) (ok : Nat → Prop) (x : S130) {v8 : Value} (g8 : (Kd.int .u8).R 5 w base ok v8 x.f8) : k130.M w base ok x [.int .i64 x.f0, .int .i64 x.f1, .int .i64 x.f2, .int .i64 x.f3, .int .i64 x.f4, .int .i64 x.f5, .bool x.f6, .bool x.f7, v8] := ⟨[.int .i64 x.f0], [.int .i64 x.f1, .int .i64 x.f2, .int .i64 x.f3, .int .i64 x.f4, .int .i64 x.f5, .bool x.f6, .bool x.f7, v8], rfl, rfl, ⟨[.int .i64 x.f1], [.int .i64 x.f2, .int .i64 x.f3, .int .i64 x.f4, .int .i64 x.f5, .bool x.f6, .bool x.f7, v8], rfl, rfl, ⟨[.int .i64 x.f2], [.int .i64 x.f3, .int .i64 x.f4, .int .i64 x.f5, .bool x.f6, .bool x.f7, v8], rfl, rfl, ⟨[.int .i64 x.f3], [.int .i64 x.f4, .int .i64 x.f5, .bool x.f6, .bool x.f7, v8], rfl, rfl, ⟨[.int .i64 x.f4], [.int .i64 x.f5, .bool x.f6, .bool x.f7, v8], rfl, rfl, ⟨[.int .i64 x.f5], [.bool x.f6, .bool x.f7, v8], rfl, rfl, ⟨[.bool x.f6], [.bool x.f7, v8], rfl, rfl, ⟨[.bool x.f7], [v8], rfl, rfl, ⟨v8, rfl, g8⟩⟩⟩⟩⟩⟩⟩⟩⟩
def rd_T130 (xs : List S130) (i : Int) : S130 := xs.getD i.toNat z130
theorem at_T130 {w : World} {A : Option Addr} {n : Nat} {xs : List S130} (h : Kd.C k130 w A n xs) (i : Int) (h0 : 0 ≤ i) (h1 : i < n) : ∃ ad A8 c8, A = some ad ∧ w.cell? (ad.add (i.toNat * 9)) = some (.int .i64 (rd_T130 xs i).f0) ∧ w.cell? ⟨(ad.add (i.toNat * 9)).block, (ad.add (i.toNat * 9)).off + 1, none⟩ = some (.int .i64 (rd_T130 xs i).f1) ∧ w.cell? ⟨(ad.add (i.toNat * 9)).block, (ad.add (i.toNat * 9)).off + 2, none⟩ = some (.int .i64 (rd_T130 xs i).f2) ∧ w.cell? ⟨(ad.add (i.toNat * 9)).block, (ad.add (i.toNat * 9)).off + 3, none⟩ = some (.int .i64 (rd_T130 xs i).f3) ∧ w.cell? ⟨(ad.add (i.toNat * 9)).block, (ad.add (i.toNat * 9)).off + 4, none⟩ = some (.int .i64 (rd_T130 xs i).f4) ∧ w.cell? ⟨(ad.add (i.toNat * 9)).block, (ad.add (i.toNat * 9)).off + 5, none⟩ = some (.int .i64 (rd_T130 xs i).f5) ∧ w.cell? ⟨(ad.add (i.toNat * 9)).block, (ad.add (i.toNat * 9)).off + 6, none⟩ = some (.bool (rd_T130 xs i).f6) ∧ w.cell? ⟨(ad.add (i.toNat * 9)).block, (ad.add (i.toNat * 9)).off + 7, none⟩ = some (.bool (rd_T130 xs i).f7) ∧ w.cell? ⟨(ad.add (i.toNat * 9)).block, (ad.add (i.toNat * 9)).off + 8, none⟩ = some (.slice A8 (rd_T130 xs i).f8.length c8) ∧ (rd_T130 xs i).f8.length ≤ c8 ∧ (Kd.int .u8).C w A8 (rd_T130 xs i).f8.length (rd_T130 xs i).f8 := by
 obtain ⟨ad, c, e, _, hK, hc0⟩ := Kd.C_get h z130 i h0 h1;have hc : ∀ j u, c[j]? = some u → w.cell? (ad.add (i.toNat * 9 + j)) = some u := hc0;obtain ⟨A8, c8, rfl, l8, g8⟩ := k130_open hK;exact ⟨ad, A8, c8, e, hc 0 _ rfl, by rw [← add_field _ _ 1 (by omega)]; exact hc 1 _ rfl, by rw [← add_field _ _ 2 (by omega)]; exact hc 2 _ rfl, by rw [← add_field _ _ 3 (by omega)]; exact hc 3 _ rfl, by rw [← add_field _ _ 4 (by omega)]; exact hc 4 _ rfl, by rw [← add_field _ _ 5 (by omega)]; exact hc 5 _ rfl, by rw [← add_field _ _ 6 (by omega)]; exact hc 6 _ rfl, by rw [← add_field _ _ 7 (by omega)]; exact hc 7 _ rfl, by rw [← add_field _ _ 8 (by omega)]; exact hc 8 _ rfl, l8, g8⟩

/-! #### struct type 71 -/
structure S71 where
 f0 : Int
 f1 : Int
 f2 : Int
 f3 : Int
 f4 : Int
 f5 : Int
 f6 : Bool
 f7 : Bool
 f8 : (List Int)
def z71 : S71 := ⟨(0 : Int), (0 : Int), (0 : Int), (0 : Int), (0 : Int), (0 : Int), false, false, ([] : List Int)⟩
def k71 : Kd S71 := Kd.iso (Kd.pair (Kd.int .i64) (Kd.pair (Kd.int .i64) (Kd.pair (Kd.int .i64) (Kd.pair (Kd.int .i64) (Kd.pair (Kd.int .i64) (Kd.pair (Kd.int .i64) (Kd.pair Kd.bool (Kd.pair Kd.bool (Kd.slice 5 (Kd.int .u8)))))))))) (fun x : S71 => (x.f0, x.f1, x.f2, x.f3, x.f4, x.f5, x.f6, x.f7, x.f8))
theorem k71_open {w : World} {x : S71} {cs : List Value} (h : k71.K w x cs) : ∃ A8 c8, cs = [.int .i64 x.f0, .int .i64 x.f1, .int .i64 x.f2, .int .i64 x.f3, .int .i64 x.f4, .int .i64 x.f5, .bool x.f6, .bool x.f7, .slice A8 x.f8.length c8] ∧ x.f8.length ≤ c8 ∧ (Kd.int .u8).C w A8 x.f8.length x.f8 := by
 obtain ⟨_, _, rfl, rfl, ⟨_, _, rfl, rfl, ⟨_, _, rfl, rfl, ⟨_, _, rfl, rfl, ⟨_, _, rfl, rfl, ⟨_, _, rfl, rfl, ⟨_, _, rfl, rfl, ⟨_, _, rfl, rfl, ⟨A8, c8, rfl, l8, g8⟩⟩⟩⟩⟩⟩⟩⟩⟩ := h;exact ⟨A8, c8, rfl, l8, g8⟩
theorem k71_openM {w : World} {base : Nat} {ok : Nat → Prop} {x : S71} {cs : List Value} (h : k71.M w base ok x cs) : ∃ v8, cs = [.int .i64 x.f0, .int .i64 x.f1, .int .i64 x.f2, .int .i64 x.f3, .int .i64 x.f4, .int .i64 x.f5, .bool x.f6, .bool x.f7, v8] ∧ (Kd.int .u8).R 5 w base ok v8 x.f8 := by
 obtain ⟨_, _, rfl, rfl, ⟨_, _, rfl, rfl, ⟨_, _, rfl, rfl, ⟨_, _, rfl, rfl, ⟨_, _, rfl, rfl, ⟨_, _, rfl, rfl, ⟨_, _, rfl, rfl, ⟨_, _, rfl, rfl, ⟨v8, rfl, g8⟩⟩⟩⟩⟩⟩⟩⟩⟩ := h;exact ⟨v8, rfl, g8⟩
theorem k71_mk (w : World) (x : S71) {A8 : Option Addr} {c8 : Nat} (l8 : x.f8.length ≤ c8) (g8 : (Kd.int .u8).C w A8 x.f8.length x.f8) : k71.K w x [.int .i64 x.f0, .int .i64 x.f1, .int .i64 x.f2, .int .i64 x.f3, .int .i64 x.f4, .int .i64 x.f5, .bool x.f6, .bool x.f7, .slice A8 x.f8.length c8] := ⟨[.int .i64 x.f0], [.int .i64 x.f1, .int .i64 x.f2, .int .i64 x.f3, .int .i64 x.f4, .int .i64 x.f5, .bool x.f6, .bool x.f7, .slice A8 x.f8.length c8], rfl, rfl, ⟨[.int .i64 x.f1], [.int .i64 x.f2, .int .i64 x.f3, .int .i64 x.f4, .int .i64 x.f5, .bool x.f6, .bool x.f7, .slice A8 x.f8.length c8], rfl, rfl, ⟨[.int .i64 x.f2], [.int .i64 x.f3, .int .i64 x.f4, .int .i64 x.f5, .bool x.f6, .bool x.f7, .slice A8 x.f8.length c8], rfl, rfl, ⟨[.int .i64 x.f3], [.int .i64 x.f4, .int .i64 x.f5, .bool x.f6, .bool x.f7, .slice A8 x.f8.length c8], rfl, rfl, ⟨[.int .i64 x.f4], [.int .i64 x.f5, .bool x.f6, .bool x.f7, .slice A8 x.f8.length c8], rfl, rfl, ⟨[.int .i64 x.f5], [.bool x.f6, .bool x.f7, .slice A8 x.f8.length c8], rfl, rfl, ⟨[.bool x.f6], [.bool x.f7, .slice A8 x.f8.length c8], rfl, rfl, ⟨[.bool x.f7], [.slice A8 x.f8.length c8], rfl, rfl, ⟨A8, c8, rfl, l8, g8⟩⟩⟩⟩⟩⟩⟩⟩⟩
theorem k71_mkM (w : World) (base : Nat) (ok : Nat → Prop) (x : S71) {v8 : Value} (g8 : (Kd.int .u8).R 5 w base ok v8 x.f8) : k71.M w base ok x [.int .i64 x.f0, .int .i64 x.f1, .int .i64 x.f2, .int .i64 x.f3, .int .i64 x.f4, .int .i64 x.f5, .bool x.f6, .bool x.f7, v8] := ⟨[.int .i64 x.f0], [.int .i64 x.f1, .int .i64 x.f2, .int .i64 x.f3, .int .i64 x.f4, .int .i64 x.f5, .bool x.f6, .bool x.f7, v8], rfl, rfl, ⟨[.int .i64 x.f1], [.int .i64 x.f2, .int .i64 x.f3, .int .i64 x.f4, .int .i64 x.f5, .bool x.f6, .bool x.f7, v8], rfl, rfl, ⟨[.int .i64 x.f2], [.int .i64 x.f3, .int .i64 x.f4, .int .i64 x.f5, .bool x.f6, .bool x.f7, v8], rfl, rfl, ⟨[.int .i64 x.f3], [.int .i64 x.f4, .int .i64 x.f5, .bool x.f6, .bool x.f7, v8], rfl, rfl, ⟨[.int .i64 x.f4], [.int .i64 x.f5, .bool x.f6, .bool x.f7, v8], rfl, rfl, ⟨[.int .i64 x.f5], [.bool x.f6, .bool x.f7, v8], rfl, rfl, ⟨[.bool x.f6], [.bool x.f7, v8], rfl, rfl, ⟨[.bool x.f7], [v8], rfl, rfl, ⟨v8, rfl, g8⟩⟩⟩⟩⟩⟩⟩⟩⟩
def rd_T71 (xs : List S71) (i : Int) : S71 := xs.getD i.toNat z71
theorem at_T71 {w : World} {A : Option Addr} {n : Nat} {xs : List S71} (h : Kd.C k71 w A n xs) (i : Int) (h0 : 0 ≤ i) (h1 : i < n) : ∃ ad A8 c8, A = some ad ∧ w.cell? (ad.add (i.toNat * 9)) = some (.int .i64 (rd_T71 xs i).f0) ∧ w.cell? ⟨(ad.add (i.toNat * 9)).block, (ad.add (i.toNat * 9)).off + 1, none⟩ = some (.int .i64 (rd_T71 xs i).f1) ∧ w.cell? ⟨(ad.add (i.toNat * 9)).block, (ad.add (i.toNat * 9)).off + 2, none⟩ = some (.int .i64 (rd_T71 xs i).f2) ∧ w.cell? ⟨(ad.add (i.toNat * 9)).block, (ad.add (i.toNat * 9)).off + 3, none⟩ = some (.int .i64 (rd_T71 xs i).f3) ∧ w.cell? ⟨(ad.add (i.toNat * 9)).block, (ad.add (i.toNat * 9)).off + 4, none⟩ = some (.int .i64 (rd_T71 xs i).f4) ∧ w.cell? ⟨(ad.add (i.toNat * 9)).block, (ad.add (i.toNat * 9)).off + 5, none⟩ = some (.int .i64 (rd_T71 xs i).f5) ∧ w.cell? ⟨(ad.add (i.toNat * 9)).block, (ad.add (i.toNat * 9)).off + 6, none⟩ = some (.bool (rd_T71 xs i).f6) ∧ w.cell? ⟨(ad.add (i.toNat * 9)).block, (ad.add (i.toNat * 9)).off + 7, none⟩ = some (.bool (rd_T71 xs i).f7) ∧ w.cell? ⟨(ad.add (i.toNat * 9)).block, (ad.add (i.toNat * 9)).off + 8, none⟩ = some (.slice A8 (rd_T71 xs i).f8.length c8) ∧ (rd_T71 xs i).f8.length ≤ c8 ∧ (Kd.int .u8).C w A8 (rd_T71 xs i).f8.length (rd_T71 xs i).f8 := by
 obtain ⟨ad, c, e, _, hK, hc0⟩ := Kd.C_get h z71 i h0 h1;have hc : ∀ j u, c[j]? = some u → w.cell? (ad.add (i.toNat * 9 + j)) = some u := hc0;obtain ⟨A8, c8, rfl, l8, g8⟩ := k71_open hK;exact ⟨ad, A8, c8, e, hc 0 _ rfl, by rw [← add_field _ _ 1 (by omega)]; exact hc 1 _ rfl, by rw [← add_field _ _ 2 (by omega)]; exact hc 2 _ rfl, by rw [← add_field _ _ 3 (by omega)]; exact hc 3 _ rfl, by rw [← add_field _ _ 4 (by omega)]; exact hc 4 _ rfl, by rw [← add_field _ _ 5 (by omega)]; exact hc 5 _ rfl, by rw [← add_field _ _ 6 (by omega)]; exact hc 6 _ rfl, by rw [← add_field _ _ 7 (by omega)]; exact hc 7 _ rfl, by rw [← add_field _ _ 8 (by omega)]; exact hc 8 _ rfl, l8, g8⟩

end Go.Proofs.Ytdplboenlcppkaa.PFnExactPartOk

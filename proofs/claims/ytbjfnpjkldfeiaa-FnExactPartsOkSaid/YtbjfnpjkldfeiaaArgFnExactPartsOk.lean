/- How the arguments of FnExactPartsOk open: structs by their fields, slices to lists. No condition. -/
import Derived.Test.YtbjfnpjkldfeiaaPFnExactPartsOkx0
import Derived.Test.YtbjfnpjkldfeiaaUFnExactPartsOkOpen
namespace Go.Proofs.Ytbjfnpjkldfeiaa.ArgFnExactPartsOk
set_option linter.unusedVariables false
open Go Go.RowKit Go.ChangeShapes Go.WideShapes Go.Proofs.Ytbjfnpjkldfeiaa.PFnExactPartsOk Go.Proofs.Ytbjfnpjkldfeiaa.Opens Go.Proofs.YtbjfnpjkldfeiaaUFnExactPartsOk.PrintWords Go.Proofs.YtbjfnpjkldfeiaaUFnExactPartsOk.PrintLast
theorem one_cell {a b : Value} (h : [a] = [b]) : a = b := by injection h
theorem arr_of {cs : Array Value} {l : List Value} (h : cs.toList = l) : cs = l.toArray := by rw [← h]
theorem open58 {H : Type} {enc : TypeId × Value → H} {w : World} {base : Nat} {spare : Nat → Bool} {held : Bool} {fuel : Nat} {cs : List Value} {y : DataW H × List MemPlace} (h : DataW.trod enc Try.prog w base spare held fuel 58 cs = some y) :
    ∃ (a0 : Int) (a1 : Int) (a2 : Int) (a3 : Int) (a4 : Int) (a5 : Int) (a6 : Bool) (a7 : Bool) (A8 : Option Addr) (c8 : Nat) (l8 : (List Int)), cs = [.int .i64 a0, .int .i64 a1, .int .i64 a2, .int .i64 a3, .int .i64 a4, .int .i64 a5, .bool a6, .bool a7, .slice A8 l8.length c8] ∧ (Lit.int .i64 a0).wf = true ∧ (Lit.int .i64 a1).wf = true ∧ (Lit.int .i64 a2).wf = true ∧ (Lit.int .i64 a3).wf = true ∧ (Lit.int .i64 a4).wf = true ∧ (Lit.int .i64 a5).wf = true ∧ True ∧ True ∧ l8.length ≤ c8 ∧ Kd.C (Kd.int .u8) w A8 l8.length l8 ∧ (l8.length ≤ maxLen ∧ ∀ x ∈ l8, (Lit.int .u8 x).wf = true) := by
  obtain ⟨xs, n, _, rfl, hl, hlen, hf⟩ := DataW.trod_struct Try.underlying58 h
  have hc : Try.prog.cellsOf 58 = 9 := by kernel_rfl
  obtain ⟨d0, d1, d2, d3, d4, d5, d6, d7, d8, rfl⟩ := list9 (hl.trans hc)
  have hn : xs.length = 9 := hlen
  obtain ⟨y0, e0⟩ := field_at (hf 0 _ rfl) (by rw [hn]; decide) (by kernel_rfl) d0 rfl
  obtain ⟨y1, e1⟩ := field_at (hf 1 _ rfl) (by rw [hn]; decide) (by kernel_rfl) d1 rfl
  obtain ⟨y2, e2⟩ := field_at (hf 2 _ rfl) (by rw [hn]; decide) (by kernel_rfl) d2 rfl
  obtain ⟨y3, e3⟩ := field_at (hf 3 _ rfl) (by rw [hn]; decide) (by kernel_rfl) d3 rfl
  obtain ⟨y4, e4⟩ := field_at (hf 4 _ rfl) (by rw [hn]; decide) (by kernel_rfl) d4 rfl
  obtain ⟨y5, e5⟩ := field_at (hf 5 _ rfl) (by rw [hn]; decide) (by kernel_rfl) d5 rfl
  obtain ⟨y6, e6⟩ := field_at (hf 6 _ rfl) (by rw [hn]; decide) (by kernel_rfl) d6 rfl
  obtain ⟨y7, e7⟩ := field_at (hf 7 _ rfl) (by rw [hn]; decide) (by kernel_rfl) d7 rfl
  obtain ⟨y8, e8⟩ := field_at (hf 8 _ rfl) (by rw [hn]; decide) (by kernel_rfl) d8 rfl
  obtain ⟨a0, k0, g0⟩ := (opens_int Try.underlying3) e0
  obtain rfl := one_cell k0
  obtain ⟨a1, k1, g1⟩ := (opens_int Try.underlying3) e1
  obtain rfl := one_cell k1
  obtain ⟨a2, k2, g2⟩ := (opens_int Try.underlying3) e2
  obtain rfl := one_cell k2
  obtain ⟨a3, k3, g3⟩ := (opens_int Try.underlying3) e3
  obtain rfl := one_cell k3
  obtain ⟨a4, k4, g4⟩ := (opens_int Try.underlying3) e4
  obtain rfl := one_cell k4
  obtain ⟨a5, k5, g5⟩ := (opens_int Try.underlying3) e5
  obtain rfl := one_cell k5
  obtain ⟨a6, k6, g6⟩ := (opens_bool Try.underlying4) e6
  obtain rfl := one_cell k6
  obtain ⟨a7, k7, g7⟩ := (opens_bool Try.underlying4) e7
  obtain rfl := one_cell k7
  obtain ⟨l8, ⟨A8, c8, k8, lc8, hC8⟩, g8⟩ := (opens_slice Try.underlying22 (by kernel_rfl) (opens_int Try.underlying5)) e8
  obtain rfl := one_cell k8
  exact ⟨a0, a1, a2, a3, a4, a5, a6, a7, A8, c8, l8, rfl, g0, g1, g2, g3, g4, g5, g6, g7, lc8, hC8, g8⟩
/-- Its fields are good. -/
def G58 (x : S58) : Prop := (Lit.int .i64 x.f0).wf = true ∧ (Lit.int .i64 x.f1).wf = true ∧ (Lit.int .i64 x.f2).wf = true ∧ (Lit.int .i64 x.f3).wf = true ∧ (Lit.int .i64 x.f4).wf = true ∧ (Lit.int .i64 x.f5).wf = true ∧ True ∧ True ∧ (x.f8.length ≤ maxLen ∧ ∀ z ∈ x.f8, (Lit.int .u8 z).wf = true)
theorem opens58 : Opens Try.prog 58 k58 G58 := by
  intro H enc w base spare held fuel cs y h
  obtain ⟨a0, a1, a2, a3, a4, a5, a6, a7, A8, c8, l8, rfl, g0, g1, g2, g3, g4, g5, g6, g7, lc8, hC8, g8⟩ := open58 h
  exact ⟨⟨a0, a1, a2, a3, a4, a5, a6, a7, l8⟩, k58_mk _ ⟨a0, a1, a2, a3, a4, a5, a6, a7, l8⟩ lc8 hC8, ⟨g0, g1, g2, g3, g4, g5, g6, g7, g8⟩⟩
theorem open88 {H : Type} {enc : TypeId × Value → H} {w : World} {base : Nat} {spare : Nat → Bool} {held : Bool} {fuel : Nat} {cs : List Value} {y : DataW H × List MemPlace} (h : DataW.trod enc Try.prog w base spare held fuel 88 cs = some y) :
    ∃ (A0 : Option Addr) (c0 : Nat) (l0 : (List S58)) (a1 : Int), cs = [.slice A0 l0.length c0, .int .i64 a1] ∧ l0.length ≤ c0 ∧ Kd.C k58 w A0 l0.length l0 ∧ (l0.length ≤ maxLen ∧ ∀ x ∈ l0, G58 x) ∧ (Lit.int .i64 a1).wf = true := by
  obtain ⟨xs, n, _, rfl, hl, hlen, hf⟩ := DataW.trod_struct Try.underlying88 h
  have hc : Try.prog.cellsOf 88 = 2 := by kernel_rfl
  obtain ⟨d0, d1, rfl⟩ := list2 (hl.trans hc)
  have hn : xs.length = 2 := hlen
  obtain ⟨y0, e0⟩ := field_at (hf 0 _ rfl) (by rw [hn]; decide) (by kernel_rfl) d0 rfl
  obtain ⟨y1, e1⟩ := field_at (hf 1 _ rfl) (by rw [hn]; decide) (by kernel_rfl) d1 rfl
  obtain ⟨l0, ⟨A0, c0, k0, lc0, hC0⟩, g0⟩ := (opens_slice Try.underlying86 (by kernel_rfl) opens58) e0
  obtain rfl := one_cell k0
  obtain ⟨a1, k1, g1⟩ := (opens_int Try.underlying3) e1
  obtain rfl := one_cell k1
  exact ⟨A0, c0, l0, a1, rfl, lc0, hC0, g0, g1⟩
/-- Its fields are good. -/
def G88 (x : S88) : Prop := (x.f0.length ≤ maxLen ∧ ∀ z ∈ x.f0, G58 z) ∧ (Lit.int .i64 x.f1).wf = true
theorem opens88 : Opens Try.prog 88 k88 G88 := by
  intro H enc w base spare held fuel cs y h
  obtain ⟨A0, c0, l0, a1, rfl, lc0, hC0, g0, g1⟩ := open88 h
  exact ⟨⟨l0, a1⟩, k88_mk _ ⟨l0, a1⟩ lc0 hC0, ⟨g0, g1⟩⟩
end Go.Proofs.Ytbjfnpjkldfeiaa.ArgFnExactPartsOk

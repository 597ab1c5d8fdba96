/- How the arguments of FnExactRoutePut open: structs by their fields, slices to lists. No condition. -/
import Derived.Test.YtpoedefohfonjaaPFnExactRoutePutx0
import Derived.Test.YtpoedefohfonjaaUFnExactRoutePutOpen
namespace Go.Proofs.Ytpoedefohfonjaa.ArgFnExactRoutePut
set_option linter.unusedVariables false
open Go Go.RowKit Go.ChangeShapes Go.WideShapes Go.Proofs.Ytpoedefohfonjaa.PFnExactRoutePut Go.Proofs.Ytpoedefohfonjaa.Opens Go.Proofs.YtpoedefohfonjaaUFnExactRoutePut.PrintWords Go.Proofs.YtpoedefohfonjaaUFnExactRoutePut.PrintLast
theorem one_cell {a b : Value} (h : [a] = [b]) : a = b := by injection h
theorem arr_of {cs : Array Value} {l : List Value} (h : cs.toList = l) : cs = l.toArray := by rw [← h]
theorem open31 {H : Type} {enc : TypeId × Value → H} {w : World} {base : Nat} {spare : Nat → Bool} {held : Bool} {fuel : Nat} {cs : List Value} {y : DataW H × List MemPlace} (h : DataW.trod enc Try.prog w base spare held fuel 31 cs = some y) :
    ∃ (a0 : Int) (a1 : Int) (a2 : Int) (a3 : Int), cs = [.int .i64 a0, .int .i64 a1, .int .i64 a2, .int .i64 a3] ∧ (Lit.int .i64 a0).wf = true ∧ (Lit.int .i64 a1).wf = true ∧ (Lit.int .i64 a2).wf = true ∧ (Lit.int .i64 a3).wf = true := by
  obtain ⟨xs, n, _, rfl, hl, hlen, hf⟩ := DataW.trod_struct Try.underlying31 h
  have hc : Try.prog.cellsOf 31 = 4 := by kernel_rfl
  obtain ⟨d0, d1, d2, d3, rfl⟩ := list4 (hl.trans hc)
  have hn : xs.length = 4 := hlen
  obtain ⟨y0, e0⟩ := field_at (hf 0 _ rfl) (by rw [hn]; decide) (by kernel_rfl) d0 rfl
  obtain ⟨y1, e1⟩ := field_at (hf 1 _ rfl) (by rw [hn]; decide) (by kernel_rfl) d1 rfl
  obtain ⟨y2, e2⟩ := field_at (hf 2 _ rfl) (by rw [hn]; decide) (by kernel_rfl) d2 rfl
  obtain ⟨y3, e3⟩ := field_at (hf 3 _ rfl) (by rw [hn]; decide) (by kernel_rfl) d3 rfl
  obtain ⟨a0, k0, g0⟩ := (opens_int Try.underlying3) e0
  obtain rfl := one_cell k0
  obtain ⟨a1, k1, g1⟩ := (opens_int Try.underlying3) e1
  obtain rfl := one_cell k1
  obtain ⟨a2, k2, g2⟩ := (opens_int Try.underlying3) e2
  obtain rfl := one_cell k2
  obtain ⟨a3, k3, g3⟩ := (opens_int Try.underlying3) e3
  obtain rfl := one_cell k3
  exact ⟨a0, a1, a2, a3, rfl, g0, g1, g2, g3⟩
/-- Its fields are good. -/
def G31 (x : S31) : Prop := (Lit.int .i64 x.f0).wf = true ∧ (Lit.int .i64 x.f1).wf = true ∧ (Lit.int .i64 x.f2).wf = true ∧ (Lit.int .i64 x.f3).wf = true
theorem opens31 : Opens Try.prog 31 k31 G31 := by
  intro H enc w base spare held fuel cs y h
  obtain ⟨a0, a1, a2, a3, rfl, g0, g1, g2, g3⟩ := open31 h
  exact ⟨⟨a0, a1, a2, a3⟩, k31_mk _ ⟨a0, a1, a2, a3⟩, ⟨g0, g1, g2, g3⟩⟩
end Go.Proofs.Ytpoedefohfonjaa.ArgFnExactRoutePut

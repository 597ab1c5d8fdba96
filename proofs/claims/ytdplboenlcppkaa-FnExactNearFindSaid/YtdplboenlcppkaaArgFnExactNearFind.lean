/- How the arguments of FnExactNearFind open: structs by their fields, slices to lists. No condition. -/
import Derived.Test.YtdplboenlcppkaaPFnExactNearFindx0
import Derived.Test.YtdplboenlcppkaaUFnExactNearFindOpen
namespace Go.Proofs.Ytdplboenlcppkaa.ArgFnExactNearFind
set_option linter.unusedVariables false
open Go Go.RowKit Go.ChangeShapes Go.WideShapes Go.Proofs.Ytdplboenlcppkaa.PFnExactNearFind Go.Proofs.Ytdplboenlcppkaa.Opens Go.Proofs.YtdplboenlcppkaaUFnExactNearFind.PrintWords Go.Proofs.YtdplboenlcppkaaUFnExactNearFind.PrintLast
theorem one_cell {a b : Value} (h : [a] = [b]) : a = b := by injection h
theorem arr_of {cs : Array Value} {l : List Value} (h : cs.toList = l) : cs = l.toArray := by rw [← h]
theorem open135 {H : Type} {enc : TypeId × Value → H} {w : World} {base : Nat} {spare : Nat → Bool} {held : Bool} {fuel : Nat} {cs : List Value} {y : DataW H × List MemPlace} (h : DataW.trod enc Try.prog w base spare held fuel 135 cs = some y) :
    ∃ (a0 : Int) (a1 : Int) (a2 : Int), cs = [.int .i64 a0, .int .i64 a1, .int .i64 a2] ∧ (Lit.int .i64 a0).wf = true ∧ (Lit.int .i64 a1).wf = true ∧ (Lit.int .i64 a2).wf = true := by
  obtain ⟨xs, n, _, rfl, hl, hlen, hf⟩ := DataW.trod_struct Try.underlying135 h
  have hc : Try.prog.cellsOf 135 = 3 := by kernel_rfl
  obtain ⟨d0, d1, d2, rfl⟩ := list3 (hl.trans hc)
  have hn : xs.length = 3 := hlen
  obtain ⟨y0, e0⟩ := field_at (hf 0 _ rfl) (by rw [hn]; decide) (by kernel_rfl) d0 rfl
  obtain ⟨y1, e1⟩ := field_at (hf 1 _ rfl) (by rw [hn]; decide) (by kernel_rfl) d1 rfl
  obtain ⟨y2, e2⟩ := field_at (hf 2 _ rfl) (by rw [hn]; decide) (by kernel_rfl) d2 rfl
  obtain ⟨a0, k0, g0⟩ := (opens_int Try.underlying3) e0
  obtain rfl := one_cell k0
  obtain ⟨a1, k1, g1⟩ := (opens_int Try.underlying3) e1
  obtain rfl := one_cell k1
  obtain ⟨a2, k2, g2⟩ := (opens_int Try.underlying3) e2
  obtain rfl := one_cell k2
  exact ⟨a0, a1, a2, rfl, g0, g1, g2⟩
/-- Its fields are good. -/
def G135 (x : S135) : Prop := (Lit.int .i64 x.f0).wf = true ∧ (Lit.int .i64 x.f1).wf = true ∧ (Lit.int .i64 x.f2).wf = true
theorem opens135 : Opens Try.prog 135 k135 G135 := by
  intro H enc w base spare held fuel cs y h
  obtain ⟨a0, a1, a2, rfl, g0, g1, g2⟩ := open135 h
  exact ⟨⟨a0, a1, a2⟩, k135_mk _ ⟨a0, a1, a2⟩, ⟨g0, g1, g2⟩⟩
theorem open133 {H : Type} {enc : TypeId × Value → H} {w : World} {base : Nat} {spare : Nat → Bool} {held : Bool} {fuel : Nat} {cs : List Value} {y : DataW H × List MemPlace} (h : DataW.trod enc Try.prog w base spare held fuel 133 cs = some y) :
    ∃ (a0 : Int) (A1 : Option Addr) (c1 : Nat) (l1 : (List Int)), cs = [.int .i64 a0, .slice A1 l1.length c1] ∧ (Lit.int .i64 a0).wf = true ∧ l1.length ≤ c1 ∧ Kd.C (Kd.int .u8) w A1 l1.length l1 ∧ (l1.length ≤ maxLen ∧ ∀ x ∈ l1, (Lit.int .u8 x).wf = true) := by
  obtain ⟨xs, n, _, rfl, hl, hlen, hf⟩ := DataW.trod_struct Try.underlying133 h
  have hc : Try.prog.cellsOf 133 = 2 := by kernel_rfl
  obtain ⟨d0, d1, rfl⟩ := list2 (hl.trans hc)
  have hn : xs.length = 2 := hlen
  obtain ⟨y0, e0⟩ := field_at (hf 0 _ rfl) (by rw [hn]; decide) (by kernel_rfl) d0 rfl
  obtain ⟨y1, e1⟩ := field_at (hf 1 _ rfl) (by rw [hn]; decide) (by kernel_rfl) d1 rfl
  obtain ⟨a0, k0, g0⟩ := (opens_int Try.underlying3) e0
  obtain rfl := one_cell k0
  obtain ⟨l1, ⟨A1, c1, k1, lc1, hC1⟩, g1⟩ := (opens_slice Try.underlying46 (by kernel_rfl) (opens_int Try.underlying5)) e1
  obtain rfl := one_cell k1
  exact ⟨a0, A1, c1, l1, rfl, g0, lc1, hC1, g1⟩
/-- Its fields are good. -/
def G133 (x : S133) : Prop := (Lit.int .i64 x.f0).wf = true ∧ (x.f1.length ≤ maxLen ∧ ∀ z ∈ x.f1, (Lit.int .u8 z).wf = true)
theorem opens133 : Opens Try.prog 133 k133 G133 := by
  intro H enc w base spare held fuel cs y h
  obtain ⟨a0, A1, c1, l1, rfl, g0, lc1, hC1, g1⟩ := open133 h
  exact ⟨⟨a0, l1⟩, k133_mk _ ⟨a0, l1⟩ lc1 hC1, ⟨g0, g1⟩⟩
theorem open36 {H : Type} {enc : TypeId × Value → H} {w : World} {base : Nat} {spare : Nat → Bool} {held : Bool} {fuel : Nat} {cs : List Value} {y : DataW H × List MemPlace} (h : DataW.trod enc Try.prog w base spare held fuel 36 cs = some y) :
    ∃ (A0 : Option Addr) (c0 : Nat) (l0 : (List S135)) (A1 : Option Addr) (c1 : Nat) (l1 : (List S133)), cs = [.slice A0 l0.length c0, .slice A1 l1.length c1] ∧ l0.length ≤ c0 ∧ Kd.C k135 w A0 l0.length l0 ∧ (l0.length ≤ maxLen ∧ ∀ x ∈ l0, G135 x) ∧ l1.length ≤ c1 ∧ Kd.C k133 w A1 l1.length l1 ∧ (l1.length ≤ maxLen ∧ ∀ x ∈ l1, G133 x) := by
  obtain ⟨xs, n, _, rfl, hl, hlen, hf⟩ := DataW.trod_struct Try.underlying36 h
  have hc : Try.prog.cellsOf 36 = 2 := by kernel_rfl
  obtain ⟨d0, d1, rfl⟩ := list2 (hl.trans hc)
  have hn : xs.length = 2 := hlen
  obtain ⟨y0, e0⟩ := field_at (hf 0 _ rfl) (by rw [hn]; decide) (by kernel_rfl) d0 rfl
  obtain ⟨y1, e1⟩ := field_at (hf 1 _ rfl) (by rw [hn]; decide) (by kernel_rfl) d1 rfl
  obtain ⟨l0, ⟨A0, c0, k0, lc0, hC0⟩, g0⟩ := (opens_slice Try.underlying33 (by kernel_rfl) opens135) e0
  obtain rfl := one_cell k0
  obtain ⟨l1, ⟨A1, c1, k1, lc1, hC1⟩, g1⟩ := (opens_slice Try.underlying34 (by kernel_rfl) opens133) e1
  obtain rfl := one_cell k1
  exact ⟨A0, c0, l0, A1, c1, l1, rfl, lc0, hC0, g0, lc1, hC1, g1⟩
end Go.Proofs.Ytdplboenlcppkaa.ArgFnExactNearFind

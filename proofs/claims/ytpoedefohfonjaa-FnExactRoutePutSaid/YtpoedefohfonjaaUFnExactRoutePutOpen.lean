/- How arguments read in memory: numbers, bools, slices and structs of them, opened to lists. No condition. -/
import Derived.Test.YtpoedefohfonjaaUFnExactRoutePutWords
import Derived.Deep.Slices
import Derived.ChangeArms
namespace Go.Proofs.Ytpoedefohfonjaa.Opens
open Go.Proofs.YtpoedefohfonjaaUFnExactRoutePut.PrintWords Go.ChangeShapes Go.WideShapes Go.RowKit

/-- What reads as data at a type reads as this kind tells, and is good. -/
def Opens {α : Type} (P : Program) (t : TypeId) (d : Kd α) (G : α → Prop) : Prop :=
  ∀ {H : Type} {enc : TypeId × Value → H} {w : World} {base : Nat} {spare : Nat → Bool} {held : Bool} {fuel : Nat} {cs : List Value} {y : DataW H × List MemPlace},
    DataW.trod enc P w base spare held fuel t cs = some y → ∃ x, d.K w x cs ∧ G x
theorem opens_int {P : Program} {t : TypeId} {k : IntKind} (ht : P.underlying t = some (.int k)) : Opens P t (Kd.int k) (fun n => (Lit.int k n).wf = true) := by
  intro H enc w base spare held fuel cs y h
  obtain ⟨n, rfl, _, hw⟩ := DataW.trod_int ht h
  exact ⟨n, rfl, hw⟩
theorem opens_bool {P : Program} {t : TypeId} (ht : P.underlying t = some .bool) : Opens P t Kd.bool (fun _ => True) := by
  intro H enc w base spare held fuel cs y h
  obtain ⟨b, rfl, _⟩ := DataW.trod_bool ht h
  exact ⟨b, rfl, trivial⟩
theorem list_of {α : Type} (p : Nat → α → Prop) : ∀ n : Nat, (∀ i, i < n → ∃ x, p i x) → ∃ l : List α, l.length = n ∧ ∀ (i : Nat) (x : α), l[i]? = some x → p i x
  | 0, _ => ⟨[], rfl, fun i x h => by simp at h⟩
  | n + 1, h => by
    obtain ⟨l, hl, hp⟩ := list_of p n (fun i hi => h i (by omega))
    obtain ⟨x, hx⟩ := h n (by omega)
    refine ⟨l ++ [x], by simp [hl], fun i z hz => ?_⟩
    by_cases hi : i < l.length
    · rw [List.getElem?_append_left hi] at hz; exact hp i z hz
    · have hi2 : i < (l ++ [x]).length := (List.getElem?_eq_some_iff.1 hz).1
      rw [List.length_append, List.length_singleton] at hi2
      obtain rfl : i = n := by omega
      rw [List.getElem?_append_right (by omega)] at hz
      have : x = z := by simpa [hl] using hz
      rwa [← this]
theorem opens_slice {α : Type} {P : Program} {t e : TypeId} {d : Kd α} {G : α → Prop} (ht : P.underlying t = some (.slice e)) (hc : P.cellsOf e = d.sz) (he : Opens P e d G) :
    Opens P t (Kd.slice e d) (fun l => l.length ≤ maxLen ∧ ∀ x ∈ l, G x) := by
  intro H enc w base spare held fuel cs y h
  rcases Deep.open_slice ht h with ⟨rfl, _⟩ | ⟨a, len, cap, m, n, D, Pl, rfl, _, hl, hm, hme, _, hel⟩
  · exact ⟨[], ⟨none, 0, rfl, Nat.le_refl _, rfl, by simp, fun hn => absurd hn (Nat.lt_irrefl 0)⟩, Nat.zero_le _, fun x hx => by cases hx⟩
  · have hle : len ≤ m := by rw [hme]; split <;> omega
    obtain ⟨l, hlen, hp⟩ := list_of (fun i x => ∃ cs', w.cells? base (a.add (i * P.cellsOf e)) (P.cellsOf e) = some cs' ∧ d.K w x cs' ∧ G x) len (fun i hi => by
      obtain ⟨cs', h1, h2⟩ := hel i (by omega)
      obtain ⟨x, hK, hG⟩ := he h2
      exact ⟨x, cs', h1, hK, hG⟩)
    have hcap : len ≤ maxLen := Nat.le_trans hl hm
    refine ⟨l, ⟨some a, cap, by rw [hlen], by omega, rfl, ?_, fun _ => ⟨a, rfl, fun j p hj => ?_⟩⟩, by omega, fun x hx => ?_⟩
    · unfold maxLen at hcap; omega
    · obtain ⟨cs', h1, hK, _⟩ := hp j p hj
      obtain ⟨_, hcl, hcell⟩ := World.cells?_some h1
      rw [hc] at hcl hcell
      refine ⟨cs', hcl, hK, fun i u hu => ?_⟩
      have hi : i < cs'.length := (List.getElem?_eq_some_iff.1 hu).1
      have := hcell i (by omega)
      rw [Deep.add_add] at this
      rw [this, hu]
    · obtain ⟨i, hi, rfl⟩ := List.mem_iff_getElem.1 hx
      obtain ⟨_, _, _, hG⟩ := hp i _ (List.getElem?_eq_getElem hi)
      exact hG
/-- A field of one cell, out of a struct's reading. -/
theorem field_at {H : Type} {enc : TypeId × Value → H} {P : Program} {w : World} {base : Nat} {spare : Nat → Bool} {held : Bool} {n : Nat} {f : Field} {cs : List Value} {xs : List (DataW H × List MemPlace)} {i : Nat}
    (h : DataW.trod enc P w base spare held n f.type ((cs.drop f.offset).take (P.cellsOf f.type)) = xs[i]?) (hi : i < xs.length) (h1 : P.cellsOf f.type = 1) (c : Value) (hc : (cs.drop f.offset).take 1 = [c]) :
    ∃ y, DataW.trod enc P w base spare held n f.type [c] = some y := by
  rw [h1, hc, List.getElem?_eq_getElem hi] at h
  exact ⟨_, h⟩
theorem list2 {α : Type} {l : List α} (h : l.length = 2) : ∃ c0 c1, l = [c0, c1] := by
  match l, h with
  | [c0, c1], _ => exact ⟨c0, c1, rfl⟩
theorem list3 {α : Type} {l : List α} (h : l.length = 3) : ∃ c0 c1 c2, l = [c0, c1, c2] := by
  match l, h with
  | [c0, c1, c2], _ => exact ⟨c0, c1, c2, rfl⟩
theorem list4 {α : Type} {l : List α} (h : l.length = 4) : ∃ c0 c1 c2 c3, l = [c0, c1, c2, c3] := by
  match l, h with
  | [c0, c1, c2, c3], _ => exact ⟨c0, c1, c2, c3, rfl⟩
theorem list9 {α : Type} {l : List α} (h : l.length = 9) : ∃ c0 c1 c2 c3 c4 c5 c6 c7 c8, l = [c0, c1, c2, c3, c4, c5, c6, c7, c8] := by
  match l, h with
  | [c0, c1, c2, c3, c4, c5, c6, c7, c8], _ => exact ⟨c0, c1, c2, c3, c4, c5, c6, c7, c8, rfl⟩
theorem agg_of {cs : Array Value} {l : List Value} (h : cs.toList = l) : Value.agg cs = .agg l.toArray := by rw [← h]
end Go.Proofs.Ytpoedefohfonjaa.Opens

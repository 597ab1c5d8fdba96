/- SumTurned of the program is the reference's at all numbers; no condition. -/
import Derived.Test.YtcfjgdbinciakaaPFnExactSumTurnedx1
import Derived.Test.YtcfjgdbinciakaaBase
namespace Go.Proofs.Ytcfjgdbinciakaa.Pure
set_option linter.unusedSimpArgs false
set_option linter.unusedVariables false
open Go Go.RowKit Go.Proofs.Ytcfjgdbinciakaa.PFnExactSumTurned Go.Proofs.YtcfjgdbinciakaaW.PrintWords Go.Proofs.YtcfjgdbinciakaaW.PrintLast Go.Proofs.YtcfjgdbinciakaaW.PrintMore Go.Proofs.Ytcfjgdbinciakaa.Base

theorem l1In_eq (a b c : Int) : spec_l1In.f a b c = some (decide (b ≤ a ∧ a ≤ c)) := by
  unfold spec_l1In.f
  by_cases h : a ≥ b <;> simp [h]

theorem in_eq (a b c : Int) : impl_in.f a b c = some (decide (b ≤ a ∧ a ≤ c)) := by
  unfold impl_in.f
  by_cases h : a ≥ b <;> simp [h]

theorem word_eq (a : Int) : impl_word.f a = some (decide (0 ≤ a ∧ a ≤ 65535)) := by
  unfold impl_word.f
  rw [in_eq]; rfl

/-- Two numbers added up as 'added' does. -/
def add1 (a b : Int) : Int := if a + b > 65535 then a + b - 65535 else a + b
theorem add1_range {a b : Int} (ha : 0 ≤ a ∧ a ≤ 65535) (hb : 0 ≤ b ∧ b ≤ 65535) : 0 ≤ add1 a b ∧ add1 a b ≤ 65535 := by unfold add1; split <;> omega
theorem added_loop (l : List Int) (hl : ∀ x ∈ l, 0 ≤ x ∧ x ≤ 65535) (hlen : l.length < 4611686018427387904) : ∀ (d k i : Nat) (s : Int), l.length - i = d → i ≤ l.length → d < k → 0 ≤ s ∧ s ≤ 65535 →
    impl_added.l0 k s l (l.length : Int) (i : Int) = some ((l.drop i).foldl add1 s)
  | 0, k, i, s, hd, hi, hk, hs => by
    obtain ⟨k, rfl⟩ : ∃ m, k = m + 1 := ⟨k - 1, by omega⟩
    simp only [impl_added.l0]
    rw [if_neg (by omega), List.drop_of_length_le (by omega)]; rfl
  | d + 1, k, i, s, hd, hi, hk, hs => by
    obtain ⟨k, rfl⟩ : ∃ m, k = m + 1 := ⟨k - 1, by omega⟩
    have hm : 0 ≤ rd l (i : Int) ∧ rd l (i : Int) ≤ 65535 := by rw [rd_nat l i (by omega)]; exact hl _ (List.getElem_mem _)
    have e1 : wrap64 (s + rd l (i : Int)) = s + rd l (i : Int) := w64 (by omega) (by omega)
    have e2 : wrap64 ((i : Int) + 1) = ((i + 1 : Nat) : Int) := by rw [w64 (by omega) (by omega)]; rfl
    have ih := fun s' hs' => added_loop l hl hlen d k (i + 1) s' (by omega) (by omega) (by omega) hs'
    simp only [impl_added.l0]
    rw [if_pos (by omega), if_pos (by omega), if_pos (by omega), e1, e2, drop_rd l i (by omega), List.foldl_cons]
    by_cases h : s + rd l (i : Int) > 65535
    · rw [if_pos h, w64 (by omega) (by omega), ih _ (by omega)]
      unfold add1; rw [if_pos h]
    · rw [if_neg h, ih _ (by omega)]
      unfold add1; rw [if_neg h]
theorem added_eq (l : List Int) (hl : ∀ x ∈ l, 0 ≤ x ∧ x ≤ 65535) (hlen : l.length < 4611686018427387904) (k : Nat) (hk : l.length < k) :
    impl_added.f k l = some (l.foldl add1 0) := by
  unfold impl_added.f
  exact added_loop l hl hlen l.length k 0 0 (by omega) (by omega) hk (by omega)

/-- A sum turned. -/
def turn (a b c : Int) : Int := if (0 ≤ a ∧ a ≤ 65535) ∧ (0 ≤ b ∧ b ≤ 65535) ∧ (0 ≤ c ∧ c ≤ 65535) then add1 (add1 a b) (65535 - c) else -1
theorem implSumTurned_eq (a b c : Int) (k : Nat) (hk : 4 ≤ k) : impl_SumTurned.f k a b c = some (turn a b c) := by
  unfold impl_SumTurned.f turn
  rw [word_eq, word_eq, word_eq]
  simp only [Option.bind_some]
  by_cases h1 : 0 ≤ a ∧ a ≤ 65535
  · by_cases h2 : 0 ≤ b ∧ b ≤ 65535
    · by_cases h3 : 0 ≤ c ∧ c ≤ 65535
      · have e : wrap64 (65535 - c) = 65535 - c := w64 (by omega) (by omega)
        rw [e, added_eq [a, b, 65535 - c] (by intro x hx; simp at hx; omega) (by simp) k (by simp; omega)]
        simp only [h1, h2, h3, decide_true, if_true, Option.bind_some, and_self]
        have : add1 0 a = a := by unfold add1; rw [if_neg (by omega)]; omega
        simp only [List.foldl_cons, List.foldl_nil, this]
      · simp [h1, h2, h3]
    · simp [h1, h2]
  · simp [h1]
theorem specSumTurned_eq (a b c : Int) (k : Nat) (hk : 1 ≤ k) : spec_SumTurned.f k a b c = some (turn a b c) := by
  obtain ⟨k, rfl⟩ : ∃ m, k = m + 1 := ⟨k - 1, by omega⟩
  unfold spec_SumTurned.f turn
  rw [l1In_eq, l1In_eq, l1In_eq]
  simp only [Option.bind_some]
  by_cases h1 : 0 ≤ a ∧ a ≤ 65535
  · by_cases h2 : 0 ≤ b ∧ b ≤ 65535
    · by_cases h3 : 0 ≤ c ∧ c ≤ 65535
      · simp only [h1, h2, h3, decide_true, if_true, and_self, Bool.not_true, spec_SumTurned.j0]
        rw [if_neg (by decide), w64 (x := a + b) (by omega) (by omega)]
        unfold add1
        by_cases h4 : a + b > 65535
        · rw [if_pos h4, if_pos h4, w64 (x := a + b - 65535) (by omega) (by omega), w64 (x := a + b - 65535 + 65535) (by omega) (by omega), w64 (x := a + b - 65535 + 65535 - c) (by omega) (by omega)]
          by_cases h5 : a + b - 65535 + 65535 - c > 65535
          · rw [if_pos h5, if_pos (by omega), w64 (by omega) (by omega)]; congr 1; omega
          · rw [if_neg h5, if_neg (by omega)]; congr 1; omega
        · rw [if_neg h4, if_neg h4, w64 (x := a + b + 65535) (by omega) (by omega), w64 (x := a + b + 65535 - c) (by omega) (by omega)]
          by_cases h5 : a + b + 65535 - c > 65535
          · rw [if_pos h5, if_pos (by omega), w64 (by omega) (by omega)]; congr 1; omega
          · rw [if_neg h5, if_neg (by omega)]; congr 1; omega
      · simp [h1, h2, h3, spec_SumTurned.j0]
    · simp [h1, h2, spec_SumTurned.j0]
  · simp [h1, spec_SumTurned.j0]

theorem FnExactSumTurned : laws_FnExactSumTurned.Pure := by
  intro a b c _ _ _
  refine ⟨6, ?_⟩
  unfold laws_FnExactSumTurned.f
  rw [specSumTurned_eq a b c 6 (by omega), implSumTurned_eq a b c 6 (by omega)]
  simp only [Option.bind_some, if_true]

end Go.Proofs.Ytcfjgdbinciakaa.Pure

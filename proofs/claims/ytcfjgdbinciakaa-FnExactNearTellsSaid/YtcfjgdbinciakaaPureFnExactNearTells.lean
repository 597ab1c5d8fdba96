/- NearTells of the program is the reference's at all stations, addresses and queries; no condition. -/
import Derived.Test.YtcfjgdbinciakaaPFnExactNearTellsx1
import Derived.Test.YtcfjgdbinciakaaBase
namespace Go.Proofs.Ytcfjgdbinciakaa.Pure
set_option linter.unusedSimpArgs false
set_option linter.unusedVariables false
open Go Go.RowKit Go.Proofs.Ytcfjgdbinciakaa.PFnExactNearTells Go.Proofs.YtcfjgdbinciakaaW.PrintWords Go.Proofs.YtcfjgdbinciakaaW.PrintLast Go.Proofs.YtcfjgdbinciakaaW.PrintMore Go.Proofs.Ytcfjgdbinciakaa.Base

theorem l1In_eq (a b c : Int) : spec_l1In.f a b c = some (decide (b ≤ a ∧ a ≤ c)) := by
  unfold spec_l1In.f
  by_cases h : a ≥ b <;> simp [h]

theorem in_eq (a b c : Int) : impl_in.f a b c = some (decide (b ≤ a ∧ a ≤ c)) := by
  unfold impl_in.f
  by_cases h : a ≥ b <;> simp [h]

theorem word_eq (a : Int) : impl_word.f a = some (decide (0 ≤ a ∧ a ≤ 65535)) := by
  unfold impl_word.f
  rw [in_eq]; rfl

/-- A query is ok. -/
def queryOk (k l a w : Int) : Bool := decide ((1 ≤ k ∧ k ≤ 2) ∧ (0 ≤ l ∧ l ≤ 254) ∧ (0 ≤ a ∧ a ≤ 65535) ∧ (0 ≤ w ∧ w ≤ 65535))
theorem specQueryOk_eq (k l a w : Int) : spec_QueryOk.f k l a w = some (queryOk k l a w) := by
  unfold spec_QueryOk.f queryOk
  simp only [l1In_eq, Option.bind_some]
  by_cases h1 : k = 1
  · subst h1
    by_cases h2 : 0 ≤ l ∧ l ≤ 254 <;> by_cases h3 : 0 ≤ a ∧ a ≤ 65535 <;> simp [h2, h3]
  · by_cases h4 : k = 2
    · subst h4
      by_cases h2 : 0 ≤ l ∧ l ≤ 254 <;> by_cases h3 : 0 ≤ a ∧ a ≤ 65535 <;> simp [h2, h3]
    · rw [if_neg h1, if_neg h4, decide_eq_false (by omega)]
theorem implQueryOk_eq (k l a w : Int) : impl_QueryOk.f k l a w = some (queryOk k l a w) := by
  unfold impl_QueryOk.f queryOk
  simp only [in_eq, word_eq, Option.bind_some]
  by_cases h1 : 1 ≤ k ∧ k ≤ 2 <;> by_cases h2 : 0 ≤ l ∧ l ≤ 254 <;> by_cases h3 : 0 ≤ a ∧ a ≤ 65535 <;> simp [h1, h2, h3]

/-- What is answered. -/
def nearTells (l x k a b c : Int) : Int × Int × Int × Int × Bool :=
  if queryOk k a b c = true ∧ k = 1 ∧ c = x ∧ (0 ≤ l ∧ l ≤ 254) ∧ (0 ≤ x ∧ x ≤ 65535) then (2, l, x, b, true) else (0, 0, 0, 0, false)
theorem queryOk_addr {k a b c : Int} (h : queryOk k a b c = true) : (1 ≤ k ∧ k ≤ 2) ∧ (0 ≤ a ∧ a ≤ 254) ∧ (0 ≤ b ∧ b ≤ 65535) ∧ (0 ≤ c ∧ c ≤ 65535) := of_decide_eq_true h
theorem specNearTells_eq (l x k a b c : Int) : spec_NearTells.f l x k a b c = some (nearTells l x k a b c) := by
  unfold spec_NearTells.f nearTells
  simp only [specQueryOk_eq, Option.bind_some]
  cases h : queryOk k a b c with
  | false => simp
  | true =>
    obtain ⟨h1, h2, h3, h4⟩ := queryOk_addr h
    by_cases h5 : k = 1
    · by_cases h6 : c = x
      · by_cases h7 : (0 ≤ l ∧ l ≤ 254) ∧ (0 ≤ x ∧ x ≤ 65535)
        · have e : queryOk 2 l x b = true := decide_eq_true (by omega)
          simp [h5, h6, h7, e]
        · have e : queryOk 2 l x b = false := decide_eq_false (by omega)
          simp only [e, if_pos h5, if_pos h6]
          rw [if_pos trivial, if_neg (by decide), if_neg (by omega)]
      · simp [h5, h6]
    · simp [h5]
theorem implNearTells_eq (l x k a b c : Int) : impl_NearTells.f l x k a b c = some (nearTells l x k a b c) := by
  unfold impl_NearTells.f nearTells
  simp only [implQueryOk_eq, in_eq, word_eq, Option.bind_some]
  cases h : queryOk k a b c with
  | false => simp
  | true => by_cases h5 : k = 1 <;> by_cases h6 : c = x <;> by_cases h7 : 0 ≤ l ∧ l ≤ 254 <;> by_cases h8 : 0 ≤ x ∧ x ≤ 65535 <;> simp [h5, h6, h7, h8]

theorem FnExactNearTells (a0 : Int) (a1 : Int) (a2_0 : Int) (a2_1 : Int) (a2_2 : Int) (a2_3 : Int) (_ : (Lit.int .i64 a0).wf = true) (_ : (Lit.int .i64 a1).wf = true) (_ : (Lit.int .i64 a2_0).wf = true) (_ : (Lit.int .i64 a2_1).wf = true) (_ : (Lit.int .i64 a2_2).wf = true) (_ : (Lit.int .i64 a2_3).wf = true) : laws_FnExactNearTells.f a0 a1 a2_0 a2_1 a2_2 a2_3 = some true := by
  unfold laws_FnExactNearTells.f laws_toQuery.f laws_eqQuery.f
  simp only [specNearTells_eq, implNearTells_eq, Option.bind_some, bne_self_eq_false, Bool.false_eq_true, if_false, if_true]

end Go.Proofs.Ytcfjgdbinciakaa.Pure

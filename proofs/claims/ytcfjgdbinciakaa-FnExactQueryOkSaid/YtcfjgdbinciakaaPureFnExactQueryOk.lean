/- QueryOk of the program is the reference's at all queries; no condition. -/
import Derived.Test.YtcfjgdbinciakaaPFnExactQueryOkx1
import Derived.Test.YtcfjgdbinciakaaBase
namespace Go.Proofs.Ytcfjgdbinciakaa.Pure
set_option linter.unusedSimpArgs false
set_option linter.unusedVariables false
open Go Go.RowKit Go.Proofs.Ytcfjgdbinciakaa.PFnExactQueryOk Go.Proofs.YtcfjgdbinciakaaW.PrintWords Go.Proofs.YtcfjgdbinciakaaW.PrintLast Go.Proofs.YtcfjgdbinciakaaW.PrintMore Go.Proofs.Ytcfjgdbinciakaa.Base

theorem l1In_eq (a b c : Int) : spec_l1In.f a b c = some (decide (b ≤ a ∧ a ≤ c)) := by
  unfold spec_l1In.f
  by_cases h : a ≥ b <;> simp [h]

theorem in_eq (a b c : Int) : impl_in.f a b c = some (decide (b ≤ a ∧ a ≤ c)) := by
  unfold impl_in.f
  by_cases h : a ≥ b <;> simp [h]

theorem word_eq (a : Int) : impl_word.f a = some (decide (0 ≤ a ∧ a ≤ 65535)) := by
  unfold impl_word.f
  rw [in_eq]; rfl

/-- A query is ok. -/
def queryOk (k l a w : Int) : Bool := decide ((1 ≤ k ∧ k ≤ 2) ∧ (0 ≤ l ∧ l ≤ 254) ∧ (0 ≤ a ∧ a ≤ 65535) ∧ (0 ≤ w ∧ w ≤ 65535))
theorem specQueryOk_eq (k l a w : Int) : spec_QueryOk.f k l a w = some (queryOk k l a w) := by
  unfold spec_QueryOk.f queryOk
  simp only [l1In_eq, Option.bind_some]
  by_cases h1 : k = 1
  · subst h1
    by_cases h2 : 0 ≤ l ∧ l ≤ 254 <;> by_cases h3 : 0 ≤ a ∧ a ≤ 65535 <;> simp [h2, h3]
  · by_cases h4 : k = 2
    · subst h4
      by_cases h2 : 0 ≤ l ∧ l ≤ 254 <;> by_cases h3 : 0 ≤ a ∧ a ≤ 65535 <;> simp [h2, h3]
    · rw [if_neg h1, if_neg h4, decide_eq_false (by omega)]
theorem implQueryOk_eq (k l a w : Int) : impl_QueryOk.f k l a w = some (queryOk k l a w) := by
  unfold impl_QueryOk.f queryOk
  simp only [in_eq, word_eq, Option.bind_some]
  by_cases h1 : 1 ≤ k ∧ k ≤ 2 <;> by_cases h2 : 0 ≤ l ∧ l ≤ 254 <;> by_cases h3 : 0 ≤ a ∧ a ≤ 65535 <;> simp [h1, h2, h3]

theorem FnExactQueryOk (a0_0 : Int) (a0_1 : Int) (a0_2 : Int) (a0_3 : Int) (_ : (Lit.int .i64 a0_0).wf = true) (_ : (Lit.int .i64 a0_1).wf = true) (_ : (Lit.int .i64 a0_2).wf = true) (_ : (Lit.int .i64 a0_3).wf = true) : laws_FnExactQueryOk.f a0_0 a0_1 a0_2 a0_3 = some true := by
  unfold laws_FnExactQueryOk.f laws_toQuery.f
  simp only [specQueryOk_eq, implQueryOk_eq, Option.bind_some, bne_self_eq_false, Bool.false_eq_true, if_false]

end Go.Proofs.Ytcfjgdbinciakaa.Pure

/- RouteFits of the program is the reference's at all routes and addresses; no condition. -/
import Derived.Test.YtcfjgdbinciakaaPFnExactRouteFitsx2
import Derived.Test.YtcfjgdbinciakaaBase
namespace Go.Proofs.Ytcfjgdbinciakaa.Pure
set_option linter.unusedSimpArgs false
set_option linter.unusedVariables false
open Go Go.RowKit Go.Proofs.Ytcfjgdbinciakaa.PFnExactRouteFits Go.Proofs.YtcfjgdbinciakaaW.PrintWords Go.Proofs.YtcfjgdbinciakaaW.PrintLast Go.Proofs.YtcfjgdbinciakaaW.PrintMore Go.Proofs.Ytcfjgdbinciakaa.Base

theorem l1In_eq (a b c : Int) : spec_l1In.f a b c = some (decide (b ≤ a ∧ a ≤ c)) := by
  unfold spec_l1In.f
  by_cases h : a ≥ b <;> simp [h]

theorem in_eq (a b c : Int) : impl_in.f a b c = some (decide (b ≤ a ∧ a ≤ c)) := by
  unfold impl_in.f
  by_cases h : a ≥ b <;> simp [h]

theorem word_eq (a : Int) : impl_word.f a = some (decide (0 ≤ a ∧ a ≤ 65535)) := by
  unfold impl_word.f
  rw [in_eq]; rfl

/-- How many addresses have the same first bits. -/
def rest (b : Int) : Int := 2 ^ (16 - b).toNat
theorem rest_cases {b : Int} (h : 0 ≤ b ∧ b ≤ 16) : b = 0 ∨ b = 1 ∨ b = 2 ∨ b = 3 ∨ b = 4 ∨ b = 5 ∨ b = 6 ∨ b = 7 ∨ b = 8 ∨ b = 9 ∨ b = 10 ∨ b = 11 ∨ b = 12 ∨ b = 13 ∨ b = 14 ∨ b = 15 ∨ b = 16 := by omega
theorem rest_shl {b : Int} (h : 0 ≤ b ∧ b ≤ 16) : 0 ≤ wrap64 (16 - b) ∧ shl .i64 1 (wrap64 (16 - b)) = rest b ∧ 0 < rest b ∧ rest b ≤ 65536 := by
  rcases rest_cases h with rfl | rfl | rfl | rfl | rfl | rfl | rfl | rfl | rfl | rfl | rfl | rfl | rfl | rfl | rfl | rfl | rfl <;> decide +kernel
theorem rest_shr {b : Int} (h : 0 ≤ b ∧ b ≤ 16) (x : Int) : shr .i64 x (wrap64 (16 - b)) = x / rest b := by
  rw [w64 (by omega) (by omega)]
  unfold shr rest
  rw [Nat.min_eq_left (show (16 - b).toNat ≤ IntKind.i64.bits by simp [IntKind.bits]; omega)]
/-- A route is ok. -/
def routeOk (a b v r : Int) : Bool := decide ((0 ≤ b ∧ b ≤ 16) ∧ (0 ≤ a ∧ a ≤ 65535) ∧ a % rest b = 0 ∧ (0 ≤ v ∧ v ≤ 65535) ∧ (1 ≤ r ∧ r ≤ 48))
theorem specRouteOk_eq (a b v r : Int) : spec_RouteOk.f a b v r = some (routeOk a b v r) := by
  unfold spec_RouteOk.f routeOk spec_l6Rest.f
  simp only [l1In_eq, Option.bind_some]
  by_cases h1 : 0 ≤ b ∧ b ≤ 16
  · obtain ⟨e1, e2, e3, e4⟩ := rest_shl h1
    rw [if_pos e1, e2]
    by_cases h2 : 0 ≤ a ∧ a ≤ 65535
    · simp only [Option.bind_some, if_neg (show ¬ rest b = 0 by omega), Int.tmod_eq_emod_of_nonneg h2.1]
      by_cases h3 : a % rest b = 0 <;> by_cases h4 : 0 ≤ v ∧ v ≤ 65535 <;> simp [h1, h2, h3, h4]
    · simp [h1, h2]
  · simp [h1]
theorem implRouteOk_eq (a b v r : Int) : impl_RouteOk.f a b v r = some (routeOk a b v r) := by
  unfold impl_RouteOk.f routeOk
  simp only [in_eq, word_eq, Option.bind_some]
  by_cases h1 : 0 ≤ b ∧ b ≤ 16
  · obtain ⟨e1, e2, e3, e4⟩ := rest_shl h1
    rw [if_pos e1, e2]
    by_cases h2 : 0 ≤ a ∧ a ≤ 65535
    · simp only [if_neg (show ¬ rest b = 0 by omega), Int.tmod_eq_emod_of_nonneg h2.1]
      by_cases h3 : a % rest b = 0 <;> by_cases h4 : 0 ≤ v ∧ v ≤ 65535 <;> simp [h1, h2, h3, h4]
    · simp [h1, h2]
  · simp [h1]
theorem routeOk_bits {a b v r : Int} (h : routeOk a b v r = true) : (0 ≤ b ∧ b ≤ 16) ∧ (0 ≤ a ∧ a ≤ 65535) := by
  have := of_decide_eq_true h
  exact ⟨this.1, this.2.1⟩

/-- A route is for an address. -/
def routeFits (a b v r x : Int) : Bool := routeOk a b v r && decide ((0 ≤ x ∧ x ≤ 65535) ∧ x / rest b = a / rest b)
theorem specRouteFits_eq (a b v r x : Int) : spec_RouteFits.f a b v r x = some (routeFits a b v r x) := by
  unfold spec_RouteFits.f routeFits
  simp only [specRouteOk_eq, l1In_eq, Option.bind_some]
  cases h : routeOk a b v r with
  | false => rfl
  | true =>
    obtain ⟨h1, h2⟩ := routeOk_bits h
    obtain ⟨e1, e2, e3, e4⟩ := rest_shl h1
    by_cases h3 : 0 ≤ x ∧ x ≤ 65535
    · unfold spec_l6Rest.f
      have l1 : x / rest b ≤ x := Int.ediv_le_self _ h3.1
      have l2 : a / rest b ≤ a := Int.ediv_le_self _ h2.1
      have g1 : 0 ≤ x / rest b := Int.ediv_nonneg h3.1 (by omega)
      have g2 : 0 ≤ a / rest b := Int.ediv_nonneg h2.1 (by omega)
      rw [if_pos e1, e2]
      simp only [Option.bind_some, if_neg (show ¬ rest b = 0 by omega), Int.tdiv_eq_ediv_of_nonneg h3.1, Int.tdiv_eq_ediv_of_nonneg h2.1]
      rw [w64 (by omega) (by omega), w64 (by omega) (by omega)]
      by_cases h4 : x / rest b = a / rest b <;> simp [h3, h4]
    · simp [h3]
theorem implRouteFits_eq (a b v r x : Int) : impl_RouteFits.f a b v r x = some (routeFits a b v r x) := by
  unfold impl_RouteFits.f routeFits impl_Route_fits.f
  simp only [implRouteOk_eq, word_eq, Option.bind_some]
  cases h : routeOk a b v r with
  | false => rfl
  | true =>
    obtain ⟨h1, h2⟩ := routeOk_bits h
    obtain ⟨e1, e2, e3, e4⟩ := rest_shl h1
    rw [if_pos e1, rest_shr h1, rest_shr h1]
    by_cases h3 : 0 ≤ x ∧ x ≤ 65535
    · by_cases h4 : x / rest b = a / rest b <;> simp [h3, h4]
    · simp [h3]

theorem FnExactRouteFits (a0_0 : Int) (a0_1 : Int) (a0_2 : Int) (a0_3 : Int) (a1 : Int) (_ : (Lit.int .i64 a0_0).wf = true) (_ : (Lit.int .i64 a0_1).wf = true) (_ : (Lit.int .i64 a0_2).wf = true) (_ : (Lit.int .i64 a0_3).wf = true) (_ : (Lit.int .i64 a1).wf = true) : laws_FnExactRouteFits.f a0_0 a0_1 a0_2 a0_3 a1 = some true := by
  unfold laws_FnExactRouteFits.f laws_toRoute.f
  simp only [specRouteFits_eq, implRouteFits_eq, Option.bind_some, bne_self_eq_false, Bool.false_eq_true, if_false]

end Go.Proofs.Ytcfjgdbinciakaa.Pure

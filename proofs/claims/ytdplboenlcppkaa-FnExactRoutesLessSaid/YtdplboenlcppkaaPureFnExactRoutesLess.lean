/- RoutesLess of the program is the reference's at all lists of routes; the statement's own bounds alone. -/
import Derived.Test.YtdplboenlcppkaaPFnExactRoutesLessx7
import Derived.Test.YtdplboenlcppkaaUFnExactRoutesLessBase
import Derived.Test.YtdplboenlcppkaaArgFnExactRoutesLess
namespace Go.Proofs.Ytdplboenlcppkaa.Pure
set_option linter.unusedSimpArgs false
set_option linter.unusedVariables false
open Go Go.RowKit Go.Proofs.Ytdplboenlcppkaa.PFnExactRoutesLess Go.Proofs.YtdplboenlcppkaaUFnExactRoutesLess.PrintWords Go.Proofs.YtdplboenlcppkaaUFnExactRoutesLess.PrintLast Go.Proofs.YtdplboenlcppkaaUFnExactRoutesLess.PrintMore Go.Proofs.Ytdplboenlcppkaa.Base

theorem l1In_eq (a b c : Int) : spec_l1In.f a b c = some (decide (b ≤ a ∧ a ≤ c)) := by
  unfold spec_l1In.f
  by_cases h : a ≥ b <;> simp [h]

theorem in_eq (a b c : Int) : impl_in.f a b c = some (decide (b ≤ a ∧ a ≤ c)) := by
  unfold impl_in.f
  by_cases h : a ≥ b <;> simp [h]

theorem word_eq (a : Int) : impl_word.f a = some (decide (0 ≤ a ∧ a ≤ 65535)) := by
  unfold impl_word.f
  rw [in_eq]; rfl

/-- How many addresses have the same first bits. -/
def rest (b : Int) : Int := 2 ^ (16 - b).toNat
theorem rest_cases {b : Int} (h : 0 ≤ b ∧ b ≤ 16) : b = 0 ∨ b = 1 ∨ b = 2 ∨ b = 3 ∨ b = 4 ∨ b = 5 ∨ b = 6 ∨ b = 7 ∨ b = 8 ∨ b = 9 ∨ b = 10 ∨ b = 11 ∨ b = 12 ∨ b = 13 ∨ b = 14 ∨ b = 15 ∨ b = 16 := by omega
theorem rest_shl {b : Int} (h : 0 ≤ b ∧ b ≤ 16) : 0 ≤ wrap64 (16 - b) ∧ shl .i64 1 (wrap64 (16 - b)) = rest b ∧ 0 < rest b ∧ rest b ≤ 65536 := by
  rcases rest_cases h with rfl | rfl | rfl | rfl | rfl | rfl | rfl | rfl | rfl | rfl | rfl | rfl | rfl | rfl | rfl | rfl | rfl <;> decide +kernel
theorem rest_shr {b : Int} (h : 0 ≤ b ∧ b ≤ 16) (x : Int) : shr .i64 x (wrap64 (16 - b)) = x / rest b := by
  rw [w64 (by omega) (by omega)]
  unfold shr rest
  rw [Nat.min_eq_left (show (16 - b).toNat ≤ IntKind.i64.bits by simp [IntKind.bits]; omega)]
/-- A route is ok. -/
def routeOk (a b v r : Int) : Bool := decide ((0 ≤ b ∧ b ≤ 16) ∧ (0 ≤ a ∧ a ≤ 65535) ∧ a % rest b = 0 ∧ (0 ≤ v ∧ v ≤ 65535) ∧ (1 ≤ r ∧ r ≤ 48))
theorem specRouteOk_eq (a b v r : Int) : spec_RouteOk.f a b v r = some (routeOk a b v r) := by
  unfold spec_RouteOk.f routeOk spec_l6Rest.f
  simp only [l1In_eq, Option.bind_some]
  by_cases h1 : 0 ≤ b ∧ b ≤ 16
  · obtain ⟨e1, e2, e3, e4⟩ := rest_shl h1
    rw [if_pos e1, e2]
    by_cases h2 : 0 ≤ a ∧ a ≤ 65535
    · simp only [Option.bind_some, if_neg (show ¬ rest b = 0 by omega), Int.tmod_eq_emod_of_nonneg h2.1]
      by_cases h3 : a % rest b = 0 <;> by_cases h4 : 0 ≤ v ∧ v ≤ 65535 <;> simp [h1, h2, h3, h4]
    · simp [h1, h2]
  · simp [h1]
theorem implRouteOk_eq (a b v r : Int) : impl_RouteOk.f a b v r = some (routeOk a b v r) := by
  unfold impl_RouteOk.f routeOk
  simp only [in_eq, word_eq, Option.bind_some]
  by_cases h1 : 0 ≤ b ∧ b ≤ 16
  · obtain ⟨e1, e2, e3, e4⟩ := rest_shl h1
    rw [if_pos e1, e2]
    by_cases h2 : 0 ≤ a ∧ a ≤ 65535
    · simp only [if_neg (show ¬ rest b = 0 by omega), Int.tmod_eq_emod_of_nonneg h2.1]
      by_cases h3 : a % rest b = 0 <;> by_cases h4 : 0 ≤ v ∧ v ≤ 65535 <;> simp [h1, h2, h3, h4]
    · simp [h1, h2]
  · simp [h1]
theorem routeOk_bits {a b v r : Int} (h : routeOk a b v r = true) : (0 ≤ b ∧ b ≤ 16) ∧ (0 ≤ a ∧ a ≤ 65535) := by
  have := of_decide_eq_true h
  exact ⟨this.1, this.2.1⟩

/-- A route that is ok. -/
def rOk (r : S65) : Bool := routeOk r.f0 r.f1 r.f2 r.f3
/-- One route stands ahead of another. -/
def rLt (r q : S65) : Bool := decide (r.f1 < q.f1 ∨ r.f1 = q.f1 ∧ r.f0 < q.f0)
/-- Each is ok and stands ahead of the next one. -/
def rChain : Option S65 → List S65 → Bool
  | _, [] => true
  | none, r :: l => rOk r && rChain (some r) l
  | some q, r :: l => (rOk r && rLt q r) && rChain (some r) l
/-- Routes are ok. -/
def routesOk (l : List S65) : Bool := rChain none l && decide ((l.length : Int) ≤ 8)
/-- The one ahead of place i. -/
def prevOf (l : List S65) (i : Nat) : Option S65 := if i = 0 then none else some (rd_T65 l ((i - 1 : Nat) : Int))
theorem rdT_nat (l : List S65) (i : Nat) (h : i < l.length) : rd_T65 l (i : Int) = l[i] := by
  unfold rd_T65; simp [List.getD_eq_getElem?_getD, List.getElem?_eq_getElem h]
theorem dropT (l : List S65) (i : Nat) (h : i < l.length) : l.drop i = rd_T65 l (i : Int) :: l.drop (i + 1) := by
  rw [List.drop_eq_getElem_cons h, rdT_nat l i h]

theorem specRoutesOk_loop (l : List S65) (hl : l.length < 4611686018427387904) : ∀ (d k i : Nat), l.length - i = d → i ≤ l.length → d < k →
    spec_RoutesOk.l0 k l (i : Int) = some (rChain (prevOf l i) (l.drop i) && decide ((l.length : Int) ≤ 8))
  | 0, k, i, hd, hi, hk => by
    obtain ⟨k, rfl⟩ : ∃ m, k = m + 1 := ⟨k - 1, by omega⟩
    simp only [spec_RoutesOk.l0]
    rw [if_neg (by omega), List.drop_of_length_le (by omega)]
    cases prevOf l i <;> simp [rChain]
  | d + 1, k, i, hd, hi, hk => by
    obtain ⟨k, rfl⟩ : ∃ m, k = m + 1 := ⟨k - 1, by omega⟩
    have e2 : wrap64 ((i : Int) + 1) = ((i + 1 : Nat) : Int) := by rw [w64 (by omega) (by omega)]; rfl
    have ih := specRoutesOk_loop l hl d k (i + 1) (by omega) (by omega) (by omega)
    have ep : prevOf l (i + 1) = some (rd_T65 l (i : Int)) := by unfold prevOf; rw [if_neg (by omega)]; rfl
    rw [ep] at ih
    simp only [spec_RoutesOk.l0]
    rw [if_pos (by omega), if_pos (by omega), specRouteOk_eq, e2, ih, dropT l i (by omega)]
    simp only [Option.bind_some]
    by_cases h0 : i = 0
    · subst h0
      have eq0 : prevOf l 0 = none := by unfold prevOf; rw [if_pos rfl]
      rw [eq0, if_neg (show ¬ ((0 : Nat) : Int) > 0 by omega)]
      simp only [rChain, rOk]
      cases routeOk (rd_T65 l ((0 : Nat) : Int)).f0 (rd_T65 l ((0 : Nat) : Int)).f1 (rd_T65 l ((0 : Nat) : Int)).f2 (rd_T65 l ((0 : Nat) : Int)).f3 <;> simp
    · have e1 : wrap64 ((i : Int) - 1) = ((i - 1 : Nat) : Int) := by rw [w64 (by omega) (by omega)]; omega
      have eq1 : prevOf l i = some (rd_T65 l ((i - 1 : Nat) : Int)) := by unfold prevOf; rw [if_neg h0]
      have c1 : (i : Int) > 0 := by omega
      have c2 : (0 : Int) ≤ ((i - 1 : Nat) : Int) := by omega
      have c3 : ((i - 1 : Nat) : Int) < (l.length : Int) := by omega
      rw [eq1, if_pos c1, e1, if_pos c2, if_pos c3]
      generalize rd_T65 l ((i - 1 : Nat) : Int) = q
      generalize rd_T65 l (i : Int) = r
      simp only [rChain, rOk, rLt]
      cases routeOk r.f0 r.f1 r.f2 r.f3 with
      | false => simp
      | true =>
        by_cases h1 : q.f1 > r.f1
        · have : ¬ (q.f1 < r.f1 ∨ q.f1 = r.f1 ∧ q.f0 < r.f0) := by omega
          simp [h1, this]
        · by_cases h2 : q.f1 = r.f1
          · by_cases h3 : q.f0 ≥ r.f0
            · have : ¬ (q.f1 < r.f1 ∨ q.f1 = r.f1 ∧ q.f0 < r.f0) := by omega
              rw [decide_eq_false this]
              simp [h1, h2, h3]
            · have : (q.f1 < r.f1 ∨ q.f1 = r.f1 ∧ q.f0 < r.f0) := by omega
              rw [decide_eq_true this]
              simp [h1, h2, h3]
          · have : (q.f1 < r.f1 ∨ q.f1 = r.f1 ∧ q.f0 < r.f0) := by omega
            rw [decide_eq_true this]
            simp [h1, h2]
theorem specRoutesOk_eq (l : List S65) (hl : l.length < 4611686018427387904) (k : Nat) (hk : l.length < k) : spec_RoutesOk.f k l = some (routesOk l) := by
  unfold spec_RoutesOk.f routesOk
  rw [show (0 : Int) = ((0 : Nat) : Int) from rfl, specRoutesOk_loop l hl l.length k 0 (by omega) (by omega) hk]
  rfl

theorem cmp_eq (a b : Int) : cmp_Compare_int.f a b = some (if a < b then -1 else if a > b then 1 else 0) := by
  unfold cmp_Compare_int.f cmp_isNaN_int.f
  by_cases h1 : a < b <;> by_cases h2 : a > b <;> simp [h1, h2]
theorem or2_eq (x y : Int) (k : Nat) (hk : 3 ≤ k) : cmp_Or_int.f k [x, y] = some (if x = 0 then y else x) := by
  obtain ⟨k, rfl⟩ : ∃ m, k = m + 1 + 1 + 1 := ⟨k - 3, by omega⟩
  have e1 : wrap64 ((0 : Int) + 1) = 1 := w64 (by omega) (by omega)
  have e2 : wrap64 ((1 : Int) + 1) = 2 := w64 (by omega) (by omega)
  unfold cmp_Or_int.f
  simp only [cmp_Or_int.l0, List.length_cons, List.length_nil, rd, e1, e2]
  by_cases h : x = 0 <;> by_cases h' : y = 0 <;> simp [h, h']
theorem order_eq (a b c d a' b' c' d' : Int) (k : Nat) (hk : 3 ≤ k) : ∃ v, impl_Route_order.f k a b c d a' b' c' d' = some v ∧ (v < 0 ↔ (b < b' ∨ b = b' ∧ a < a')) ∧ (v = 0 ↔ (b = b' ∧ a = a')) := by
  unfold impl_Route_order.f
  simp only [cmp_eq, or2_eq _ _ k hk, Option.bind_some]
  refine ⟨_, rfl, ?_, ?_⟩
  · by_cases h1 : b < b' <;> by_cases h2 : b > b' <;> by_cases h3 : a < a' <;> by_cases h4 : a > a' <;> simp [h1, h2, h3, h4] <;> omega
  · by_cases h1 : b < b' <;> by_cases h2 : b > b' <;> by_cases h3 : a < a' <;> by_cases h4 : a > a' <;> simp [h1, h2, h3, h4] <;> omega

theorem implRoutesOk_loop (l : List S65) (hl : l.length < 4611686018427387904) : ∀ (d k i : Nat), l.length - i = d → i ≤ l.length → d + 3 < k →
    impl_RoutesOk.l0 k l l (l.length : Int) (i : Int) = some (rChain (prevOf l i) (l.drop i) && decide ((l.length : Int) ≤ 8))
  | 0, k, i, hd, hi, hk => by
    obtain ⟨k, rfl⟩ : ∃ m, k = m + 1 := ⟨k - 1, by omega⟩
    simp only [impl_RoutesOk.l0]
    rw [if_neg (by omega), List.drop_of_length_le (by omega)]
    cases prevOf l i <;> simp [rChain]
  | d + 1, k, i, hd, hi, hk => by
    obtain ⟨k, rfl⟩ : ∃ m, k = m + 1 := ⟨k - 1, by omega⟩
    have e2 : wrap64 ((i : Int) + 1) = ((i + 1 : Nat) : Int) := by rw [w64 (by omega) (by omega)]; rfl
    have ih := implRoutesOk_loop l hl d k (i + 1) (by omega) (by omega) (by omega)
    have ep : prevOf l (i + 1) = some (rd_T65 l (i : Int)) := by unfold prevOf; rw [if_neg (by omega)]; rfl
    rw [ep] at ih
    simp only [impl_RoutesOk.l0]
    rw [if_pos (by omega), if_pos (by omega), if_pos (by omega), implRouteOk_eq, e2, ih, dropT l i (by omega)]
    simp only [Option.bind_some]
    by_cases h0 : i = 0
    · subst h0
      have eq0 : prevOf l 0 = none := by unfold prevOf; rw [if_pos rfl]
      rw [eq0, if_neg (show ¬ ((0 : Nat) : Int) > 0 by omega)]
      simp only [rChain, rOk]
      cases routeOk (rd_T65 l ((0 : Nat) : Int)).f0 (rd_T65 l ((0 : Nat) : Int)).f1 (rd_T65 l ((0 : Nat) : Int)).f2 (rd_T65 l ((0 : Nat) : Int)).f3 <;> simp
    · have e1 : wrap64 ((i : Int) - 1) = ((i - 1 : Nat) : Int) := by rw [w64 (by omega) (by omega)]; omega
      have eq1 : prevOf l i = some (rd_T65 l ((i - 1 : Nat) : Int)) := by unfold prevOf; rw [if_neg h0]
      have c1 : (i : Int) > 0 := by omega
      have c2 : (0 : Int) ≤ ((i - 1 : Nat) : Int) := by omega
      have c3 : ((i - 1 : Nat) : Int) < (l.length : Int) := by omega
      rw [eq1, if_pos c1, e1, if_pos c2, if_pos c3]
      generalize rd_T65 l ((i - 1 : Nat) : Int) = q
      generalize rd_T65 l (i : Int) = r
      simp only [rChain, rOk, rLt]
      obtain ⟨v, hv, h1, _⟩ := order_eq q.f0 q.f1 q.f2 q.f3 r.f0 r.f1 r.f2 r.f3 k (by omega)
      cases routeOk r.f0 r.f1 r.f2 r.f3 with
      | false => simp
      | true =>
        rw [if_pos rfl, hv]
        simp only [Option.bind_some]
        by_cases h2 : v ≥ 0
        · rw [if_pos h2, decide_eq_false (fun h => by have := h1.mpr h; omega)]; rfl
        · rw [if_neg h2, decide_eq_true (h1.mp (by omega))]; simp
theorem implRoutesOk_eq (l : List S65) (hl : l.length < 4611686018427387904) (k : Nat) (hk : l.length + 3 < k) : impl_RoutesOk.f k l = some (routesOk l) := by
  unfold impl_RoutesOk.f routesOk
  rw [show (0 : Int) = ((0 : Nat) : Int) from rfl, implRoutesOk_loop l hl l.length k 0 (by omega) (by omega) hk]
  rfl

/-- A route is for an address. -/
def routeFits (a b v r x : Int) : Bool := routeOk a b v r && decide ((0 ≤ x ∧ x ≤ 65535) ∧ x / rest b = a / rest b)

theorem specRouteFits_eq (a b v r x : Int) : spec_RouteFits.f a b v r x = some (routeFits a b v r x) := by
  unfold spec_RouteFits.f routeFits
  simp only [specRouteOk_eq, l1In_eq, Option.bind_some]
  cases h : routeOk a b v r with
  | false => rfl
  | true =>
    obtain ⟨h1, h2⟩ := routeOk_bits h
    obtain ⟨e1, e2, e3, e4⟩ := rest_shl h1
    by_cases h3 : 0 ≤ x ∧ x ≤ 65535
    · unfold spec_l6Rest.f
      have l1 : x / rest b ≤ x := Int.ediv_le_self _ h3.1
      have l2 : a / rest b ≤ a := Int.ediv_le_self _ h2.1
      have g1 : 0 ≤ x / rest b := Int.ediv_nonneg h3.1 (by omega)
      have g2 : 0 ≤ a / rest b := Int.ediv_nonneg h2.1 (by omega)
      rw [if_pos e1, e2]
      simp only [Option.bind_some, if_neg (show ¬ rest b = 0 by omega), Int.tdiv_eq_ediv_of_nonneg h3.1, Int.tdiv_eq_ediv_of_nonneg h2.1]
      rw [w64 (by omega) (by omega), w64 (by omega) (by omega)]
      by_cases h4 : x / rest b = a / rest b <;> simp [h3, h4]
    · simp [h3]

theorem fits_eq {a b v r x : Int} (h : 0 ≤ b ∧ b ≤ 16) : impl_Route_fits.f a b v r x = some (decide (x / rest b = a / rest b)) := by
  obtain ⟨e1, e2, e3, e4⟩ := rest_shl h
  unfold impl_Route_fits.f
  rw [if_pos e1, rest_shr h, rest_shr h]
  by_cases h4 : x / rest b = a / rest b <;> simp [h4]
theorem rChain_all : ∀ (p : Option S65) (l : List S65), rChain p l = true → ∀ r ∈ l, rOk r = true
  | _, [], _, r, hr => by cases hr
  | none, s :: l, h, r, hr => by
    simp only [rChain, Bool.and_eq_true] at h
    rcases List.mem_cons.1 hr with rfl | hr
    · exact h.1
    · exact rChain_all _ l h.2 r hr
  | some q, s :: l, h, r, hr => by
    simp only [rChain, Bool.and_eq_true] at h
    rcases List.mem_cons.1 hr with rfl | hr
    · exact h.1.1
    · exact rChain_all _ l h.2 r hr
theorem routesOk_all {l : List S65} (h : routesOk l = true) : ∀ r ∈ l, rOk r = true := by
  unfold routesOk at h
  rw [Bool.and_eq_true] at h
  exact rChain_all _ l h.1
theorem bk_mem {l : List S65} {q : Int × S65} (h : q ∈ bk l) : q.2 ∈ l := by
  unfold bk at h
  obtain ⟨k, hk, rfl⟩ := List.mem_map.1 h
  have hk := List.mem_range.1 hk
  show rd_T65 l ((l.length - 1 - k : Nat) : Int) ∈ l
  rw [rdT_nat l (l.length - 1 - k) (by omega)]
  exact List.getElem_mem _
/-- A route of the row fits. -/
def fitsQ (x : Int) (q : Int × S65) : Bool := routeFits q.2.f0 q.2.f1 q.2.f2 q.2.f3 x
/-- What is told of the one that was found. -/
def toldOf : Option (Int × S65) → Int × Int × Int × Int × Bool
  | some q => (q.2.f0, q.2.f1, q.2.f2, q.2.f3, true)
  | none => (0, 0, 0, 0, false)
/-- The route for an address. -/
def routeTo (l : List S65) (x : Int) : Int × Int × Int × Int × Bool := if routesOk l = true then toldOf ((bk l).find? (fitsQ x)) else (0, 0, 0, 0, false)
theorem find_congr {α : Type} {p q : α → Bool} : ∀ {l : List α}, (∀ x ∈ l, p x = q x) → l.find? p = l.find? q
  | [], _ => rfl
  | a :: l, h => by
    rw [List.find?_cons, List.find?_cons, h a List.mem_cons_self, find_congr (fun x hx => h x (List.mem_cons_of_mem _ hx))]

/-- The last route kept of which this one is a part. -/
def lessFind (o : List S65) (r : S65) : Option (Int × S65) := (bk o).find? fun q => decide (q.2.f1 < r.f1) && fitsQ r.f0 q
/-- What is kept after one route more. -/
def lessPut (o : List S65) (r : S65) : Option (Int × S65) → List S65
  | some q => if q.2.f2 = r.f2 ∧ q.2.f3 = r.f3 then o else o ++ [r]
  | none => o ++ [r]
def lessStep (o : List S65) (r : S65) : List S65 := lessPut o r (lessFind o r)
/-- Routes without those that are not needed. -/
def routesLess (l : List S65) : List S65 := if routesOk l = true then l.foldl lessStep [] else []
theorem lessPut_len (o : List S65) (r : S65) (f : Option (Int × S65)) : (lessPut o r f).length ≤ o.length + 1 := by
  unfold lessPut
  split
  · split
    · omega
    · rw [List.length_append]; simp
  · rw [List.length_append]; simp
theorem less_len : ∀ (l o : List S65), (l.foldl lessStep o).length ≤ o.length + l.length
  | [], o => by simp
  | r :: l, o => by
    rw [List.foldl_cons]
    have := less_len l (lessStep o r)
    have h2 := lessPut_len o r (lessFind o r)
    unfold lessStep at this ⊢
    rw [List.length_cons]
    omega
theorem routesLess_len (l : List S65) : (routesLess l).length ≤ l.length := by
  unfold routesLess
  split
  · have := less_len l []; simpa using this
  · exact Nat.zero_le _
theorem routesOk_len {l : List S65} (h : routesOk l = true) : l.length ≤ 8 := by
  unfold routesOk at h
  rw [Bool.and_eq_true] at h
  have := of_decide_eq_true h.2
  omega
theorem bk_drop (l : List S65) (m : Nat) (hm : m < l.length) : (bk l).drop (l.length - (m + 1)) = ((m : Int), rd_T65 l (m : Int)) :: (bk l).drop (l.length - m) := by
  have hk2 : l.length - (m + 1) < (bk l).length := by rw [bk_len]; omega
  rw [List.drop_eq_getElem_cons hk2]
  have hg := bk_get l (l.length - (m + 1)) (by omega)
  rw [List.getElem?_eq_getElem hk2] at hg
  rw [Option.some.inj hg, show l.length - (m + 1) + 1 = l.length - m by omega, show l.length - 1 - (l.length - (m + 1)) = m by omega]

theorem specLess_find (l : List S65) (o : List S65) (ho : o.length ≤ 1000) (i : Nat) (hi : i < l.length) (hl : l.length ≤ 1000) (K : Nat) (R : List S65 → List S65)
    (hR : ∀ o' k', o'.length ≤ o.length + 1 → K ≤ k' → spec_RoutesLess.l0 k' l o' ((i + 1 : Nat) : Int) = some (R o')) : ∀ (m k : Nat), m ≤ o.length → K + 2 * m + 4 ≤ k →
    spec_RoutesLess.l1 k l o (i : Int) true ((m : Int) - 1) = some (R (lessPut o (rd_T65 l (i : Int)) (((bk o).drop (o.length - m)).find? fun q => decide (q.2.f1 < (rd_T65 l (i : Int)).f1) && fitsQ (rd_T65 l (i : Int)).f0 q))) := by
  have e2 : wrap64 ((i : Int) + 1) = ((i + 1 : Nat) : Int) := by rw [w64 (by omega) (by omega)]; rfl
  have hput : ∀ k', K ≤ k' → spec_RoutesLess.l0 k' l (o ++ [rd_T65 l (i : Int)]) ((i + 1 : Nat) : Int) = some (R (o ++ [rd_T65 l (i : Int)])) := fun k' hk' => hR _ k' (by rw [List.length_append]; simp) hk'
  intro m
  induction m with
  | zero =>
    intro k hm hk
    obtain ⟨k, rfl⟩ : ∃ j, k = j + 2 := ⟨k - 2, by omega⟩
    simp only [spec_RoutesLess.l1, spec_RoutesLess.j3, if_true, Bool.false_eq_true, if_false]
    rw [if_neg (by omega), if_pos (by omega), if_pos (by omega), if_pos (by omega), e2, List.drop_of_length_le (by rw [bk_len]; omega)]
    exact hput k (by omega)
  | succ m ih =>
    intro k hm hk
    obtain ⟨k, rfl⟩ : ∃ j, k = j + 2 := ⟨k - 2, by omega⟩
    have e0 : ((m + 1 : Nat) : Int) - 1 = (m : Int) := by omega
    have e1 : wrap64 ((m : Int) - 1) = (m : Int) - 1 := w64 (by omega) (by omega)
    rw [e0, bk_drop o m (by omega), List.find?_cons]
    simp only [spec_RoutesLess.l1, spec_RoutesLess.j3, if_true, Bool.false_eq_true, if_false]
    rw [if_pos (by omega), if_pos (by omega), if_pos (by omega), if_pos (by omega), if_pos (by omega), specRouteFits_eq, e1, e2]
    simp only [Option.bind_some]
    by_cases h1 : (rd_T65 o (m : Int)).f1 < (rd_T65 l (i : Int)).f1
    · rw [if_pos h1, decide_eq_true h1, Bool.true_and]
      show (if fitsQ (rd_T65 l (i : Int)).f0 ((m : Int), rd_T65 o (m : Int)) = true then _ else _) = _
      cases hf : fitsQ (rd_T65 l (i : Int)).f0 ((m : Int), rd_T65 o (m : Int)) with
      | true =>
        rw [if_pos rfl]
        show _ = some (R (if (rd_T65 o (m : Int)).f2 = (rd_T65 l (i : Int)).f2 ∧ (rd_T65 o (m : Int)).f3 = (rd_T65 l (i : Int)).f3 then o else o ++ [rd_T65 l (i : Int)]))
        by_cases h2 : (rd_T65 o (m : Int)).f2 = (rd_T65 l (i : Int)).f2
        · rw [if_pos h2]
          by_cases h3 : (rd_T65 o (m : Int)).f3 = (rd_T65 l (i : Int)).f3
          · rw [if_pos h3, if_pos ⟨h2, h3⟩]
            exact hR o k (by omega) (by omega)
          · rw [if_neg h3, if_pos (show o.length < 4398046511104 by omega), if_neg (fun h : (rd_T65 o (m : Int)).f2 = (rd_T65 l (i : Int)).f2 ∧ (rd_T65 o (m : Int)).f3 = (rd_T65 l (i : Int)).f3 => h3 h.2)]
            exact hput k (by omega)
        · rw [if_neg h2, if_pos (show o.length < 4398046511104 by omega), if_neg (fun h : (rd_T65 o (m : Int)).f2 = (rd_T65 l (i : Int)).f2 ∧ (rd_T65 o (m : Int)).f3 = (rd_T65 l (i : Int)).f3 => h2 h.1)]
          exact hput k (by omega)
      | false =>
        rw [if_neg (by decide)]
        exact ih k (by omega) (by omega)
    · rw [if_neg h1, decide_eq_false h1, Bool.false_and]
      exact ih k (by omega) (by omega)
theorem specLess_loop (l : List S65) (hok : routesOk l = true) : ∀ (d k i : Nat) (o : List S65), i + d = l.length → o.length ≤ i → 40 * d + 50 ≤ k → spec_RoutesLess.l0 k l o (i : Int) = some ((l.drop i).foldl lessStep o)
  | 0, k, i, o, hi, ho, hk => by
    obtain ⟨k, rfl⟩ : ∃ j, k = j + 2 := ⟨k - 2, by omega⟩
    simp only [spec_RoutesLess.l0, spec_RoutesLess.j1, Bool.false_eq_true, if_false]
    rw [if_neg (by omega), List.drop_of_length_le (by omega)]
    rfl
  | d + 1, k, i, o, hi, ho, hk => by
    have h8 := routesOk_len hok
    obtain ⟨k, rfl⟩ : ∃ j, k = j + 2 := ⟨k - 2, by omega⟩
    have e1 : wrap64 ((o.length : Int) - 1) = (o.length : Int) - 1 := w64 (by omega) (by omega)
    have h := specLess_find l o (by omega) i (by omega) (by omega) (40 * d + 50) (fun o' => (l.drop (i + 1)).foldl lessStep o') (fun o' k' h1 h2 => specLess_loop l hok d k' (i + 1) o' (by omega) (by omega) h2) o.length k (Nat.le_refl _) (by omega)
    simp only [spec_RoutesLess.l0]
    rw [if_pos (by omega), specRoutesOk_eq l (by omega) (k + 1) (by omega), hok]
    simp only [Option.bind_some, spec_RoutesLess.j1, if_true]
    rw [e1, h, Nat.sub_self, List.drop_zero, dropT l i (by omega), List.foldl_cons]
    rfl
theorem specRoutesLess_eq (l : List S65) (hl : l.length ≤ 1048576) (k : Nat) (hk : l.length + 500 ≤ k) : spec_RoutesLess.f k l = some (routesLess l) := by
  unfold spec_RoutesLess.f routesLess
  cases hok : routesOk l with
  | true =>
    rw [if_pos rfl]
    exact specLess_loop l hok l.length k 0 [] (by omega) (by simp) (by have := routesOk_len hok; omega)
  | false =>
    rw [if_neg (by decide)]
    obtain ⟨k, rfl⟩ : ∃ j, k = j + 2 := ⟨k - 2, by omega⟩
    simp only [spec_RoutesLess.l0, specRoutesOk_eq l (by omega) (k + 1) (by omega), hok, Option.bind_some, spec_RoutesLess.j1, Bool.false_eq_true, if_false, ite_self]

theorem implRouteTo2_eq (o : List S65) (ho : o.length ≤ 1000) (hall : ∀ r ∈ o, rOk r = true) (r : S65) (hr : rOk r = true) : impl_routeTo.f o r.f0 r.f1 = some (toldOf (lessFind o r)) := by
  have hb : ∀ q ∈ bk o, (0 ≤ q.2.f1 ∧ q.2.f1 ≤ 16) ∧ rOk q.2 = true := fun q hq => ⟨(routeOk_bits (hall _ (bk_mem hq))).1, hall _ (bk_mem hq)⟩
  have hx := (routeOk_bits hr).2
  have hfind : (bk o).find? (hit r.f0 r.f1) = lessFind o r := find_congr fun q hq => by
    obtain ⟨h1, h2⟩ := hb q hq
    unfold hit fitsQ routeFits
    rw [fits_eq h1, show routeOk q.2.f0 q.2.f1 q.2.f2 q.2.f3 = true from h2]
    by_cases h4 : r.f0 / rest q.2.f1 = q.2.f0 / rest q.2.f1 <;> simp [h4, hx]
  unfold impl_routeTo.f
  rw [if_pos ⟨by omega, List.all_eq_true.2 fun q hq => by rw [fits_eq (hb q hq).1]; rfl⟩, hfind]
  cases lessFind o r <;> rfl
theorem lessPut_all {o : List S65} (hall : ∀ r ∈ o, rOk r = true) {r : S65} (hr : rOk r = true) (f : Option (Int × S65)) : ∀ q ∈ lessPut o r f, rOk q = true := by
  have h2 : ∀ q ∈ o ++ [r], rOk q = true := fun q hq => (List.mem_append.1 hq).elim (hall q) (fun h => by rw [List.mem_singleton.1 h]; exact hr)
  unfold lessPut
  split
  · split
    · exact hall
    · exact h2
  · exact h2
theorem implLess_loop (l : List S65) (hok : routesOk l = true) : ∀ (d k i : Nat) (o : List S65), i + d = l.length → o.length ≤ i → (∀ r ∈ o, rOk r = true) → d < k → impl_RoutesLess.l0 k o l (l.length : Int) (i : Int) = some ((l.drop i).foldl lessStep o)
  | 0, k, i, o, hi, ho, ha, hk => by
    have h8 := routesOk_len hok
    obtain ⟨k, rfl⟩ : ∃ j, k = j + 1 := ⟨k - 1, by omega⟩
    simp only [impl_RoutesLess.l0]
    rw [if_neg (by omega), List.drop_of_length_le (by omega)]
    unfold impl_Route_101.f
    rw [if_pos (by omega)]
    rfl
  | d + 1, k, i, o, hi, ho, ha, hk => by
    have h8 := routesOk_len hok
    obtain ⟨k, rfl⟩ : ∃ j, k = j + 1 := ⟨k - 1, by omega⟩
    have e2 : wrap64 ((i : Int) + 1) = ((i + 1 : Nat) : Int) := by rw [w64 (by omega) (by omega)]; rfl
    have hr : rOk (rd_T65 l (i : Int)) = true := routesOk_all hok _ (by rw [rdT_nat l i (by omega)]; exact List.getElem_mem _)
    have hL := lessPut_len o (rd_T65 l (i : Int)) (lessFind o (rd_T65 l (i : Int)))
    have ih := implLess_loop l hok d k (i + 1) (lessStep o (rd_T65 l (i : Int))) (by omega) (by unfold lessStep; omega) (lessPut_all ha hr _) (by omega)
    rw [dropT l i (by omega), List.foldl_cons, ← ih]
    simp only [impl_RoutesLess.l0]
    rw [if_pos (by omega), if_pos (by omega), if_pos (by omega), e2]
    have e := implRouteTo2_eq o (by omega) ha _ hr
    unfold lessStep
    cases hf : lessFind o (rd_T65 l (i : Int)) with
    | none =>
      rw [hf] at e
      have e' : impl_routeTo.f o (rd_T65 l (i : Int)).f0 (rd_T65 l (i : Int)).f1 = some (0, 0, 0, 0, false) := e
      rw [e']
      simp only [Option.bind_some, Bool.false_eq_true, if_false]
      rw [if_pos (show o.length < 4398046511104 by omega)]
      rfl
    | some q =>
      rw [hf] at e
      have e' : impl_routeTo.f o (rd_T65 l (i : Int)).f0 (rd_T65 l (i : Int)).f1 = some (q.2.f0, q.2.f1, q.2.f2, q.2.f3, true) := e
      rw [e']
      simp only [Option.bind_some, if_true]
      show _ = impl_RoutesLess.l0 k (if q.2.f2 = (rd_T65 l (i : Int)).f2 ∧ q.2.f3 = (rd_T65 l (i : Int)).f3 then o else o ++ [rd_T65 l (i : Int)]) l (l.length : Int) ((i + 1 : Nat) : Int)
      by_cases h2 : q.2.f2 = (rd_T65 l (i : Int)).f2
      · rw [if_pos h2]
        by_cases h3 : q.2.f3 = (rd_T65 l (i : Int)).f3
        · rw [if_pos h3, if_pos (show q.2.f2 = (rd_T65 l (i : Int)).f2 ∧ q.2.f3 = (rd_T65 l (i : Int)).f3 from ⟨h2, h3⟩)]
        · rw [if_neg h3, if_pos (show o.length < 4398046511104 by omega), if_neg (fun h : q.2.f2 = (rd_T65 l (i : Int)).f2 ∧ q.2.f3 = (rd_T65 l (i : Int)).f3 => h3 h.2)]
      · rw [if_neg h2, if_pos (show o.length < 4398046511104 by omega), if_neg (fun h : q.2.f2 = (rd_T65 l (i : Int)).f2 ∧ q.2.f3 = (rd_T65 l (i : Int)).f3 => h2 h.1)]
theorem implRoutesLess_eq (l : List S65) (hl : l.length ≤ 1048576) (k : Nat) (hk : l.length + 500 ≤ k) : impl_RoutesLess.f k l = some (routesLess l) := by
  unfold impl_RoutesLess.f routesLess
  rw [implRoutesOk_eq l (by omega) k (by omega)]
  simp only [Option.bind_some]
  cases hok : routesOk l with
  | true =>
    rw [if_pos rfl, if_pos rfl]
    exact implLess_loop l hok l.length k 0 [] (by omega) (by simp) (fun r hr => by cases hr) (by omega)
  | false => rfl

/-- The same route of the program's own type. -/
def asRoute (r : S125) : S65 := ⟨r.f0, r.f1, r.f2, r.f3⟩
theorem szRouteS_eq (l : List S125) (h : l.length ≤ 9223372036854775807) : laws_szRouteS.f l 1048576 = some (if (l.length : Int) > 1048576 then (-1 : Int) else 1048576 - (l.length : Int)) := by
  unfold laws_szRouteS.f
  rw [w64 (by omega) (by omega)]
  by_cases h1 : (l.length : Int) > 1048576
  · rw [if_pos (by omega), if_pos h1]
  · rw [if_neg (by omega), if_neg h1]
theorem toRouteS_loop (l : List S125) (hn : l.length < 4611686018427387904) : ∀ (d k i : Nat) (o : List S65), l.length - i = d → i ≤ l.length → d < k → o.length = l.length → o.take i = (l.map asRoute).take i →
    laws_toRouteS.l0 k l o (i : Int) = some (l.map asRoute)
  | 0, k, i, o, hd, hi, hk, hl, ho => by
    obtain ⟨k, rfl⟩ : ∃ m, k = m + 1 := ⟨k - 1, by omega⟩
    simp only [laws_toRouteS.l0]
    rw [if_neg (by omega)]
    rw [List.take_of_length_le (by omega), List.take_of_length_le (by simp; omega)] at ho
    rw [ho]
  | d + 1, k, i, o, hd, hi, hk, hl, ho => by
    obtain ⟨k, rfl⟩ : ∃ m, k = m + 1 := ⟨k - 1, by omega⟩
    have e2 : wrap64 ((i : Int) + 1) = ((i + 1 : Nat) : Int) := by rw [w64 (by omega) (by omega)]; rfl
    simp only [laws_toRouteS.l0, laws_toRoute.f, Option.bind_some]
    rw [if_pos (by omega), if_pos (by omega), if_pos (by omega), e2]
    have hi' : i < l.length := by omega
    have er : rd_T125 l (i : Int) = l[i] := by unfold rd_T125; simp [List.getD_eq_getElem?_getD, List.getElem?_eq_getElem hi']
    have en : ((i : Nat) : Int).toNat = i := by omega
    refine toRouteS_loop l hn d k (i + 1) _ (by omega) (by omega) (by omega) (by simp [hl]) ?_
    rw [er, en, List.take_succ_eq_append_getElem (by simp; omega), List.take_succ_eq_append_getElem (by simp; omega), List.take_set_of_le (by omega), ho]
    simp [asRoute]
theorem toRouteS_eq (l : List S125) (hn : l.length ≤ 1048576) (k : Nat) (hk : l.length < k) : laws_toRouteS.f k l = some (l.map asRoute) := by
  unfold laws_toRouteS.f
  rw [if_pos (by omega), if_pos (by omega)]
  exact toRouteS_loop l (by omega) l.length k 0 _ (by omega) (by omega) hk (by simp) (by simp)
theorem eqRouteS_loop (a : List S65) (hn : a.length < 4611686018427387904) : ∀ (d k i : Nat), a.length - i = d → i ≤ a.length → d < k → laws_eqRouteS.l0 k a a (i : Int) = some true
  | 0, k, i, hd, hi, hk => by
    obtain ⟨k, rfl⟩ : ∃ m, k = m + 1 := ⟨k - 1, by omega⟩
    simp only [laws_eqRouteS.l0]
    rw [if_neg (by omega)]
  | d + 1, k, i, hd, hi, hk => by
    obtain ⟨k, rfl⟩ : ∃ m, k = m + 1 := ⟨k - 1, by omega⟩
    have e2 : wrap64 ((i : Int) + 1) = ((i + 1 : Nat) : Int) := by rw [w64 (by omega) (by omega)]; rfl
    simp only [laws_eqRouteS.l0, laws_eqRoute.f]
    rw [if_pos (by omega), if_pos (by omega), if_pos (by omega), e2, eqRouteS_loop a hn d k (i + 1) (by omega) (by omega) (by omega)]
    simp
theorem eqRouteS_self (a : List S65) (hn : a.length < 4611686018427387904) (k : Nat) (hk : a.length < k) : laws_eqRouteS.f k a a = some true := by
  unfold laws_eqRouteS.f
  rw [if_pos rfl]
  exact eqRouteS_loop a hn a.length k 0 (by omega) (by omega) hk

/-- Routes that carry marks. -/
def routeMarks (a : Int) : Nat → List S65
  | 0 => []
  | n + 1 => ⟨a, a + 1, a + 2, a + 3⟩ :: routeMarks (a + 4) n
theorem routeMarks_len (a : Int) (n : Nat) : (routeMarks a n).length = n := by
  induction n generalizing a with
  | zero => rfl
  | succ n ih => simp [routeMarks, ih]
theorem routeMarks_rd (a : Int) (n i : Nat) (h : i < n) : rd_T65 (routeMarks a n) (i : Int) = ⟨a + 4 * i, a + 4 * i + 1, a + 4 * i + 2, a + 4 * i + 3⟩ := by
  rw [rdT_nat _ i (by rw [routeMarks_len]; exact h)]
  induction n generalizing a i with
  | zero => omega
  | succ n ih =>
    cases i with
    | zero => simp [routeMarks]
    | succ i =>
      simp only [routeMarks, List.getElem_cons_succ]
      rw [ih (a + 4) i (by omega)]
      congr 1 <;> omega
theorem rdT_set (l : List S65) (i : Nat) (h : i < l.length) (x : S65) : rd_T65 (l.set i x) (i : Int) = x := by
  rw [rdT_nat _ i (by simpa using h)]; simp
theorem markRouteS_loop (n : Nat) (hn : n ≤ 1048576) : ∀ (d k i : Nat) (o : List S65) (a : Int), n - i = d → i ≤ n → d < k → o.length = n → 0 ≤ a → a + 4 * d < 4611686018427387904 →
    laws_markRouteS.l0 k o a (i : Int) = some (a + 4 * d, o.take i ++ routeMarks a d)
  | 0, k, i, o, a, hd, hi, hk, hl, ha, hb => by
    obtain ⟨k, rfl⟩ : ∃ m, k = m + 1 := ⟨k - 1, by omega⟩
    simp only [laws_markRouteS.l0]
    rw [if_neg (by omega), List.take_of_length_le (by omega)]
    simp [routeMarks]
  | d + 1, k, i, o, a, hd, hi, hk, hl, ha, hb => by
    obtain ⟨k, rfl⟩ : ∃ m, k = m + 1 := ⟨k - 1, by omega⟩
    have hi' : i < o.length := by omega
    have e2 : wrap64 ((i : Int) + 1) = ((i + 1 : Nat) : Int) := by rw [w64 (by omega) (by omega)]; rfl
    have f1 : wrap64 (a + 1) = a + 1 := w64 (by omega) (by omega)
    have f2 : wrap64 (a + 1 + 1) = a + 2 := by rw [w64 (by omega) (by omega)]; omega
    have f3 : wrap64 (a + 2 + 1) = a + 3 := by rw [w64 (by omega) (by omega)]; omega
    have f4 : wrap64 (a + 3 + 1) = a + 4 := by rw [w64 (by omega) (by omega)]; omega
    simp only [laws_markRouteS.l0]
    rw [if_pos (by omega), if_pos (by omega)]
    simp only [Option.bind_some, f1, f2, f3, f4, e2, Int.toNat_natCast]
    rw [rdT_set o i hi']
    simp only [List.set_set]
    rw [rdT_set o i hi']
    simp only [List.set_set]
    rw [rdT_set o i hi']
    simp only [List.set_set]
    rw [markRouteS_loop n hn d k (i + 1) _ (a + 4) (by omega) (by omega) (by omega) (by simp [hl]) (by omega) (by omega)]
    congr 1
    refine Prod.ext (by simp; omega) ?_
    show _ = o.take i ++ routeMarks a (d + 1)
    rw [List.take_succ_eq_append_getElem (by simp; omega), List.take_set_of_le (by omega)]
    simp [routeMarks]
theorem markRouteS_eq (l : List S65) (hn : l.length ≤ 1048576) (k : Nat) (hk : l.length < k) : laws_markRouteS.f k l 1 = some (1 + 4 * (l.length : Int), routeMarks 1 l.length) := by
  unfold laws_markRouteS.f
  rw [show (0 : Int) = ((0 : Nat) : Int) from rfl, markRouteS_loop l.length hn l.length k 0 l 1 (by omega) (by omega) hk rfl (by omega) (by omega)]
  simp
theorem heldRouteS_loop (n : Nat) (b : Int) (hn : n ≤ 1048576) (hb0 : 0 ≤ b) (hb1 : b ≤ 1000000000000) : ∀ (d k i : Nat), n - i = d → i ≤ n → d < k →
    laws_heldRouteS.l0 k (routeMarks b n) (b + 4 * i) (i : Int) = some (b + 4 * n)
  | 0, k, i, hd, hi, hk => by
    obtain ⟨k, rfl⟩ : ∃ m, k = m + 1 := ⟨k - 1, by omega⟩
    simp only [laws_heldRouteS.l0]
    rw [if_neg (by rw [routeMarks_len]; omega)]
    congr 1; omega
  | d + 1, k, i, hd, hi, hk => by
    obtain ⟨k, rfl⟩ : ∃ m, k = m + 1 := ⟨k - 1, by omega⟩
    have e2 : wrap64 ((i : Int) + 1) = ((i + 1 : Nat) : Int) := by rw [w64 (by omega) (by omega)]; rfl
    have f1 : wrap64 (b + 4 * (i : Int) + 1) = b + 4 * (i : Int) + 1 := w64 (by omega) (by omega)
    have f2 : wrap64 (b + 4 * (i : Int) + 1 + 1) = b + 4 * (i : Int) + 2 := by rw [w64 (by omega) (by omega)]; omega
    have f3 : wrap64 (b + 4 * (i : Int) + 2 + 1) = b + 4 * (i : Int) + 3 := by rw [w64 (by omega) (by omega)]; omega
    have f4 : wrap64 (b + 4 * (i : Int) + 3 + 1) = b + 4 * ((i + 1 : Nat) : Int) := by rw [w64 (by omega) (by omega)]; omega
    simp only [laws_heldRouteS.l0]
    rw [if_pos (by rw [routeMarks_len]; omega), if_pos (by omega), routeMarks_rd b n i (by omega)]
    simp only [f1, f2, f3, f4, e2, if_true]
    exact heldRouteS_loop n b hn hb0 hb1 d k (i + 1) (by omega) (by omega) (by omega)
theorem heldRouteS_eq (n : Nat) (hn : n ≤ 1048576) (k : Nat) (hk : n < k) : laws_heldRouteS.f k (routeMarks 1 n) 1 = some (1 + 4 * (n : Int)) := by
  unfold laws_heldRouteS.f
  have := heldRouteS_loop n 1 hn (by omega) (by omega) n k 0 (by omega) (by omega) hk
  simpa using this

theorem FnExactRoutesLess (l0 : (List S125)) (g0 : (l0.length ≤ maxLen ∧ ∀ x ∈ l0, ArgFnExactRoutesLess.G125 x)) : ∃ k, laws_FnExactRoutesLess.f k l0 = some true := by
  have hm : l0.length ≤ 9223372036854775807 := g0.1
  refine ⟨l0.length + 600, ?_⟩
  unfold laws_FnExactRoutesLess.f
  rw [szRouteS_eq _ hm]
  simp only [Option.bind_some]
  by_cases h1 : (l0.length : Int) > 1048576
  · rw [if_pos h1]; rfl
  · rw [if_neg h1, if_neg (by omega)]
    have hl : (l0.map asRoute).length = l0.length := List.length_map ..
    have hr := routesLess_len (l0.map asRoute)
    have t1 := toRouteS_eq l0 (by omega) (l0.length + 600) (by omega)
    have t2 := toRouteS_eq l0 (by omega) (l0.length + 599) (by omega)
    have s1 := specRoutesLess_eq (l0.map asRoute) (by omega) (l0.length + 600) (by omega)
    have i1 := implRoutesLess_eq (l0.map asRoute) (by omega) (l0.length + 600) (by omega)
    have i2 := implRoutesLess_eq (l0.map asRoute) (by omega) (l0.length + 599) (by omega)
    have q1 := eqRouteS_self (l0.map asRoute) (by omega) (l0.length + 600) (by omega)
    have m1 := markRouteS_eq (l0.map asRoute) (by omega) (l0.length + 600) (by omega)
    generalize l0.map asRoute = L at hl hr t1 t2 s1 i1 i2 q1 m1
    generalize routesLess L = W at hr s1 i1 i2
    have q2 := eqRouteS_self W (by omega) (l0.length + 600) (by omega)
    have q3 := eqRouteS_self W (by omega) (l0.length + 599) (by omega)
    have m2 := markRouteS_eq W (by omega) (l0.length + 599) (by omega)
    have h2 := heldRouteS_eq W.length (by omega) (l0.length + 599) (by omega)
    simp only [t1, s1, i1, q1, q2, m1, Option.bind_some, if_true]
    rw [if_neg (by omega)]
    simp only [laws_FnExactRoutesLess.j0, Bool.not_true, Bool.false_eq_true, if_false, m2, h2, t2, i2, q3, Option.bind_some, if_true]
    rw [if_neg (by omega)]
    rw [if_neg (by omega)]

end Go.Proofs.Ytdplboenlcppkaa.Pure

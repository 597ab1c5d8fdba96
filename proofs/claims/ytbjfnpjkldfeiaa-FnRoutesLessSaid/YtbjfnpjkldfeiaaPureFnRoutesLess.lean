/- Fewer routes lead to the same: they are routes, each address goes on as by all of them, and less twice is less once; the statement's own bounds alone. -/
import Derived.Test.YtbjfnpjkldfeiaaPFnRoutesLessx11
import Derived.Test.YtbjfnpjkldfeiaaUFnRoutesLessBase
namespace Go.Proofs.Ytbjfnpjkldfeiaa.Pure
set_option linter.unusedSimpArgs false
set_option linter.unusedVariables false
open Go Go.RowKit Go.Proofs.Ytbjfnpjkldfeiaa.PFnRoutesLess Go.Proofs.YtbjfnpjkldfeiaaUFnRoutesLess.PrintWords Go.Proofs.YtbjfnpjkldfeiaaUFnRoutesLess.PrintLast Go.Proofs.YtbjfnpjkldfeiaaUFnRoutesLess.PrintMore Go.Proofs.Ytbjfnpjkldfeiaa.Base

theorem l1In_eq (a b c : Int) : spec_l1In.f a b c = some (decide (b ≤ a ∧ a ≤ c)) := by
  unfold spec_l1In.f
  by_cases h : a ≥ b <;> simp [h]

theorem in_eq (a b c : Int) : impl_in.f a b c = some (decide (b ≤ a ∧ a ≤ c)) := by
  unfold impl_in.f
  by_cases h : a ≥ b <;> simp [h]

theorem word_eq (a : Int) : impl_word.f a = some (decide (0 ≤ a ∧ a ≤ 65535)) := by
  unfold impl_word.f
  rw [in_eq]; rfl

/-- How many addresses have the same first bits. -/
def rest (b : Int) : Int := 2 ^ (16 - b).toNat
theorem rest_cases {b : Int} (h : 0 ≤ b ∧ b ≤ 16) : b = 0 ∨ b = 1 ∨ b = 2 ∨ b = 3 ∨ b = 4 ∨ b = 5 ∨ b = 6 ∨ b = 7 ∨ b = 8 ∨ b = 9 ∨ b = 10 ∨ b = 11 ∨ b = 12 ∨ b = 13 ∨ b = 14 ∨ b = 15 ∨ b = 16 := by omega
theorem rest_shl {b : Int} (h : 0 ≤ b ∧ b ≤ 16) : 0 ≤ wrap64 (16 - b) ∧ shl .i64 1 (wrap64 (16 - b)) = rest b ∧ 0 < rest b ∧ rest b ≤ 65536 := by
  rcases rest_cases h with rfl | rfl | rfl | rfl | rfl | rfl | rfl | rfl | rfl | rfl | rfl | rfl | rfl | rfl | rfl | rfl | rfl <;> decide +kernel
theorem rest_shr {b : Int} (h : 0 ≤ b ∧ b ≤ 16) (x : Int) : shr .i64 x (wrap64 (16 - b)) = x / rest b := by
  rw [w64 (by omega) (by omega)]
  unfold shr rest
  rw [Nat.min_eq_left (show (16 - b).toNat ≤ IntKind.i64.bits by simp [IntKind.bits]; omega)]
/-- A route is ok. -/
def routeOk (a b v r : Int) : Bool := decide ((0 ≤ b ∧ b ≤ 16) ∧ (0 ≤ a ∧ a ≤ 65535) ∧ a % rest b = 0 ∧ (0 ≤ v ∧ v ≤ 65535) ∧ (1 ≤ r ∧ r ≤ 48))
theorem specRouteOk_eq (a b v r : Int) : spec_RouteOk.f a b v r = some (routeOk a b v r) := by
  unfold spec_RouteOk.f routeOk spec_l6Rest.f
  simp only [l1In_eq, Option.bind_some]
  by_cases h1 : 0 ≤ b ∧ b ≤ 16
  · obtain ⟨e1, e2, e3, e4⟩ := rest_shl h1
    rw [if_pos e1, e2]
    by_cases h2 : 0 ≤ a ∧ a ≤ 65535
    · simp only [Option.bind_some, if_neg (show ¬ rest b = 0 by omega), Int.tmod_eq_emod_of_nonneg h2.1]
      by_cases h3 : a % rest b = 0 <;> by_cases h4 : 0 ≤ v ∧ v ≤ 65535 <;> simp [h1, h2, h3, h4]
    · simp [h1, h2]
  · simp [h1]
theorem implRouteOk_eq (a b v r : Int) : impl_RouteOk.f a b v r = some (routeOk a b v r) := by
  unfold impl_RouteOk.f routeOk
  simp only [in_eq, word_eq, Option.bind_some]
  by_cases h1 : 0 ≤ b ∧ b ≤ 16
  · obtain ⟨e1, e2, e3, e4⟩ := rest_shl h1
    rw [if_pos e1, e2]
    by_cases h2 : 0 ≤ a ∧ a ≤ 65535
    · simp only [if_neg (show ¬ rest b = 0 by omega), Int.tmod_eq_emod_of_nonneg h2.1]
      by_cases h3 : a % rest b = 0 <;> by_cases h4 : 0 ≤ v ∧ v ≤ 65535 <;> simp [h1, h2, h3, h4]
    · simp [h1, h2]
  · simp [h1]
theorem routeOk_bits {a b v r : Int} (h : routeOk a b v r = true) : (0 ≤ b ∧ b ≤ 16) ∧ (0 ≤ a ∧ a ≤ 65535) := by
  have := of_decide_eq_true h
  exact ⟨this.1, this.2.1⟩

/-- A route that is ok. -/
def rOk (r : S46) : Bool := routeOk r.f0 r.f1 r.f2 r.f3
/-- One route stands ahead of another. -/
def rLt (r q : S46) : Bool := decide (r.f1 < q.f1 ∨ r.f1 = q.f1 ∧ r.f0 < q.f0)
/-- Each is ok and stands ahead of the next one. -/
def rChain : Option S46 → List S46 → Bool
  | _, [] => true
  | none, r :: l => rOk r && rChain (some r) l
  | some q, r :: l => (rOk r && rLt q r) && rChain (some r) l
/-- Routes are ok. -/
def routesOk (l : List S46) : Bool := rChain none l && decide ((l.length : Int) ≤ 8)
/-- The one ahead of place i. -/
def prevOf (l : List S46) (i : Nat) : Option S46 := if i = 0 then none else some (rd_T46 l ((i - 1 : Nat) : Int))
theorem rdT_nat (l : List S46) (i : Nat) (h : i < l.length) : rd_T46 l (i : Int) = l[i] := by
  unfold rd_T46; simp [List.getD_eq_getElem?_getD, List.getElem?_eq_getElem h]
theorem dropT (l : List S46) (i : Nat) (h : i < l.length) : l.drop i = rd_T46 l (i : Int) :: l.drop (i + 1) := by
  rw [List.drop_eq_getElem_cons h, rdT_nat l i h]

theorem specRoutesOk_loop (l : List S46) (hl : l.length < 4611686018427387904) : ∀ (d k i : Nat), l.length - i = d → i ≤ l.length → d < k →
    spec_RoutesOk.l0 k l (i : Int) = some (rChain (prevOf l i) (l.drop i) && decide ((l.length : Int) ≤ 8))
  | 0, k, i, hd, hi, hk => by
    obtain ⟨k, rfl⟩ : ∃ m, k = m + 1 := ⟨k - 1, by omega⟩
    simp only [spec_RoutesOk.l0]
    rw [if_neg (by omega), List.drop_of_length_le (by omega)]
    cases prevOf l i <;> simp [rChain]
  | d + 1, k, i, hd, hi, hk => by
    obtain ⟨k, rfl⟩ : ∃ m, k = m + 1 := ⟨k - 1, by omega⟩
    have e2 : wrap64 ((i : Int) + 1) = ((i + 1 : Nat) : Int) := by rw [w64 (by omega) (by omega)]; rfl
    have ih := specRoutesOk_loop l hl d k (i + 1) (by omega) (by omega) (by omega)
    have ep : prevOf l (i + 1) = some (rd_T46 l (i : Int)) := by unfold prevOf; rw [if_neg (by omega)]; rfl
    rw [ep] at ih
    simp only [spec_RoutesOk.l0]
    rw [if_pos (by omega), if_pos (by omega), specRouteOk_eq, e2, ih, dropT l i (by omega)]
    simp only [Option.bind_some]
    by_cases h0 : i = 0
    · subst h0
      have eq0 : prevOf l 0 = none := by unfold prevOf; rw [if_pos rfl]
      rw [eq0, if_neg (show ¬ ((0 : Nat) : Int) > 0 by omega)]
      simp only [rChain, rOk]
      cases routeOk (rd_T46 l ((0 : Nat) : Int)).f0 (rd_T46 l ((0 : Nat) : Int)).f1 (rd_T46 l ((0 : Nat) : Int)).f2 (rd_T46 l ((0 : Nat) : Int)).f3 <;> simp
    · have e1 : wrap64 ((i : Int) - 1) = ((i - 1 : Nat) : Int) := by rw [w64 (by omega) (by omega)]; omega
      have eq1 : prevOf l i = some (rd_T46 l ((i - 1 : Nat) : Int)) := by unfold prevOf; rw [if_neg h0]
      have c1 : (i : Int) > 0 := by omega
      have c2 : (0 : Int) ≤ ((i - 1 : Nat) : Int) := by omega
      have c3 : ((i - 1 : Nat) : Int) < (l.length : Int) := by omega
      rw [eq1, if_pos c1, e1, if_pos c2, if_pos c3]
      generalize rd_T46 l ((i - 1 : Nat) : Int) = q
      generalize rd_T46 l (i : Int) = r
      simp only [rChain, rOk, rLt]
      cases routeOk r.f0 r.f1 r.f2 r.f3 with
      | false => simp
      | true =>
        by_cases h1 : q.f1 > r.f1
        · have : ¬ (q.f1 < r.f1 ∨ q.f1 = r.f1 ∧ q.f0 < r.f0) := by omega
          simp [h1, this]
        · by_cases h2 : q.f1 = r.f1
          · by_cases h3 : q.f0 ≥ r.f0
            · have : ¬ (q.f1 < r.f1 ∨ q.f1 = r.f1 ∧ q.f0 < r.f0) := by omega
              rw [decide_eq_false this]
              simp [h1, h2, h3]
            · have : (q.f1 < r.f1 ∨ q.f1 = r.f1 ∧ q.f0 < r.f0) := by omega
              rw [decide_eq_true this]
              simp [h1, h2, h3]
          · have : (q.f1 < r.f1 ∨ q.f1 = r.f1 ∧ q.f0 < r.f0) := by omega
            rw [decide_eq_true this]
            simp [h1, h2]
theorem specRoutesOk_eq (l : List S46) (hl : l.length < 4611686018427387904) (k : Nat) (hk : l.length < k) : spec_RoutesOk.f k l = some (routesOk l) := by
  unfold spec_RoutesOk.f routesOk
  rw [show (0 : Int) = ((0 : Nat) : Int) from rfl, specRoutesOk_loop l hl l.length k 0 (by omega) (by omega) hk]
  rfl

theorem cmp_eq (a b : Int) : cmp_Compare_int.f a b = some (if a < b then -1 else if a > b then 1 else 0) := by
  unfold cmp_Compare_int.f cmp_isNaN_int.f
  by_cases h1 : a < b <;> by_cases h2 : a > b <;> simp [h1, h2]
theorem or2_eq (x y : Int) (k : Nat) (hk : 3 ≤ k) : cmp_Or_int.f k [x, y] = some (if x = 0 then y else x) := by
  obtain ⟨k, rfl⟩ : ∃ m, k = m + 1 + 1 + 1 := ⟨k - 3, by omega⟩
  have e1 : wrap64 ((0 : Int) + 1) = 1 := w64 (by omega) (by omega)
  have e2 : wrap64 ((1 : Int) + 1) = 2 := w64 (by omega) (by omega)
  unfold cmp_Or_int.f
  simp only [cmp_Or_int.l0, List.length_cons, List.length_nil, rd, e1, e2]
  by_cases h : x = 0 <;> by_cases h' : y = 0 <;> simp [h, h']
theorem order_eq (a b c d a' b' c' d' : Int) (k : Nat) (hk : 3 ≤ k) : ∃ v, impl_Route_order.f k a b c d a' b' c' d' = some v ∧ (v < 0 ↔ (b < b' ∨ b = b' ∧ a < a')) ∧ (v = 0 ↔ (b = b' ∧ a = a')) := by
  unfold impl_Route_order.f
  simp only [cmp_eq, or2_eq _ _ k hk, Option.bind_some]
  refine ⟨_, rfl, ?_, ?_⟩
  · by_cases h1 : b < b' <;> by_cases h2 : b > b' <;> by_cases h3 : a < a' <;> by_cases h4 : a > a' <;> simp [h1, h2, h3, h4] <;> omega
  · by_cases h1 : b < b' <;> by_cases h2 : b > b' <;> by_cases h3 : a < a' <;> by_cases h4 : a > a' <;> simp [h1, h2, h3, h4] <;> omega

theorem implRoutesOk_loop (l : List S46) (hl : l.length < 4611686018427387904) : ∀ (d k i : Nat), l.length - i = d → i ≤ l.length → d + 3 < k →
    impl_RoutesOk.l0 k l l (l.length : Int) (i : Int) = some (rChain (prevOf l i) (l.drop i) && decide ((l.length : Int) ≤ 8))
  | 0, k, i, hd, hi, hk => by
    obtain ⟨k, rfl⟩ : ∃ m, k = m + 1 := ⟨k - 1, by omega⟩
    simp only [impl_RoutesOk.l0]
    rw [if_neg (by omega), List.drop_of_length_le (by omega)]
    cases prevOf l i <;> simp [rChain]
  | d + 1, k, i, hd, hi, hk => by
    obtain ⟨k, rfl⟩ : ∃ m, k = m + 1 := ⟨k - 1, by omega⟩
    have e2 : wrap64 ((i : Int) + 1) = ((i + 1 : Nat) : Int) := by rw [w64 (by omega) (by omega)]; rfl
    have ih := implRoutesOk_loop l hl d k (i + 1) (by omega) (by omega) (by omega)
    have ep : prevOf l (i + 1) = some (rd_T46 l (i : Int)) := by unfold prevOf; rw [if_neg (by omega)]; rfl
    rw [ep] at ih
    simp only [impl_RoutesOk.l0]
    rw [if_pos (by omega), if_pos (by omega), if_pos (by omega), implRouteOk_eq, e2, ih, dropT l i (by omega)]
    simp only [Option.bind_some]
    by_cases h0 : i = 0
    · subst h0
      have eq0 : prevOf l 0 = none := by unfold prevOf; rw [if_pos rfl]
      rw [eq0, if_neg (show ¬ ((0 : Nat) : Int) > 0 by omega)]
      simp only [rChain, rOk]
      cases routeOk (rd_T46 l ((0 : Nat) : Int)).f0 (rd_T46 l ((0 : Nat) : Int)).f1 (rd_T46 l ((0 : Nat) : Int)).f2 (rd_T46 l ((0 : Nat) : Int)).f3 <;> simp
    · have e1 : wrap64 ((i : Int) - 1) = ((i - 1 : Nat) : Int) := by rw [w64 (by omega) (by omega)]; omega
      have eq1 : prevOf l i = some (rd_T46 l ((i - 1 : Nat) : Int)) := by unfold prevOf; rw [if_neg h0]
      have c1 : (i : Int) > 0 := by omega
      have c2 : (0 : Int) ≤ ((i - 1 : Nat) : Int) := by omega
      have c3 : ((i - 1 : Nat) : Int) < (l.length : Int) := by omega
      rw [eq1, if_pos c1, e1, if_pos c2, if_pos c3]
      generalize rd_T46 l ((i - 1 : Nat) : Int) = q
      generalize rd_T46 l (i : Int) = r
      simp only [rChain, rOk, rLt]
      obtain ⟨v, hv, h1, _⟩ := order_eq q.f0 q.f1 q.f2 q.f3 r.f0 r.f1 r.f2 r.f3 k (by omega)
      cases routeOk r.f0 r.f1 r.f2 r.f3 with
      | false => simp
      | true =>
        rw [if_pos rfl, hv]
        simp only [Option.bind_some]
        by_cases h2 : v ≥ 0
        · rw [if_pos h2, decide_eq_false (fun h => by have := h1.mpr h; omega)]; rfl
        · rw [if_neg h2, decide_eq_true (h1.mp (by omega))]; simp
theorem implRoutesOk_eq (l : List S46) (hl : l.length < 4611686018427387904) (k : Nat) (hk : l.length + 3 < k) : impl_RoutesOk.f k l = some (routesOk l) := by
  unfold impl_RoutesOk.f routesOk
  rw [show (0 : Int) = ((0 : Nat) : Int) from rfl, implRoutesOk_loop l hl l.length k 0 (by omega) (by omega) hk]
  rfl

/-- A route is for an address. -/
def routeFits (a b v r x : Int) : Bool := routeOk a b v r && decide ((0 ≤ x ∧ x ≤ 65535) ∧ x / rest b = a / rest b)

theorem specRouteFits_eq (a b v r x : Int) : spec_RouteFits.f a b v r x = some (routeFits a b v r x) := by
  unfold spec_RouteFits.f routeFits
  simp only [specRouteOk_eq, l1In_eq, Option.bind_some]
  cases h : routeOk a b v r with
  | false => rfl
  | true =>
    obtain ⟨h1, h2⟩ := routeOk_bits h
    obtain ⟨e1, e2, e3, e4⟩ := rest_shl h1
    by_cases h3 : 0 ≤ x ∧ x ≤ 65535
    · unfold spec_l6Rest.f
      have l1 : x / rest b ≤ x := Int.ediv_le_self _ h3.1
      have l2 : a / rest b ≤ a := Int.ediv_le_self _ h2.1
      have g1 : 0 ≤ x / rest b := Int.ediv_nonneg h3.1 (by omega)
      have g2 : 0 ≤ a / rest b := Int.ediv_nonneg h2.1 (by omega)
      rw [if_pos e1, e2]
      simp only [Option.bind_some, if_neg (show ¬ rest b = 0 by omega), Int.tdiv_eq_ediv_of_nonneg h3.1, Int.tdiv_eq_ediv_of_nonneg h2.1]
      rw [w64 (by omega) (by omega), w64 (by omega) (by omega)]
      by_cases h4 : x / rest b = a / rest b <;> simp [h3, h4]
    · simp [h3]

theorem fits_eq {a b v r x : Int} (h : 0 ≤ b ∧ b ≤ 16) : impl_Route_fits.f a b v r x = some (decide (x / rest b = a / rest b)) := by
  obtain ⟨e1, e2, e3, e4⟩ := rest_shl h
  unfold impl_Route_fits.f
  rw [if_pos e1, rest_shr h, rest_shr h]
  by_cases h4 : x / rest b = a / rest b <;> simp [h4]
theorem rChain_all : ∀ (p : Option S46) (l : List S46), rChain p l = true → ∀ r ∈ l, rOk r = true
  | _, [], _, r, hr => by cases hr
  | none, s :: l, h, r, hr => by
    simp only [rChain, Bool.and_eq_true] at h
    rcases List.mem_cons.1 hr with rfl | hr
    · exact h.1
    · exact rChain_all _ l h.2 r hr
  | some q, s :: l, h, r, hr => by
    simp only [rChain, Bool.and_eq_true] at h
    rcases List.mem_cons.1 hr with rfl | hr
    · exact h.1.1
    · exact rChain_all _ l h.2 r hr
theorem routesOk_all {l : List S46} (h : routesOk l = true) : ∀ r ∈ l, rOk r = true := by
  unfold routesOk at h
  rw [Bool.and_eq_true] at h
  exact rChain_all _ l h.1
theorem bk_mem {l : List S46} {q : Int × S46} (h : q ∈ bk l) : q.2 ∈ l := by
  unfold bk at h
  obtain ⟨k, hk, rfl⟩ := List.mem_map.1 h
  have hk := List.mem_range.1 hk
  show rd_T46 l ((l.length - 1 - k : Nat) : Int) ∈ l
  rw [rdT_nat l (l.length - 1 - k) (by omega)]
  exact List.getElem_mem _
/-- A route of the row fits. -/
def fitsQ (x : Int) (q : Int × S46) : Bool := routeFits q.2.f0 q.2.f1 q.2.f2 q.2.f3 x
/-- What is told of the one that was found. -/
def toldOf : Option (Int × S46) → Int × Int × Int × Int × Bool
  | some q => (q.2.f0, q.2.f1, q.2.f2, q.2.f3, true)
  | none => (0, 0, 0, 0, false)
/-- The route for an address. -/
def routeTo (l : List S46) (x : Int) : Int × Int × Int × Int × Bool := if routesOk l = true then toldOf ((bk l).find? (fitsQ x)) else (0, 0, 0, 0, false)
theorem find_congr {α : Type} {p q : α → Bool} : ∀ {l : List α}, (∀ x ∈ l, p x = q x) → l.find? p = l.find? q
  | [], _ => rfl
  | a :: l, h => by
    rw [List.find?_cons, List.find?_cons, h a List.mem_cons_self, find_congr (fun x hx => h x (List.mem_cons_of_mem _ hx))]

/-- The last route kept of which this one is a part. -/
def lessFind (o : List S46) (r : S46) : Option (Int × S46) := (bk o).find? fun q => decide (q.2.f1 < r.f1) && fitsQ r.f0 q
/-- What is kept after one route more. -/
def lessPut (o : List S46) (r : S46) : Option (Int × S46) → List S46
  | some q => if q.2.f2 = r.f2 ∧ q.2.f3 = r.f3 then o else o ++ [r]
  | none => o ++ [r]
def lessStep (o : List S46) (r : S46) : List S46 := lessPut o r (lessFind o r)
/-- Routes without those that are not needed. -/
def routesLess (l : List S46) : List S46 := if routesOk l = true then l.foldl lessStep [] else []
theorem lessPut_len (o : List S46) (r : S46) (f : Option (Int × S46)) : (lessPut o r f).length ≤ o.length + 1 := by
  unfold lessPut
  split
  · split
    · omega
    · rw [List.length_append]; simp
  · rw [List.length_append]; simp
theorem less_len : ∀ (l o : List S46), (l.foldl lessStep o).length ≤ o.length + l.length
  | [], o => by simp
  | r :: l, o => by
    rw [List.foldl_cons]
    have := less_len l (lessStep o r)
    have h2 := lessPut_len o r (lessFind o r)
    unfold lessStep at this ⊢
    rw [List.length_cons]
    omega
theorem routesLess_len (l : List S46) : (routesLess l).length ≤ l.length := by
  unfold routesLess
  split
  · have := less_len l []; simpa using this
  · exact Nat.zero_le _
theorem routesOk_len {l : List S46} (h : routesOk l = true) : l.length ≤ 8 := by
  unfold routesOk at h
  rw [Bool.and_eq_true] at h
  have := of_decide_eq_true h.2
  omega
theorem bk_drop (l : List S46) (m : Nat) (hm : m < l.length) : (bk l).drop (l.length - (m + 1)) = ((m : Int), rd_T46 l (m : Int)) :: (bk l).drop (l.length - m) := by
  have hk2 : l.length - (m + 1) < (bk l).length := by rw [bk_len]; omega
  rw [List.drop_eq_getElem_cons hk2]
  have hg := bk_get l (l.length - (m + 1)) (by omega)
  rw [List.getElem?_eq_getElem hk2] at hg
  rw [Option.some.inj hg, show l.length - (m + 1) + 1 = l.length - m by omega, show l.length - 1 - (l.length - (m + 1)) = m by omega]

theorem bk_snd (l : List S46) : (bk l).map Prod.snd = l.reverse := by
  apply List.ext_getElem?
  intro k
  by_cases h : k < l.length
  · rw [List.getElem?_map, bk_get l k h, List.getElem?_reverse h]
    show some (rd_T46 l ((l.length - 1 - k : Nat) : Int)) = _
    rw [rdT_nat l (l.length - 1 - k) (by omega), List.getElem?_eq_getElem (by omega)]
  · rw [List.getElem?_eq_none (by rw [List.length_map, bk_len]; omega), List.getElem?_eq_none (by rw [List.length_reverse]; omega)]
theorem bk_find (l : List S46) (P : S46 → Bool) : ((bk l).find? (fun q => P q.2)).map Prod.snd = l.reverse.find? P := by
  rw [← bk_snd l, List.find?_map]; rfl
theorem chain_behind : ∀ (q : S46) (l : List S46), rChain (some q) l = true → ∀ r ∈ l, rLt q r = true
  | q, [], _, r, hr => by cases hr
  | q, s :: l, h, r, hr => by
    have hs : rLt q s = true := by simp only [rChain, Bool.and_eq_true] at h; exact h.1.2
    rcases List.mem_cons.1 hr with rfl | hr
    · exact hs
    · have h2 : rChain (some s) l = true := by simp only [rChain, Bool.and_eq_true] at h; exact h.2
      have h3 := chain_behind s l h2 r hr
      have g1 := of_decide_eq_true hs
      have g2 := of_decide_eq_true h3
      exact decide_eq_true (by omega)
theorem chain_pair : ∀ (p : Option S46) (l : List S46), rChain p l = true → l.Pairwise (fun r q => rLt r q = true)
  | _, [], _ => List.Pairwise.nil
  | p, s :: l, h => by
    have h2 : rChain (some s) l = true := by
      cases p <;> simp only [rChain, Bool.and_eq_true] at h <;> exact h.2
    exact List.pairwise_cons.2 ⟨chain_behind s l h2, chain_pair (some s) l h2⟩
theorem pair_chain : ∀ (p : Option S46) (l : List S46), (∀ q, p = some q → ∀ r ∈ l, rLt q r = true) → (∀ r ∈ l, rOk r = true) → l.Pairwise (fun r q => rLt r q = true) → rChain p l = true
  | _, [], _, _, _ => by unfold rChain; rfl
  | p, s :: l, hp, ho, hw => by
    obtain ⟨h1, h2⟩ := List.pairwise_cons.1 hw
    have h3 := pair_chain (some s) l (fun q hq r hr => by rw [← Option.some.inj hq]; exact h1 r hr) (fun r hr => ho r (List.mem_cons_of_mem _ hr)) h2
    cases p with
    | none => simp only [rChain, Bool.and_eq_true]; exact ⟨ho s List.mem_cons_self, h3⟩
    | some q => simp only [rChain, Bool.and_eq_true]; exact ⟨⟨ho s List.mem_cons_self, hp q rfl s List.mem_cons_self⟩, h3⟩
/-- Fewer of routes that are ok are ok. -/
theorem routesOk_sub {l o : List S46} (h : routesOk l = true) (hs : o.Sublist l) : routesOk o = true := by
  have h8 := routesOk_len h
  have hl := hs.length_le
  have ha := routesOk_all h
  unfold routesOk at h ⊢
  rw [Bool.and_eq_true] at h ⊢
  exact ⟨pair_chain none o (fun q hq => by cases hq) (fun r hr => ha r (hs.mem hr)) ((chain_pair none l h.1).sublist hs), decide_eq_true (by omega)⟩
def fitsR (x : Int) (r : S46) : Bool := routeFits r.f0 r.f1 r.f2 r.f3 x
theorem rest_split {b c : Int} (hb : 0 ≤ b) (h : b < c) (hc : c ≤ 16) : ∃ m : Int, 0 < m ∧ rest b = rest c * m := by
  refine ⟨2 ^ (c - b).toNat, Int.pow_pos (by omega), ?_⟩
  unfold rest
  rw [← Int.pow_add]
  congr 1
  omega
/-- What is behind a route that fits: an earlier one fits just if it is shorter and fits the route's own address. -/
theorem fits_before {e r : S46} {x : Int} (he : rOk e = true) (hr : rOk r = true) (hlt : rLt e r = true) (hx : fitsR x r = true) : fitsR x e = (decide (e.f1 < r.f1) && fitsR r.f0 e) := by
  have h0 := of_decide_eq_true hr
  have g0 := of_decide_eq_true he
  have hl := of_decide_eq_true hlt
  obtain ⟨_, _, hR, _⟩ := rest_shl h0.1
  have hx2 : (0 ≤ x ∧ x ≤ 65535) ∧ x / rest r.f1 = r.f0 / rest r.f1 := by
    unfold fitsR routeFits at hx
    rw [Bool.and_eq_true] at hx
    exact of_decide_eq_true hx.2
  have e1 : routeOk e.f0 e.f1 e.f2 e.f3 = true := he
  unfold fitsR routeFits
  rw [e1, Bool.true_and, Bool.true_and]
  by_cases hb : e.f1 < r.f1
  · obtain ⟨m, hm, hE⟩ := rest_split g0.1.1 hb h0.1.2
    have d1 : ∀ y : Int, y / rest e.f1 = y / rest r.f1 / m := fun y => by
      rw [hE, Int.ediv_ediv, if_neg (by omega), Int.sub_zero]
    rw [decide_eq_true hb, Bool.true_and]
    apply decide_eq
    rw [d1 x, hx2.2, ← d1 r.f0]
    exact ⟨fun h => ⟨h0.2.1, h.2⟩, fun h => ⟨hx2.1, h.2⟩⟩
  · rw [decide_eq_false hb, Bool.false_and]
    apply decide_eq_false
    intro h
    have hbe : e.f1 = r.f1 := by omega
    have hq := h.2
    rw [hbe] at hq
    have g3 := g0.2.2.1
    rw [hbe] at g3
    have a1 := Int.mul_ediv_add_emod e.f0 (rest r.f1)
    have a2 := Int.mul_ediv_add_emod r.f0 (rest r.f1)
    rw [← hq, hx2.2, g3] at a1
    rw [h0.2.2.1] at a2
    omega
/-- What a packet learns of the route that is found. -/
def viewOf : Option S46 → Int × Int × Bool
  | some r => (r.f2, r.f3, true)
  | none => (0, 0, false)
def lastF (x : Int) (l : List S46) : Option S46 := l.reverse.find? (fitsR x)
theorem lastF_snoc (x : Int) (l : List S46) (r : S46) : lastF x (l ++ [r]) = if fitsR x r = true then some r else lastF x l := by
  unfold lastF
  rw [List.reverse_append, List.reverse_singleton, List.singleton_append, List.find?_cons]
  cases fitsR x r <;> rfl
theorem lessFind_snd (o : List S46) (r : S46) : (lessFind o r).map Prod.snd = o.reverse.find? (fun e => decide (e.f1 < r.f1) && fitsR r.f0 e) :=
  bk_find o (fun e => decide (e.f1 < r.f1) && fitsR r.f0 e)
theorem less_step {l o : List S46} {r : S46} (hs : o.Sublist l) (hall : ∀ e ∈ l, rOk e = true ∧ rLt e r = true) (hr : rOk r = true) (hi : o.foldl lessStep [] = o) (hv : ∀ x, viewOf (lastF x o) = viewOf (lastF x l)) :
    (lessStep o r).Sublist (l ++ [r]) ∧ (lessStep o r).foldl lessStep [] = lessStep o r ∧ ∀ x, viewOf (lastF x (lessStep o r)) = viewOf (lastF x (l ++ [r])) := by
  have hF : ∀ x, fitsR x r = true → lastF x o = (lessFind o r).map Prod.snd := fun x hx => by
    rw [lessFind_snd]
    exact find_congr fun e he => by
      obtain ⟨h1, h2⟩ := hall e (hs.mem (List.mem_reverse.1 he))
      exact fits_before h1 hr h2 hx
  have hput : (o ++ [r]).foldl lessStep [] = lessStep o r := by rw [List.foldl_append, hi]; rfl
  have hkeep : lessStep o r = o ++ [r] → (lessStep o r).Sublist (l ++ [r]) ∧ (lessStep o r).foldl lessStep [] = lessStep o r ∧ ∀ x, viewOf (lastF x (lessStep o r)) = viewOf (lastF x (l ++ [r])) := fun h => by
    refine ⟨by rw [h]; exact hs.append_right _, ?_, fun x => ?_⟩
    · rw [← h] at hput; exact hput
    · rw [h, lastF_snoc, lastF_snoc]
      by_cases hx : fitsR x r = true
      · rw [if_pos hx, if_pos hx]
      · rw [if_neg hx, if_neg hx]; exact hv x
  cases hf : lessFind o r with
  | none => exact hkeep (by unfold lessStep; rw [hf]; rfl)
  | some q =>
    by_cases hq : q.2.f2 = r.f2 ∧ q.2.f3 = r.f3
    · have h : lessStep o r = o := by
        unfold lessStep
        rw [hf]
        show (if q.2.f2 = r.f2 ∧ q.2.f3 = r.f3 then o else o ++ [r]) = o
        rw [if_pos hq]
      refine ⟨by rw [h]; exact List.sublist_append_of_sublist_left hs, by rw [h]; exact hi, fun x => ?_⟩
      rw [h, lastF_snoc]
      by_cases hx : fitsR x r = true
      · rw [if_pos hx, hF x hx, hf]
        show (q.2.f2, q.2.f3, true) = (r.f2, r.f3, true)
        rw [hq.1, hq.2]
      · rw [if_neg hx]; exact hv x
    · exact hkeep (by
        unfold lessStep
        rw [hf]
        show (if q.2.f2 = r.f2 ∧ q.2.f3 = r.f3 then o else o ++ [r]) = o ++ [r]
        rw [if_neg hq])
theorem less_fold : ∀ (l2 l1 o : List S46), (∀ e ∈ l1 ++ l2, rOk e = true) → (l1 ++ l2).Pairwise (fun r q => rLt r q = true) → o.Sublist l1 → o.foldl lessStep [] = o → (∀ x, viewOf (lastF x o) = viewOf (lastF x l1)) →
    (l2.foldl lessStep o).Sublist (l1 ++ l2) ∧ (l2.foldl lessStep o).foldl lessStep [] = l2.foldl lessStep o ∧ ∀ x, viewOf (lastF x (l2.foldl lessStep o)) = viewOf (lastF x (l1 ++ l2))
  | [], l1, o, _, _, hs, hi, hv => by rw [List.append_nil]; exact ⟨hs, hi, hv⟩
  | r :: l2, l1, o, ho, hw, hs, hi, hv => by
    have hlt : ∀ e ∈ l1, rOk e = true ∧ rLt e r = true := fun e he => ⟨ho e (List.mem_append_left _ he), (List.pairwise_append.1 hw).2.2 e he r List.mem_cons_self⟩
    obtain ⟨s1, s2, s3⟩ := less_step hs hlt (ho r (List.mem_append_right _ List.mem_cons_self)) hi hv
    have ea : l1 ++ r :: l2 = (l1 ++ [r]) ++ l2 := by rw [List.append_assoc]; rfl
    rw [ea] at ho hw ⊢
    exact less_fold l2 (l1 ++ [r]) (lessStep o r) ho hw s1 s2 s3
/-- Fewer routes are routes, lead to the same, and can be made no fewer. -/
theorem less_same {l : List S46} (h : routesOk l = true) : routesOk (routesLess l) = true ∧ routesLess (routesLess l) = routesLess l ∧ ∀ x, viewOf (lastF x (routesLess l)) = viewOf (lastF x l) := by
  have hc : rChain none l = true := by have h' := h; unfold routesOk at h'; rw [Bool.and_eq_true] at h'; exact h'.1
  obtain ⟨s1, s2, s3⟩ := less_fold l [] [] (routesOk_all h) (chain_pair none l hc) (List.Sublist.refl _) rfl (fun _ => rfl)
  have e : routesLess l = l.foldl lessStep [] := by unfold routesLess; rw [if_pos h]
  have ho : routesOk (l.foldl lessStep []) = true := routesOk_sub h s1
  rw [e]
  refine ⟨ho, ?_, s3⟩
  unfold routesLess
  rw [if_pos ho]
  exact s2
theorem told_view {l : List S46} (h : routesOk l = true) (x : Int) : ∃ a b c d ok, routeTo l x = (a, b, c, d, ok) ∧ viewOf (lastF x l) = (c, d, ok) := by
  have e : lastF x l = ((bk l).find? (fitsQ x)).map Prod.snd := (bk_find l (fitsR x)).symm
  unfold routeTo
  rw [if_pos h, e]
  cases (bk l).find? (fitsQ x) with
  | none => exact ⟨_, _, _, _, _, rfl, rfl⟩
  | some q => exact ⟨_, _, _, _, _, rfl, rfl⟩
theorem sameRoutes_loop (a : List S46) (hn : a.length < 4611686018427387904) : ∀ (d k i : Nat), a.length - i = d → i ≤ a.length → d < k → laws_sameRoutes.l0 k a a (i : Int) = some true
  | 0, k, i, hd, hi, hk => by
    obtain ⟨k, rfl⟩ : ∃ m, k = m + 1 := ⟨k - 1, by omega⟩
    simp only [laws_sameRoutes.l0]
    rw [if_neg (by omega)]
  | d + 1, k, i, hd, hi, hk => by
    obtain ⟨k, rfl⟩ : ∃ m, k = m + 1 := ⟨k - 1, by omega⟩
    have e2 : wrap64 ((i : Int) + 1) = ((i + 1 : Nat) : Int) := by rw [w64 (by omega) (by omega)]; rfl
    simp only [laws_sameRoutes.l0, beq_self_eq_true, Bool.not_true, Bool.or_self, Bool.false_eq_true, if_false]
    rw [if_pos (by omega), if_pos (by omega), if_pos (by omega), e2, sameRoutes_loop a hn d k (i + 1) (by omega) (by omega) (by omega)]
theorem sameRoutes_self (a : List S46) (hn : a.length < 4611686018427387904) (k : Nat) (hk : a.length < k) : laws_sameRoutes.f k a a = some true := by
  unfold laws_sameRoutes.f
  rw [if_pos rfl]
  exact sameRoutes_loop a hn a.length k 0 (by omega) (by omega) hk

theorem specLess_find (l : List S46) (o : List S46) (ho : o.length ≤ 1000) (i : Nat) (hi : i < l.length) (hl : l.length ≤ 1000) (K : Nat) (R : List S46 → List S46)
    (hR : ∀ o' k', o'.length ≤ o.length + 1 → K ≤ k' → spec_RoutesLess.l0 k' l o' ((i + 1 : Nat) : Int) = some (R o')) : ∀ (m k : Nat), m ≤ o.length → K + 2 * m + 4 ≤ k →
    spec_RoutesLess.l1 k l o (i : Int) true ((m : Int) - 1) = some (R (lessPut o (rd_T46 l (i : Int)) (((bk o).drop (o.length - m)).find? fun q => decide (q.2.f1 < (rd_T46 l (i : Int)).f1) && fitsQ (rd_T46 l (i : Int)).f0 q))) := by
  have e2 : wrap64 ((i : Int) + 1) = ((i + 1 : Nat) : Int) := by rw [w64 (by omega) (by omega)]; rfl
  have hput : ∀ k', K ≤ k' → spec_RoutesLess.l0 k' l (o ++ [rd_T46 l (i : Int)]) ((i + 1 : Nat) : Int) = some (R (o ++ [rd_T46 l (i : Int)])) := fun k' hk' => hR _ k' (by rw [List.length_append]; simp) hk'
  intro m
  induction m with
  | zero =>
    intro k hm hk
    obtain ⟨k, rfl⟩ : ∃ j, k = j + 2 := ⟨k - 2, by omega⟩
    simp only [spec_RoutesLess.l1, spec_RoutesLess.j3, if_true, Bool.false_eq_true, if_false]
    rw [if_neg (by omega), if_pos (by omega), if_pos (by omega), if_pos (by omega), e2, List.drop_of_length_le (by rw [bk_len]; omega)]
    exact hput k (by omega)
  | succ m ih =>
    intro k hm hk
    obtain ⟨k, rfl⟩ : ∃ j, k = j + 2 := ⟨k - 2, by omega⟩
    have e0 : ((m + 1 : Nat) : Int) - 1 = (m : Int) := by omega
    have e1 : wrap64 ((m : Int) - 1) = (m : Int) - 1 := w64 (by omega) (by omega)
    rw [e0, bk_drop o m (by omega), List.find?_cons]
    simp only [spec_RoutesLess.l1, spec_RoutesLess.j3, if_true, Bool.false_eq_true, if_false]
    rw [if_pos (by omega), if_pos (by omega), if_pos (by omega), if_pos (by omega), if_pos (by omega), specRouteFits_eq, e1, e2]
    simp only [Option.bind_some]
    by_cases h1 : (rd_T46 o (m : Int)).f1 < (rd_T46 l (i : Int)).f1
    · rw [if_pos h1, decide_eq_true h1, Bool.true_and]
      show (if fitsQ (rd_T46 l (i : Int)).f0 ((m : Int), rd_T46 o (m : Int)) = true then _ else _) = _
      cases hf : fitsQ (rd_T46 l (i : Int)).f0 ((m : Int), rd_T46 o (m : Int)) with
      | true =>
        rw [if_pos rfl]
        show _ = some (R (if (rd_T46 o (m : Int)).f2 = (rd_T46 l (i : Int)).f2 ∧ (rd_T46 o (m : Int)).f3 = (rd_T46 l (i : Int)).f3 then o else o ++ [rd_T46 l (i : Int)]))
        by_cases h2 : (rd_T46 o (m : Int)).f2 = (rd_T46 l (i : Int)).f2
        · rw [if_pos h2]
          by_cases h3 : (rd_T46 o (m : Int)).f3 = (rd_T46 l (i : Int)).f3
          · rw [if_pos h3, if_pos ⟨h2, h3⟩]
            exact hR o k (by omega) (by omega)
          · rw [if_neg h3, if_pos (show o.length < 4398046511104 by omega), if_neg (fun h : (rd_T46 o (m : Int)).f2 = (rd_T46 l (i : Int)).f2 ∧ (rd_T46 o (m : Int)).f3 = (rd_T46 l (i : Int)).f3 => h3 h.2)]
            exact hput k (by omega)
        · rw [if_neg h2, if_pos (show o.length < 4398046511104 by omega), if_neg (fun h : (rd_T46 o (m : Int)).f2 = (rd_T46 l (i : Int)).f2 ∧ (rd_T46 o (m : Int)).f3 = (rd_T46 l (i : Int)).f3 => h2 h.1)]
          exact hput k (by omega)
      | false =>
        rw [if_neg (by decide)]
        exact ih k (by omega) (by omega)
    · rw [if_neg h1, decide_eq_false h1, Bool.false_and]
      exact ih k (by omega) (by omega)
theorem specLess_loop (l : List S46) (hok : routesOk l = true) : ∀ (d k i : Nat) (o : List S46), i + d = l.length → o.length ≤ i → 40 * d + 50 ≤ k → spec_RoutesLess.l0 k l o (i : Int) = some ((l.drop i).foldl lessStep o)
  | 0, k, i, o, hi, ho, hk => by
    obtain ⟨k, rfl⟩ : ∃ j, k = j + 2 := ⟨k - 2, by omega⟩
    simp only [spec_RoutesLess.l0, spec_RoutesLess.j1, Bool.false_eq_true, if_false]
    rw [if_neg (by omega), List.drop_of_length_le (by omega)]
    rfl
  | d + 1, k, i, o, hi, ho, hk => by
    have h8 := routesOk_len hok
    obtain ⟨k, rfl⟩ : ∃ j, k = j + 2 := ⟨k - 2, by omega⟩
    have e1 : wrap64 ((o.length : Int) - 1) = (o.length : Int) - 1 := w64 (by omega) (by omega)
    have h := specLess_find l o (by omega) i (by omega) (by omega) (40 * d + 50) (fun o' => (l.drop (i + 1)).foldl lessStep o') (fun o' k' h1 h2 => specLess_loop l hok d k' (i + 1) o' (by omega) (by omega) h2) o.length k (Nat.le_refl _) (by omega)
    simp only [spec_RoutesLess.l0]
    rw [if_pos (by omega), specRoutesOk_eq l (by omega) (k + 1) (by omega), hok]
    simp only [Option.bind_some, spec_RoutesLess.j1, if_true]
    rw [e1, h, Nat.sub_self, List.drop_zero, dropT l i (by omega), List.foldl_cons]
    rfl
theorem specRoutesLess_eq (l : List S46) (hl : l.length ≤ 1048576) (k : Nat) (hk : l.length + 500 ≤ k) : spec_RoutesLess.f k l = some (routesLess l) := by
  unfold spec_RoutesLess.f routesLess
  cases hok : routesOk l with
  | true =>
    rw [if_pos rfl]
    exact specLess_loop l hok l.length k 0 [] (by omega) (by simp) (by have := routesOk_len hok; omega)
  | false =>
    rw [if_neg (by decide)]
    obtain ⟨k, rfl⟩ : ∃ j, k = j + 2 := ⟨k - 2, by omega⟩
    simp only [spec_RoutesLess.l0, specRoutesOk_eq l (by omega) (k + 1) (by omega), hok, Option.bind_some, spec_RoutesLess.j1, Bool.false_eq_true, if_false, ite_self]

theorem implRouteTo2_eq (o : List S46) (ho : o.length ≤ 1000) (hall : ∀ r ∈ o, rOk r = true) (r : S46) (hr : rOk r = true) : impl_routeTo.f o r.f0 r.f1 = some (toldOf (lessFind o r)) := by
  have hb : ∀ q ∈ bk o, (0 ≤ q.2.f1 ∧ q.2.f1 ≤ 16) ∧ rOk q.2 = true := fun q hq => ⟨(routeOk_bits (hall _ (bk_mem hq))).1, hall _ (bk_mem hq)⟩
  have hx := (routeOk_bits hr).2
  have hfind : (bk o).find? (hit r.f0 r.f1) = lessFind o r := find_congr fun q hq => by
    obtain ⟨h1, h2⟩ := hb q hq
    unfold hit fitsQ routeFits
    rw [fits_eq h1, show routeOk q.2.f0 q.2.f1 q.2.f2 q.2.f3 = true from h2]
    by_cases h4 : r.f0 / rest q.2.f1 = q.2.f0 / rest q.2.f1 <;> simp [h4, hx]
  unfold impl_routeTo.f
  rw [if_pos ⟨by omega, List.all_eq_true.2 fun q hq => by rw [fits_eq (hb q hq).1]; rfl⟩, hfind]
  cases lessFind o r <;> rfl
theorem lessPut_all {o : List S46} (hall : ∀ r ∈ o, rOk r = true) {r : S46} (hr : rOk r = true) (f : Option (Int × S46)) : ∀ q ∈ lessPut o r f, rOk q = true := by
  have h2 : ∀ q ∈ o ++ [r], rOk q = true := fun q hq => (List.mem_append.1 hq).elim (hall q) (fun h => by rw [List.mem_singleton.1 h]; exact hr)
  unfold lessPut
  split
  · split
    · exact hall
    · exact h2
  · exact h2
theorem implLess_loop (l : List S46) (hok : routesOk l = true) : ∀ (d k i : Nat) (o : List S46), i + d = l.length → o.length ≤ i → (∀ r ∈ o, rOk r = true) → d < k → impl_RoutesLess.l0 k o l (l.length : Int) (i : Int) = some ((l.drop i).foldl lessStep o)
  | 0, k, i, o, hi, ho, ha, hk => by
    have h8 := routesOk_len hok
    obtain ⟨k, rfl⟩ : ∃ j, k = j + 1 := ⟨k - 1, by omega⟩
    simp only [impl_RoutesLess.l0]
    rw [if_neg (by omega), List.drop_of_length_le (by omega)]
    unfold impl_Route_75.f
    rw [if_pos (by omega)]
    rfl
  | d + 1, k, i, o, hi, ho, ha, hk => by
    have h8 := routesOk_len hok
    obtain ⟨k, rfl⟩ : ∃ j, k = j + 1 := ⟨k - 1, by omega⟩
    have e2 : wrap64 ((i : Int) + 1) = ((i + 1 : Nat) : Int) := by rw [w64 (by omega) (by omega)]; rfl
    have hr : rOk (rd_T46 l (i : Int)) = true := routesOk_all hok _ (by rw [rdT_nat l i (by omega)]; exact List.getElem_mem _)
    have hL := lessPut_len o (rd_T46 l (i : Int)) (lessFind o (rd_T46 l (i : Int)))
    have ih := implLess_loop l hok d k (i + 1) (lessStep o (rd_T46 l (i : Int))) (by omega) (by unfold lessStep; omega) (lessPut_all ha hr _) (by omega)
    rw [dropT l i (by omega), List.foldl_cons, ← ih]
    simp only [impl_RoutesLess.l0]
    rw [if_pos (by omega), if_pos (by omega), if_pos (by omega), e2]
    have e := implRouteTo2_eq o (by omega) ha _ hr
    unfold lessStep
    cases hf : lessFind o (rd_T46 l (i : Int)) with
    | none =>
      rw [hf] at e
      have e' : impl_routeTo.f o (rd_T46 l (i : Int)).f0 (rd_T46 l (i : Int)).f1 = some (0, 0, 0, 0, false) := e
      rw [e']
      simp only [Option.bind_some, Bool.false_eq_true, if_false]
      rw [if_pos (show o.length < 4398046511104 by omega)]
      rfl
    | some q =>
      rw [hf] at e
      have e' : impl_routeTo.f o (rd_T46 l (i : Int)).f0 (rd_T46 l (i : Int)).f1 = some (q.2.f0, q.2.f1, q.2.f2, q.2.f3, true) := e
      rw [e']
      simp only [Option.bind_some, if_true]
      show _ = impl_RoutesLess.l0 k (if q.2.f2 = (rd_T46 l (i : Int)).f2 ∧ q.2.f3 = (rd_T46 l (i : Int)).f3 then o else o ++ [rd_T46 l (i : Int)]) l (l.length : Int) ((i + 1 : Nat) : Int)
      by_cases h2 : q.2.f2 = (rd_T46 l (i : Int)).f2
      · rw [if_pos h2]
        by_cases h3 : q.2.f3 = (rd_T46 l (i : Int)).f3
        · rw [if_pos h3, if_pos (show q.2.f2 = (rd_T46 l (i : Int)).f2 ∧ q.2.f3 = (rd_T46 l (i : Int)).f3 from ⟨h2, h3⟩)]
        · rw [if_neg h3, if_pos (show o.length < 4398046511104 by omega), if_neg (fun h : q.2.f2 = (rd_T46 l (i : Int)).f2 ∧ q.2.f3 = (rd_T46 l (i : Int)).f3 => h3 h.2)]
      · rw [if_neg h2, if_pos (show o.length < 4398046511104 by omega), if_neg (fun h : q.2.f2 = (rd_T46 l (i : Int)).f2 ∧ q.2.f3 = (rd_T46 l (i : Int)).f3 => h2 h.1)]
theorem implRoutesLess_eq (l : List S46) (hl : l.length ≤ 1048576) (k : Nat) (hk : l.length + 500 ≤ k) : impl_RoutesLess.f k l = some (routesLess l) := by
  unfold impl_RoutesLess.f routesLess
  rw [implRoutesOk_eq l (by omega) k (by omega)]
  simp only [Option.bind_some]
  cases hok : routesOk l with
  | true =>
    rw [if_pos rfl, if_pos rfl]
    exact implLess_loop l hok l.length k 0 [] (by omega) (by simp) (fun r hr => by cases hr) (by omega)
  | false => rfl

theorem implRouteTo_eq (l : List S46) (hl : l.length ≤ 1048576) (x : Int) (k : Nat) (hk : l.length + 4 < k) : impl_RouteTo.f k l x = some (routeTo l x) := by
  unfold impl_RouteTo.f routeTo
  rw [implRoutesOk_eq l (by omega) k (by omega), word_eq]
  simp only [Option.bind_some]
  cases ho : routesOk l with
  | false => rfl
  | true =>
    rw [if_pos rfl, if_pos rfl]
    have hall := routesOk_all ho
    have hb : ∀ q ∈ bk l, (0 ≤ q.2.f1 ∧ q.2.f1 ≤ 16) ∧ rOk q.2 = true := fun q hq => ⟨(routeOk_bits (hall _ (bk_mem hq))).1, hall _ (bk_mem hq)⟩
    by_cases hx : 0 ≤ x ∧ x ≤ 65535
    · have hfind : (bk l).find? (hit x 17) = (bk l).find? (fitsQ x) := find_congr fun q hq => by
        obtain ⟨h1, h2⟩ := hb q hq
        unfold hit fitsQ routeFits
        rw [fits_eq h1, show routeOk q.2.f0 q.2.f1 q.2.f2 q.2.f3 = true from h2, decide_eq_true (show q.2.f1 < 17 by omega)]
        by_cases h4 : x / rest q.2.f1 = q.2.f0 / rest q.2.f1 <;> simp [h4, hx]
      rw [if_pos (by simp [hx])]
      unfold impl_routeTo.f
      rw [if_pos ⟨by omega, List.all_eq_true.2 fun q hq => by rw [fits_eq (hb q hq).1]; rfl⟩, hfind]
      cases (bk l).find? (fitsQ x) <;> rfl
    · have hfind : (bk l).find? (fitsQ x) = none := List.find?_eq_none.2 fun q hq => by
        unfold fitsQ routeFits
        simp [hx]
      rw [if_neg (by simp [hx]), hfind]
      rfl

/-- What pick draws. -/
def pk (b : List Int) (p n : Int) : Int := ((spec_l20Rd_pick.f 1 b p n).getD (0, 0)).1
theorem pick_f (b : List Int) (hb : Bytes b) (hl : b.length ≤ 2000) (p n : Int) (h0 : 0 ≤ p) (h1 : p ≤ 1073741824) (h2 : -2147483648 ≤ n) (h3 : n ≤ 65536) (k : Nat) :
    ∃ v, spec_l20Rd_pick.f (k + 1) b p n = some (v, p + 1) ∧ 0 ≤ v ∧ (1 ≤ n → v < n) ∧ (n < 1 → v = 0) := by
  have ep : wrap64 (p + 1) = p + 1 := w64 (by omega) (by omega)
  have ep' : wrap64 (p + 1 - 1) = p := by rw [w64 (by omega) (by omega)]; omega
  unfold spec_l20Rd_pick.f
  rw [ep]
  simp only [spec_l20Rd_pick.j0, ep']
  by_cases hn : n < 1
  · rw [if_pos hn, if_pos trivial]
    exact ⟨0, rfl, by omega, fun h => by omega, fun _ => rfl⟩
  rw [if_neg hn]
  by_cases he : (b.length : Int) = 0
  · rw [if_pos (by simpa using he)]
    exact ⟨0, rfl, by omega, fun h => by omega, fun _ => rfl⟩
  rw [if_neg (by simpa using he)]
  by_cases hp : p < (b.length : Int)
  · rw [if_pos hp, if_pos h0, if_neg (by omega)]
    have hr := hb.at_ p
    rw [w64 (x := rd b p) (by omega) (by omega)]
    refine ⟨_, rfl, Int.tmod_nonneg _ hr.1, fun _ => ?_, fun h => by omega⟩
    rw [Int.tmod_eq_emod_of_nonneg hr.1]
    exact Int.emod_lt_of_pos _ (by omega)
  rw [if_neg hp]
  have m1 : 0 ≤ Int.tmod p (b.length : Int) ∧ Int.tmod p (b.length : Int) < (b.length : Int) := by
    rw [Int.tmod_eq_emod_of_nonneg h0]; exact ⟨Int.emod_nonneg _ he, Int.emod_lt_of_pos _ (by omega)⟩
  have e7 : wrap64 (wrap64 (p * 7) + 3) = p * 7 + 3 := by rw [w64 (x := p * 7) (by omega) (by omega), w64 (by omega) (by omega)]
  have m2 : 0 ≤ Int.tmod (p * 7 + 3) (b.length : Int) ∧ Int.tmod (p * 7 + 3) (b.length : Int) < (b.length : Int) := by
    rw [Int.tmod_eq_emod_of_nonneg (by omega)]; exact ⟨Int.emod_nonneg _ he, Int.emod_lt_of_pos _ (by omega)⟩
  rw [if_neg he, if_pos m1.1, if_pos m1.2, e7, if_pos m2.1, if_pos m2.2, if_neg (show ¬ n = 0 by omega)]
  have r1 := hb.at_ (Int.tmod p (b.length : Int))
  have r2 := hb.at_ (Int.tmod (p * 7 + 3) (b.length : Int))
  generalize rd b (Int.tmod p (b.length : Int)) = x1 at r1 ⊢
  generalize rd b (Int.tmod (p * 7 + 3) (b.length : Int)) = x2 at r2 ⊢
  have q0 : Int.tdiv p (b.length : Int) = p / (b.length : Int) := Int.tdiv_eq_ediv_of_nonneg h0
  have q1 : 0 ≤ p / (b.length : Int) := Int.ediv_nonneg h0 (by omega)
  have q2 : p / (b.length : Int) ≤ p := Int.ediv_le_self _ h0
  rw [q0]
  generalize p / (b.length : Int) = q at q1 q2 ⊢
  rw [w64 (x := x1) (by omega) (by omega), w64 (x := x2) (by omega) (by omega), w64 (x := x1 * 131) (by omega) (by omega), w64 (x := x2 * 1117) (by omega) (by omega), w64 (x := p * 29) (by omega) (by omega),
    w64 (x := q) (by omega) (by omega), w64 (x := q * 53) (by omega) (by omega), w64 (x := x1 * 131 + x2 * 1117) (by omega) (by omega), w64 (x := x1 * 131 + x2 * 1117 + p * 29) (by omega) (by omega), w64 (x := x1 * 131 + x2 * 1117 + p * 29 + q * 53) (by omega) (by omega)]
  obtain ⟨y, hy⟩ : ∃ y : Nat, x1 * 131 + x2 * 1117 + p * 29 + q * 53 = (y : Int) := ⟨(x1 * 131 + x2 * 1117 + p * 29 + q * 53).toNat, by omega⟩
  have hy2 : y < 1099511627776 := by omega
  rw [hy]
  have d0 : Int.tdiv (y : Int) 64 = ((y / 64 : Nat) : Int) := by rw [Int.tdiv_eq_ediv_of_nonneg (by omega)]; rfl
  have hz : y / 64 < 1099511627776 := by omega
  rw [d0, w64 (x := ((y / 64 : Nat) : Int)) (by omega) (by omega)]
  obtain ⟨ex, lx⟩ := xor_i64 y (y / 64) hy2 hz
  rw [ex]
  refine ⟨_, rfl, Int.tmod_nonneg _ (by omega), fun _ => ?_, fun h => by omega⟩
  rw [Int.tmod_eq_emod_of_nonneg (by omega)]
  exact Int.emod_lt_of_pos _ (by omega)
theorem pick_one (b : List Int) (p n : Int) (k : Nat) : spec_l20Rd_pick.f (k + 1) b p n = spec_l20Rd_pick.f 1 b p n := by
  unfold spec_l20Rd_pick.f
  simp only [spec_l20Rd_pick.j0]
theorem pick_eq {b : List Int} (hb : Bytes b) (hl : b.length ≤ 2000) {p n : Int} (h0 : 0 ≤ p) (h1 : p ≤ 1073741824) (h2 : -2147483648 ≤ n) (h3 : n ≤ 65536) {k : Nat} (hk : 1 ≤ k) : spec_l20Rd_pick.f k b p n = some (pk b p n, p + 1) := by
  obtain ⟨k, rfl⟩ : ∃ m, k = m + 1 := ⟨k - 1, by omega⟩
  rw [pick_one]
  obtain ⟨v, hv, _⟩ := pick_f b hb hl p n h0 h1 h2 h3 0
  unfold pk
  rw [hv]; rfl
theorem pk_range {b : List Int} (hb : Bytes b) (hl : b.length ≤ 2000) {p n : Int} (h0 : 0 ≤ p) (h1 : p ≤ 1073741824) (h2 : 1 ≤ n) (h3 : n ≤ 65536) : 0 ≤ pk b p n ∧ pk b p n < n := by
  obtain ⟨v, hv, g0, g1, _⟩ := pick_f b hb hl p n h0 h1 (by omega) h3 0
  unfold pk
  rw [hv]; exact ⟨g0, g1 h2⟩
/-- The bytes that are drawn from. -/
theorem open_eq (l : List Int) (hb : Bytes l) : ∃ b, spec_l20Open.f l = some (b, 0) ∧ Bytes b ∧ b.length ≤ 2000 := by
  unfold spec_l20Open.f
  by_cases h : (l.length : Int) > 2000
  · rw [if_pos h, if_pos (by omega)]
    exact ⟨_, rfl, hb.take _, by simp; omega⟩
  · rw [if_neg h]
    exact ⟨_, rfl, hb, by omega⟩

/-- odd tells just this. -/
theorem odd_eq {b : List Int} (hb : Bytes b) (hl : b.length ≤ 2000) {p n : Int} (h0 : 0 ≤ p) (h1 : p ≤ 1073741824) (h2 : 0 ≤ n) (h3 : n ≤ 65536) {k : Nat} (hk : 1 ≤ k) :
    ∃ o p', spec_l20Rd_odd.f k b p n = some (o, p') ∧ p ≤ p' ∧ p' ≤ p + 1 ∧ (n = 0 → o = false) := by
  unfold spec_l20Rd_odd.f
  by_cases h : n > 0
  · rw [if_pos h, pick_eq hb hl h0 h1 (by omega) h3 hk]
    exact ⟨_, _, rfl, by omega, by omega, fun h => by omega⟩
  · rw [if_neg h]
    exact ⟨_, _, rfl, by omega, by omega, fun _ => rfl⟩

theorem rd_bits {i v : Int} (h : 0 ≤ i ∧ i < 7) (hv : 0 ≤ v ∧ v < 17) : 0 ≤ rd [0, 4, 8, 8, 12, 16, v] i ∧ rd [0, 4, 8, 8, 12, 16, v] i ≤ 16 := by
  rcases (by omega : i = 0 ∨ i = 1 ∨ i = 2 ∨ i = 3 ∨ i = 4 ∨ i = 5 ∨ i = 6) with rfl | rfl | rfl | rfl | rfl | rfl | rfl
  · show 0 ≤ (0 : Int) ∧ (0 : Int) ≤ 16
    decide
  · show 0 ≤ (4 : Int) ∧ (4 : Int) ≤ 16
    decide
  · show 0 ≤ (8 : Int) ∧ (8 : Int) ≤ 16
    decide
  · show 0 ≤ (8 : Int) ∧ (8 : Int) ≤ 16
    decide
  · show 0 ≤ (12 : Int) ∧ (12 : Int) ≤ 16
    decide
  · show 0 ≤ (16 : Int) ∧ (16 : Int) ≤ 16
    decide
  · show 0 ≤ v ∧ v ≤ 16
    omega
theorem drawRoute_eq {b : List Int} (hb : Bytes b) (hl : b.length ≤ 2000) {p m : Int} (h0 : 0 ≤ p) (h1 : p ≤ 268435456) (hm0 : 0 ≤ m) (hm1 : m ≤ 65536) {k : Nat} (hk : 1 ≤ k) :
    ∃ a n v r p', spec_l20Route.f k b p m = some (a, n, v, r, p') ∧ p ≤ p' ∧ p' ≤ p + 9 := by
  obtain ⟨k, rfl⟩ : ∃ m, k = m + 1 := ⟨k - 1, by omega⟩
  unfold spec_l20Route.f
  rw [pick_eq hb hl h0 (by omega) (by omega) (by omega) hk]
  simp only [Option.bind_some]
  rw [pick_eq hb hl (p := p + 1) (n := 7) (by omega) (by omega) (by omega) (by omega) hk]
  simp only [Option.bind_some]
  have r1 := pk_range hb hl (p := p) (n := 17) (by omega) (by omega) (by omega) (by omega)
  have r2 := pk_range hb hl (p := p + 1) (n := 7) (by omega) (by omega) (by omega) (by omega)
  rw [if_pos r2.1, if_pos (by simp only [List.length_cons, List.length_nil]; omega)]
  rw [pick_eq hb hl (p := p + 1 + 1) (n := 512) (by omega) (by omega) (by omega) (by omega) hk]
  simp only [Option.bind_some]
  rw [pick_eq hb hl (p := p + 1 + 1 + 1) (n := 6) (by omega) (by omega) (by omega) (by omega) hk]
  simp only [Option.bind_some]
  have r3 := pk_range hb hl (p := p + 1 + 1 + 1) (n := 6) (by omega) (by omega) (by omega) (by omega)
  rw [if_pos r3.1, if_pos (by simp only [List.length_cons, List.length_nil]; omega)]
  obtain ⟨e1, e2, e3, e4⟩ := rest_shl (rd_bits r2 r1)
  generalize rd [0, 4, 8, 8, 12, 16, pk b p 17] (pk b (p + 1) 7) = bits at e1 e2 e3 e4 ⊢
  generalize rd [0, 4096, 4352, 4353, wrap64 (4096 + pk b (p + 1 + 1) 512), 65535] (pk b (p + 1 + 1 + 1) 6) = adr
  rw [if_pos e1, if_neg (show ¬ shl .i64 1 (wrap64 (16 - bits)) = 0 by rw [e2]; omega)]
  rw [pick_eq hb hl (p := p + 1 + 1 + 1 + 1) (n := 3) (by omega) (by omega) (by omega) (by omega) hk]
  simp only [Option.bind_some]
  rw [pick_eq hb hl (p := p + 1 + 1 + 1 + 1 + 1) (n := 3) (by omega) (by omega) (by omega) (by omega) hk]
  simp only [Option.bind_some]
  obtain ⟨o, p2, e5, g5, g6, g7⟩ := odd_eq hb hl (p := p + 1 + 1 + 1 + 1 + 1 + 1) (n := m) (by omega) (by omega) hm0 hm1 hk
  simp only [e5, Option.bind_some]
  cases o with
  | false =>
    rw [if_neg (by decide)]
    exact ⟨_, _, _, _, _, rfl, by omega, by omega⟩
  | true =>
    simp only [if_true]
    rw [pick_eq hb hl (p := p2) (n := 3) (by omega) (by omega) (by omega) (by omega) hk]
    simp only [Option.bind_some]
    rw [pick_eq hb hl (p := p2 + 1) (n := 2) (by omega) (by omega) (by omega) (by omega) hk]
    simp only [Option.bind_some]
    split
    · exact ⟨_, _, _, _, _, rfl, by omega, by omega⟩
    · split
      · exact ⟨_, _, _, _, _, rfl, by omega, by omega⟩
      · exact ⟨_, _, _, _, _, rfl, by omega, by omega⟩

theorem routePut_end (l o : List S46) (hl : l.length ≤ 16) (a b v r : Int) (k : Nat) (hk : l.length + 1 < k) : ∃ q, spec_RoutePut.j2 k l o a b v r = some q ∧ q.1.length ≤ 8 := by
  obtain ⟨k, rfl⟩ : ∃ m, k = m + 1 := ⟨k - 1, by omega⟩
  simp only [spec_RoutePut.j2, specRoutesOk_eq l (by omega) k (by omega), specRouteOk_eq, Option.bind_some]
  split
  · split
    · split
      · exact ⟨_, rfl, by simp⟩
      · exact ⟨_, rfl, by show o.length ≤ 8; omega⟩
    · exact ⟨_, rfl, by simp⟩
  · exact ⟨_, rfl, by simp⟩
theorem routePut_loop (l : List S46) (hl : l.length ≤ 16) (a b v r : Int) : ∀ (d k i : Nat) (o : List S46) (z : Bool), l.length - i = d → i ≤ l.length → o.length ≤ 2 * i → 2 * d + l.length + 4 < k →
    ∃ q, spec_RoutePut.l0 k l o z (i : Int) a b v r = some q ∧ q.1.length ≤ 8 := by
  intro d
  induction d with
  | zero =>
    intro k i o z hd hi ho hk
    obtain ⟨k, rfl⟩ : ∃ m, k = m + 1 := ⟨k - 1, by omega⟩
    simp only [spec_RoutePut.l0]
    rw [if_neg (by omega)]
    split
    · exact routePut_end l o hl a b v r k (by omega)
    · rw [if_pos (by omega)]
      exact routePut_end l _ hl a b v r k (by omega)
  | succ d ih =>
    intro k i o z hd hi ho hk
    obtain ⟨k, rfl⟩ : ∃ m, k = m + 2 := ⟨k - 2, by omega⟩
    have e1 : wrap64 ((i : Int) + 1) = ((i + 1 : Nat) : Int) := by rw [w64 (by omega) (by omega)]; rfl
    have hj : ∀ z x a' b' v' r', ∃ q, spec_RoutePut.j1 (k + 1) l o z (i : Int) x a b v r a' b' v' r' = some q ∧ q.1.length ≤ 8 := by
      intro z x a' b' v' r'
      simp only [spec_RoutePut.j1, e1, Option.bind_some]
      have g1 : o.length < 4398046511104 := by omega
      have g2 : ∀ y : S46, (o ++ [y]).length < 4398046511104 := by intro y; rw [List.length_append]; simp only [List.length_cons, List.length_nil]; omega
      have g3 : ∀ y : S46, (o ++ [y]).length ≤ 2 * (i + 1) := by intro y; rw [List.length_append]; simp only [List.length_cons, List.length_nil]; omega
      have g4 : ∀ y y' : S46, (o ++ [y] ++ [y']).length ≤ 2 * (i + 1) := by intro y y'; rw [List.length_append, List.length_append]; simp only [List.length_cons, List.length_nil]; omega
      simp only [if_pos g1, if_pos (g2 _)]
      split
      · split
        · split
          · exact ih k (i + 1) _ _ (by omega) (by omega) (g3 _) (by omega)
          · exact ih k (i + 1) _ _ (by omega) (by omega) (g4 _ _) (by omega)
        · exact ih k (i + 1) _ _ (by omega) (by omega) (g4 _ _) (by omega)
      · split
        · split
          · exact ih k (i + 1) _ _ (by omega) (by omega) (by omega) (by omega)
          · exact ih k (i + 1) _ _ (by omega) (by omega) (g3 _) (by omega)
        · exact ih k (i + 1) _ _ (by omega) (by omega) (g3 _) (by omega)
    simp only [spec_RoutePut.l0]
    rw [if_pos (by omega), if_pos (by omega)]
    split
    · exact hj _ _ _ _ _ _
    · split
      · exact hj _ _ _ _ _ _
      · split
        · exact hj _ _ _ _ _ _
        · exact hj _ _ _ _ _ _
theorem routePut_eq (l : List S46) (hl : l.length ≤ 16) (a b v r : Int) (k : Nat) (hk : 60 ≤ k) : ∃ q, spec_RoutePut.f k l a b v r = some q ∧ q.1.length ≤ 8 := by
  unfold spec_RoutePut.f
  exact routePut_loop l hl a b v r l.length k 0 [] false (by omega) (by omega) (by simp) (by omega)

theorem drawRoutes_loop {b : List Int} (hb : Bytes b) (hl : b.length ≤ 2000) (m : Int) (hm0 : 0 ≤ m) (hm1 : m ≤ 65536) : ∀ (d k : Nat) (o : List S46) (p : Int), d ≤ 8 → o.length ≤ 8 → 0 ≤ p → p ≤ 100 + 9 * (8 - (d : Int)) → d + 62 ≤ k →
    ∃ L p', spec_l20Routes.l0 k m o (d : Int) b p = some (L, p') ∧ L.length ≤ 9 ∧ 0 ≤ p' ∧ p' ≤ 300 := by
  intro d
  induction d with
  | zero =>
    intro k o p hd ho hp hp2 hk
    obtain ⟨k, rfl⟩ : ∃ m, k = m + 1 := ⟨k - 1, by omega⟩
    obtain ⟨z, p2, e5, g5, g6, g7⟩ := odd_eq hb hl (p := p) (n := m) (by omega) (by omega) hm0 hm1 (k := k) (by omega)
    obtain ⟨a, n, v, r, p3, e, h1, h2⟩ := drawRoute_eq hb hl (p := p2) (m := 2) (by omega) (by omega) (by omega) (by omega) (k := k) (by omega)
    simp only [spec_l20Routes.l0]
    rw [if_neg (by omega)]
    simp only [e5, e, Option.bind_some]
    split
    · rw [if_pos (by omega)]
      exact ⟨_, _, rfl, by rw [List.length_append]; simp only [List.length_cons, List.length_nil]; omega, by omega, by omega⟩
    · exact ⟨_, _, rfl, by omega, by omega, by omega⟩
  | succ d ih =>
    intro k o p hd ho hp hp2 hk
    obtain ⟨k, rfl⟩ : ∃ m, k = m + 1 := ⟨k - 1, by omega⟩
    obtain ⟨a, n, v, r, p3, e, h1, h2⟩ := drawRoute_eq hb hl (p := p) (m := 0) (by omega) (by omega) (by omega) (by omega) (k := k) (by omega)
    obtain ⟨q, e2, h3⟩ := routePut_eq o (by omega) a n v r k (by omega)
    have e1 : wrap64 (((d + 1 : Nat) : Int) - 1) = (d : Int) := by rw [w64 (by omega) (by omega)]; omega
    simp only [spec_l20Routes.l0]
    rw [if_pos (by omega)]
    simp only [e, e2, e1, Option.bind_some]
    split
    · exact ih k _ _ (by omega) h3 (by omega) (by omega) (by omega)
    · exact ih k _ _ (by omega) ho (by omega) (by omega) (by omega)
theorem drawRoutes_eq {b : List Int} (hb : Bytes b) (hl : b.length ≤ 2000) {m p : Int} (hm0 : 0 ≤ m) (hm1 : m ≤ 65536) (hp : 0 ≤ p) (hp1 : p ≤ 90) (k : Nat) (hk : 70 ≤ k) :
    ∃ L p', spec_l20Routes.f k b p m = some (L, p') ∧ L.length ≤ 9 ∧ 0 ≤ p' ∧ p' ≤ 300 := by
  unfold spec_l20Routes.f
  rw [pick_eq hb hl (p := p) (n := 8) (by omega) (by omega) (by omega) (by omega) (by omega)]
  simp only [Option.bind_some]
  have r1 := pk_range hb hl (p := p) (n := 8) (by omega) (by omega) (by omega) (by omega)
  obtain ⟨d, hd⟩ : ∃ d : Nat, pk b p 8 = (d : Int) := ⟨(pk b p 8).toNat, by omega⟩
  rw [hd] at r1 ⊢
  exact drawRoutes_loop hb hl m hm0 hm1 d k [] (p + 1) (by omega) (by simp) (by omega) (by omega) (by omega)

theorem implbytesOf_loop : ∀ (i k : Nat) (v : Int) (o : List Int), i < k → i ≤ o.length → o.length < 4611686018427387904 →
    impl_bytesOf.l0 k v o ((i : Int) - 1) = some (be i v ++ o.drop i)
  | 0, k, v, o, hk, hi, hl => by
    obtain ⟨k, rfl⟩ : ∃ m, k = m + 1 := ⟨k - 1, by omega⟩
    simp only [impl_bytesOf.l0]
    rw [if_neg (by omega)]; simp [be]
  | i + 1, k, v, o, hk, hi, hl => by
    obtain ⟨k, rfl⟩ : ∃ m, k = m + 1 := ⟨k - 1, by omega⟩
    have e1 : ((i + 1 : Nat) : Int) - 1 = (i : Int) := by omega
    have e2 : wrap64 ((i : Int) - 1) = (i : Int) - 1 := w64 (by omega) (by omega)
    have e3 : ((i : Int)).toNat = i := by omega
    rw [e1]
    simp only [impl_bytesOf.l0]
    rw [if_pos (by omega), if_pos (by omega), if_pos (by omega), e2, implbytesOf_loop i k _ _ (by omega) (by simp; omega) (by simpa using hl), e3, drop_rd _ i (by simp; omega), rd_set_eq _ _ _ (by omega), List.drop_set_of_lt (by omega)]
    simp [be]
theorem implbytesOf_eq (v n : Int) (h0 : 0 ≤ n) (h1 : n ≤ 1073741824) (k : Nat) (hk : n.toNat < k) : impl_bytesOf.f k v n = some (be n.toNat v) := by
  unfold impl_bytesOf.f
  rw [if_pos h0, if_pos (by omega), w64 (by omega) (by omega)]
  obtain ⟨n, rfl⟩ : ∃ m : Nat, n = m := ⟨n.toNat, by omega⟩
  rw [implbytesOf_loop n k v _ (by omega) (by simp) (by simp; omega)]
  simp

/-- A number as n bytes, n in 1..4; none for others. -/
def bytesV (v n : Int) : List Int := if (1 ≤ n ∧ n ≤ 4) ∧ 0 ≤ v ∧ v < 256 ^ n.toNat then be n.toNat v else []
theorem four {n : Int} (h : 1 ≤ n ∧ n ≤ 4) : n = 1 ∨ n = 2 ∨ n = 3 ∨ n = 4 := by omega
theorem lim_of (n : Int) (h : 1 ≤ n ∧ n ≤ 4) : wrap64 (shl .i64 1 (wrap64 (8 * n)) - 1) = 256 ^ n.toNat - 1 ∧ 0 ≤ wrap64 (8 * n) := by
  rcases four h with rfl | rfl | rfl | rfl <;> decide +kernel
theorem bytesV_length (v n : Int) : (bytesV v n).length ≤ 4 := by
  unfold bytesV; split
  · rw [be_length]; omega
  · simp
theorem bytesV_bytes (v n : Int) : Bytes (bytesV v n) := by
  unfold bytesV; split
  · exact be_bytes _ _
  · exact Bytes.nil

theorem implBytesOf_eq (v n : Int) (k : Nat) (hk : 6 ≤ k) : impl_BytesOf.f k v n = some (bytesV v n) := by
  unfold impl_BytesOf.f bytesV
  simp only [in_eq, Option.bind_some]
  by_cases h1 : 1 ≤ n ∧ n ≤ 4
  · obtain ⟨e1, e2⟩ := lim_of n h1
    rw [if_pos (decide_eq_true h1), if_pos e2, e1]
    by_cases h2 : 0 ≤ v ∧ v ≤ 256 ^ n.toNat - 1
    · rw [if_pos (decide_eq_true h2), implbytesOf_eq v n (by omega) (by omega) k (by omega), if_pos ⟨h1, h2.1, by omega⟩]; rfl
    · rw [if_neg (by simpa using h2), if_neg (by omega)]
  · rw [if_neg (by simpa using h1), if_neg (fun h => h1 h.1)]

theorem alive_eq (k : Nat) (hk : 6 ≤ k) : laws_alive.f k = some true := by
  unfold laws_alive.f
  simp only [implBytesOf_eq _ _ k hk, Option.bind_some]
  rfl

theorem FnRoutesLess_loop (L : List S46) (hL : L.length ≤ 9) (xs : List Int) (hxs : xs.length ≤ 100) : ∀ (d k i : Nat), xs.length - i = d → i ≤ xs.length → d + 520 ≤ k → laws_FnRoutesLess.l0 k L (routesLess L) xs (xs.length : Int) (i : Int) = some true := by
  have hW := routesLess_len L
  have hk2 : routesOk (routesLess L) = true ∧ routesLess (routesLess L) = routesLess L := by
    cases ho : routesOk L with
    | true => exact ⟨(less_same ho).1, (less_same ho).2.1⟩
    | false =>
      have e : routesLess L = [] := by unfold routesLess; rw [ho]; rfl
      rw [e]
      exact ⟨by decide, by decide⟩
  intro d
  induction d with
  | zero =>
    intro k i hd hi hk
    obtain ⟨k, rfl⟩ : ∃ m, k = m + 1 := ⟨k - 1, by omega⟩
    simp only [laws_FnRoutesLess.l0]
    rw [if_neg (by omega), implRoutesOk_eq _ (by omega) k (by omega), hk2.1]
    simp only [Option.bind_some, if_true]
    rw [if_pos (by omega), implRoutesLess_eq _ (by omega) k (by omega), hk2.2]
    simp only [Option.bind_some, sameRoutes_self _ (show (routesLess L).length < 4611686018427387904 by omega) k (by omega), if_true, alive_eq k (by omega)]
  | succ d ih =>
    intro k i hd hi hk
    obtain ⟨k, rfl⟩ : ∃ m, k = m + 1 := ⟨k - 1, by omega⟩
    have e1 : wrap64 ((i : Int) + 1) = ((i + 1 : Nat) : Int) := by rw [w64 (by omega) (by omega)]; rfl
    have hn := ih k (i + 1) (by omega) (by omega) (by omega)
    simp only [laws_FnRoutesLess.l0]
    rw [if_pos (by omega), if_pos (by omega), if_pos (by omega), e1, hn]
    generalize rd xs (i : Int) = x
    simp only [implRouteTo_eq L (by omega) x k (by omega), implRouteTo_eq (routesLess L) (by omega) x k (by omega), implRoutesOk_eq L (by omega) k (by omega), Option.bind_some]
    cases ho : routesOk L with
    | false => rw [if_neg (by decide)]
    | true =>
      obtain ⟨a, b, c, e, ok, t1, v1⟩ := told_view ho x
      obtain ⟨a', b', c', e', ok', t2, v2⟩ := told_view hk2.1 x
      have hv := (less_same ho).2.2 x
      rw [v1, v2] at hv
      simp only [Prod.mk.injEq] at hv
      obtain ⟨rfl, rfl, rfl⟩ := hv
      rw [t1, t2]
      simp only [if_true, bne_self_eq_false, Bool.false_eq_true, if_false]
theorem FnRoutesLess : laws_FnRoutesLess.Pure := by
  intro l hm hl hw
  refine ⟨700, ?_⟩
  obtain ⟨b, hb1, hb2, hb3⟩ := open_eq l (Bytes.of_wf hw)
  obtain ⟨L, p', e, hL, hp0, hp1⟩ := drawRoutes_eq hb2 hb3 (p := 0) (m := 15) (by omega) (by omega) (by omega) (by omega) 700 (by omega)
  unfold laws_FnRoutesLess.f
  by_cases h : (l.length : Int) > 1048576
  · rw [if_pos h]
  rw [if_neg h]
  have hW := routesLess_len L
  unfold spec_DrawRoutesLess.f laws_someAddrs.f
  simp only [hb1, e, Option.bind_some, implRoutesLess_eq L (by omega) 700 (by omega), specRoutesLess_eq L (by omega) 700 (by omega), sameRoutes_self (routesLess L) (by omega) 700 (by omega), if_true]
  exact FnRoutesLess_loop L hL _ (by decide) 14 700 0 (by decide) (by decide) (by omega)

end Go.Proofs.Ytbjfnpjkldfeiaa.Pure

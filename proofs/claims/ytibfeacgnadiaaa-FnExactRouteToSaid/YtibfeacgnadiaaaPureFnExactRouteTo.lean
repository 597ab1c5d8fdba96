/- RouteTo of the program is the reference's at all lists of routes; the statement's own bounds alone. -/
import Derived.Test.YtibfeacgnadiaaaPFnExactRouteTox5
import Derived.Test.YtibfeacgnadiaaaBase
import Derived.Test.YtibfeacgnadiaaaArgFnExactRouteTo
namespace Go.Proofs.Ytibfeacgnadiaaa.Pure
set_option linter.unusedSimpArgs false
set_option linter.unusedVariables false
open Go Go.RowKit Go.Proofs.Ytibfeacgnadiaaa.PFnExactRouteTo Go.Proofs.YtibfeacgnadiaaaW.PrintWords Go.Proofs.YtibfeacgnadiaaaW.PrintLast Go.Proofs.YtibfeacgnadiaaaW.PrintMore Go.Proofs.Ytibfeacgnadiaaa.Base

theorem l1In_eq (a b c : Int) : spec_l1In.f a b c = some (decide (b ≤ a ∧ a ≤ c)) := by
  unfold spec_l1In.f
  by_cases h : a ≥ b <;> simp [h]

theorem in_eq (a b c : Int) : impl_in.f a b c = some (decide (b ≤ a ∧ a ≤ c)) := by
  unfold impl_in.f
  by_cases h : a ≥ b <;> simp [h]

theorem word_eq (a : Int) : impl_word.f a = some (decide (0 ≤ a ∧ a ≤ 65535)) := by
  unfold impl_word.f
  rw [in_eq]; rfl

/-- How many addresses have the same first bits. -/
def rest (b : Int) : Int := 2 ^ (16 - b).toNat
theorem rest_cases {b : Int} (h : 0 ≤ b ∧ b ≤ 16) : b = 0 ∨ b = 1 ∨ b = 2 ∨ b = 3 ∨ b = 4 ∨ b = 5 ∨ b = 6 ∨ b = 7 ∨ b = 8 ∨ b = 9 ∨ b = 10 ∨ b = 11 ∨ b = 12 ∨ b = 13 ∨ b = 14 ∨ b = 15 ∨ b = 16 := by omega
theorem rest_shl {b : Int} (h : 0 ≤ b ∧ b ≤ 16) : 0 ≤ wrap64 (16 - b) ∧ shl .i64 1 (wrap64 (16 - b)) = rest b ∧ 0 < rest b ∧ rest b ≤ 65536 := by
  rcases rest_cases h with rfl | rfl | rfl | rfl | rfl | rfl | rfl | rfl | rfl | rfl | rfl | rfl | rfl | rfl | rfl | rfl | rfl <;> decide +kernel
theorem rest_shr {b : Int} (h : 0 ≤ b ∧ b ≤ 16) (x : Int) : shr .i64 x (wrap64 (16 - b)) = x / rest b := by
  rw [w64 (by omega) (by omega)]
  unfold shr rest
  rw [Nat.min_eq_left (show (16 - b).toNat ≤ IntKind.i64.bits by simp [IntKind.bits]; omega)]
/-- A route is ok. -/
def routeOk (a b v r : Int) : Bool := decide ((0 ≤ b ∧ b ≤ 16) ∧ (0 ≤ a ∧ a ≤ 65535) ∧ a % rest b = 0 ∧ (0 ≤ v ∧ v ≤ 65535) ∧ (1 ≤ r ∧ r ≤ 48))
theorem specRouteOk_eq (a b v r : Int) : spec_RouteOk.f a b v r = some (routeOk a b v r) := by
  unfold spec_RouteOk.f routeOk spec_l6Rest.f
  simp only [l1In_eq, Option.bind_some]
  by_cases h1 : 0 ≤ b ∧ b ≤ 16
  · obtain ⟨e1, e2, e3, e4⟩ := rest_shl h1
    rw [if_pos e1, e2]
    by_cases h2 : 0 ≤ a ∧ a ≤ 65535
    · simp only [Option.bind_some, if_neg (show ¬ rest b = 0 by omega), Int.tmod_eq_emod_of_nonneg h2.1]
      by_cases h3 : a % rest b = 0 <;> by_cases h4 : 0 ≤ v ∧ v ≤ 65535 <;> simp [h1, h2, h3, h4]
    · simp [h1, h2]
  · simp [h1]
theorem implRouteOk_eq (a b v r : Int) : impl_RouteOk.f a b v r = some (routeOk a b v r) := by
  unfold impl_RouteOk.f routeOk
  simp only [in_eq, word_eq, Option.bind_some]
  by_cases h1 : 0 ≤ b ∧ b ≤ 16
  · obtain ⟨e1, e2, e3, e4⟩ := rest_shl h1
    rw [if_pos e1, e2]
    by_cases h2 : 0 ≤ a ∧ a ≤ 65535
    · simp only [if_neg (show ¬ rest b = 0 by omega), Int.tmod_eq_emod_of_nonneg h2.1]
      by_cases h3 : a % rest b = 0 <;> by_cases h4 : 0 ≤ v ∧ v ≤ 65535 <;> simp [h1, h2, h3, h4]
    · simp [h1, h2]
  · simp [h1]
theorem routeOk_bits {a b v r : Int} (h : routeOk a b v r = true) : (0 ≤ b ∧ b ≤ 16) ∧ (0 ≤ a ∧ a ≤ 65535) := by
  have := of_decide_eq_true h
  exact ⟨this.1, this.2.1⟩

/-- A route that is ok. -/
def rOk (r : S63) : Bool := routeOk r.f0 r.f1 r.f2 r.f3
/-- One route stands ahead of another. -/
def rLt (r q : S63) : Bool := decide (r.f1 < q.f1 ∨ r.f1 = q.f1 ∧ r.f0 < q.f0)
/-- Each is ok and stands ahead of the next one. -/
def rChain : Option S63 → List S63 → Bool
  | _, [] => true
  | none, r :: l => rOk r && rChain (some r) l
  | some q, r :: l => (rOk r && rLt q r) && rChain (some r) l
/-- Routes are ok. -/
def routesOk (l : List S63) : Bool := rChain none l && decide ((l.length : Int) ≤ 8)
/-- The one ahead of place i. -/
def prevOf (l : List S63) (i : Nat) : Option S63 := if i = 0 then none else some (rd_T63 l ((i - 1 : Nat) : Int))
theorem rdT_nat (l : List S63) (i : Nat) (h : i < l.length) : rd_T63 l (i : Int) = l[i] := by
  unfold rd_T63; simp [List.getD_eq_getElem?_getD, List.getElem?_eq_getElem h]
theorem dropT (l : List S63) (i : Nat) (h : i < l.length) : l.drop i = rd_T63 l (i : Int) :: l.drop (i + 1) := by
  rw [List.drop_eq_getElem_cons h, rdT_nat l i h]

theorem specRoutesOk_loop (l : List S63) (hl : l.length < 4611686018427387904) : ∀ (d k i : Nat), l.length - i = d → i ≤ l.length → d < k →
    spec_RoutesOk.l0 k l (i : Int) = some (rChain (prevOf l i) (l.drop i) && decide ((l.length : Int) ≤ 8))
  | 0, k, i, hd, hi, hk => by
    obtain ⟨k, rfl⟩ : ∃ m, k = m + 1 := ⟨k - 1, by omega⟩
    simp only [spec_RoutesOk.l0]
    rw [if_neg (by omega), List.drop_of_length_le (by omega)]
    cases prevOf l i <;> simp [rChain]
  | d + 1, k, i, hd, hi, hk => by
    obtain ⟨k, rfl⟩ : ∃ m, k = m + 1 := ⟨k - 1, by omega⟩
    have e2 : wrap64 ((i : Int) + 1) = ((i + 1 : Nat) : Int) := by rw [w64 (by omega) (by omega)]; rfl
    have ih := specRoutesOk_loop l hl d k (i + 1) (by omega) (by omega) (by omega)
    have ep : prevOf l (i + 1) = some (rd_T63 l (i : Int)) := by unfold prevOf; rw [if_neg (by omega)]; rfl
    rw [ep] at ih
    simp only [spec_RoutesOk.l0]
    rw [if_pos (by omega), if_pos (by omega), specRouteOk_eq, e2, ih, dropT l i (by omega)]
    simp only [Option.bind_some]
    by_cases h0 : i = 0
    · subst h0
      have eq0 : prevOf l 0 = none := by unfold prevOf; rw [if_pos rfl]
      rw [eq0, if_neg (show ¬ ((0 : Nat) : Int) > 0 by omega)]
      simp only [rChain, rOk]
      cases routeOk (rd_T63 l ((0 : Nat) : Int)).f0 (rd_T63 l ((0 : Nat) : Int)).f1 (rd_T63 l ((0 : Nat) : Int)).f2 (rd_T63 l ((0 : Nat) : Int)).f3 <;> simp
    · have e1 : wrap64 ((i : Int) - 1) = ((i - 1 : Nat) : Int) := by rw [w64 (by omega) (by omega)]; omega
      have eq1 : prevOf l i = some (rd_T63 l ((i - 1 : Nat) : Int)) := by unfold prevOf; rw [if_neg h0]
      have c1 : (i : Int) > 0 := by omega
      have c2 : (0 : Int) ≤ ((i - 1 : Nat) : Int) := by omega
      have c3 : ((i - 1 : Nat) : Int) < (l.length : Int) := by omega
      rw [eq1, if_pos c1, e1, if_pos c2, if_pos c3]
      generalize rd_T63 l ((i - 1 : Nat) : Int) = q
      generalize rd_T63 l (i : Int) = r
      simp only [rChain, rOk, rLt]
      cases routeOk r.f0 r.f1 r.f2 r.f3 with
      | false => simp
      | true =>
        by_cases h1 : q.f1 > r.f1
        · have : ¬ (q.f1 < r.f1 ∨ q.f1 = r.f1 ∧ q.f0 < r.f0) := by omega
          simp [h1, this]
        · by_cases h2 : q.f1 = r.f1
          · by_cases h3 : q.f0 ≥ r.f0
            · have : ¬ (q.f1 < r.f1 ∨ q.f1 = r.f1 ∧ q.f0 < r.f0) := by omega
              rw [decide_eq_false this]
              simp [h1, h2, h3]
            · have : (q.f1 < r.f1 ∨ q.f1 = r.f1 ∧ q.f0 < r.f0) := by omega
              rw [decide_eq_true this]
              simp [h1, h2, h3]
          · have : (q.f1 < r.f1 ∨ q.f1 = r.f1 ∧ q.f0 < r.f0) := by omega
            rw [decide_eq_true this]
            simp [h1, h2]
theorem specRoutesOk_eq (l : List S63) (hl : l.length < 4611686018427387904) (k : Nat) (hk : l.length < k) : spec_RoutesOk.f k l = some (routesOk l) := by
  unfold spec_RoutesOk.f routesOk
  rw [show (0 : Int) = ((0 : Nat) : Int) from rfl, specRoutesOk_loop l hl l.length k 0 (by omega) (by omega) hk]
  rfl

theorem cmp_eq (a b : Int) : cmp_Compare_int.f a b = some (if a < b then -1 else if a > b then 1 else 0) := by
  unfold cmp_Compare_int.f cmp_isNaN_int.f
  by_cases h1 : a < b <;> by_cases h2 : a > b <;> simp [h1, h2]
theorem or2_eq (x y : Int) (k : Nat) (hk : 3 ≤ k) : cmp_Or_int.f k [x, y] = some (if x = 0 then y else x) := by
  obtain ⟨k, rfl⟩ : ∃ m, k = m + 1 + 1 + 1 := ⟨k - 3, by omega⟩
  have e1 : wrap64 ((0 : Int) + 1) = 1 := w64 (by omega) (by omega)
  have e2 : wrap64 ((1 : Int) + 1) = 2 := w64 (by omega) (by omega)
  unfold cmp_Or_int.f
  simp only [cmp_Or_int.l0, List.length_cons, List.length_nil, rd, e1, e2]
  by_cases h : x = 0 <;> by_cases h' : y = 0 <;> simp [h, h']
theorem order_eq (a b c d a' b' c' d' : Int) (k : Nat) (hk : 3 ≤ k) : ∃ v, impl_Route_order.f k a b c d a' b' c' d' = some v ∧ (v < 0 ↔ (b < b' ∨ b = b' ∧ a < a')) ∧ (v = 0 ↔ (b = b' ∧ a = a')) := by
  unfold impl_Route_order.f
  simp only [cmp_eq, or2_eq _ _ k hk, Option.bind_some]
  refine ⟨_, rfl, ?_, ?_⟩
  · by_cases h1 : b < b' <;> by_cases h2 : b > b' <;> by_cases h3 : a < a' <;> by_cases h4 : a > a' <;> simp [h1, h2, h3, h4] <;> omega
  · by_cases h1 : b < b' <;> by_cases h2 : b > b' <;> by_cases h3 : a < a' <;> by_cases h4 : a > a' <;> simp [h1, h2, h3, h4] <;> omega

theorem implRoutesOk_loop (l : List S63) (hl : l.length < 4611686018427387904) : ∀ (d k i : Nat), l.length - i = d → i ≤ l.length → d + 3 < k →
    impl_RoutesOk.l0 k l l (l.length : Int) (i : Int) = some (rChain (prevOf l i) (l.drop i) && decide ((l.length : Int) ≤ 8))
  | 0, k, i, hd, hi, hk => by
    obtain ⟨k, rfl⟩ : ∃ m, k = m + 1 := ⟨k - 1, by omega⟩
    simp only [impl_RoutesOk.l0]
    rw [if_neg (by omega), List.drop_of_length_le (by omega)]
    cases prevOf l i <;> simp [rChain]
  | d + 1, k, i, hd, hi, hk => by
    obtain ⟨k, rfl⟩ : ∃ m, k = m + 1 := ⟨k - 1, by omega⟩
    have e2 : wrap64 ((i : Int) + 1) = ((i + 1 : Nat) : Int) := by rw [w64 (by omega) (by omega)]; rfl
    have ih := implRoutesOk_loop l hl d k (i + 1) (by omega) (by omega) (by omega)
    have ep : prevOf l (i + 1) = some (rd_T63 l (i : Int)) := by unfold prevOf; rw [if_neg (by omega)]; rfl
    rw [ep] at ih
    simp only [impl_RoutesOk.l0]
    rw [if_pos (by omega), if_pos (by omega), if_pos (by omega), implRouteOk_eq, e2, ih, dropT l i (by omega)]
    simp only [Option.bind_some]
    by_cases h0 : i = 0
    · subst h0
      have eq0 : prevOf l 0 = none := by unfold prevOf; rw [if_pos rfl]
      rw [eq0, if_neg (show ¬ ((0 : Nat) : Int) > 0 by omega)]
      simp only [rChain, rOk]
      cases routeOk (rd_T63 l ((0 : Nat) : Int)).f0 (rd_T63 l ((0 : Nat) : Int)).f1 (rd_T63 l ((0 : Nat) : Int)).f2 (rd_T63 l ((0 : Nat) : Int)).f3 <;> simp
    · have e1 : wrap64 ((i : Int) - 1) = ((i - 1 : Nat) : Int) := by rw [w64 (by omega) (by omega)]; omega
      have eq1 : prevOf l i = some (rd_T63 l ((i - 1 : Nat) : Int)) := by unfold prevOf; rw [if_neg h0]
      have c1 : (i : Int) > 0 := by omega
      have c2 : (0 : Int) ≤ ((i - 1 : Nat) : Int) := by omega
      have c3 : ((i - 1 : Nat) : Int) < (l.length : Int) := by omega
      rw [eq1, if_pos c1, e1, if_pos c2, if_pos c3]
      generalize rd_T63 l ((i - 1 : Nat) : Int) = q
      generalize rd_T63 l (i : Int) = r
      simp only [rChain, rOk, rLt]
      obtain ⟨v, hv, h1, _⟩ := order_eq q.f0 q.f1 q.f2 q.f3 r.f0 r.f1 r.f2 r.f3 k (by omega)
      cases routeOk r.f0 r.f1 r.f2 r.f3 with
      | false => simp
      | true =>
        rw [if_pos rfl, hv]
        simp only [Option.bind_some]
        by_cases h2 : v ≥ 0
        · rw [if_pos h2, decide_eq_false (fun h => by have := h1.mpr h; omega)]; rfl
        · rw [if_neg h2, decide_eq_true (h1.mp (by omega))]; simp
theorem implRoutesOk_eq (l : List S63) (hl : l.length < 4611686018427387904) (k : Nat) (hk : l.length + 3 < k) : impl_RoutesOk.f k l = some (routesOk l) := by
  unfold impl_RoutesOk.f routesOk
  rw [show (0 : Int) = ((0 : Nat) : Int) from rfl, implRoutesOk_loop l hl l.length k 0 (by omega) (by omega) hk]
  rfl

/-- A route is for an address. -/
def routeFits (a b v r x : Int) : Bool := routeOk a b v r && decide ((0 ≤ x ∧ x ≤ 65535) ∧ x / rest b = a / rest b)

theorem specRouteFits_eq (a b v r x : Int) : spec_RouteFits.f a b v r x = some (routeFits a b v r x) := by
  unfold spec_RouteFits.f routeFits
  simp only [specRouteOk_eq, l1In_eq, Option.bind_some]
  cases h : routeOk a b v r with
  | false => rfl
  | true =>
    obtain ⟨h1, h2⟩ := routeOk_bits h
    obtain ⟨e1, e2, e3, e4⟩ := rest_shl h1
    by_cases h3 : 0 ≤ x ∧ x ≤ 65535
    · unfold spec_l6Rest.f
      have l1 : x / rest b ≤ x := Int.ediv_le_self _ h3.1
      have l2 : a / rest b ≤ a := Int.ediv_le_self _ h2.1
      have g1 : 0 ≤ x / rest b := Int.ediv_nonneg h3.1 (by omega)
      have g2 : 0 ≤ a / rest b := Int.ediv_nonneg h2.1 (by omega)
      rw [if_pos e1, e2]
      simp only [Option.bind_some, if_neg (show ¬ rest b = 0 by omega), Int.tdiv_eq_ediv_of_nonneg h3.1, Int.tdiv_eq_ediv_of_nonneg h2.1]
      rw [w64 (by omega) (by omega), w64 (by omega) (by omega)]
      by_cases h4 : x / rest b = a / rest b <;> simp [h3, h4]
    · simp [h3]

theorem fits_eq {a b v r x : Int} (h : 0 ≤ b ∧ b ≤ 16) : impl_Route_fits.f a b v r x = some (decide (x / rest b = a / rest b)) := by
  obtain ⟨e1, e2, e3, e4⟩ := rest_shl h
  unfold impl_Route_fits.f
  rw [if_pos e1, rest_shr h, rest_shr h]
  by_cases h4 : x / rest b = a / rest b <;> simp [h4]
theorem rChain_all : ∀ (p : Option S63) (l : List S63), rChain p l = true → ∀ r ∈ l, rOk r = true
  | _, [], _, r, hr => by cases hr
  | none, s :: l, h, r, hr => by
    simp only [rChain, Bool.and_eq_true] at h
    rcases List.mem_cons.1 hr with rfl | hr
    · exact h.1
    · exact rChain_all _ l h.2 r hr
  | some q, s :: l, h, r, hr => by
    simp only [rChain, Bool.and_eq_true] at h
    rcases List.mem_cons.1 hr with rfl | hr
    · exact h.1.1
    · exact rChain_all _ l h.2 r hr
theorem routesOk_all {l : List S63} (h : routesOk l = true) : ∀ r ∈ l, rOk r = true := by
  unfold routesOk at h
  rw [Bool.and_eq_true] at h
  exact rChain_all _ l h.1
theorem bk_mem {l : List S63} {q : Int × S63} (h : q ∈ bk l) : q.2 ∈ l := by
  unfold bk at h
  obtain ⟨k, hk, rfl⟩ := List.mem_map.1 h
  have hk := List.mem_range.1 hk
  show rd_T63 l ((l.length - 1 - k : Nat) : Int) ∈ l
  rw [rdT_nat l (l.length - 1 - k) (by omega)]
  exact List.getElem_mem _
/-- A route of the row fits. -/
def fitsQ (x : Int) (q : Int × S63) : Bool := routeFits q.2.f0 q.2.f1 q.2.f2 q.2.f3 x
/-- What is told of the one that was found. -/
def toldOf : Option (Int × S63) → Int × Int × Int × Int × Bool
  | some q => (q.2.f0, q.2.f1, q.2.f2, q.2.f3, true)
  | none => (0, 0, 0, 0, false)
/-- The route for an address. -/
def routeTo (l : List S63) (x : Int) : Int × Int × Int × Int × Bool := if routesOk l = true then toldOf ((bk l).find? (fitsQ x)) else (0, 0, 0, 0, false)
theorem find_congr {α : Type} {p q : α → Bool} : ∀ {l : List α}, (∀ x ∈ l, p x = q x) → l.find? p = l.find? q
  | [], _ => rfl
  | a :: l, h => by
    rw [List.find?_cons, List.find?_cons, h a List.mem_cons_self, find_congr (fun x hx => h x (List.mem_cons_of_mem _ hx))]
theorem specRouteTo_loop (l : List S63) (hl : l.length ≤ 1048576) (x : Int) (ho : routesOk l = true) : ∀ (m k : Nat), m ≤ l.length → 2 * m + l.length + 4 < k →
    spec_RouteTo.l0 k l x ((m : Int) - 1) = some (toldOf (((bk l).drop (l.length - m)).find? (fitsQ x))) := by
  intro m
  induction m with
  | zero =>
    intro k hm hk
    obtain ⟨k, rfl⟩ : ∃ j, k = j + 2 := ⟨k - 2, by omega⟩
    simp only [spec_RouteTo.l0, spec_RouteTo.j1]
    rw [if_neg (by omega), if_neg (by decide), List.drop_of_length_le (by rw [bk_len]; omega)]
    rfl
  | succ m ih =>
    intro k hm hk
    obtain ⟨k, rfl⟩ : ∃ j, k = j + 2 := ⟨k - 2, by omega⟩
    have e0 : ((m + 1 : Nat) : Int) - 1 = (m : Int) := by omega
    have e1 : wrap64 ((m : Int) - 1) = (m : Int) - 1 := w64 (by omega) (by omega)
    have hd : (bk l).drop (l.length - (m + 1)) = ((m : Int), rd_T63 l (m : Int)) :: (bk l).drop (l.length - m) := by
      have hk2 : l.length - (m + 1) < (bk l).length := by rw [bk_len]; omega
      rw [List.drop_eq_getElem_cons hk2]
      have hg := bk_get l (l.length - (m + 1)) (by omega)
      rw [List.getElem?_eq_getElem hk2] at hg
      rw [Option.some.inj hg, show l.length - (m + 1) + 1 = l.length - m by omega, show l.length - 1 - (l.length - (m + 1)) = m by omega]
    rw [e0, hd, List.find?_cons]
    simp only [spec_RouteTo.l0]
    rw [if_pos (by omega), specRoutesOk_eq l (by omega) (k + 1) (by omega), ho]
    simp only [Option.bind_some, spec_RouteTo.j1, if_true]
    rw [if_pos (by omega), if_pos (by omega), specRouteFits_eq, e1]
    simp only [Option.bind_some]
    show (if fitsQ x ((m : Int), rd_T63 l (m : Int)) = true then _ else _) = _
    cases hf : fitsQ x ((m : Int), rd_T63 l (m : Int)) with
    | true => rfl
    | false =>
      rw [if_neg (by decide)]
      exact ih k (by omega) (by omega)
theorem specRouteTo_eq (l : List S63) (hl : l.length ≤ 1048576) (x : Int) (k : Nat) (hk : 3 * l.length + 4 < k) : spec_RouteTo.f k l x = some (routeTo l x) := by
  unfold spec_RouteTo.f routeTo
  rw [w64 (x := (l.length : Int) - 1) (by omega) (by omega)]
  cases ho : routesOk l with
  | true =>
    rw [specRouteTo_loop l hl x ho l.length k (by omega) (by omega), if_pos rfl, Nat.sub_self, List.drop_zero]
  | false =>
    obtain ⟨k, rfl⟩ : ∃ j, k = j + 2 := ⟨k - 2, by omega⟩
    rw [if_neg (by decide)]
    simp only [spec_RouteTo.l0]
    split
    · rw [specRoutesOk_eq l (by omega) (k + 1) (by omega), ho]
      simp only [Option.bind_some, spec_RouteTo.j1]
      rw [if_neg (by decide)]
    · simp only [spec_RouteTo.j1]
      rw [if_neg (by decide)]
theorem implRouteTo_eq (l : List S63) (hl : l.length ≤ 1048576) (x : Int) (k : Nat) (hk : l.length + 4 < k) : impl_RouteTo.f k l x = some (routeTo l x) := by
  unfold impl_RouteTo.f routeTo
  rw [implRoutesOk_eq l (by omega) k (by omega), word_eq]
  simp only [Option.bind_some]
  cases ho : routesOk l with
  | false => rfl
  | true =>
    rw [if_pos rfl, if_pos rfl]
    have hall := routesOk_all ho
    have hb : ∀ q ∈ bk l, (0 ≤ q.2.f1 ∧ q.2.f1 ≤ 16) ∧ rOk q.2 = true := fun q hq => ⟨(routeOk_bits (hall _ (bk_mem hq))).1, hall _ (bk_mem hq)⟩
    by_cases hx : 0 ≤ x ∧ x ≤ 65535
    · have hfind : (bk l).find? (hit x 17) = (bk l).find? (fitsQ x) := find_congr fun q hq => by
        obtain ⟨h1, h2⟩ := hb q hq
        unfold hit fitsQ routeFits
        rw [fits_eq h1, show routeOk q.2.f0 q.2.f1 q.2.f2 q.2.f3 = true from h2, decide_eq_true (show q.2.f1 < 17 by omega)]
        by_cases h4 : x / rest q.2.f1 = q.2.f0 / rest q.2.f1 <;> simp [h4, hx]
      rw [if_pos (by simp [hx])]
      unfold impl_routeTo.f
      rw [if_pos ⟨by omega, List.all_eq_true.2 fun q hq => by rw [fits_eq (hb q hq).1]; rfl⟩, hfind]
      cases (bk l).find? (fitsQ x) <;> rfl
    · have hfind : (bk l).find? (fitsQ x) = none := List.find?_eq_none.2 fun q hq => by
        unfold fitsQ routeFits
        simp [hx]
      rw [if_neg (by simp [hx]), hfind]
      rfl

/-- The same route of the program's own type. -/
def asRoute (r : S84) : S63 := ⟨r.f0, r.f1, r.f2, r.f3⟩
theorem szRouteS_eq (l : List S84) (h : l.length ≤ 9223372036854775807) : laws_szRouteS.f l 1048576 = some (if (l.length : Int) > 1048576 then (-1 : Int) else 1048576 - (l.length : Int)) := by
  unfold laws_szRouteS.f
  rw [w64 (by omega) (by omega)]
  by_cases h1 : (l.length : Int) > 1048576
  · rw [if_pos (by omega), if_pos h1]
  · rw [if_neg (by omega), if_neg h1]
theorem toRouteS_loop (l : List S84) (hn : l.length < 4611686018427387904) : ∀ (d k i : Nat) (o : List S63), l.length - i = d → i ≤ l.length → d < k → o.length = l.length → o.take i = (l.map asRoute).take i →
    laws_toRouteS.l0 k l o (i : Int) = some (l.map asRoute)
  | 0, k, i, o, hd, hi, hk, hl, ho => by
    obtain ⟨k, rfl⟩ : ∃ m, k = m + 1 := ⟨k - 1, by omega⟩
    simp only [laws_toRouteS.l0]
    rw [if_neg (by omega)]
    rw [List.take_of_length_le (by omega), List.take_of_length_le (by simp; omega)] at ho
    rw [ho]
  | d + 1, k, i, o, hd, hi, hk, hl, ho => by
    obtain ⟨k, rfl⟩ : ∃ m, k = m + 1 := ⟨k - 1, by omega⟩
    have e2 : wrap64 ((i : Int) + 1) = ((i + 1 : Nat) : Int) := by rw [w64 (by omega) (by omega)]; rfl
    simp only [laws_toRouteS.l0, laws_toRoute.f, Option.bind_some]
    rw [if_pos (by omega), if_pos (by omega), if_pos (by omega), e2]
    have hi' : i < l.length := by omega
    have er : rd_T84 l (i : Int) = l[i] := by unfold rd_T84; simp [List.getD_eq_getElem?_getD, List.getElem?_eq_getElem hi']
    have en : ((i : Nat) : Int).toNat = i := by omega
    refine toRouteS_loop l hn d k (i + 1) _ (by omega) (by omega) (by omega) (by simp [hl]) ?_
    rw [er, en, List.take_succ_eq_append_getElem (by simp; omega), List.take_succ_eq_append_getElem (by simp; omega), List.take_set_of_le (by omega), ho]
    simp [asRoute]
theorem toRouteS_eq (l : List S84) (hn : l.length ≤ 1048576) (k : Nat) (hk : l.length < k) : laws_toRouteS.f k l = some (l.map asRoute) := by
  unfold laws_toRouteS.f
  rw [if_pos (by omega), if_pos (by omega)]
  exact toRouteS_loop l (by omega) l.length k 0 _ (by omega) (by omega) hk (by simp) (by simp)
theorem eqRouteS_loop (a : List S63) (hn : a.length < 4611686018427387904) : ∀ (d k i : Nat), a.length - i = d → i ≤ a.length → d < k → laws_eqRouteS.l0 k a a (i : Int) = some true
  | 0, k, i, hd, hi, hk => by
    obtain ⟨k, rfl⟩ : ∃ m, k = m + 1 := ⟨k - 1, by omega⟩
    simp only [laws_eqRouteS.l0]
    rw [if_neg (by omega)]
  | d + 1, k, i, hd, hi, hk => by
    obtain ⟨k, rfl⟩ : ∃ m, k = m + 1 := ⟨k - 1, by omega⟩
    have e2 : wrap64 ((i : Int) + 1) = ((i + 1 : Nat) : Int) := by rw [w64 (by omega) (by omega)]; rfl
    simp only [laws_eqRouteS.l0, laws_eqRoute.f]
    rw [if_pos (by omega), if_pos (by omega), if_pos (by omega), e2, eqRouteS_loop a hn d k (i + 1) (by omega) (by omega) (by omega)]
    simp
theorem eqRouteS_self (a : List S63) (hn : a.length < 4611686018427387904) (k : Nat) (hk : a.length < k) : laws_eqRouteS.f k a a = some true := by
  unfold laws_eqRouteS.f
  rw [if_pos rfl]
  exact eqRouteS_loop a hn a.length k 0 (by omega) (by omega) hk

theorem eqRoute_refl (a b c d : Int) : laws_eqRoute.f a b c d a b c d = some true := by unfold laws_eqRoute.f; simp
theorem FnExactRouteTo (l0 : List S84) (a1 : Int) (g0 : (l0.length ≤ maxLen ∧ ∀ x ∈ l0, ArgFnExactRouteTo.G84 x)) (w1 : (Lit.int .i64 a1).wf = true) : ∃ k, laws_FnExactRouteTo.f k l0 a1 = some true := by
  have hm : l0.length ≤ 9223372036854775807 := g0.1
  refine ⟨3 * l0.length + 7, ?_⟩
  unfold laws_FnExactRouteTo.f
  rw [szRouteS_eq _ hm]
  simp only [Option.bind_some]
  by_cases h1 : (l0.length : Int) > 1048576
  · rw [if_pos h1]; rfl
  · rw [if_neg h1, if_neg (by omega)]
    have hl : (l0.map asRoute).length = l0.length := List.length_map ..
    simp only [toRouteS_eq l0 (by omega) (3 * l0.length + 7) (by omega), specRouteTo_eq (l0.map asRoute) (by omega) a1 (3 * l0.length + 7) (by omega), implRouteTo_eq (l0.map asRoute) (by omega) a1 (3 * l0.length + 7) (by omega), eqRoute_refl, Option.bind_some, if_true, bne_self_eq_false]
    simp only [laws_FnExactRouteTo.j0, Bool.false_eq_true, if_false, toRouteS_eq l0 (by omega) (3 * l0.length + 6) (by omega), eqRouteS_self (l0.map asRoute) (by omega) (3 * l0.length + 6) (by omega), Option.bind_some, if_true]

end Go.Proofs.Ytibfeacgnadiaaa.Pure

/- The longest route counts; the statement's own bounds alone. -/
import Derived.Test.YtdplboenlcppkaaPFnRouteTox9
import Derived.Test.YtdplboenlcppkaaUFnRouteToBase
namespace Go.Proofs.Ytdplboenlcppkaa.Pure
set_option linter.unusedSimpArgs false
set_option linter.unusedVariables false
open Go Go.RowKit Go.Proofs.Ytdplboenlcppkaa.PFnRouteTo Go.Proofs.YtdplboenlcppkaaUFnRouteTo.PrintWords Go.Proofs.YtdplboenlcppkaaUFnRouteTo.PrintLast Go.Proofs.YtdplboenlcppkaaUFnRouteTo.PrintMore Go.Proofs.Ytdplboenlcppkaa.Base

theorem l1In_eq (a b c : Int) : spec_l1In.f a b c = some (decide (b ≤ a ∧ a ≤ c)) := by
  unfold spec_l1In.f
  by_cases h : a ≥ b <;> simp [h]

theorem in_eq (a b c : Int) : impl_in.f a b c = some (decide (b ≤ a ∧ a ≤ c)) := by
  unfold impl_in.f
  by_cases h : a ≥ b <;> simp [h]

theorem word_eq (a : Int) : impl_word.f a = some (decide (0 ≤ a ∧ a ≤ 65535)) := by
  unfold impl_word.f
  rw [in_eq]; rfl

/-- How many addresses have the same first bits. -/
def rest (b : Int) : Int := 2 ^ (16 - b).toNat
theorem rest_cases {b : Int} (h : 0 ≤ b ∧ b ≤ 16) : b = 0 ∨ b = 1 ∨ b = 2 ∨ b = 3 ∨ b = 4 ∨ b = 5 ∨ b = 6 ∨ b = 7 ∨ b = 8 ∨ b = 9 ∨ b = 10 ∨ b = 11 ∨ b = 12 ∨ b = 13 ∨ b = 14 ∨ b = 15 ∨ b = 16 := by omega
theorem rest_shl {b : Int} (h : 0 ≤ b ∧ b ≤ 16) : 0 ≤ wrap64 (16 - b) ∧ shl .i64 1 (wrap64 (16 - b)) = rest b ∧ 0 < rest b ∧ rest b ≤ 65536 := by
  rcases rest_cases h with rfl | rfl | rfl | rfl | rfl | rfl | rfl | rfl | rfl | rfl | rfl | rfl | rfl | rfl | rfl | rfl | rfl <;> decide +kernel
theorem rest_shr {b : Int} (h : 0 ≤ b ∧ b ≤ 16) (x : Int) : shr .i64 x (wrap64 (16 - b)) = x / rest b := by
  rw [w64 (by omega) (by omega)]
  unfold shr rest
  rw [Nat.min_eq_left (show (16 - b).toNat ≤ IntKind.i64.bits by simp [IntKind.bits]; omega)]
/-- A route is ok. -/
def routeOk (a b v r : Int) : Bool := decide ((0 ≤ b ∧ b ≤ 16) ∧ (0 ≤ a ∧ a ≤ 65535) ∧ a % rest b = 0 ∧ (0 ≤ v ∧ v ≤ 65535) ∧ (1 ≤ r ∧ r ≤ 48))
theorem specRouteOk_eq (a b v r : Int) : spec_RouteOk.f a b v r = some (routeOk a b v r) := by
  unfold spec_RouteOk.f routeOk spec_l6Rest.f
  simp only [l1In_eq, Option.bind_some]
  by_cases h1 : 0 ≤ b ∧ b ≤ 16
  · obtain ⟨e1, e2, e3, e4⟩ := rest_shl h1
    rw [if_pos e1, e2]
    by_cases h2 : 0 ≤ a ∧ a ≤ 65535
    · simp only [Option.bind_some, if_neg (show ¬ rest b = 0 by omega), Int.tmod_eq_emod_of_nonneg h2.1]
      by_cases h3 : a % rest b = 0 <;> by_cases h4 : 0 ≤ v ∧ v ≤ 65535 <;> simp [h1, h2, h3, h4]
    · simp [h1, h2]
  · simp [h1]
theorem implRouteOk_eq (a b v r : Int) : impl_RouteOk.f a b v r = some (routeOk a b v r) := by
  unfold impl_RouteOk.f routeOk
  simp only [in_eq, word_eq, Option.bind_some]
  by_cases h1 : 0 ≤ b ∧ b ≤ 16
  · obtain ⟨e1, e2, e3, e4⟩ := rest_shl h1
    rw [if_pos e1, e2]
    by_cases h2 : 0 ≤ a ∧ a ≤ 65535
    · simp only [if_neg (show ¬ rest b = 0 by omega), Int.tmod_eq_emod_of_nonneg h2.1]
      by_cases h3 : a % rest b = 0 <;> by_cases h4 : 0 ≤ v ∧ v ≤ 65535 <;> simp [h1, h2, h3, h4]
    · simp [h1, h2]
  · simp [h1]
theorem routeOk_bits {a b v r : Int} (h : routeOk a b v r = true) : (0 ≤ b ∧ b ≤ 16) ∧ (0 ≤ a ∧ a ≤ 65535) := by
  have := of_decide_eq_true h
  exact ⟨this.1, this.2.1⟩

/-- A route that is ok. -/
def rOk (r : S65) : Bool := routeOk r.f0 r.f1 r.f2 r.f3
/-- One route stands ahead of another. -/
def rLt (r q : S65) : Bool := decide (r.f1 < q.f1 ∨ r.f1 = q.f1 ∧ r.f0 < q.f0)
/-- Each is ok and stands ahead of the next one. -/
def rChain : Option S65 → List S65 → Bool
  | _, [] => true
  | none, r :: l => rOk r && rChain (some r) l
  | some q, r :: l => (rOk r && rLt q r) && rChain (some r) l
/-- Routes are ok. -/
def routesOk (l : List S65) : Bool := rChain none l && decide ((l.length : Int) ≤ 8)
/-- The one ahead of place i. -/
def prevOf (l : List S65) (i : Nat) : Option S65 := if i = 0 then none else some (rd_T65 l ((i - 1 : Nat) : Int))
theorem rdT_nat (l : List S65) (i : Nat) (h : i < l.length) : rd_T65 l (i : Int) = l[i] := by
  unfold rd_T65; simp [List.getD_eq_getElem?_getD, List.getElem?_eq_getElem h]
theorem dropT (l : List S65) (i : Nat) (h : i < l.length) : l.drop i = rd_T65 l (i : Int) :: l.drop (i + 1) := by
  rw [List.drop_eq_getElem_cons h, rdT_nat l i h]

theorem specRoutesOk_loop (l : List S65) (hl : l.length < 4611686018427387904) : ∀ (d k i : Nat), l.length - i = d → i ≤ l.length → d < k →
    spec_RoutesOk.l0 k l (i : Int) = some (rChain (prevOf l i) (l.drop i) && decide ((l.length : Int) ≤ 8))
  | 0, k, i, hd, hi, hk => by
    obtain ⟨k, rfl⟩ : ∃ m, k = m + 1 := ⟨k - 1, by omega⟩
    simp only [spec_RoutesOk.l0]
    rw [if_neg (by omega), List.drop_of_length_le (by omega)]
    cases prevOf l i <;> simp [rChain]
  | d + 1, k, i, hd, hi, hk => by
    obtain ⟨k, rfl⟩ : ∃ m, k = m + 1 := ⟨k - 1, by omega⟩
    have e2 : wrap64 ((i : Int) + 1) = ((i + 1 : Nat) : Int) := by rw [w64 (by omega) (by omega)]; rfl
    have ih := specRoutesOk_loop l hl d k (i + 1) (by omega) (by omega) (by omega)
    have ep : prevOf l (i + 1) = some (rd_T65 l (i : Int)) := by unfold prevOf; rw [if_neg (by omega)]; rfl
    rw [ep] at ih
    simp only [spec_RoutesOk.l0]
    rw [if_pos (by omega), if_pos (by omega), specRouteOk_eq, e2, ih, dropT l i (by omega)]
    simp only [Option.bind_some]
    by_cases h0 : i = 0
    · subst h0
      have eq0 : prevOf l 0 = none := by unfold prevOf; rw [if_pos rfl]
      rw [eq0, if_neg (show ¬ ((0 : Nat) : Int) > 0 by omega)]
      simp only [rChain, rOk]
      cases routeOk (rd_T65 l ((0 : Nat) : Int)).f0 (rd_T65 l ((0 : Nat) : Int)).f1 (rd_T65 l ((0 : Nat) : Int)).f2 (rd_T65 l ((0 : Nat) : Int)).f3 <;> simp
    · have e1 : wrap64 ((i : Int) - 1) = ((i - 1 : Nat) : Int) := by rw [w64 (by omega) (by omega)]; omega
      have eq1 : prevOf l i = some (rd_T65 l ((i - 1 : Nat) : Int)) := by unfold prevOf; rw [if_neg h0]
      have c1 : (i : Int) > 0 := by omega
      have c2 : (0 : Int) ≤ ((i - 1 : Nat) : Int) := by omega
      have c3 : ((i - 1 : Nat) : Int) < (l.length : Int) := by omega
      rw [eq1, if_pos c1, e1, if_pos c2, if_pos c3]
      generalize rd_T65 l ((i - 1 : Nat) : Int) = q
      generalize rd_T65 l (i : Int) = r
      simp only [rChain, rOk, rLt]
      cases routeOk r.f0 r.f1 r.f2 r.f3 with
      | false => simp
      | true =>
        by_cases h1 : q.f1 > r.f1
        · have : ¬ (q.f1 < r.f1 ∨ q.f1 = r.f1 ∧ q.f0 < r.f0) := by omega
          simp [h1, this]
        · by_cases h2 : q.f1 = r.f1
          · by_cases h3 : q.f0 ≥ r.f0
            · have : ¬ (q.f1 < r.f1 ∨ q.f1 = r.f1 ∧ q.f0 < r.f0) := by omega
              rw [decide_eq_false this]
              simp [h1, h2, h3]
            · have : (q.f1 < r.f1 ∨ q.f1 = r.f1 ∧ q.f0 < r.f0) := by omega
              rw [decide_eq_true this]
              simp [h1, h2, h3]
          · have : (q.f1 < r.f1 ∨ q.f1 = r.f1 ∧ q.f0 < r.f0) := by omega
            rw [decide_eq_true this]
            simp [h1, h2]
theorem specRoutesOk_eq (l : List S65) (hl : l.length < 4611686018427387904) (k : Nat) (hk : l.length < k) : spec_RoutesOk.f k l = some (routesOk l) := by
  unfold spec_RoutesOk.f routesOk
  rw [show (0 : Int) = ((0 : Nat) : Int) from rfl, specRoutesOk_loop l hl l.length k 0 (by omega) (by omega) hk]
  rfl

theorem cmp_eq (a b : Int) : cmp_Compare_int.f a b = some (if a < b then -1 else if a > b then 1 else 0) := by
  unfold cmp_Compare_int.f cmp_isNaN_int.f
  by_cases h1 : a < b <;> by_cases h2 : a > b <;> simp [h1, h2]
theorem or2_eq (x y : Int) (k : Nat) (hk : 3 ≤ k) : cmp_Or_int.f k [x, y] = some (if x = 0 then y else x) := by
  obtain ⟨k, rfl⟩ : ∃ m, k = m + 1 + 1 + 1 := ⟨k - 3, by omega⟩
  have e1 : wrap64 ((0 : Int) + 1) = 1 := w64 (by omega) (by omega)
  have e2 : wrap64 ((1 : Int) + 1) = 2 := w64 (by omega) (by omega)
  unfold cmp_Or_int.f
  simp only [cmp_Or_int.l0, List.length_cons, List.length_nil, rd, e1, e2]
  by_cases h : x = 0 <;> by_cases h' : y = 0 <;> simp [h, h']
theorem order_eq (a b c d a' b' c' d' : Int) (k : Nat) (hk : 3 ≤ k) : ∃ v, impl_Route_order.f k a b c d a' b' c' d' = some v ∧ (v < 0 ↔ (b < b' ∨ b = b' ∧ a < a')) ∧ (v = 0 ↔ (b = b' ∧ a = a')) := by
  unfold impl_Route_order.f
  simp only [cmp_eq, or2_eq _ _ k hk, Option.bind_some]
  refine ⟨_, rfl, ?_, ?_⟩
  · by_cases h1 : b < b' <;> by_cases h2 : b > b' <;> by_cases h3 : a < a' <;> by_cases h4 : a > a' <;> simp [h1, h2, h3, h4] <;> omega
  · by_cases h1 : b < b' <;> by_cases h2 : b > b' <;> by_cases h3 : a < a' <;> by_cases h4 : a > a' <;> simp [h1, h2, h3, h4] <;> omega

theorem implRoutesOk_loop (l : List S65) (hl : l.length < 4611686018427387904) : ∀ (d k i : Nat), l.length - i = d → i ≤ l.length → d + 3 < k →
    impl_RoutesOk.l0 k l l (l.length : Int) (i : Int) = some (rChain (prevOf l i) (l.drop i) && decide ((l.length : Int) ≤ 8))
  | 0, k, i, hd, hi, hk => by
    obtain ⟨k, rfl⟩ : ∃ m, k = m + 1 := ⟨k - 1, by omega⟩
    simp only [impl_RoutesOk.l0]
    rw [if_neg (by omega), List.drop_of_length_le (by omega)]
    cases prevOf l i <;> simp [rChain]
  | d + 1, k, i, hd, hi, hk => by
    obtain ⟨k, rfl⟩ : ∃ m, k = m + 1 := ⟨k - 1, by omega⟩
    have e2 : wrap64 ((i : Int) + 1) = ((i + 1 : Nat) : Int) := by rw [w64 (by omega) (by omega)]; rfl
    have ih := implRoutesOk_loop l hl d k (i + 1) (by omega) (by omega) (by omega)
    have ep : prevOf l (i + 1) = some (rd_T65 l (i : Int)) := by unfold prevOf; rw [if_neg (by omega)]; rfl
    rw [ep] at ih
    simp only [impl_RoutesOk.l0]
    rw [if_pos (by omega), if_pos (by omega), if_pos (by omega), implRouteOk_eq, e2, ih, dropT l i (by omega)]
    simp only [Option.bind_some]
    by_cases h0 : i = 0
    · subst h0
      have eq0 : prevOf l 0 = none := by unfold prevOf; rw [if_pos rfl]
      rw [eq0, if_neg (show ¬ ((0 : Nat) : Int) > 0 by omega)]
      simp only [rChain, rOk]
      cases routeOk (rd_T65 l ((0 : Nat) : Int)).f0 (rd_T65 l ((0 : Nat) : Int)).f1 (rd_T65 l ((0 : Nat) : Int)).f2 (rd_T65 l ((0 : Nat) : Int)).f3 <;> simp
    · have e1 : wrap64 ((i : Int) - 1) = ((i - 1 : Nat) : Int) := by rw [w64 (by omega) (by omega)]; omega
      have eq1 : prevOf l i = some (rd_T65 l ((i - 1 : Nat) : Int)) := by unfold prevOf; rw [if_neg h0]
      have c1 : (i : Int) > 0 := by omega
      have c2 : (0 : Int) ≤ ((i - 1 : Nat) : Int) := by omega
      have c3 : ((i - 1 : Nat) : Int) < (l.length : Int) := by omega
      rw [eq1, if_pos c1, e1, if_pos c2, if_pos c3]
      generalize rd_T65 l ((i - 1 : Nat) : Int) = q
      generalize rd_T65 l (i : Int) = r
      simp only [rChain, rOk, rLt]
      obtain ⟨v, hv, h1, _⟩ := order_eq q.f0 q.f1 q.f2 q.f3 r.f0 r.f1 r.f2 r.f3 k (by omega)
      cases routeOk r.f0 r.f1 r.f2 r.f3 with
      | false => simp
      | true =>
        rw [if_pos rfl, hv]
        simp only [Option.bind_some]
        by_cases h2 : v ≥ 0
        · rw [if_pos h2, decide_eq_false (fun h => by have := h1.mpr h; omega)]; rfl
        · rw [if_neg h2, decide_eq_true (h1.mp (by omega))]; simp
theorem implRoutesOk_eq (l : List S65) (hl : l.length < 4611686018427387904) (k : Nat) (hk : l.length + 3 < k) : impl_RoutesOk.f k l = some (routesOk l) := by
  unfold impl_RoutesOk.f routesOk
  rw [show (0 : Int) = ((0 : Nat) : Int) from rfl, implRoutesOk_loop l hl l.length k 0 (by omega) (by omega) hk]
  rfl

/-- A route is for an address. -/
def routeFits (a b v r x : Int) : Bool := routeOk a b v r && decide ((0 ≤ x ∧ x ≤ 65535) ∧ x / rest b = a / rest b)

theorem specRouteFits_eq (a b v r x : Int) : spec_RouteFits.f a b v r x = some (routeFits a b v r x) := by
  unfold spec_RouteFits.f routeFits
  simp only [specRouteOk_eq, l1In_eq, Option.bind_some]
  cases h : routeOk a b v r with
  | false => rfl
  | true =>
    obtain ⟨h1, h2⟩ := routeOk_bits h
    obtain ⟨e1, e2, e3, e4⟩ := rest_shl h1
    by_cases h3 : 0 ≤ x ∧ x ≤ 65535
    · unfold spec_l6Rest.f
      have l1 : x / rest b ≤ x := Int.ediv_le_self _ h3.1
      have l2 : a / rest b ≤ a := Int.ediv_le_self _ h2.1
      have g1 : 0 ≤ x / rest b := Int.ediv_nonneg h3.1 (by omega)
      have g2 : 0 ≤ a / rest b := Int.ediv_nonneg h2.1 (by omega)
      rw [if_pos e1, e2]
      simp only [Option.bind_some, if_neg (show ¬ rest b = 0 by omega), Int.tdiv_eq_ediv_of_nonneg h3.1, Int.tdiv_eq_ediv_of_nonneg h2.1]
      rw [w64 (by omega) (by omega), w64 (by omega) (by omega)]
      by_cases h4 : x / rest b = a / rest b <;> simp [h3, h4]
    · simp [h3]

theorem fits_eq {a b v r x : Int} (h : 0 ≤ b ∧ b ≤ 16) : impl_Route_fits.f a b v r x = some (decide (x / rest b = a / rest b)) := by
  obtain ⟨e1, e2, e3, e4⟩ := rest_shl h
  unfold impl_Route_fits.f
  rw [if_pos e1, rest_shr h, rest_shr h]
  by_cases h4 : x / rest b = a / rest b <;> simp [h4]
theorem rChain_all : ∀ (p : Option S65) (l : List S65), rChain p l = true → ∀ r ∈ l, rOk r = true
  | _, [], _, r, hr => by cases hr
  | none, s :: l, h, r, hr => by
    simp only [rChain, Bool.and_eq_true] at h
    rcases List.mem_cons.1 hr with rfl | hr
    · exact h.1
    · exact rChain_all _ l h.2 r hr
  | some q, s :: l, h, r, hr => by
    simp only [rChain, Bool.and_eq_true] at h
    rcases List.mem_cons.1 hr with rfl | hr
    · exact h.1.1
    · exact rChain_all _ l h.2 r hr
theorem routesOk_all {l : List S65} (h : routesOk l = true) : ∀ r ∈ l, rOk r = true := by
  unfold routesOk at h
  rw [Bool.and_eq_true] at h
  exact rChain_all _ l h.1
theorem bk_mem {l : List S65} {q : Int × S65} (h : q ∈ bk l) : q.2 ∈ l := by
  unfold bk at h
  obtain ⟨k, hk, rfl⟩ := List.mem_map.1 h
  have hk := List.mem_range.1 hk
  show rd_T65 l ((l.length - 1 - k : Nat) : Int) ∈ l
  rw [rdT_nat l (l.length - 1 - k) (by omega)]
  exact List.getElem_mem _
/-- A route of the row fits. -/
def fitsQ (x : Int) (q : Int × S65) : Bool := routeFits q.2.f0 q.2.f1 q.2.f2 q.2.f3 x
/-- What is told of the one that was found. -/
def toldOf : Option (Int × S65) → Int × Int × Int × Int × Bool
  | some q => (q.2.f0, q.2.f1, q.2.f2, q.2.f3, true)
  | none => (0, 0, 0, 0, false)
/-- The route for an address. -/
def routeTo (l : List S65) (x : Int) : Int × Int × Int × Int × Bool := if routesOk l = true then toldOf ((bk l).find? (fitsQ x)) else (0, 0, 0, 0, false)
theorem find_congr {α : Type} {p q : α → Bool} : ∀ {l : List α}, (∀ x ∈ l, p x = q x) → l.find? p = l.find? q
  | [], _ => rfl
  | a :: l, h => by
    rw [List.find?_cons, List.find?_cons, h a List.mem_cons_self, find_congr (fun x hx => h x (List.mem_cons_of_mem _ hx))]
theorem specRouteTo_loop (l : List S65) (hl : l.length ≤ 1048576) (x : Int) (ho : routesOk l = true) : ∀ (m k : Nat), m ≤ l.length → 2 * m + l.length + 4 < k →
    spec_RouteTo.l0 k l x ((m : Int) - 1) = some (toldOf (((bk l).drop (l.length - m)).find? (fitsQ x))) := by
  intro m
  induction m with
  | zero =>
    intro k hm hk
    obtain ⟨k, rfl⟩ : ∃ j, k = j + 2 := ⟨k - 2, by omega⟩
    simp only [spec_RouteTo.l0, spec_RouteTo.j1]
    rw [if_neg (by omega), if_neg (by decide), List.drop_of_length_le (by rw [bk_len]; omega)]
    rfl
  | succ m ih =>
    intro k hm hk
    obtain ⟨k, rfl⟩ : ∃ j, k = j + 2 := ⟨k - 2, by omega⟩
    have e0 : ((m + 1 : Nat) : Int) - 1 = (m : Int) := by omega
    have e1 : wrap64 ((m : Int) - 1) = (m : Int) - 1 := w64 (by omega) (by omega)
    have hd : (bk l).drop (l.length - (m + 1)) = ((m : Int), rd_T65 l (m : Int)) :: (bk l).drop (l.length - m) := by
      have hk2 : l.length - (m + 1) < (bk l).length := by rw [bk_len]; omega
      rw [List.drop_eq_getElem_cons hk2]
      have hg := bk_get l (l.length - (m + 1)) (by omega)
      rw [List.getElem?_eq_getElem hk2] at hg
      rw [Option.some.inj hg, show l.length - (m + 1) + 1 = l.length - m by omega, show l.length - 1 - (l.length - (m + 1)) = m by omega]
    rw [e0, hd, List.find?_cons]
    simp only [spec_RouteTo.l0]
    rw [if_pos (by omega), specRoutesOk_eq l (by omega) (k + 1) (by omega), ho]
    simp only [Option.bind_some, spec_RouteTo.j1, if_true]
    rw [if_pos (by omega), if_pos (by omega), specRouteFits_eq, e1]
    simp only [Option.bind_some]
    show (if fitsQ x ((m : Int), rd_T65 l (m : Int)) = true then _ else _) = _
    cases hf : fitsQ x ((m : Int), rd_T65 l (m : Int)) with
    | true => rfl
    | false =>
      rw [if_neg (by decide)]
      exact ih k (by omega) (by omega)
theorem specRouteTo_eq (l : List S65) (hl : l.length ≤ 1048576) (x : Int) (k : Nat) (hk : 3 * l.length + 4 < k) : spec_RouteTo.f k l x = some (routeTo l x) := by
  unfold spec_RouteTo.f routeTo
  rw [w64 (x := (l.length : Int) - 1) (by omega) (by omega)]
  cases ho : routesOk l with
  | true =>
    rw [specRouteTo_loop l hl x ho l.length k (by omega) (by omega), if_pos rfl, Nat.sub_self, List.drop_zero]
  | false =>
    obtain ⟨k, rfl⟩ : ∃ j, k = j + 2 := ⟨k - 2, by omega⟩
    rw [if_neg (by decide)]
    simp only [spec_RouteTo.l0]
    split
    · rw [specRoutesOk_eq l (by omega) (k + 1) (by omega), ho]
      simp only [Option.bind_some, spec_RouteTo.j1]
      rw [if_neg (by decide)]
    · simp only [spec_RouteTo.j1]
      rw [if_neg (by decide)]
theorem implRouteTo_eq (l : List S65) (hl : l.length ≤ 1048576) (x : Int) (k : Nat) (hk : l.length + 4 < k) : impl_RouteTo.f k l x = some (routeTo l x) := by
  unfold impl_RouteTo.f routeTo
  rw [implRoutesOk_eq l (by omega) k (by omega), word_eq]
  simp only [Option.bind_some]
  cases ho : routesOk l with
  | false => rfl
  | true =>
    rw [if_pos rfl, if_pos rfl]
    have hall := routesOk_all ho
    have hb : ∀ q ∈ bk l, (0 ≤ q.2.f1 ∧ q.2.f1 ≤ 16) ∧ rOk q.2 = true := fun q hq => ⟨(routeOk_bits (hall _ (bk_mem hq))).1, hall _ (bk_mem hq)⟩
    by_cases hx : 0 ≤ x ∧ x ≤ 65535
    · have hfind : (bk l).find? (hit x 17) = (bk l).find? (fitsQ x) := find_congr fun q hq => by
        obtain ⟨h1, h2⟩ := hb q hq
        unfold hit fitsQ routeFits
        rw [fits_eq h1, show routeOk q.2.f0 q.2.f1 q.2.f2 q.2.f3 = true from h2, decide_eq_true (show q.2.f1 < 17 by omega)]
        by_cases h4 : x / rest q.2.f1 = q.2.f0 / rest q.2.f1 <;> simp [h4, hx]
      rw [if_pos (by simp [hx])]
      unfold impl_routeTo.f
      rw [if_pos ⟨by omega, List.all_eq_true.2 fun q hq => by rw [fits_eq (hb q hq).1]; rfl⟩, hfind]
      cases (bk l).find? (fitsQ x) <;> rfl
    · have hfind : (bk l).find? (fitsQ x) = none := List.find?_eq_none.2 fun q hq => by
        unfold fitsQ routeFits
        simp [hx]
      rw [if_neg (by simp [hx]), hfind]
      rfl

/-- What pick draws. -/
def pk (b : List Int) (p n : Int) : Int := ((spec_l20Rd_pick.f 1 b p n).getD (0, 0)).1
theorem pick_f (b : List Int) (hb : Bytes b) (hl : b.length ≤ 2000) (p n : Int) (h0 : 0 ≤ p) (h1 : p ≤ 1073741824) (h2 : -2147483648 ≤ n) (h3 : n ≤ 65536) (k : Nat) :
    ∃ v, spec_l20Rd_pick.f (k + 1) b p n = some (v, p + 1) ∧ 0 ≤ v ∧ (1 ≤ n → v < n) ∧ (n < 1 → v = 0) := by
  have ep : wrap64 (p + 1) = p + 1 := w64 (by omega) (by omega)
  have ep' : wrap64 (p + 1 - 1) = p := by rw [w64 (by omega) (by omega)]; omega
  unfold spec_l20Rd_pick.f
  rw [ep]
  simp only [spec_l20Rd_pick.j0, ep']
  by_cases hn : n < 1
  · rw [if_pos hn, if_pos trivial]
    exact ⟨0, rfl, by omega, fun h => by omega, fun _ => rfl⟩
  rw [if_neg hn]
  by_cases he : (b.length : Int) = 0
  · rw [if_pos (by simpa using he)]
    exact ⟨0, rfl, by omega, fun h => by omega, fun _ => rfl⟩
  rw [if_neg (by simpa using he)]
  by_cases hp : p < (b.length : Int)
  · rw [if_pos hp, if_pos h0, if_neg (by omega)]
    have hr := hb.at_ p
    rw [w64 (x := rd b p) (by omega) (by omega)]
    refine ⟨_, rfl, Int.tmod_nonneg _ hr.1, fun _ => ?_, fun h => by omega⟩
    rw [Int.tmod_eq_emod_of_nonneg hr.1]
    exact Int.emod_lt_of_pos _ (by omega)
  rw [if_neg hp]
  have m1 : 0 ≤ Int.tmod p (b.length : Int) ∧ Int.tmod p (b.length : Int) < (b.length : Int) := by
    rw [Int.tmod_eq_emod_of_nonneg h0]; exact ⟨Int.emod_nonneg _ he, Int.emod_lt_of_pos _ (by omega)⟩
  have e7 : wrap64 (wrap64 (p * 7) + 3) = p * 7 + 3 := by rw [w64 (x := p * 7) (by omega) (by omega), w64 (by omega) (by omega)]
  have m2 : 0 ≤ Int.tmod (p * 7 + 3) (b.length : Int) ∧ Int.tmod (p * 7 + 3) (b.length : Int) < (b.length : Int) := by
    rw [Int.tmod_eq_emod_of_nonneg (by omega)]; exact ⟨Int.emod_nonneg _ he, Int.emod_lt_of_pos _ (by omega)⟩
  rw [if_neg he, if_pos m1.1, if_pos m1.2, e7, if_pos m2.1, if_pos m2.2, if_neg (show ¬ n = 0 by omega)]
  have r1 := hb.at_ (Int.tmod p (b.length : Int))
  have r2 := hb.at_ (Int.tmod (p * 7 + 3) (b.length : Int))
  generalize rd b (Int.tmod p (b.length : Int)) = x1 at r1 ⊢
  generalize rd b (Int.tmod (p * 7 + 3) (b.length : Int)) = x2 at r2 ⊢
  have q0 : Int.tdiv p (b.length : Int) = p / (b.length : Int) := Int.tdiv_eq_ediv_of_nonneg h0
  have q1 : 0 ≤ p / (b.length : Int) := Int.ediv_nonneg h0 (by omega)
  have q2 : p / (b.length : Int) ≤ p := Int.ediv_le_self _ h0
  rw [q0]
  generalize p / (b.length : Int) = q at q1 q2 ⊢
  rw [w64 (x := x1) (by omega) (by omega), w64 (x := x2) (by omega) (by omega), w64 (x := x1 * 131) (by omega) (by omega), w64 (x := x2 * 1117) (by omega) (by omega), w64 (x := p * 29) (by omega) (by omega),
    w64 (x := q) (by omega) (by omega), w64 (x := q * 53) (by omega) (by omega), w64 (x := x1 * 131 + x2 * 1117) (by omega) (by omega), w64 (x := x1 * 131 + x2 * 1117 + p * 29) (by omega) (by omega), w64 (x := x1 * 131 + x2 * 1117 + p * 29 + q * 53) (by omega) (by omega)]
  obtain ⟨y, hy⟩ : ∃ y : Nat, x1 * 131 + x2 * 1117 + p * 29 + q * 53 = (y : Int) := ⟨(x1 * 131 + x2 * 1117 + p * 29 + q * 53).toNat, by omega⟩
  have hy2 : y < 1099511627776 := by omega
  rw [hy]
  have d0 : Int.tdiv (y : Int) 64 = ((y / 64 : Nat) : Int) := by rw [Int.tdiv_eq_ediv_of_nonneg (by omega)]; rfl
  have hz : y / 64 < 1099511627776 := by omega
  rw [d0, w64 (x := ((y / 64 : Nat) : Int)) (by omega) (by omega)]
  obtain ⟨ex, lx⟩ := xor_i64 y (y / 64) hy2 hz
  rw [ex]
  refine ⟨_, rfl, Int.tmod_nonneg _ (by omega), fun _ => ?_, fun h => by omega⟩
  rw [Int.tmod_eq_emod_of_nonneg (by omega)]
  exact Int.emod_lt_of_pos _ (by omega)
theorem pick_one (b : List Int) (p n : Int) (k : Nat) : spec_l20Rd_pick.f (k + 1) b p n = spec_l20Rd_pick.f 1 b p n := by
  unfold spec_l20Rd_pick.f
  simp only [spec_l20Rd_pick.j0]
theorem pick_eq {b : List Int} (hb : Bytes b) (hl : b.length ≤ 2000) {p n : Int} (h0 : 0 ≤ p) (h1 : p ≤ 1073741824) (h2 : -2147483648 ≤ n) (h3 : n ≤ 65536) {k : Nat} (hk : 1 ≤ k) : spec_l20Rd_pick.f k b p n = some (pk b p n, p + 1) := by
  obtain ⟨k, rfl⟩ : ∃ m, k = m + 1 := ⟨k - 1, by omega⟩
  rw [pick_one]
  obtain ⟨v, hv, _⟩ := pick_f b hb hl p n h0 h1 h2 h3 0
  unfold pk
  rw [hv]; rfl
theorem pk_range {b : List Int} (hb : Bytes b) (hl : b.length ≤ 2000) {p n : Int} (h0 : 0 ≤ p) (h1 : p ≤ 1073741824) (h2 : 1 ≤ n) (h3 : n ≤ 65536) : 0 ≤ pk b p n ∧ pk b p n < n := by
  obtain ⟨v, hv, g0, g1, _⟩ := pick_f b hb hl p n h0 h1 (by omega) h3 0
  unfold pk
  rw [hv]; exact ⟨g0, g1 h2⟩
/-- The bytes that are drawn from. -/
theorem open_eq (l : List Int) (hb : Bytes l) : ∃ b, spec_l20Open.f l = some (b, 0) ∧ Bytes b ∧ b.length ≤ 2000 := by
  unfold spec_l20Open.f
  by_cases h : (l.length : Int) > 2000
  · rw [if_pos h, if_pos (by omega)]
    exact ⟨_, rfl, hb.take _, by simp; omega⟩
  · rw [if_neg h]
    exact ⟨_, rfl, hb, by omega⟩

/-- odd tells just this. -/
theorem odd_eq {b : List Int} (hb : Bytes b) (hl : b.length ≤ 2000) {p n : Int} (h0 : 0 ≤ p) (h1 : p ≤ 1073741824) (h2 : 0 ≤ n) (h3 : n ≤ 65536) {k : Nat} (hk : 1 ≤ k) :
    ∃ o p', spec_l20Rd_odd.f k b p n = some (o, p') ∧ p ≤ p' ∧ p' ≤ p + 1 ∧ (n = 0 → o = false) := by
  unfold spec_l20Rd_odd.f
  by_cases h : n > 0
  · rw [if_pos h, pick_eq hb hl h0 h1 (by omega) h3 hk]
    exact ⟨_, _, rfl, by omega, by omega, fun h => by omega⟩
  · rw [if_neg h]
    exact ⟨_, _, rfl, by omega, by omega, fun _ => rfl⟩

theorem rd_bits {i v : Int} (h : 0 ≤ i ∧ i < 7) (hv : 0 ≤ v ∧ v < 17) : 0 ≤ rd [0, 4, 8, 8, 12, 16, v] i ∧ rd [0, 4, 8, 8, 12, 16, v] i ≤ 16 := by
  rcases (by omega : i = 0 ∨ i = 1 ∨ i = 2 ∨ i = 3 ∨ i = 4 ∨ i = 5 ∨ i = 6) with rfl | rfl | rfl | rfl | rfl | rfl | rfl
  · show 0 ≤ (0 : Int) ∧ (0 : Int) ≤ 16
    decide
  · show 0 ≤ (4 : Int) ∧ (4 : Int) ≤ 16
    decide
  · show 0 ≤ (8 : Int) ∧ (8 : Int) ≤ 16
    decide
  · show 0 ≤ (8 : Int) ∧ (8 : Int) ≤ 16
    decide
  · show 0 ≤ (12 : Int) ∧ (12 : Int) ≤ 16
    decide
  · show 0 ≤ (16 : Int) ∧ (16 : Int) ≤ 16
    decide
  · show 0 ≤ v ∧ v ≤ 16
    omega
theorem drawRoute_eq {b : List Int} (hb : Bytes b) (hl : b.length ≤ 2000) {p m : Int} (h0 : 0 ≤ p) (h1 : p ≤ 268435456) (hm0 : 0 ≤ m) (hm1 : m ≤ 65536) {k : Nat} (hk : 1 ≤ k) :
    ∃ a n v r p', spec_l20Route.f k b p m = some (a, n, v, r, p') ∧ p ≤ p' ∧ p' ≤ p + 9 := by
  obtain ⟨k, rfl⟩ : ∃ m, k = m + 1 := ⟨k - 1, by omega⟩
  unfold spec_l20Route.f
  rw [pick_eq hb hl h0 (by omega) (by omega) (by omega) hk]
  simp only [Option.bind_some]
  rw [pick_eq hb hl (p := p + 1) (n := 7) (by omega) (by omega) (by omega) (by omega) hk]
  simp only [Option.bind_some]
  have r1 := pk_range hb hl (p := p) (n := 17) (by omega) (by omega) (by omega) (by omega)
  have r2 := pk_range hb hl (p := p + 1) (n := 7) (by omega) (by omega) (by omega) (by omega)
  rw [if_pos r2.1, if_pos (by simp only [List.length_cons, List.length_nil]; omega)]
  rw [pick_eq hb hl (p := p + 1 + 1) (n := 512) (by omega) (by omega) (by omega) (by omega) hk]
  simp only [Option.bind_some]
  rw [pick_eq hb hl (p := p + 1 + 1 + 1) (n := 6) (by omega) (by omega) (by omega) (by omega) hk]
  simp only [Option.bind_some]
  have r3 := pk_range hb hl (p := p + 1 + 1 + 1) (n := 6) (by omega) (by omega) (by omega) (by omega)
  rw [if_pos r3.1, if_pos (by simp only [List.length_cons, List.length_nil]; omega)]
  obtain ⟨e1, e2, e3, e4⟩ := rest_shl (rd_bits r2 r1)
  generalize rd [0, 4, 8, 8, 12, 16, pk b p 17] (pk b (p + 1) 7) = bits at e1 e2 e3 e4 ⊢
  generalize rd [0, 4096, 4352, 4353, wrap64 (4096 + pk b (p + 1 + 1) 512), 65535] (pk b (p + 1 + 1 + 1) 6) = adr
  rw [if_pos e1, if_neg (show ¬ shl .i64 1 (wrap64 (16 - bits)) = 0 by rw [e2]; omega)]
  rw [pick_eq hb hl (p := p + 1 + 1 + 1 + 1) (n := 3) (by omega) (by omega) (by omega) (by omega) hk]
  simp only [Option.bind_some]
  rw [pick_eq hb hl (p := p + 1 + 1 + 1 + 1 + 1) (n := 3) (by omega) (by omega) (by omega) (by omega) hk]
  simp only [Option.bind_some]
  obtain ⟨o, p2, e5, g5, g6, g7⟩ := odd_eq hb hl (p := p + 1 + 1 + 1 + 1 + 1 + 1) (n := m) (by omega) (by omega) hm0 hm1 hk
  simp only [e5, Option.bind_some]
  cases o with
  | false =>
    rw [if_neg (by decide)]
    exact ⟨_, _, _, _, _, rfl, by omega, by omega⟩
  | true =>
    simp only [if_true]
    rw [pick_eq hb hl (p := p2) (n := 3) (by omega) (by omega) (by omega) (by omega) hk]
    simp only [Option.bind_some]
    rw [pick_eq hb hl (p := p2 + 1) (n := 2) (by omega) (by omega) (by omega) (by omega) hk]
    simp only [Option.bind_some]
    split
    · exact ⟨_, _, _, _, _, rfl, by omega, by omega⟩
    · split
      · exact ⟨_, _, _, _, _, rfl, by omega, by omega⟩
      · exact ⟨_, _, _, _, _, rfl, by omega, by omega⟩

theorem routePut_end (l o : List S65) (hl : l.length ≤ 16) (a b v r : Int) (k : Nat) (hk : l.length + 1 < k) : ∃ q, spec_RoutePut.j2 k l o a b v r = some q ∧ q.1.length ≤ 8 := by
  obtain ⟨k, rfl⟩ : ∃ m, k = m + 1 := ⟨k - 1, by omega⟩
  simp only [spec_RoutePut.j2, specRoutesOk_eq l (by omega) k (by omega), specRouteOk_eq, Option.bind_some]
  split
  · split
    · split
      · exact ⟨_, rfl, by simp⟩
      · exact ⟨_, rfl, by show o.length ≤ 8; omega⟩
    · exact ⟨_, rfl, by simp⟩
  · exact ⟨_, rfl, by simp⟩
theorem routePut_loop (l : List S65) (hl : l.length ≤ 16) (a b v r : Int) : ∀ (d k i : Nat) (o : List S65) (z : Bool), l.length - i = d → i ≤ l.length → o.length ≤ 2 * i → 2 * d + l.length + 4 < k →
    ∃ q, spec_RoutePut.l0 k l o z (i : Int) a b v r = some q ∧ q.1.length ≤ 8 := by
  intro d
  induction d with
  | zero =>
    intro k i o z hd hi ho hk
    obtain ⟨k, rfl⟩ : ∃ m, k = m + 1 := ⟨k - 1, by omega⟩
    simp only [spec_RoutePut.l0]
    rw [if_neg (by omega)]
    split
    · exact routePut_end l o hl a b v r k (by omega)
    · rw [if_pos (by omega)]
      exact routePut_end l _ hl a b v r k (by omega)
  | succ d ih =>
    intro k i o z hd hi ho hk
    obtain ⟨k, rfl⟩ : ∃ m, k = m + 2 := ⟨k - 2, by omega⟩
    have e1 : wrap64 ((i : Int) + 1) = ((i + 1 : Nat) : Int) := by rw [w64 (by omega) (by omega)]; rfl
    have hj : ∀ z x a' b' v' r', ∃ q, spec_RoutePut.j1 (k + 1) l o z (i : Int) x a b v r a' b' v' r' = some q ∧ q.1.length ≤ 8 := by
      intro z x a' b' v' r'
      simp only [spec_RoutePut.j1, e1, Option.bind_some]
      have g1 : o.length < 4398046511104 := by omega
      have g2 : ∀ y : S65, (o ++ [y]).length < 4398046511104 := by intro y; rw [List.length_append]; simp only [List.length_cons, List.length_nil]; omega
      have g3 : ∀ y : S65, (o ++ [y]).length ≤ 2 * (i + 1) := by intro y; rw [List.length_append]; simp only [List.length_cons, List.length_nil]; omega
      have g4 : ∀ y y' : S65, (o ++ [y] ++ [y']).length ≤ 2 * (i + 1) := by intro y y'; rw [List.length_append, List.length_append]; simp only [List.length_cons, List.length_nil]; omega
      simp only [if_pos g1, if_pos (g2 _)]
      split
      · split
        · split
          · exact ih k (i + 1) _ _ (by omega) (by omega) (g3 _) (by omega)
          · exact ih k (i + 1) _ _ (by omega) (by omega) (g4 _ _) (by omega)
        · exact ih k (i + 1) _ _ (by omega) (by omega) (g4 _ _) (by omega)
      · split
        · split
          · exact ih k (i + 1) _ _ (by omega) (by omega) (by omega) (by omega)
          · exact ih k (i + 1) _ _ (by omega) (by omega) (g3 _) (by omega)
        · exact ih k (i + 1) _ _ (by omega) (by omega) (g3 _) (by omega)
    simp only [spec_RoutePut.l0]
    rw [if_pos (by omega), if_pos (by omega)]
    split
    · exact hj _ _ _ _ _ _
    · split
      · exact hj _ _ _ _ _ _
      · split
        · exact hj _ _ _ _ _ _
        · exact hj _ _ _ _ _ _
theorem routePut_eq (l : List S65) (hl : l.length ≤ 16) (a b v r : Int) (k : Nat) (hk : 60 ≤ k) : ∃ q, spec_RoutePut.f k l a b v r = some q ∧ q.1.length ≤ 8 := by
  unfold spec_RoutePut.f
  exact routePut_loop l hl a b v r l.length k 0 [] false (by omega) (by omega) (by simp) (by omega)

theorem drawRoutes_loop {b : List Int} (hb : Bytes b) (hl : b.length ≤ 2000) (m : Int) (hm0 : 0 ≤ m) (hm1 : m ≤ 65536) : ∀ (d k : Nat) (o : List S65) (p : Int), d ≤ 8 → o.length ≤ 8 → 0 ≤ p → p ≤ 100 + 9 * (8 - (d : Int)) → d + 62 ≤ k →
    ∃ L p', spec_l20Routes.l0 k m o (d : Int) b p = some (L, p') ∧ L.length ≤ 9 ∧ 0 ≤ p' ∧ p' ≤ 300 := by
  intro d
  induction d with
  | zero =>
    intro k o p hd ho hp hp2 hk
    obtain ⟨k, rfl⟩ : ∃ m, k = m + 1 := ⟨k - 1, by omega⟩
    obtain ⟨z, p2, e5, g5, g6, g7⟩ := odd_eq hb hl (p := p) (n := m) (by omega) (by omega) hm0 hm1 (k := k) (by omega)
    obtain ⟨a, n, v, r, p3, e, h1, h2⟩ := drawRoute_eq hb hl (p := p2) (m := 2) (by omega) (by omega) (by omega) (by omega) (k := k) (by omega)
    simp only [spec_l20Routes.l0]
    rw [if_neg (by omega)]
    simp only [e5, e, Option.bind_some]
    split
    · rw [if_pos (by omega)]
      exact ⟨_, _, rfl, by rw [List.length_append]; simp only [List.length_cons, List.length_nil]; omega, by omega, by omega⟩
    · exact ⟨_, _, rfl, by omega, by omega, by omega⟩
  | succ d ih =>
    intro k o p hd ho hp hp2 hk
    obtain ⟨k, rfl⟩ : ∃ m, k = m + 1 := ⟨k - 1, by omega⟩
    obtain ⟨a, n, v, r, p3, e, h1, h2⟩ := drawRoute_eq hb hl (p := p) (m := 0) (by omega) (by omega) (by omega) (by omega) (k := k) (by omega)
    obtain ⟨q, e2, h3⟩ := routePut_eq o (by omega) a n v r k (by omega)
    have e1 : wrap64 (((d + 1 : Nat) : Int) - 1) = (d : Int) := by rw [w64 (by omega) (by omega)]; omega
    simp only [spec_l20Routes.l0]
    rw [if_pos (by omega)]
    simp only [e, e2, e1, Option.bind_some]
    split
    · exact ih k _ _ (by omega) h3 (by omega) (by omega) (by omega)
    · exact ih k _ _ (by omega) ho (by omega) (by omega) (by omega)
theorem drawRoutes_eq {b : List Int} (hb : Bytes b) (hl : b.length ≤ 2000) {m p : Int} (hm0 : 0 ≤ m) (hm1 : m ≤ 65536) (hp : 0 ≤ p) (hp1 : p ≤ 90) (k : Nat) (hk : 70 ≤ k) :
    ∃ L p', spec_l20Routes.f k b p m = some (L, p') ∧ L.length ≤ 9 ∧ 0 ≤ p' ∧ p' ≤ 300 := by
  unfold spec_l20Routes.f
  rw [pick_eq hb hl (p := p) (n := 8) (by omega) (by omega) (by omega) (by omega) (by omega)]
  simp only [Option.bind_some]
  have r1 := pk_range hb hl (p := p) (n := 8) (by omega) (by omega) (by omega) (by omega)
  obtain ⟨d, hd⟩ : ∃ d : Nat, pk b p 8 = (d : Int) := ⟨(pk b p 8).toNat, by omega⟩
  rw [hd] at r1 ⊢
  exact drawRoutes_loop hb hl m hm0 hm1 d k [] (p + 1) (by omega) (by simp) (by omega) (by omega) (by omega)

theorem drawAddr_eq {b : List Int} (hb : Bytes b) (hl : b.length ≤ 2000) {p : Int} (h0 : 0 ≤ p) (h1 : p ≤ 268435456) {k : Nat} (hk : 1 ≤ k) :
    ∃ x p', spec_l20Addr.f k b p = some (x, p') ∧ p ≤ p' ∧ p' ≤ p + 5 := by
  unfold spec_l20Addr.f
  rw [pick_eq hb hl h0 (by omega) (by omega) (by omega) hk]
  simp only [Option.bind_some]
  rw [pick_eq hb hl (p := p + 1) (n := 256) (by omega) (by omega) (by omega) (by omega) hk]
  simp only [Option.bind_some]
  rw [pick_eq hb hl (p := p + 1 + 1) (n := 256) (by omega) (by omega) (by omega) (by omega) hk]
  simp only [Option.bind_some]
  rw [pick_eq hb hl (p := p + 1 + 1 + 1) (n := 2) (by omega) (by omega) (by omega) (by omega) hk]
  simp only [Option.bind_some]
  rw [pick_eq hb hl (p := p + 1 + 1 + 1 + 1) (n := 8) (by omega) (by omega) (by omega) (by omega) hk]
  simp only [Option.bind_some]
  have r3 := pk_range hb hl (p := p + 1 + 1 + 1 + 1) (n := 8) (by omega) (by omega) (by omega) (by omega)
  rw [if_pos r3.1, if_pos (by simp only [List.length_cons, List.length_nil]; omega)]
  exact ⟨_, _, rfl, by omega, by omega⟩

theorem implRouteFits_eq (a b v r x : Int) : impl_RouteFits.f a b v r x = some (routeFits a b v r x) := by
  unfold impl_RouteFits.f routeFits impl_Route_fits.f
  simp only [implRouteOk_eq, word_eq, Option.bind_some]
  cases h : routeOk a b v r with
  | false => rfl
  | true =>
    obtain ⟨h1, h2⟩ := routeOk_bits h
    obtain ⟨e1, e2, e3, e4⟩ := rest_shl h1
    rw [if_pos e1, rest_shr h1, rest_shr h1]
    by_cases h3 : 0 ≤ x ∧ x ≤ 65535
    · by_cases h4 : x / rest b = a / rest b <;> simp [h3, h4]
    · simp [h3]

theorem implbytesOf_loop : ∀ (i k : Nat) (v : Int) (o : List Int), i < k → i ≤ o.length → o.length < 4611686018427387904 →
    impl_bytesOf.l0 k v o ((i : Int) - 1) = some (be i v ++ o.drop i)
  | 0, k, v, o, hk, hi, hl => by
    obtain ⟨k, rfl⟩ : ∃ m, k = m + 1 := ⟨k - 1, by omega⟩
    simp only [impl_bytesOf.l0]
    rw [if_neg (by omega)]; simp [be]
  | i + 1, k, v, o, hk, hi, hl => by
    obtain ⟨k, rfl⟩ : ∃ m, k = m + 1 := ⟨k - 1, by omega⟩
    have e1 : ((i + 1 : Nat) : Int) - 1 = (i : Int) := by omega
    have e2 : wrap64 ((i : Int) - 1) = (i : Int) - 1 := w64 (by omega) (by omega)
    have e3 : ((i : Int)).toNat = i := by omega
    rw [e1]
    simp only [impl_bytesOf.l0]
    rw [if_pos (by omega), if_pos (by omega), if_pos (by omega), e2, implbytesOf_loop i k _ _ (by omega) (by simp; omega) (by simpa using hl), e3, drop_rd _ i (by simp; omega), rd_set_eq _ _ _ (by omega), List.drop_set_of_lt (by omega)]
    simp [be]
theorem implbytesOf_eq (v n : Int) (h0 : 0 ≤ n) (h1 : n ≤ 1073741824) (k : Nat) (hk : n.toNat < k) : impl_bytesOf.f k v n = some (be n.toNat v) := by
  unfold impl_bytesOf.f
  rw [if_pos h0, if_pos (by omega), w64 (by omega) (by omega)]
  obtain ⟨n, rfl⟩ : ∃ m : Nat, n = m := ⟨n.toNat, by omega⟩
  rw [implbytesOf_loop n k v _ (by omega) (by simp) (by simp; omega)]
  simp

/-- A number as n bytes, n in 1..4; none for others. -/
def bytesV (v n : Int) : List Int := if (1 ≤ n ∧ n ≤ 4) ∧ 0 ≤ v ∧ v < 256 ^ n.toNat then be n.toNat v else []
theorem four {n : Int} (h : 1 ≤ n ∧ n ≤ 4) : n = 1 ∨ n = 2 ∨ n = 3 ∨ n = 4 := by omega
theorem lim_of (n : Int) (h : 1 ≤ n ∧ n ≤ 4) : wrap64 (shl .i64 1 (wrap64 (8 * n)) - 1) = 256 ^ n.toNat - 1 ∧ 0 ≤ wrap64 (8 * n) := by
  rcases four h with rfl | rfl | rfl | rfl <;> decide +kernel
theorem bytesV_length (v n : Int) : (bytesV v n).length ≤ 4 := by
  unfold bytesV; split
  · rw [be_length]; omega
  · simp
theorem bytesV_bytes (v n : Int) : Bytes (bytesV v n) := by
  unfold bytesV; split
  · exact be_bytes _ _
  · exact Bytes.nil

theorem implBytesOf_eq (v n : Int) (k : Nat) (hk : 6 ≤ k) : impl_BytesOf.f k v n = some (bytesV v n) := by
  unfold impl_BytesOf.f bytesV
  simp only [in_eq, Option.bind_some]
  by_cases h1 : 1 ≤ n ∧ n ≤ 4
  · obtain ⟨e1, e2⟩ := lim_of n h1
    rw [if_pos (decide_eq_true h1), if_pos e2, e1]
    by_cases h2 : 0 ≤ v ∧ v ≤ 256 ^ n.toNat - 1
    · rw [if_pos (decide_eq_true h2), implbytesOf_eq v n (by omega) (by omega) k (by omega), if_pos ⟨h1, h2.1, by omega⟩]; rfl
    · rw [if_neg (by simpa using h2), if_neg (by omega)]
  · rw [if_neg (by simpa using h1), if_neg (fun h => h1 h.1)]

theorem alive_eq (k : Nat) (hk : 6 ≤ k) : laws_alive.f k = some true := by
  unfold laws_alive.f
  simp only [implBytesOf_eq _ _ k hk, Option.bind_some]
  rfl

theorem bk_snd (l : List S65) : (bk l).map Prod.snd = l.reverse := by
  apply List.ext_getElem?
  intro k
  by_cases h : k < l.length
  · rw [List.getElem?_map, bk_get l k h, List.getElem?_reverse h]
    show some (rd_T65 l ((l.length - 1 - k : Nat) : Int)) = _
    rw [rdT_nat l (l.length - 1 - k) (by omega), List.getElem?_eq_getElem (by omega)]
  · rw [List.getElem?_eq_none (by rw [List.length_map, bk_len]; omega), List.getElem?_eq_none (by rw [List.length_reverse]; omega)]
theorem chain_behind : ∀ (q : S65) (l : List S65), rChain (some q) l = true → ∀ r ∈ l, rLt q r = true
  | q, [], _, r, hr => by cases hr
  | q, s :: l, h, r, hr => by
    have hs : rLt q s = true := by simp only [rChain, Bool.and_eq_true] at h; exact h.1.2
    rcases List.mem_cons.1 hr with rfl | hr
    · exact hs
    · have h2 : rChain (some s) l = true := by simp only [rChain, Bool.and_eq_true] at h; exact h.2
      have h3 := chain_behind s l h2 r hr
      have g1 := of_decide_eq_true hs
      have g2 := of_decide_eq_true h3
      exact decide_eq_true (by omega)
theorem chain_split : ∀ (p : Option S65) (pre : List S65) (q : S65) (post : List S65), rChain p (pre ++ q :: post) = true → (∀ r ∈ pre, rLt r q = true) ∧ (∀ r ∈ post, rLt q r = true)
  | none, [], q, post, h => by
    refine ⟨fun r hr => absurd hr List.not_mem_nil, ?_⟩
    simp only [List.nil_append, rChain, Bool.and_eq_true] at h
    exact chain_behind q post h.2
  | some _, [], q, post, h => by
    refine ⟨fun r hr => absurd hr List.not_mem_nil, ?_⟩
    simp only [List.nil_append, rChain, Bool.and_eq_true] at h
    exact chain_behind q post h.2
  | p, s :: pre, q, post, h => by
    have h2 : rChain (some s) (pre ++ q :: post) = true := by
      cases p <;> simp only [List.cons_append, rChain, Bool.and_eq_true] at h <;> exact h.2
    obtain ⟨g1, g2⟩ := chain_split (some s) pre q post h2
    refine ⟨fun r hr => ?_, g2⟩
    rcases List.mem_cons.1 hr with rfl | hr
    · exact chain_behind r _ h2 q (by simp)
    · exact g1 r hr
/-- A route has these fields. -/
def sameR (a b c d : Int) (r : S65) : Bool := r.f0 == a && (r.f1 == b && (r.f2 == c && (r.f3 == d)))
theorem sameR_iff {q r : S65} : sameR q.f0 q.f1 q.f2 q.f3 r = true → ¬ rLt r q = true ∧ ¬ rLt q r = true := by
  intro h
  unfold sameR at h
  simp only [Bool.and_eq_true, beq_iff_eq] at h
  obtain ⟨h0, h1, _, _⟩ := h
  exact ⟨fun hc => by have := of_decide_eq_true hc; omega, fun hc => by have := of_decide_eq_true hc; omega⟩
def fitsR (x : Int) (r : S65) : Bool := routeFits r.f0 r.f1 r.f2 r.f3 x
theorem any_next {α : Type} (p : α → Bool) (l : List α) (i : Nat) (h : i < l.length) : (l.take (i + 1)).any p = ((l.take i).any p || p l[i]) := by
  rw [List.take_succ_eq_append_getElem h, List.any_append]; simp
theorem countP_next {α : Type} (p : α → Bool) (l : List α) (i : Nat) (h : i < l.length) : (l.take (i + 1)).countP p = (l.take i).countP p + (if p l[i] = true then 1 else 0) := by
  rw [List.take_succ_eq_append_getElem h, List.countP_append, List.countP_singleton]
theorem best_loop (l : List S65) (hl : l.length ≤ 9) (x : Int) (ok : Bool) (a b c d : Int) (h1 : ∀ r ∈ l, fitsR x r = true → r.f1 ≤ b) (h2 : ok = l.any (fitsR x)) (h3 : ok = true → l.countP (sameR a b c d) = 1 ∧ routeFits a b c d x = true) :
    ∀ (e k i : Nat), l.length - i = e → i ≤ l.length → e + 10 ≤ k → laws_FnRouteTo.l0 k l x ok (((l.take i).countP (sameR a b c d) : Nat) : Int) ((l.take i).any (fitsR x)) (i : Int) a b c d = some true := by
  intro e
  induction e with
  | zero =>
    intro k i he hi hk
    obtain ⟨k, rfl⟩ : ∃ m, k = m + 1 := ⟨k - 1, by omega⟩
    simp only [laws_FnRouteTo.l0]
    rw [if_neg (by omega), List.take_of_length_le (by omega), ← h2]
    simp only [beq_self_eq_true, if_true, implRouteFits_eq, alive_eq k (by omega), Option.bind_some]
    cases ok with
    | false => rfl
    | true =>
      obtain ⟨g1, g2⟩ := h3 rfl
      rw [if_pos rfl, g1, g2]; rfl
  | succ e ih =>
    intro k i he hi hk
    obtain ⟨k, rfl⟩ : ∃ m, k = m + 1 := ⟨k - 1, by omega⟩
    have hlt : i < l.length := by omega
    have e1 : wrap64 ((i : Int) + 1) = ((i + 1 : Nat) : Int) := by rw [w64 (by omega) (by omega)]; rfl
    have hn := ih k (i + 1) (by omega) (by omega) (by omega)
    rw [any_next _ l i hlt, countP_next _ l i hlt, ← rdT_nat l i hlt] at hn
    have hm : rd_T65 l (i : Int) ∈ l := by rw [rdT_nat l i hlt]; exact List.getElem_mem _
    have hb := h1 _ hm
    have hcl : (l.take i).countP (sameR a b c d) ≤ (l.take i).length := List.countP_le_length
    rw [List.length_take] at hcl
    have e2 : wrap64 ((((l.take i).countP (sameR a b c d) : Nat) : Int) + 1) = (((l.take i).countP (sameR a b c d) + 1 : Nat) : Int) := by rw [w64 (by omega) (by omega)]; rfl
    simp only [laws_FnRouteTo.l0]
    rw [if_pos (by omega), if_pos (by omega), implRouteFits_eq, e1, e2]
    simp only [Option.bind_some]
    generalize rd_T65 l (i : Int) = r at hn hb hm ⊢
    show (if fitsR x r = true then (if r.f1 > b then _ else (if sameR a b c d r = true then _ else _)) else (if sameR a b c d r = true then _ else _)) = _
    cases hf : fitsR x r <;> cases hs : sameR a b c d r <;> rw [hf, hs] at hn
    · rw [if_neg (by decide), if_neg (by decide)]
      rw [if_neg (by decide), Nat.add_zero, Bool.or_false] at hn
      exact hn
    · rw [if_neg (by decide), if_pos rfl]
      rw [if_pos rfl, Bool.or_false] at hn
      exact hn
    · have hbb := hb hf
      rw [if_pos rfl, if_neg (by omega), if_neg (by decide)]
      rw [if_neg (by decide), Nat.add_zero, Bool.or_true] at hn
      exact hn
    · have hbb := hb hf
      rw [if_pos rfl, if_neg (by omega), if_pos rfl]
      rw [if_pos rfl, Bool.or_true] at hn
      exact hn
/-- The one that is found is the longest, there once. -/
theorem told_best (l : List S65) (ho : routesOk l = true) (x : Int) : ∃ a b c d ok, routeTo l x = (a, b, c, d, ok) ∧ (∀ r ∈ l, fitsR x r = true → r.f1 ≤ b) ∧ ok = l.any (fitsR x) ∧ (ok = true → l.countP (sameR a b c d) = 1 ∧ routeFits a b c d x = true) := by
  unfold routeTo
  rw [if_pos ho]
  cases hf : (bk l).find? (fitsQ x) with
  | none =>
    have h := List.find?_eq_none.1 hf
    have hn : ∀ r ∈ l, ¬ fitsR x r = true := by
      intro r hr hc
      have hr2 : r ∈ (bk l).map Prod.snd := by rw [bk_snd]; exact List.mem_reverse.2 hr
      obtain ⟨q, hq, rfl⟩ := List.mem_map.1 hr2
      exact h q hq hc
    refine ⟨_, _, _, _, _, rfl, fun r hr hc => absurd hc (hn r hr), ?_, fun h => by cases h⟩
    exact (List.any_eq_false.2 hn).symm
  | some q =>
    obtain ⟨hq, as_, bs, e, ha⟩ := List.find?_eq_some_iff_append.1 hf
    have e2 : l = (bs.map Prod.snd).reverse ++ q.2 :: (as_.map Prod.snd).reverse := by
      have h := congrArg (List.map Prod.snd) e
      rw [bk_snd, List.map_append, List.map_cons] at h
      have h2 := congrArg List.reverse h
      rw [List.reverse_reverse, List.reverse_append, List.reverse_cons, List.append_assoc] at h2
      exact h2
    have hc : rChain none l = true := by unfold routesOk at ho; rw [Bool.and_eq_true] at ho; exact ho.1
    rw [e2] at hc
    obtain ⟨g1, g2⟩ := chain_split none _ q.2 _ hc
    have hno : ∀ r ∈ (as_.map Prod.snd).reverse, ¬ fitsR x r = true := by
      intro r hr hcx
      obtain ⟨q', hq', rfl⟩ := List.mem_map.1 (List.mem_reverse.1 hr)
      have := ha q' hq'
      rw [show fitsQ x q' = true from hcx] at this
      cases this
    refine ⟨_, _, _, _, _, rfl, ?_, ?_, fun _ => ⟨?_, hq⟩⟩
    · intro r hr hfr
      rw [e2] at hr
      rcases List.mem_append.1 hr with hr | hr
      · have := of_decide_eq_true (g1 r hr); omega
      · rcases List.mem_cons.1 hr with rfl | hr
        · exact Int.le_refl _
        · exact absurd hfr (hno r hr)
    · refine (List.any_eq_true.2 ⟨q.2, ?_, hq⟩).symm
      rw [e2]; simp
    · have hs : sameR q.2.f0 q.2.f1 q.2.f2 q.2.f3 q.2 = true := by unfold sameR; simp
      rw [e2, List.countP_append, List.countP_cons, hs, if_pos rfl, List.countP_eq_zero.2 (fun r hr hc => (sameR_iff hc).1 (g1 r hr)), List.countP_eq_zero.2 (fun r hr hc => (sameR_iff hc).2 (g2 r hr))]
theorem FnRouteTo : laws_FnRouteTo.Pure := by
  intro l hm hl hw
  refine ⟨100, ?_⟩
  obtain ⟨b, hb1, hb2, hb3⟩ := open_eq l (Bytes.of_wf hw)
  obtain ⟨L, p', e, hL, hp0, hp1⟩ := drawRoutes_eq hb2 hb3 (p := 0) (m := 15) (by omega) (by omega) (by omega) (by omega) 100 (by omega)
  obtain ⟨x, p2, e2, _⟩ := drawAddr_eq hb2 hb3 (p := p') (by omega) (by omega) (k := 100) (by omega)
  unfold laws_FnRouteTo.f
  by_cases h : (l.length : Int) > 1048576
  · rw [if_pos h]
  rw [if_neg h]
  unfold spec_DrawRouteTo.f
  simp only [hb1, e, e2, Option.bind_some, implRouteTo_eq L (by omega) x 100 (by omega), specRouteTo_eq L (by omega) x 100 (by omega), bne_self_eq_false, Bool.false_eq_true, if_false, beq_self_eq_true, Bool.not_true, Bool.or_self]
  simp only [laws_FnRouteTo.j0, Bool.false_eq_true, if_false, implRoutesOk_eq L (by omega) 99 (by omega), Option.bind_some]
  cases ho : routesOk L with
  | false =>
    rw [if_neg (by decide)]
    have e3 : routeTo L x = (0, 0, 0, 0, false) := by unfold routeTo; rw [ho]; rfl
    rw [e3]
    simp only [Bool.false_eq_true, if_false, alive_eq 99 (by omega), Option.bind_some]
  | true =>
    rw [if_pos rfl]
    obtain ⟨a, b', c, d, ok, e3, h1, h2, h3⟩ := told_best L ho x
    rw [e3]
    exact best_loop L hL x ok a b' c d h1 h2 h3 L.length 99 0 (by omega) (by omega) (by omega)

end Go.Proofs.Ytdplboenlcppkaa.Pure

/- RoutePut of the program is the reference's at all lists and routes; the statement's own bounds alone. -/
import Derived.Test.YtpoedefohfonjaaPFnExactRoutePutx7
import Derived.Test.YtpoedefohfonjaaUFnExactRoutePutBase
import Derived.Test.YtpoedefohfonjaaArgFnExactRoutePut
namespace Go.Proofs.Ytpoedefohfonjaa.Pure
set_option linter.unusedSimpArgs false
set_option linter.unusedVariables false
open Go Go.RowKit Go.Proofs.Ytpoedefohfonjaa.PFnExactRoutePut Go.Proofs.YtpoedefohfonjaaUFnExactRoutePut.PrintWords Go.Proofs.YtpoedefohfonjaaUFnExactRoutePut.PrintLast Go.Proofs.YtpoedefohfonjaaUFnExactRoutePut.PrintMore Go.Proofs.Ytpoedefohfonjaa.Base

theorem l1In_eq (a b c : Int) : spec_l1In.f a b c = some (decide (b ≤ a ∧ a ≤ c)) := by
 unfold spec_l1In.f
 by_cases h : a ≥ b <;> simp [h]

theorem in_eq (a b c : Int) : impl_in.f a b c = some (decide (b ≤ a ∧ a ≤ c)) := by
 unfold impl_in.f
 by_cases h : a ≥ b <;> simp [h]

theorem word_eq (a : Int) : impl_word.f a = some (decide (0 ≤ a ∧ a ≤ 65535)) := by
 unfold impl_word.f
 rw [in_eq]; rfl

/-- How many addresses have the same first bits. -/
def rest (b : Int) : Int := 2 ^ (16 - b).toNat
theorem rest_cases {b : Int} (h : 0 ≤ b ∧ b ≤ 16) : b = 0 ∨ b = 1 ∨ b = 2 ∨ b = 3 ∨ b = 4 ∨ b = 5 ∨ b = 6 ∨ b = 7 ∨ b = 8 ∨ b = 9 ∨ b = 10 ∨ b = 11 ∨ b = 12 ∨ b = 13 ∨ b = 14 ∨ b = 15 ∨ b = 16 := by omega
theorem rest_shl {b : Int} (h : 0 ≤ b ∧ b ≤ 16) : 0 ≤ wrap64 (16 - b) ∧ shl .i64 1 (wrap64 (16 - b)) = rest b ∧ 0 < rest b ∧ rest b ≤ 65536 := by
 rcases rest_cases h with rfl | rfl | rfl | rfl | rfl | rfl | rfl | rfl | rfl | rfl | rfl | rfl | rfl | rfl | rfl | rfl | rfl <;> decide +kernel
/-- A route is ok. -/
def routeOk (a b v r : Int) : Bool := decide ((0 ≤ b ∧ b ≤ 16) ∧ (0 ≤ a ∧ a ≤ 65535) ∧ a % rest b = 0 ∧ (0 ≤ v ∧ v ≤ 65535) ∧ (1 ≤ r ∧ r ≤ 48))
theorem specRouteOk_eq (a b v r : Int) : spec_RouteOk.f a b v r = some (routeOk a b v r) := by
 unfold spec_RouteOk.f routeOk spec_l6Rest.f
 simp only [l1In_eq, Option.bind_some]
 by_cases h1 : 0 ≤ b ∧ b ≤ 16
 ·obtain ⟨e1, e2, e3, e4⟩ := rest_shl h1
  rw [if_pos e1, e2]
  by_cases h2 : 0 ≤ a ∧ a ≤ 65535
  ·simp only [Option.bind_some, if_neg (show ¬ rest b = 0 by omega), Int.tmod_eq_emod_of_nonneg h2.1]
   by_cases h3 : a % rest b = 0 <;> by_cases h4 : 0 ≤ v ∧ v ≤ 65535 <;> simp [h1, h2, h3, h4]
  ·simp [h1, h2]
 ·simp [h1]
theorem implRouteOk_eq (a b v r : Int) : impl_RouteOk.f a b v r = some (routeOk a b v r) := by
 unfold impl_RouteOk.f routeOk
 simp only [in_eq, word_eq, Option.bind_some]
 by_cases h1 : 0 ≤ b ∧ b ≤ 16
 ·obtain ⟨e1, e2, e3, e4⟩ := rest_shl h1
  rw [if_pos e1, e2]
  by_cases h2 : 0 ≤ a ∧ a ≤ 65535
  ·simp only [if_neg (show ¬ rest b = 0 by omega), Int.tmod_eq_emod_of_nonneg h2.1]
   by_cases h3 : a % rest b = 0 <;> by_cases h4 : 0 ≤ v ∧ v ≤ 65535 <;> simp [h1, h2, h3, h4]
  ·simp [h1, h2]
 ·simp [h1]
theorem routeOk_bits {a b v r : Int} (h : routeOk a b v r = true) : (0 ≤ b ∧ b ≤ 16) ∧ (0 ≤ a ∧ a ≤ 65535) := by
 have := of_decide_eq_true h
 exact ⟨this.1, this.2.1⟩

/-- A route that is ok. -/
def rOk (r : S24) : Bool := routeOk r.f0 r.f1 r.f2 r.f3
/-- One route stands ahead of another. -/
def rLt (r q : S24) : Bool := decide (r.f1 < q.f1 ∨ r.f1 = q.f1 ∧ r.f0 < q.f0)
/-- Each is ok and stands ahead of the next one. -/
def rChain : Option S24 → List S24 → Bool
 | _, [] => true
 | none, r :: l => rOk r && rChain (some r) l
 | some q, r :: l => (rOk r && rLt q r) && rChain (some r) l
/-- Routes are ok. -/
def routesOk (l : List S24) : Bool := rChain none l && decide ((l.length : Int) ≤ 8)
/-- The one ahead of place i. -/
def prevOf (l : List S24) (i : Nat) : Option S24 := if i = 0 then none else some (rd_T24 l ((i - 1 : Nat) : Int))
theorem rdT_nat (l : List S24) (i : Nat) (h : i < l.length) : rd_T24 l (i : Int) = l[i] := by
 unfold rd_T24; simp [List.getD_eq_getElem?_getD, List.getElem?_eq_getElem h]
theorem dropT (l : List S24) (i : Nat) (h : i < l.length) : l.drop i = rd_T24 l (i : Int) :: l.drop (i + 1) := by
 rw [List.drop_eq_getElem_cons h, rdT_nat l i h]

theorem cmp_eq (a b : Int) : cmp_Compare_int.f a b = some (if a < b then -1 else if a > b then 1 else 0) := by
 unfold cmp_Compare_int.f cmp_isNaN_int.f
 by_cases h1 : a < b <;> by_cases h2 : a > b <;> simp [h1, h2]
theorem or2_eq (x y : Int) (k : Nat) (hk : 3 ≤ k) : cmp_Or_int.f k [x, y] = some (if x = 0 then y else x) := by
 obtain ⟨k, rfl⟩ : ∃ m, k = m + 1 + 1 + 1 := ⟨k - 3, by omega⟩
 have e1 : wrap64 ((0 : Int) + 1) = 1 := w64 (by omega) (by omega)
 have e2 : wrap64 ((1 : Int) + 1) = 2 := w64 (by omega) (by omega)
 unfold cmp_Or_int.f
 simp only [cmp_Or_int.l0, List.length_cons, List.length_nil, rd, e1, e2]
 by_cases h : x = 0 <;> by_cases h' : y = 0 <;> simp [h, h']
theorem order_eq (a b c d a' b' c' d' : Int) (k : Nat) (hk : 3 ≤ k) : ∃ v, impl_Route_order.f k a b c d a' b' c' d' = some v ∧ (v < 0 ↔ (b < b' ∨ b = b' ∧ a < a')) ∧ (v = 0 ↔ (b = b' ∧ a = a')) := by
 unfold impl_Route_order.f
 simp only [cmp_eq, or2_eq _ _ k hk, Option.bind_some]
 refine ⟨_, rfl, ?_, ?_⟩
 ·by_cases h1 : b < b' <;> by_cases h2 : b > b' <;> by_cases h3 : a < a' <;> by_cases h4 : a > a' <;> simp [h1, h2, h3, h4] <;> omega
 ·by_cases h1 : b < b' <;> by_cases h2 : b > b' <;> by_cases h3 : a < a' <;> by_cases h4 : a > a' <;> simp [h1, h2, h3, h4] <;> omega

theorem implRoutesOk_loop (l : List S24) (hl : l.length < 4611686018427387904) : ∀ (d k i : Nat), l.length - i = d → i ≤ l.length → d + 3 < k →
  impl_RoutesOk.l0 k l l (l.length : Int) (i : Int) = some (rChain (prevOf l i) (l.drop i) && decide ((l.length : Int) ≤ 8))
 | 0, k, i, hd, hi, hk => by
  obtain ⟨k, rfl⟩ : ∃ m, k = m + 1 := ⟨k - 1, by omega⟩
  simp only [impl_RoutesOk.l0]
  rw [if_neg (by omega), List.drop_of_length_le (by omega)]
  cases prevOf l i <;> simp [rChain]
 | d + 1, k, i, hd, hi, hk => by
  obtain ⟨k, rfl⟩ : ∃ m, k = m + 1 := ⟨k - 1, by omega⟩
  have e2 : wrap64 ((i : Int) + 1) = ((i + 1 : Nat) : Int) := by rw [w64 (by omega) (by omega)]; rfl
  have ih := implRoutesOk_loop l hl d k (i + 1) (by omega) (by omega) (by omega)
  have ep : prevOf l (i + 1) = some (rd_T24 l (i : Int)) := by unfold prevOf; rw [if_neg (by omega)]; rfl
  rw [ep] at ih
  simp only [impl_RoutesOk.l0]
  rw [if_pos (by omega), if_pos (by omega), if_pos (by omega), implRouteOk_eq, e2, ih, dropT l i (by omega)]
  simp only [Option.bind_some]
  by_cases h0 : i = 0
  ·subst h0
   have eq0 : prevOf l 0 = none := by unfold prevOf; rw [if_pos rfl]
   rw [eq0, if_neg (show ¬ ((0 : Nat) : Int) > 0 by omega)]
   simp only [rChain, rOk]
   cases routeOk (rd_T24 l ((0 : Nat) : Int)).f0 (rd_T24 l ((0 : Nat) : Int)).f1 (rd_T24 l ((0 : Nat) : Int)).f2 (rd_T24 l ((0 : Nat) : Int)).f3 <;> simp
  ·have e1 : wrap64 ((i : Int) - 1) = ((i - 1 : Nat) : Int) := by rw [w64 (by omega) (by omega)]; omega
   have eq1 : prevOf l i = some (rd_T24 l ((i - 1 : Nat) : Int)) := by unfold prevOf; rw [if_neg h0]
   have c1 : (i : Int) > 0 := by omega
   have c2 : (0 : Int) ≤ ((i - 1 : Nat) : Int) := by omega
   have c3 : ((i - 1 : Nat) : Int) < (l.length : Int) := by omega
   rw [eq1, if_pos c1, e1, if_pos c2, if_pos c3]
   generalize rd_T24 l ((i - 1 : Nat) : Int) = q
   generalize rd_T24 l (i : Int) = r
   simp only [rChain, rOk, rLt]
   obtain ⟨v, hv, h1, _⟩ := order_eq q.f0 q.f1 q.f2 q.f3 r.f0 r.f1 r.f2 r.f3 k (by omega)
   cases routeOk r.f0 r.f1 r.f2 r.f3 with
   | false => simp
   | true =>
    rw [if_pos rfl, hv]
    simp only [Option.bind_some]
    by_cases h2 : v ≥ 0
    ·rw [if_pos h2, decide_eq_false (fun h => by have := h1.mpr h; omega)]; rfl
    ·rw [if_neg h2, decide_eq_true (h1.mp (by omega))]; simp
theorem implRoutesOk_eq (l : List S24) (hl : l.length < 4611686018427387904) (k : Nat) (hk : l.length + 3 < k) : impl_RoutesOk.f k l = some (routesOk l) := by
 unfold impl_RoutesOk.f routesOk
 rw [show (0 : Int) = ((0 : Nat) : Int) from rfl, implRoutesOk_loop l hl l.length k 0 (by omega) (by omega) hk]
 rfl

theorem specRoutesOk_loop (l : List S24) (hl : l.length < 4611686018427387904) : ∀ (d k i : Nat), l.length - i = d → i ≤ l.length → d < k →
  spec_RoutesOk.l0 k l (i : Int) = some (rChain (prevOf l i) (l.drop i) && decide ((l.length : Int) ≤ 8))
 | 0, k, i, hd, hi, hk => by
  obtain ⟨k, rfl⟩ : ∃ m, k = m + 1 := ⟨k - 1, by omega⟩
  simp only [spec_RoutesOk.l0]
  rw [if_neg (by omega), List.drop_of_length_le (by omega)]
  cases prevOf l i <;> simp [rChain]
 | d + 1, k, i, hd, hi, hk => by
  obtain ⟨k, rfl⟩ : ∃ m, k = m + 1 := ⟨k - 1, by omega⟩
  have e2 : wrap64 ((i : Int) + 1) = ((i + 1 : Nat) : Int) := by rw [w64 (by omega) (by omega)]; rfl
  have ih := specRoutesOk_loop l hl d k (i + 1) (by omega) (by omega) (by omega)
  have ep : prevOf l (i + 1) = some (rd_T24 l (i : Int)) := by unfold prevOf; rw [if_neg (by omega)]; rfl
  rw [ep] at ih
  simp only [spec_RoutesOk.l0]
  rw [if_pos (by omega), if_pos (by omega), specRouteOk_eq, e2, ih, dropT l i (by omega)]
  simp only [Option.bind_some]
  by_cases h0 : i = 0
  ·subst h0
   have eq0 : prevOf l 0 = none := by unfold prevOf; rw [if_pos rfl]
   rw [eq0, if_neg (show ¬ ((0 : Nat) : Int) > 0 by omega)]
   simp only [rChain, rOk]
   cases routeOk (rd_T24 l ((0 : Nat) : Int)).f0 (rd_T24 l ((0 : Nat) : Int)).f1 (rd_T24 l ((0 : Nat) : Int)).f2 (rd_T24 l ((0 : Nat) : Int)).f3 <;> simp
  ·have e1 : wrap64 ((i : Int) - 1) = ((i - 1 : Nat) : Int) := by rw [w64 (by omega) (by omega)]; omega
   have eq1 : prevOf l i = some (rd_T24 l ((i - 1 : Nat) : Int)) := by unfold prevOf; rw [if_neg h0]
   have c1 : (i : Int) > 0 := by omega
   have c2 : (0 : Int) ≤ ((i - 1 : Nat) : Int) := by omega
   have c3 : ((i - 1 : Nat) : Int) < (l.length : Int) := by omega
   rw [eq1, if_pos c1, e1, if_pos c2, if_pos c3]
   generalize rd_T24 l ((i - 1 : Nat) : Int) = q
   generalize rd_T24 l (i : Int) = r
   simp only [rChain, rOk, rLt]
   cases routeOk r.f0 r.f1 r.f2 r.f3 with
   | false => simp
   | true =>
    by_cases h1 : q.f1 > r.f1
    ·have : ¬ (q.f1 < r.f1 ∨ q.f1 = r.f1 ∧ q.f0 < r.f0) := by omega
     simp [h1, this]
    ·by_cases h2 : q.f1 = r.f1
     ·by_cases h3 : q.f0 ≥ r.f0
      ·have : ¬ (q.f1 < r.f1 ∨ q.f1 = r.f1 ∧ q.f0 < r.f0) := by omega
       rw [decide_eq_false this]
       simp [h1, h2, h3]
      ·have : (q.f1 < r.f1 ∨ q.f1 = r.f1 ∧ q.f0 < r.f0) := by omega
       rw [decide_eq_true this]
       simp [h1, h2, h3]
     ·have : (q.f1 < r.f1 ∨ q.f1 = r.f1 ∧ q.f0 < r.f0) := by omega
      rw [decide_eq_true this]
      simp [h1, h2]
theorem specRoutesOk_eq (l : List S24) (hl : l.length < 4611686018427387904) (k : Nat) (hk : l.length < k) : spec_RoutesOk.f k l = some (routesOk l) := by
 unfold spec_RoutesOk.f routesOk
 rw [show (0 : Int) = ((0 : Nat) : Int) from rfl, specRoutesOk_loop l hl l.length k 0 (by omega) (by omega) hk]
 rfl

/-- Routes with one more, and whether it could be put. -/
def routePut (l : List S24) (r : S24) : List S24 × Bool := if routesOk l = true ∧ routeOk r.f0 r.f1 r.f2 r.f3 = true ∧ (putR l r).length ≤ 8 then (putR l r, true) else ([], false)
theorem routePut_len (l : List S24) (r : S24) : (routePut l r).1.length ≤ 8 := by
 unfold routePut
 split
 ·next h => exact h.2.2
 ·exact Nat.zero_le _
theorem putOk_len {l : List S24} (h : routesOk l = true) : l.length ≤ 8 := by
 unfold routesOk at h
 rw [Bool.and_eq_true] at h
 have := of_decide_eq_true h.2
 omega
theorem chain_pair : ∀ (l : List S24) (q : S24), rChain (some q) l = true → l.Pairwise (fun x y => ltR x y = true) ∧ ∀ x ∈ l, ltR q x = true
 | [], _, _ => ⟨List.Pairwise.nil, fun x hx => by cases hx⟩
 | r :: l, q, h => by
  have h' : ((rOk r && rLt q r) && rChain (some r) l) = true := h
  rw [Bool.and_eq_true, Bool.and_eq_true] at h'
  obtain ⟨h1, h2⟩ := chain_pair l r h'.2
  have h3 : ltR q r = true := h'.1.2
  refine ⟨List.pairwise_cons.2 ⟨h2, h1⟩, fun x hx => ?_⟩
  rcases List.mem_cons.1 hx with rfl | hx
  ·exact h3
  ·exact ltR_trans h3 (h2 x hx)
theorem ok_pair {l : List S24} (h : routesOk l = true) : l.Pairwise (fun x y => ltR x y = true) := by
 unfold routesOk at h
 rw [Bool.and_eq_true] at h
 cases l with
 | nil => exact List.Pairwise.nil
 | cons r l =>
  have h' : (rOk r && rChain (some r) l) = true := h.1
  rw [Bool.and_eq_true] at h'
  obtain ⟨h1, h2⟩ := chain_pair l r h'.2
  exact List.pairwise_cons.2 ⟨h2, h1⟩
theorem implRoutePut_eq (l : List S24) (r : S24) (hl : l.length ≤ 1048576) (k : Nat) (hk : l.length + 3 < k) : impl_RoutePut.f k l r.f0 r.f1 r.f2 r.f3 = some (routePut l r) := by
 unfold impl_RoutePut.f routePut
 rw [implRoutesOk_eq l (by omega) k hk, implRouteOk_eq]
 simp only [Option.bind_some]
 by_cases h : routesOk l = true
 ·have h8 := putOk_len h
  rw [if_pos h]
  by_cases h2 : routeOk r.f0 r.f1 r.f2 r.f3 = true
  ·rw [if_pos h2, if_pos ⟨by omega, ok_pair h⟩]
   show (if (putR l r).length ≤ 8 then some (putR l r, true) else some ([], false)) = _
   by_cases h3 : (putR l r).length ≤ 8
   ·rw [if_pos h3, if_pos ⟨h, h2, h3⟩]
   ·rw [if_neg h3, if_neg (fun q => h3 q.2.2)]
  ·rw [if_neg h2, if_neg (fun q => h2 q.2.1)]
 ·rw [if_neg h, if_neg (fun q => h q.1)]
/-- What the reference's last step makes of its list. -/
def putFin (l o : List S24) (r : S24) : List S24 × Bool := if routesOk l = true ∧ routeOk r.f0 r.f1 r.f2 r.f3 = true ∧ o.length ≤ 8 then (o, true) else ([], false)
theorem specPut_end (l o : List S24) (r : S24) (hl : l.length ≤ 1048576) (k : Nat) (hk : l.length + 1 < k) : spec_RoutePut.j2 k l o r.f0 r.f1 r.f2 r.f3 = some (putFin l o r) := by
 obtain ⟨k, rfl⟩ : ∃ m, k = m + 1 := ⟨k - 1, by omega⟩
 unfold putFin
 simp only [spec_RoutePut.j2, specRoutesOk_eq l (by omega) k (by omega), specRouteOk_eq, Option.bind_some]
 by_cases h : routesOk l = true
 ·rw [if_pos h]
  by_cases h2 : routeOk r.f0 r.f1 r.f2 r.f3 = true
  ·rw [if_pos h2]
   by_cases h3 : o.length ≤ 8
   ·rw [if_neg (by omega), if_pos ⟨h, h2, h3⟩]
   ·rw [if_pos (by omega), if_neg (fun q => h3 q.2.2)]
  ·rw [if_neg h2, if_neg (fun q => h2 q.2.1)]
 ·rw [if_neg h, if_neg (fun q => h q.1)]
/-- The reference's loop. -/
def putLoop (r : S24) : Bool → List S24 → List S24
 | z, [] => if z = true then [] else [r]
 | z, x :: xs => (if (!z && !ltR x r) = true then [r] else []) ++ ((if eqR x r = true then [] else [x]) ++ putLoop r (z || (!z && !ltR x r)) xs)
theorem specPut_j1 (l o : List S24) (r x : S24) (F : Bool → List S24 → Option (List S24 × Bool)) (i : Int) (k : Nat) (z m : Bool) (ho : o.length + 1 < 4398046511104) (hF : ∀ z' o', o'.length ≤ o.length + 2 → spec_RoutePut.l0 k l o' z' (wrap64 (i + 1)) r.f0 r.f1 r.f2 r.f3 = F z' o') :
  spec_RoutePut.j1 (k + 1) l o z i m r.f0 r.f1 r.f2 r.f3 x.f0 x.f1 x.f2 x.f3 = F (z || m) (o ++ ((if m = true then [r] else []) ++ (if eqR x r = true then [] else [x]))) := by
 have g1 : o.length < 4398046511104 := by omega
 have g2 : (o ++ [r]).length < 4398046511104 := by rw [List.length_append]; simp only [List.length_cons, List.length_nil]; omega
 have l1 : (o ++ [r]).length ≤ o.length + 2 := by rw [List.length_append]; simp only [List.length_cons, List.length_nil]; omega
 have l2 : (o ++ [x]).length ≤ o.length + 2 := by rw [List.length_append]; simp only [List.length_cons, List.length_nil]; omega
 have l3 : (o ++ [r] ++ [x]).length ≤ o.length + 2 := by rw [List.length_append, List.length_append]; simp only [List.length_cons, List.length_nil]; omega
 have e1 := hF z o (by omega)
 have e2 := hF z _ l2
 have e3 := hF true _ l1
 have e4 := hF true _ l3
 have er : eqR x r = decide (x.f1 = r.f1 ∧ x.f0 = r.f0) := rfl
 rw [er]
 simp only [spec_RoutePut.j1, Option.bind_some]
 cases m with
 | true =>
  rw [if_pos rfl, if_pos g1, if_pos rfl, Bool.or_true]
  by_cases c1 : x.f1 = r.f1
  ·rw [if_pos c1]
   by_cases c0 : x.f0 = r.f0
   ·rw [if_pos c0, decide_eq_true (And.intro c1 c0), if_pos rfl, List.append_nil]
    exact e3
   ·rw [if_neg c0, decide_eq_false (fun q : x.f1 = r.f1 ∧ x.f0 = r.f0 => c0 q.2), if_neg Bool.false_ne_true]
    rw [← List.append_assoc]
    exact (if_pos g2).trans e4
  ·rw [if_neg c1, decide_eq_false (fun q : x.f1 = r.f1 ∧ x.f0 = r.f0 => c1 q.1), if_neg Bool.false_ne_true]
   rw [← List.append_assoc]
   exact (if_pos g2).trans e4
 | false =>
  simp only [Bool.false_eq_true, if_false, Bool.or_false, List.nil_append]
  by_cases c1 : x.f1 = r.f1
  ·rw [if_pos c1]
   by_cases c0 : x.f0 = r.f0
   ·rw [if_pos c0, decide_eq_true (And.intro c1 c0), if_pos rfl, List.append_nil]
    exact e1
   ·rw [if_neg c0, decide_eq_false (fun q : x.f1 = r.f1 ∧ x.f0 = r.f0 => c0 q.2), if_neg Bool.false_ne_true]
    exact (if_pos g1).trans e2
  ·rw [if_neg c1, decide_eq_false (fun q : x.f1 = r.f1 ∧ x.f0 = r.f0 => c1 q.1), if_neg Bool.false_ne_true]
   exact (if_pos g1).trans e2
theorem specPut_loop (l : List S24) (r : S24) (hl : l.length ≤ 1048576) : ∀ (d k i : Nat) (o : List S24) (z : Bool), i + d = l.length → o.length ≤ 2 * i → 2 * d + l.length + 4 < k →
  spec_RoutePut.l0 k l o z (i : Int) r.f0 r.f1 r.f2 r.f3 = some (putFin l (o ++ putLoop r z (l.drop i)) r) := by
 intro d
 induction d with
 | zero =>
  intro k i o z hi ho hk
  obtain ⟨k, rfl⟩ : ∃ m, k = m + 1 := ⟨k - 1, by omega⟩
  simp only [spec_RoutePut.l0]
  rw [if_neg (by omega), List.drop_of_length_le (by omega)]
  cases z with
  | true =>
   rw [if_pos rfl, specPut_end l o r hl k (by omega)]
   show _ = some (putFin l (o ++ []) r)
   rw [List.append_nil]
  | false =>
   rw [if_neg (by decide), if_pos (by omega)]
   exact specPut_end l (o ++ [r]) r hl k (by omega)
 | succ d ih =>
  intro k i o z hi ho hk
  obtain ⟨k, rfl⟩ : ∃ m, k = m + 1 + 1 := ⟨k - 2, by omega⟩
  have hil : i < l.length := by omega
  have e1 : wrap64 ((i : Int) + 1) = ((i + 1 : Nat) : Int) := by rw [w64 (by omega) (by omega)]; rfl
  have hF : ∀ z' o', o'.length ≤ o.length + 2 → spec_RoutePut.l0 k l o' z' (wrap64 ((i : Int) + 1)) r.f0 r.f1 r.f2 r.f3 = some (putFin l (o' ++ putLoop r z' (l.drop (i + 1))) r) := fun z' o' h => by
   rw [e1]
   exact ih k (i + 1) o' z' (by omega) (by omega) (by omega)
  have hj := fun x m => specPut_j1 l o r x (fun z' o' => some (putFin l (o' ++ putLoop r z' (l.drop (i + 1))) r)) (i : Int) k z m (by omega) hF
  have e2 := dropT l i hil
  simp only [spec_RoutePut.l0]
  rw [if_pos (by omega), if_pos (by omega), e2]
  generalize rd_T24 l (i : Int) = x
  have en : putLoop r z (x :: l.drop (i + 1)) = (if (!z && !ltR x r) = true then [r] else []) ++ ((if eqR x r = true then [] else [x]) ++ putLoop r (z || (!z && !ltR x r)) (l.drop (i + 1))) := rfl
  rw [en]
  have fin : ∀ m : Bool, (!z && !ltR x r) = m → spec_RoutePut.j1 (k + 1) l o z (i : Int) m r.f0 r.f1 r.f2 r.f3 x.f0 x.f1 x.f2 x.f3 = some (putFin l (o ++ ((if (!z && !ltR x r) = true then [r] else []) ++ ((if eqR x r = true then [] else [x]) ++ putLoop r (z || (!z && !ltR x r)) (l.drop (i + 1))))) r) := fun m hm => by
   rw [hj x m, hm]
   simp only [List.append_assoc]
  have el : ltR x r = decide (x.f1 < r.f1 ∨ x.f1 = r.f1 ∧ x.f0 < r.f0) := rfl
  cases z with
  | true =>
   rw [if_pos rfl]
   exact fin false rfl
  | false =>
   rw [if_neg (by decide)]
   by_cases c1 : r.f1 < x.f1
   ·rw [if_pos c1]
    exact fin true (by rw [el, decide_eq_false (by omega)]; rfl)
   ·rw [if_neg c1]
    by_cases c2 : r.f1 = x.f1
    ·rw [if_pos c2]
     refine fin _ ?_
     by_cases c3 : r.f0 ≤ x.f0
     ·rw [el, decide_eq_false (by omega), decide_eq_true c3]; rfl
     ·rw [el, decide_eq_true (by omega), decide_eq_false c3]; rfl
    ·rw [if_neg c2]
     exact fin false (by rw [el, decide_eq_true (by omega)]; rfl)
theorem putLoop_true (r : S24) : ∀ l : List S24, (∀ x ∈ l, ltR r x = true) → putLoop r true l = l
 | [], _ => rfl
 | x :: l, h => by
  have h1 := h x (List.mem_cons_self ..)
  have h2 : eqR x r = false := by
   refine Bool.eq_false_iff.2 fun q => ?_
   rw [eqR_iff] at q; rw [ltR_iff] at h1
   omega
  show (if (!true && !ltR x r) = true then [r] else []) ++ ((if eqR x r = true then [] else [x]) ++ putLoop r (true || (!true && !ltR x r)) l) = x :: l
  rw [h2, Bool.true_or, putLoop_true r l (fun y hy => h y (List.mem_cons_of_mem _ hy))]
  rfl
theorem putLoop_eq (r : S24) : ∀ l : List S24, l.Pairwise (fun x y => ltR x y = true) → putLoop r false l = putR l r
 | [], _ => rfl
 | x :: l, h => by
  obtain ⟨hx, hl⟩ := List.pairwise_cons.1 h
  have ih := putLoop_eq r l hl
  show (if (!false && !ltR x r) = true then [r] else []) ++ ((if eqR x r = true then [] else [x]) ++ putLoop r (false || (!false && !ltR x r)) l) = putR (x :: l) r
  cases h1 : ltR x r with
  | true =>
   have h2 : eqR x r = false := by
    refine Bool.eq_false_iff.2 fun q => ?_
    rw [eqR_iff] at q; rw [ltR_iff] at h1
    omega
   rw [h2]
   show [x] ++ putLoop r false l = _
   unfold putR at ih ⊢
   rw [ih, List.filter_cons_of_pos (p := fun y => ltR y r) h1, List.filter_cons_of_neg (p := fun y => ltR r y) (by rw [ltR_asymm h1]; decide)]
   rfl
  | false =>
   have e1 : (x :: l).filter (fun y => ltR y r) = [] := List.filter_eq_nil_iff.2 fun y hy => by
    rcases List.mem_cons.1 hy with rfl | hy
    ·rw [h1]; decide
    ·intro q
     rw [ltR_trans (hx y hy) q] at h1
     cases h1
   unfold putR
   rw [e1]
   cases h2 : eqR x r with
   | true =>
    have h3 : ∀ y ∈ l, ltR r y = true := fun y hy => ltR_eq h2 (hx y hy)
    have h4 : ltR r x = false := by
     refine Bool.eq_false_iff.2 fun q => ?_
     rw [eqR_iff] at h2; rw [ltR_iff] at q
     omega
    show [r] ++ ([] ++ putLoop r true l) = _
    rw [putLoop_true r l h3, List.filter_cons_of_neg (p := fun y => ltR r y) (by rw [h4]; decide), List.filter_eq_self.2 h3]
    rfl
   | false =>
    have h4 := ltR_else h1 h2
    have h3 : ∀ y ∈ l, ltR r y = true := fun y hy => ltR_trans h4 (hx y hy)
    show [r] ++ ([x] ++ putLoop r true l) = _
    rw [putLoop_true r l h3, List.filter_cons_of_pos (p := fun y => ltR r y) h4, List.filter_eq_self.2 h3]
    rfl
theorem specRoutePut_eq (l : List S24) (r : S24) (hl : l.length ≤ 1048576) (k : Nat) (hk : 3 * l.length + 4 < k) : spec_RoutePut.f k l r.f0 r.f1 r.f2 r.f3 = some (routePut l r) := by
 unfold spec_RoutePut.f
 refine (specPut_loop l r hl l.length k 0 [] false (by omega) (Nat.zero_le _) (by omega)).trans ?_
 rw [List.nil_append, List.drop_zero]
 unfold putFin routePut
 by_cases h : routesOk l = true
 ·rw [putLoop_eq r l (ok_pair h)]
 ·rw [if_neg (fun q => h q.1), if_neg (fun q => h q.1)]

/-- The same route of the program's own type. -/
def asRoute (r : S31) : S24 := ⟨r.f0, r.f1, r.f2, r.f3⟩
theorem szRouteS_eq (l : List S31) (h : l.length ≤ 9223372036854775807) : laws_szRouteS.f l 1048576 = some (if (l.length : Int) > 1048576 then (-1 : Int) else 1048576 - (l.length : Int)) := by
 unfold laws_szRouteS.f
 rw [w64 (by omega) (by omega)]
 by_cases h1 : (l.length : Int) > 1048576
 ·rw [if_pos (by omega), if_pos h1]
 ·rw [if_neg (by omega), if_neg h1]
theorem toRouteS_loop (l : List S31) (hn : l.length < 4611686018427387904) : ∀ (d k i : Nat) (o : List S24), l.length - i = d → i ≤ l.length → d < k → o.length = l.length → o.take i = (l.map asRoute).take i →
  laws_toRouteS.l0 k l o (i : Int) = some (l.map asRoute)
 | 0, k, i, o, hd, hi, hk, hl, ho => by
  obtain ⟨k, rfl⟩ : ∃ m, k = m + 1 := ⟨k - 1, by omega⟩
  simp only [laws_toRouteS.l0]
  rw [if_neg (by omega)]
  rw [List.take_of_length_le (by omega), List.take_of_length_le (by simp; omega)] at ho
  rw [ho]
 | d + 1, k, i, o, hd, hi, hk, hl, ho => by
  obtain ⟨k, rfl⟩ : ∃ m, k = m + 1 := ⟨k - 1, by omega⟩
  have e2 : wrap64 ((i : Int) + 1) = ((i + 1 : Nat) : Int) := by rw [w64 (by omega) (by omega)]; rfl
  simp only [laws_toRouteS.l0, laws_toRoute.f, Option.bind_some]
  rw [if_pos (by omega), if_pos (by omega), if_pos (by omega), e2]
  have hi' : i < l.length := by omega
  have er : rd_T31 l (i : Int) = l[i] := by unfold rd_T31; simp [List.getD_eq_getElem?_getD, List.getElem?_eq_getElem hi']
  have en : ((i : Nat) : Int).toNat = i := by omega
  refine toRouteS_loop l hn d k (i + 1) _ (by omega) (by omega) (by omega) (by simp [hl]) ?_
  rw [er, en, List.take_succ_eq_append_getElem (by simp; omega), List.take_succ_eq_append_getElem (by simp; omega), List.take_set_of_le (by omega), ho]
  simp [asRoute]
theorem toRouteS_eq (l : List S31) (hn : l.length ≤ 1048576) (k : Nat) (hk : l.length < k) : laws_toRouteS.f k l = some (l.map asRoute) := by
 unfold laws_toRouteS.f
 rw [if_pos (by omega), if_pos (by omega)]
 exact toRouteS_loop l (by omega) l.length k 0 _ (by omega) (by omega) hk (by simp) (by simp)
theorem eqRouteS_loop (a : List S24) (hn : a.length < 4611686018427387904) : ∀ (d k i : Nat), a.length - i = d → i ≤ a.length → d < k → laws_eqRouteS.l0 k a a (i : Int) = some true
 | 0, k, i, hd, hi, hk => by
  obtain ⟨k, rfl⟩ : ∃ m, k = m + 1 := ⟨k - 1, by omega⟩
  simp only [laws_eqRouteS.l0]
  rw [if_neg (by omega)]
 | d + 1, k, i, hd, hi, hk => by
  obtain ⟨k, rfl⟩ : ∃ m, k = m + 1 := ⟨k - 1, by omega⟩
  have e2 : wrap64 ((i : Int) + 1) = ((i + 1 : Nat) : Int) := by rw [w64 (by omega) (by omega)]; rfl
  simp only [laws_eqRouteS.l0, laws_eqRoute.f]
  rw [if_pos (by omega), if_pos (by omega), if_pos (by omega), e2, eqRouteS_loop a hn d k (i + 1) (by omega) (by omega) (by omega)]
  simp
theorem eqRouteS_self (a : List S24) (hn : a.length < 4611686018427387904) (k : Nat) (hk : a.length < k) : laws_eqRouteS.f k a a = some true := by
 unfold laws_eqRouteS.f
 rw [if_pos rfl]
 exact eqRouteS_loop a hn a.length k 0 (by omega) (by omega) hk

/-- Routes that carry marks. -/
def routeMarks (a : Int) : Nat → List S24
 | 0 => []
 | n + 1 => ⟨a, a + 1, a + 2, a + 3⟩ :: routeMarks (a + 4) n
theorem routeMarks_len (a : Int) (n : Nat) : (routeMarks a n).length = n := by
 induction n generalizing a with
 | zero => rfl
 | succ n ih => simp [routeMarks, ih]
theorem routeMarks_rd (a : Int) (n i : Nat) (h : i < n) : rd_T24 (routeMarks a n) (i : Int) = ⟨a + 4 * i, a + 4 * i + 1, a + 4 * i + 2, a + 4 * i + 3⟩ := by
 rw [rdT_nat _ i (by rw [routeMarks_len]; exact h)]
 induction n generalizing a i with
 | zero => omega
 | succ n ih =>
  cases i with
  | zero => simp [routeMarks]
  | succ i =>
   simp only [routeMarks, List.getElem_cons_succ]
   rw [ih (a + 4) i (by omega)]
   congr 1 <;> omega
theorem rdT_set (l : List S24) (i : Nat) (h : i < l.length) (x : S24) : rd_T24 (l.set i x) (i : Int) = x := by
 rw [rdT_nat _ i (by simpa using h)]; simp
theorem markRouteS_loop (n : Nat) (hn : n ≤ 1048576) : ∀ (d k i : Nat) (o : List S24) (a : Int), n - i = d → i ≤ n → d < k → o.length = n → 0 ≤ a → a + 4 * d < 4611686018427387904 →
  laws_markRouteS.l0 k o a (i : Int) = some (a + 4 * d, o.take i ++ routeMarks a d)
 | 0, k, i, o, a, hd, hi, hk, hl, ha, hb => by
  obtain ⟨k, rfl⟩ : ∃ m, k = m + 1 := ⟨k - 1, by omega⟩
  simp only [laws_markRouteS.l0]
  rw [if_neg (by omega), List.take_of_length_le (by omega)]
  simp [routeMarks]
 | d + 1, k, i, o, a, hd, hi, hk, hl, ha, hb => by
  obtain ⟨k, rfl⟩ : ∃ m, k = m + 1 := ⟨k - 1, by omega⟩
  have hi' : i < o.length := by omega
  have e2 : wrap64 ((i : Int) + 1) = ((i + 1 : Nat) : Int) := by rw [w64 (by omega) (by omega)]; rfl
  have f1 : wrap64 (a + 1) = a + 1 := w64 (by omega) (by omega)
  have f2 : wrap64 (a + 1 + 1) = a + 2 := by rw [w64 (by omega) (by omega)]; omega
  have f3 : wrap64 (a + 2 + 1) = a + 3 := by rw [w64 (by omega) (by omega)]; omega
  have f4 : wrap64 (a + 3 + 1) = a + 4 := by rw [w64 (by omega) (by omega)]; omega
  simp only [laws_markRouteS.l0]
  rw [if_pos (by omega), if_pos (by omega)]
  simp only [Option.bind_some, f1, f2, f3, f4, e2, Int.toNat_natCast]
  rw [rdT_set o i hi']
  simp only [List.set_set]
  rw [rdT_set o i hi']
  simp only [List.set_set]
  rw [rdT_set o i hi']
  simp only [List.set_set]
  rw [markRouteS_loop n hn d k (i + 1) _ (a + 4) (by omega) (by omega) (by omega) (by simp [hl]) (by omega) (by omega)]
  congr 1
  refine Prod.ext (by simp; omega) ?_
  show _ = o.take i ++ routeMarks a (d + 1)
  rw [List.take_succ_eq_append_getElem (by simp; omega), List.take_set_of_le (by omega)]
  simp [routeMarks]
theorem markRouteS_eq (l : List S24) (hn : l.length ≤ 1048576) (k : Nat) (hk : l.length < k) : laws_markRouteS.f k l 1 = some (1 + 4 * (l.length : Int), routeMarks 1 l.length) := by
 unfold laws_markRouteS.f
 rw [show (0 : Int) = ((0 : Nat) : Int) from rfl, markRouteS_loop l.length hn l.length k 0 l 1 (by omega) (by omega) hk rfl (by omega) (by omega)]
 simp
theorem heldRouteS_loop (n : Nat) (b : Int) (hn : n ≤ 1048576) (hb0 : 0 ≤ b) (hb1 : b ≤ 1000000000000) : ∀ (d k i : Nat), n - i = d → i ≤ n → d < k →
  laws_heldRouteS.l0 k (routeMarks b n) (b + 4 * i) (i : Int) = some (b + 4 * n)
 | 0, k, i, hd, hi, hk => by
  obtain ⟨k, rfl⟩ : ∃ m, k = m + 1 := ⟨k - 1, by omega⟩
  simp only [laws_heldRouteS.l0]
  rw [if_neg (by rw [routeMarks_len]; omega)]
  congr 1; omega
 | d + 1, k, i, hd, hi, hk => by
  obtain ⟨k, rfl⟩ : ∃ m, k = m + 1 := ⟨k - 1, by omega⟩
  have e2 : wrap64 ((i : Int) + 1) = ((i + 1 : Nat) : Int) := by rw [w64 (by omega) (by omega)]; rfl
  have f1 : wrap64 (b + 4 * (i : Int) + 1) = b + 4 * (i : Int) + 1 := w64 (by omega) (by omega)
  have f2 : wrap64 (b + 4 * (i : Int) + 1 + 1) = b + 4 * (i : Int) + 2 := by rw [w64 (by omega) (by omega)]; omega
  have f3 : wrap64 (b + 4 * (i : Int) + 2 + 1) = b + 4 * (i : Int) + 3 := by rw [w64 (by omega) (by omega)]; omega
  have f4 : wrap64 (b + 4 * (i : Int) + 3 + 1) = b + 4 * ((i + 1 : Nat) : Int) := by rw [w64 (by omega) (by omega)]; omega
  simp only [laws_heldRouteS.l0]
  rw [if_pos (by rw [routeMarks_len]; omega), if_pos (by omega), routeMarks_rd b n i (by omega)]
  simp only [f1, f2, f3, f4, e2, if_true]
  exact heldRouteS_loop n b hn hb0 hb1 d k (i + 1) (by omega) (by omega) (by omega)
theorem heldRouteS_eq (n : Nat) (hn : n ≤ 1048576) (k : Nat) (hk : n < k) : laws_heldRouteS.f k (routeMarks 1 n) 1 = some (1 + 4 * (n : Int)) := by
 unfold laws_heldRouteS.f
 have := heldRouteS_loop n 1 hn (by omega) (by omega) n k 0 (by omega) (by omega) hk
 simpa using this

theorem FnExactRoutePut (l0 : (List S31)) (a1_0 : Int) (a1_1 : Int) (a1_2 : Int) (a1_3 : Int) (g0 : (l0.length ≤ maxLen ∧ ∀ x ∈ l0, ArgFnExactRoutePut.G31 x)) (g1_0 : (Lit.int .i64 a1_0).wf = true) (g1_1 : (Lit.int .i64 a1_1).wf = true) (g1_2 : (Lit.int .i64 a1_2).wf = true) (g1_3 : (Lit.int .i64 a1_3).wf = true) : ∃ k, laws_FnExactRoutePut.f k l0 a1_0 a1_1 a1_2 a1_3 = some true := by
 have hm : l0.length ≤ 9223372036854775807 := g0.1
 obtain ⟨K, hK⟩ : ∃ K : Nat, K = 3 * l0.length + 600 := ⟨_, rfl⟩
 refine ⟨K + 2, ?_⟩
 unfold laws_FnExactRoutePut.f
 rw [szRouteS_eq _ hm]
 simp only [Option.bind_some]
 by_cases h1 : (l0.length : Int) > 1048576
 ·rw [if_pos h1]; rfl
 ·rw [if_neg h1, if_neg (by omega)]
  have hl : (l0.map asRoute).length = l0.length := List.length_map ..
  have hr := routePut_len (l0.map asRoute) ⟨a1_0, a1_1, a1_2, a1_3⟩
  have t0 := toRouteS_eq l0 (by omega) K (by omega)
  have t1 := toRouteS_eq l0 (by omega) (K + 1) (by omega)
  have t2 := toRouteS_eq l0 (by omega) (K + 2) (by omega)
  have s1 : spec_RoutePut.f (K + 2) (l0.map asRoute) a1_0 a1_1 a1_2 a1_3 = _ := specRoutePut_eq (l0.map asRoute) ⟨a1_0, a1_1, a1_2, a1_3⟩ (by omega) (K + 2) (by omega)
  have i1 : impl_RoutePut.f (K + 2) (l0.map asRoute) a1_0 a1_1 a1_2 a1_3 = _ := implRoutePut_eq (l0.map asRoute) ⟨a1_0, a1_1, a1_2, a1_3⟩ (by omega) (K + 2) (by omega)
  have i2 : impl_RoutePut.f K (l0.map asRoute) a1_0 a1_1 a1_2 a1_3 = _ := implRoutePut_eq (l0.map asRoute) ⟨a1_0, a1_1, a1_2, a1_3⟩ (by omega) K (by omega)
  have q1 := eqRouteS_self (l0.map asRoute) (by omega) (K + 1) (by omega)
  have m1 := markRouteS_eq (l0.map asRoute) (by omega) (K + 1) (by omega)
  generalize l0.map asRoute = L at hl hr t0 t1 t2 s1 i1 i2 q1 m1
  obtain ⟨W, o, hW⟩ : ∃ W o, routePut L ⟨a1_0, a1_1, a1_2, a1_3⟩ = (W, o) := ⟨_, _, rfl⟩
  rw [hW] at hr s1 i1 i2
  simp only [] at hr
  have q0 := eqRouteS_self W (by omega) (K + 2) (by omega)
  have q2 := eqRouteS_self W (by omega) (K + 1) (by omega)
  have q3 := eqRouteS_self W (by omega) K (by omega)
  have m2 := markRouteS_eq W (by omega) K (by omega)
  have h2 := heldRouteS_eq W.length (by omega) K (by omega)
  obtain ⟨K, rfl⟩ : ∃ m, K = m + 1 := ⟨K - 1, by omega⟩
  have h3 := heldRouteS_eq W.length (by omega) K (by omega)
  have ho : (o != o) = false := by simp
  simp only [t2, laws_toRoute.f, s1, i1, q0, Option.bind_some, if_true, ho]
  simp only [laws_FnExactRoutePut.j0, Bool.false_eq_true, if_false, t1, q1, m1, q2, Option.bind_some, if_true, ho]
  rw [if_neg (by omega)]
  simp only [laws_FnExactRoutePut.j1, Bool.false_eq_true, if_false, m2, h2, t0, laws_toRoute.f, i2, q3, Option.bind_some, if_true, ho]
  rw [if_neg (by omega)]
  simp only [laws_FnExactRoutePut.j2, Bool.false_eq_true, if_false, h3, Option.bind_some, if_true]
  rw [if_neg (by omega)]

end Go.Proofs.Ytpoedefohfonjaa.Pure

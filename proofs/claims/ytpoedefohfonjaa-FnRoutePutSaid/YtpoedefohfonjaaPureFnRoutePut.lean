/- A route that is put counts for its own addresses; the statement's own bounds alone. -/
import Derived.Test.YtpoedefohfonjaaPFnRoutePutx10
import Derived.Test.YtpoedefohfonjaaUFnRoutePutBase
namespace Go.Proofs.Ytpoedefohfonjaa.Pure
set_option linter.unusedSimpArgs false
set_option linter.unusedVariables false
open Go Go.RowKit Go.Proofs.Ytpoedefohfonjaa.PFnRoutePut Go.Proofs.YtpoedefohfonjaaUFnRoutePut.PrintWords Go.Proofs.YtpoedefohfonjaaUFnRoutePut.PrintLast Go.Proofs.YtpoedefohfonjaaUFnRoutePut.PrintMore Go.Proofs.Ytpoedefohfonjaa.Base

theorem l1In_eq (a b c : Int) : spec_l1In.f a b c = some (decide (b ≤ a ∧ a ≤ c)) := by
 unfold spec_l1In.f
 by_cases h : a ≥ b <;> simp [h]

theorem in_eq (a b c : Int) : impl_in.f a b c = some (decide (b ≤ a ∧ a ≤ c)) := by
 unfold impl_in.f
 by_cases h : a ≥ b <;> simp [h]

theorem word_eq (a : Int) : impl_word.f a = some (decide (0 ≤ a ∧ a ≤ 65535)) := by
 unfold impl_word.f
 rw [in_eq]; rfl

/-- How many addresses have the same first bits. -/
def rest (b : Int) : Int := 2 ^ (16 - b).toNat
theorem rest_cases {b : Int} (h : 0 ≤ b ∧ b ≤ 16) : b = 0 ∨ b = 1 ∨ b = 2 ∨ b = 3 ∨ b = 4 ∨ b = 5 ∨ b = 6 ∨ b = 7 ∨ b = 8 ∨ b = 9 ∨ b = 10 ∨ b = 11 ∨ b = 12 ∨ b = 13 ∨ b = 14 ∨ b = 15 ∨ b = 16 := by omega
theorem rest_shl {b : Int} (h : 0 ≤ b ∧ b ≤ 16) : 0 ≤ wrap64 (16 - b) ∧ shl .i64 1 (wrap64 (16 - b)) = rest b ∧ 0 < rest b ∧ rest b ≤ 65536 := by
 rcases rest_cases h with rfl | rfl | rfl | rfl | rfl | rfl | rfl | rfl | rfl | rfl | rfl | rfl | rfl | rfl | rfl | rfl | rfl <;> decide +kernel
/-- A route is ok. -/
def routeOk (a b v r : Int) : Bool := decide ((0 ≤ b ∧ b ≤ 16) ∧ (0 ≤ a ∧ a ≤ 65535) ∧ a % rest b = 0 ∧ (0 ≤ v ∧ v ≤ 65535) ∧ (1 ≤ r ∧ r ≤ 48))
theorem specRouteOk_eq (a b v r : Int) : spec_RouteOk.f a b v r = some (routeOk a b v r) := by
 unfold spec_RouteOk.f routeOk spec_l6Rest.f
 simp only [l1In_eq, Option.bind_some]
 by_cases h1 : 0 ≤ b ∧ b ≤ 16
 ·obtain ⟨e1, e2, e3, e4⟩ := rest_shl h1
  rw [if_pos e1, e2]
  by_cases h2 : 0 ≤ a ∧ a ≤ 65535
  ·simp only [Option.bind_some, if_neg (show ¬ rest b = 0 by omega), Int.tmod_eq_emod_of_nonneg h2.1]
   by_cases h3 : a % rest b = 0 <;> by_cases h4 : 0 ≤ v ∧ v ≤ 65535 <;> simp [h1, h2, h3, h4]
  ·simp [h1, h2]
 ·simp [h1]
theorem implRouteOk_eq (a b v r : Int) : impl_RouteOk.f a b v r = some (routeOk a b v r) := by
 unfold impl_RouteOk.f routeOk
 simp only [in_eq, word_eq, Option.bind_some]
 by_cases h1 : 0 ≤ b ∧ b ≤ 16
 ·obtain ⟨e1, e2, e3, e4⟩ := rest_shl h1
  rw [if_pos e1, e2]
  by_cases h2 : 0 ≤ a ∧ a ≤ 65535
  ·simp only [if_neg (show ¬ rest b = 0 by omega), Int.tmod_eq_emod_of_nonneg h2.1]
   by_cases h3 : a % rest b = 0 <;> by_cases h4 : 0 ≤ v ∧ v ≤ 65535 <;> simp [h1, h2, h3, h4]
  ·simp [h1, h2]
 ·simp [h1]
theorem routeOk_bits {a b v r : Int} (h : routeOk a b v r = true) : (0 ≤ b ∧ b ≤ 16) ∧ (0 ≤ a ∧ a ≤ 65535) := by
 have := of_decide_eq_true h
 exact ⟨this.1, this.2.1⟩

/-- A route that is ok. -/
def rOk (r : S24) : Bool := routeOk r.f0 r.f1 r.f2 r.f3
/-- One route stands ahead of another. -/
def rLt (r q : S24) : Bool := decide (r.f1 < q.f1 ∨ r.f1 = q.f1 ∧ r.f0 < q.f0)
/-- Each is ok and stands ahead of the next one. -/
def rChain : Option S24 → List S24 → Bool
 | _, [] => true
 | none, r :: l => rOk r && rChain (some r) l
 | some q, r :: l => (rOk r && rLt q r) && rChain (some r) l
/-- Routes are ok. -/
def routesOk (l : List S24) : Bool := rChain none l && decide ((l.length : Int) ≤ 8)
/-- The one ahead of place i. -/
def prevOf (l : List S24) (i : Nat) : Option S24 := if i = 0 then none else some (rd_T24 l ((i - 1 : Nat) : Int))
theorem rdT_nat (l : List S24) (i : Nat) (h : i < l.length) : rd_T24 l (i : Int) = l[i] := by
 unfold rd_T24; simp [List.getD_eq_getElem?_getD, List.getElem?_eq_getElem h]
theorem dropT (l : List S24) (i : Nat) (h : i < l.length) : l.drop i = rd_T24 l (i : Int) :: l.drop (i + 1) := by
 rw [List.drop_eq_getElem_cons h, rdT_nat l i h]

theorem cmp_eq (a b : Int) : cmp_Compare_int.f a b = some (if a < b then -1 else if a > b then 1 else 0) := by
 unfold cmp_Compare_int.f cmp_isNaN_int.f
 by_cases h1 : a < b <;> by_cases h2 : a > b <;> simp [h1, h2]
theorem or2_eq (x y : Int) (k : Nat) (hk : 3 ≤ k) : cmp_Or_int.f k [x, y] = some (if x = 0 then y else x) := by
 obtain ⟨k, rfl⟩ : ∃ m, k = m + 1 + 1 + 1 := ⟨k - 3, by omega⟩
 have e1 : wrap64 ((0 : Int) + 1) = 1 := w64 (by omega) (by omega)
 have e2 : wrap64 ((1 : Int) + 1) = 2 := w64 (by omega) (by omega)
 unfold cmp_Or_int.f
 simp only [cmp_Or_int.l0, List.length_cons, List.length_nil, rd, e1, e2]
 by_cases h : x = 0 <;> by_cases h' : y = 0 <;> simp [h, h']
theorem order_eq (a b c d a' b' c' d' : Int) (k : Nat) (hk : 3 ≤ k) : ∃ v, impl_Route_order.f k a b c d a' b' c' d' = some v ∧ (v < 0 ↔ (b < b' ∨ b = b' ∧ a < a')) ∧ (v = 0 ↔ (b = b' ∧ a = a')) := by
 unfold impl_Route_order.f
 simp only [cmp_eq, or2_eq _ _ k hk, Option.bind_some]
 refine ⟨_, rfl, ?_, ?_⟩
 ·by_cases h1 : b < b' <;> by_cases h2 : b > b' <;> by_cases h3 : a < a' <;> by_cases h4 : a > a' <;> simp [h1, h2, h3, h4] <;> omega
 ·by_cases h1 : b < b' <;> by_cases h2 : b > b' <;> by_cases h3 : a < a' <;> by_cases h4 : a > a' <;> simp [h1, h2, h3, h4] <;> omega

theorem implRoutesOk_loop (l : List S24) (hl : l.length < 4611686018427387904) : ∀ (d k i : Nat), l.length - i = d → i ≤ l.length → d + 3 < k →
  impl_RoutesOk.l0 k l l (l.length : Int) (i : Int) = some (rChain (prevOf l i) (l.drop i) && decide ((l.length : Int) ≤ 8))
 | 0, k, i, hd, hi, hk => by
  obtain ⟨k, rfl⟩ : ∃ m, k = m + 1 := ⟨k - 1, by omega⟩
  simp only [impl_RoutesOk.l0]
  rw [if_neg (by omega), List.drop_of_length_le (by omega)]
  cases prevOf l i <;> simp [rChain]
 | d + 1, k, i, hd, hi, hk => by
  obtain ⟨k, rfl⟩ : ∃ m, k = m + 1 := ⟨k - 1, by omega⟩
  have e2 : wrap64 ((i : Int) + 1) = ((i + 1 : Nat) : Int) := by rw [w64 (by omega) (by omega)]; rfl
  have ih := implRoutesOk_loop l hl d k (i + 1) (by omega) (by omega) (by omega)
  have ep : prevOf l (i + 1) = some (rd_T24 l (i : Int)) := by unfold prevOf; rw [if_neg (by omega)]; rfl
  rw [ep] at ih
  simp only [impl_RoutesOk.l0]
  rw [if_pos (by omega), if_pos (by omega), if_pos (by omega), implRouteOk_eq, e2, ih, dropT l i (by omega)]
  simp only [Option.bind_some]
  by_cases h0 : i = 0
  ·subst h0
   have eq0 : prevOf l 0 = none := by unfold prevOf; rw [if_pos rfl]
   rw [eq0, if_neg (show ¬ ((0 : Nat) : Int) > 0 by omega)]
   simp only [rChain, rOk]
   cases routeOk (rd_T24 l ((0 : Nat) : Int)).f0 (rd_T24 l ((0 : Nat) : Int)).f1 (rd_T24 l ((0 : Nat) : Int)).f2 (rd_T24 l ((0 : Nat) : Int)).f3 <;> simp
  ·have e1 : wrap64 ((i : Int) - 1) = ((i - 1 : Nat) : Int) := by rw [w64 (by omega) (by omega)]; omega
   have eq1 : prevOf l i = some (rd_T24 l ((i - 1 : Nat) : Int)) := by unfold prevOf; rw [if_neg h0]
   have c1 : (i : Int) > 0 := by omega
   have c2 : (0 : Int) ≤ ((i - 1 : Nat) : Int) := by omega
   have c3 : ((i - 1 : Nat) : Int) < (l.length : Int) := by omega
   rw [eq1, if_pos c1, e1, if_pos c2, if_pos c3]
   generalize rd_T24 l ((i - 1 : Nat) : Int) = q
   generalize rd_T24 l (i : Int) = r
   simp only [rChain, rOk, rLt]
   obtain ⟨v, hv, h1, _⟩ := order_eq q.f0 q.f1 q.f2 q.f3 r.f0 r.f1 r.f2 r.f3 k (by omega)
   cases routeOk r.f0 r.f1 r.f2 r.f3 with
   | false => simp
   | true =>
    rw [if_pos rfl, hv]
    simp only [Option.bind_some]
    by_cases h2 : v ≥ 0
    ·rw [if_pos h2, decide_eq_false (fun h => by have := h1.mpr h; omega)]; rfl
    ·rw [if_neg h2, decide_eq_true (h1.mp (by omega))]; simp
theorem implRoutesOk_eq (l : List S24) (hl : l.length < 4611686018427387904) (k : Nat) (hk : l.length + 3 < k) : impl_RoutesOk.f k l = some (routesOk l) := by
 unfold impl_RoutesOk.f routesOk
 rw [show (0 : Int) = ((0 : Nat) : Int) from rfl, implRoutesOk_loop l hl l.length k 0 (by omega) (by omega) hk]
 rfl

theorem specRoutesOk_loop (l : List S24) (hl : l.length < 4611686018427387904) : ∀ (d k i : Nat), l.length - i = d → i ≤ l.length → d < k →
  spec_RoutesOk.l0 k l (i : Int) = some (rChain (prevOf l i) (l.drop i) && decide ((l.length : Int) ≤ 8))
 | 0, k, i, hd, hi, hk => by
  obtain ⟨k, rfl⟩ : ∃ m, k = m + 1 := ⟨k - 1, by omega⟩
  simp only [spec_RoutesOk.l0]
  rw [if_neg (by omega), List.drop_of_length_le (by omega)]
  cases prevOf l i <;> simp [rChain]
 | d + 1, k, i, hd, hi, hk => by
  obtain ⟨k, rfl⟩ : ∃ m, k = m + 1 := ⟨k - 1, by omega⟩
  have e2 : wrap64 ((i : Int) + 1) = ((i + 1 : Nat) : Int) := by rw [w64 (by omega) (by omega)]; rfl
  have ih := specRoutesOk_loop l hl d k (i + 1) (by omega) (by omega) (by omega)
  have ep : prevOf l (i + 1) = some (rd_T24 l (i : Int)) := by unfold prevOf; rw [if_neg (by omega)]; rfl
  rw [ep] at ih
  simp only [spec_RoutesOk.l0]
  rw [if_pos (by omega), if_pos (by omega), specRouteOk_eq, e2, ih, dropT l i (by omega)]
  simp only [Option.bind_some]
  by_cases h0 : i = 0
  ·subst h0
   have eq0 : prevOf l 0 = none := by unfold prevOf; rw [if_pos rfl]
   rw [eq0, if_neg (show ¬ ((0 : Nat) : Int) > 0 by omega)]
   simp only [rChain, rOk]
   cases routeOk (rd_T24 l ((0 : Nat) : Int)).f0 (rd_T24 l ((0 : Nat) : Int)).f1 (rd_T24 l ((0 : Nat) : Int)).f2 (rd_T24 l ((0 : Nat) : Int)).f3 <;> simp
  ·have e1 : wrap64 ((i : Int) - 1) = ((i - 1 : Nat) : Int) := by rw [w64 (by omega) (by omega)]; omega
   have eq1 : prevOf l i = some (rd_T24 l ((i - 1 : Nat) : Int)) := by unfold prevOf; rw [if_neg h0]
   have c1 : (i : Int) > 0 := by omega
   have c2 : (0 : Int) ≤ ((i - 1 : Nat) : Int) := by omega
   have c3 : ((i - 1 : Nat) : Int) < (l.length : Int) := by omega
   rw [eq1, if_pos c1, e1, if_pos c2, if_pos c3]
   generalize rd_T24 l ((i - 1 : Nat) : Int) = q
   generalize rd_T24 l (i : Int) = r
   simp only [rChain, rOk, rLt]
   cases routeOk r.f0 r.f1 r.f2 r.f3 with
   | false => simp
   | true =>
    by_cases h1 : q.f1 > r.f1
    ·have : ¬ (q.f1 < r.f1 ∨ q.f1 = r.f1 ∧ q.f0 < r.f0) := by omega
     simp [h1, this]
    ·by_cases h2 : q.f1 = r.f1
     ·by_cases h3 : q.f0 ≥ r.f0
      ·have : ¬ (q.f1 < r.f1 ∨ q.f1 = r.f1 ∧ q.f0 < r.f0) := by omega
       rw [decide_eq_false this]
       simp [h1, h2, h3]
      ·have : (q.f1 < r.f1 ∨ q.f1 = r.f1 ∧ q.f0 < r.f0) := by omega
       rw [decide_eq_true this]
       simp [h1, h2, h3]
     ·have : (q.f1 < r.f1 ∨ q.f1 = r.f1 ∧ q.f0 < r.f0) := by omega
      rw [decide_eq_true this]
      simp [h1, h2]
theorem specRoutesOk_eq (l : List S24) (hl : l.length < 4611686018427387904) (k : Nat) (hk : l.length < k) : spec_RoutesOk.f k l = some (routesOk l) := by
 unfold spec_RoutesOk.f routesOk
 rw [show (0 : Int) = ((0 : Nat) : Int) from rfl, specRoutesOk_loop l hl l.length k 0 (by omega) (by omega) hk]
 rfl

/-- Routes with one more, and whether it could be put. -/
def routePut (l : List S24) (r : S24) : List S24 × Bool := if routesOk l = true ∧ routeOk r.f0 r.f1 r.f2 r.f3 = true ∧ (putR l r).length ≤ 8 then (putR l r, true) else ([], false)
theorem routePut_len (l : List S24) (r : S24) : (routePut l r).1.length ≤ 8 := by
 unfold routePut
 split
 ·next h => exact h.2.2
 ·exact Nat.zero_le _
theorem putOk_len {l : List S24} (h : routesOk l = true) : l.length ≤ 8 := by
 unfold routesOk at h
 rw [Bool.and_eq_true] at h
 have := of_decide_eq_true h.2
 omega
theorem chain_pair : ∀ (l : List S24) (q : S24), rChain (some q) l = true → l.Pairwise (fun x y => ltR x y = true) ∧ ∀ x ∈ l, ltR q x = true
 | [], _, _ => ⟨List.Pairwise.nil, fun x hx => by cases hx⟩
 | r :: l, q, h => by
  have h' : ((rOk r && rLt q r) && rChain (some r) l) = true := h
  rw [Bool.and_eq_true, Bool.and_eq_true] at h'
  obtain ⟨h1, h2⟩ := chain_pair l r h'.2
  have h3 : ltR q r = true := h'.1.2
  refine ⟨List.pairwise_cons.2 ⟨h2, h1⟩, fun x hx => ?_⟩
  rcases List.mem_cons.1 hx with rfl | hx
  ·exact h3
  ·exact ltR_trans h3 (h2 x hx)
theorem ok_pair {l : List S24} (h : routesOk l = true) : l.Pairwise (fun x y => ltR x y = true) := by
 unfold routesOk at h
 rw [Bool.and_eq_true] at h
 cases l with
 | nil => exact List.Pairwise.nil
 | cons r l =>
  have h' : (rOk r && rChain (some r) l) = true := h.1
  rw [Bool.and_eq_true] at h'
  obtain ⟨h1, h2⟩ := chain_pair l r h'.2
  exact List.pairwise_cons.2 ⟨h2, h1⟩
theorem implRoutePut_eq (l : List S24) (r : S24) (hl : l.length ≤ 1048576) (k : Nat) (hk : l.length + 3 < k) : impl_RoutePut.f k l r.f0 r.f1 r.f2 r.f3 = some (routePut l r) := by
 unfold impl_RoutePut.f routePut
 rw [implRoutesOk_eq l (by omega) k hk, implRouteOk_eq]
 simp only [Option.bind_some]
 by_cases h : routesOk l = true
 ·have h8 := putOk_len h
  rw [if_pos h]
  by_cases h2 : routeOk r.f0 r.f1 r.f2 r.f3 = true
  ·rw [if_pos h2, if_pos ⟨by omega, ok_pair h⟩]
   show (if (putR l r).length ≤ 8 then some (putR l r, true) else some ([], false)) = _
   by_cases h3 : (putR l r).length ≤ 8
   ·rw [if_pos h3, if_pos ⟨h, h2, h3⟩]
   ·rw [if_neg h3, if_neg (fun q => h3 q.2.2)]
  ·rw [if_neg h2, if_neg (fun q => h2 q.2.1)]
 ·rw [if_neg h, if_neg (fun q => h q.1)]
/-- What the reference's last step makes of its list. -/
def putFin (l o : List S24) (r : S24) : List S24 × Bool := if routesOk l = true ∧ routeOk r.f0 r.f1 r.f2 r.f3 = true ∧ o.length ≤ 8 then (o, true) else ([], false)
theorem specPut_end (l o : List S24) (r : S24) (hl : l.length ≤ 1048576) (k : Nat) (hk : l.length + 1 < k) : spec_RoutePut.j2 k l o r.f0 r.f1 r.f2 r.f3 = some (putFin l o r) := by
 obtain ⟨k, rfl⟩ : ∃ m, k = m + 1 := ⟨k - 1, by omega⟩
 unfold putFin
 simp only [spec_RoutePut.j2, specRoutesOk_eq l (by omega) k (by omega), specRouteOk_eq, Option.bind_some]
 by_cases h : routesOk l = true
 ·rw [if_pos h]
  by_cases h2 : routeOk r.f0 r.f1 r.f2 r.f3 = true
  ·rw [if_pos h2]
   by_cases h3 : o.length ≤ 8
   ·rw [if_neg (by omega), if_pos ⟨h, h2, h3⟩]
   ·rw [if_pos (by omega), if_neg (fun q => h3 q.2.2)]
  ·rw [if_neg h2, if_neg (fun q => h2 q.2.1)]
 ·rw [if_neg h, if_neg (fun q => h q.1)]
/-- The reference's loop. -/
def putLoop (r : S24) : Bool → List S24 → List S24
 | z, [] => if z = true then [] else [r]
 | z, x :: xs => (if (!z && !ltR x r) = true then [r] else []) ++ ((if eqR x r = true then [] else [x]) ++ putLoop r (z || (!z && !ltR x r)) xs)
theorem specPut_j1 (l o : List S24) (r x : S24) (F : Bool → List S24 → Option (List S24 × Bool)) (i : Int) (k : Nat) (z m : Bool) (ho : o.length + 1 < 4398046511104) (hF : ∀ z' o', o'.length ≤ o.length + 2 → spec_RoutePut.l0 k l o' z' (wrap64 (i + 1)) r.f0 r.f1 r.f2 r.f3 = F z' o') :
  spec_RoutePut.j1 (k + 1) l o z i m r.f0 r.f1 r.f2 r.f3 x.f0 x.f1 x.f2 x.f3 = F (z || m) (o ++ ((if m = true then [r] else []) ++ (if eqR x r = true then [] else [x]))) := by
 have g1 : o.length < 4398046511104 := by omega
 have g2 : (o ++ [r]).length < 4398046511104 := by rw [List.length_append]; simp only [List.length_cons, List.length_nil]; omega
 have l1 : (o ++ [r]).length ≤ o.length + 2 := by rw [List.length_append]; simp only [List.length_cons, List.length_nil]; omega
 have l2 : (o ++ [x]).length ≤ o.length + 2 := by rw [List.length_append]; simp only [List.length_cons, List.length_nil]; omega
 have l3 : (o ++ [r] ++ [x]).length ≤ o.length + 2 := by rw [List.length_append, List.length_append]; simp only [List.length_cons, List.length_nil]; omega
 have e1 := hF z o (by omega)
 have e2 := hF z _ l2
 have e3 := hF true _ l1
 have e4 := hF true _ l3
 have er : eqR x r = decide (x.f1 = r.f1 ∧ x.f0 = r.f0) := rfl
 rw [er]
 simp only [spec_RoutePut.j1, Option.bind_some]
 cases m with
 | true =>
  rw [if_pos rfl, if_pos g1, if_pos rfl, Bool.or_true]
  by_cases c1 : x.f1 = r.f1
  ·rw [if_pos c1]
   by_cases c0 : x.f0 = r.f0
   ·rw [if_pos c0, decide_eq_true (And.intro c1 c0), if_pos rfl, List.append_nil]
    exact e3
   ·rw [if_neg c0, decide_eq_false (fun q : x.f1 = r.f1 ∧ x.f0 = r.f0 => c0 q.2), if_neg Bool.false_ne_true]
    rw [← List.append_assoc]
    exact (if_pos g2).trans e4
  ·rw [if_neg c1, decide_eq_false (fun q : x.f1 = r.f1 ∧ x.f0 = r.f0 => c1 q.1), if_neg Bool.false_ne_true]
   rw [← List.append_assoc]
   exact (if_pos g2).trans e4
 | false =>
  simp only [Bool.false_eq_true, if_false, Bool.or_false, List.nil_append]
  by_cases c1 : x.f1 = r.f1
  ·rw [if_pos c1]
   by_cases c0 : x.f0 = r.f0
   ·rw [if_pos c0, decide_eq_true (And.intro c1 c0), if_pos rfl, List.append_nil]
    exact e1
   ·rw [if_neg c0, decide_eq_false (fun q : x.f1 = r.f1 ∧ x.f0 = r.f0 => c0 q.2), if_neg Bool.false_ne_true]
    exact (if_pos g1).trans e2
  ·rw [if_neg c1, decide_eq_false (fun q : x.f1 = r.f1 ∧ x.f0 = r.f0 => c1 q.1), if_neg Bool.false_ne_true]
   exact (if_pos g1).trans e2
theorem specPut_loop (l : List S24) (r : S24) (hl : l.length ≤ 1048576) : ∀ (d k i : Nat) (o : List S24) (z : Bool), i + d = l.length → o.length ≤ 2 * i → 2 * d + l.length + 4 < k →
  spec_RoutePut.l0 k l o z (i : Int) r.f0 r.f1 r.f2 r.f3 = some (putFin l (o ++ putLoop r z (l.drop i)) r) := by
 intro d
 induction d with
 | zero =>
  intro k i o z hi ho hk
  obtain ⟨k, rfl⟩ : ∃ m, k = m + 1 := ⟨k - 1, by omega⟩
  simp only [spec_RoutePut.l0]
  rw [if_neg (by omega), List.drop_of_length_le (by omega)]
  cases z with
  | true =>
   rw [if_pos rfl, specPut_end l o r hl k (by omega)]
   show _ = some (putFin l (o ++ []) r)
   rw [List.append_nil]
  | false =>
   rw [if_neg (by decide), if_pos (by omega)]
   exact specPut_end l (o ++ [r]) r hl k (by omega)
 | succ d ih =>
  intro k i o z hi ho hk
  obtain ⟨k, rfl⟩ : ∃ m, k = m + 1 + 1 := ⟨k - 2, by omega⟩
  have hil : i < l.length := by omega
  have e1 : wrap64 ((i : Int) + 1) = ((i + 1 : Nat) : Int) := by rw [w64 (by omega) (by omega)]; rfl
  have hF : ∀ z' o', o'.length ≤ o.length + 2 → spec_RoutePut.l0 k l o' z' (wrap64 ((i : Int) + 1)) r.f0 r.f1 r.f2 r.f3 = some (putFin l (o' ++ putLoop r z' (l.drop (i + 1))) r) := fun z' o' h => by
   rw [e1]
   exact ih k (i + 1) o' z' (by omega) (by omega) (by omega)
  have hj := fun x m => specPut_j1 l o r x (fun z' o' => some (putFin l (o' ++ putLoop r z' (l.drop (i + 1))) r)) (i : Int) k z m (by omega) hF
  have e2 := dropT l i hil
  simp only [spec_RoutePut.l0]
  rw [if_pos (by omega), if_pos (by omega), e2]
  generalize rd_T24 l (i : Int) = x
  have en : putLoop r z (x :: l.drop (i + 1)) = (if (!z && !ltR x r) = true then [r] else []) ++ ((if eqR x r = true then [] else [x]) ++ putLoop r (z || (!z && !ltR x r)) (l.drop (i + 1))) := rfl
  rw [en]
  have fin : ∀ m : Bool, (!z && !ltR x r) = m → spec_RoutePut.j1 (k + 1) l o z (i : Int) m r.f0 r.f1 r.f2 r.f3 x.f0 x.f1 x.f2 x.f3 = some (putFin l (o ++ ((if (!z && !ltR x r) = true then [r] else []) ++ ((if eqR x r = true then [] else [x]) ++ putLoop r (z || (!z && !ltR x r)) (l.drop (i + 1))))) r) := fun m hm => by
   rw [hj x m, hm]
   simp only [List.append_assoc]
  have el : ltR x r = decide (x.f1 < r.f1 ∨ x.f1 = r.f1 ∧ x.f0 < r.f0) := rfl
  cases z with
  | true =>
   rw [if_pos rfl]
   exact fin false rfl
  | false =>
   rw [if_neg (by decide)]
   by_cases c1 : r.f1 < x.f1
   ·rw [if_pos c1]
    exact fin true (by rw [el, decide_eq_false (by omega)]; rfl)
   ·rw [if_neg c1]
    by_cases c2 : r.f1 = x.f1
    ·rw [if_pos c2]
     refine fin _ ?_
     by_cases c3 : r.f0 ≤ x.f0
     ·rw [el, decide_eq_false (by omega), decide_eq_true c3]; rfl
     ·rw [el, decide_eq_true (by omega), decide_eq_false c3]; rfl
    ·rw [if_neg c2]
     exact fin false (by rw [el, decide_eq_true (by omega)]; rfl)
theorem putLoop_true (r : S24) : ∀ l : List S24, (∀ x ∈ l, ltR r x = true) → putLoop r true l = l
 | [], _ => rfl
 | x :: l, h => by
  have h1 := h x (List.mem_cons_self ..)
  have h2 : eqR x r = false := by
   refine Bool.eq_false_iff.2 fun q => ?_
   rw [eqR_iff] at q; rw [ltR_iff] at h1
   omega
  show (if (!true && !ltR x r) = true then [r] else []) ++ ((if eqR x r = true then [] else [x]) ++ putLoop r (true || (!true && !ltR x r)) l) = x :: l
  rw [h2, Bool.true_or, putLoop_true r l (fun y hy => h y (List.mem_cons_of_mem _ hy))]
  rfl
theorem putLoop_eq (r : S24) : ∀ l : List S24, l.Pairwise (fun x y => ltR x y = true) → putLoop r false l = putR l r
 | [], _ => rfl
 | x :: l, h => by
  obtain ⟨hx, hl⟩ := List.pairwise_cons.1 h
  have ih := putLoop_eq r l hl
  show (if (!false && !ltR x r) = true then [r] else []) ++ ((if eqR x r = true then [] else [x]) ++ putLoop r (false || (!false && !ltR x r)) l) = putR (x :: l) r
  cases h1 : ltR x r with
  | true =>
   have h2 : eqR x r = false := by
    refine Bool.eq_false_iff.2 fun q => ?_
    rw [eqR_iff] at q; rw [ltR_iff] at h1
    omega
   rw [h2]
   show [x] ++ putLoop r false l = _
   unfold putR at ih ⊢
   rw [ih, List.filter_cons_of_pos (p := fun y => ltR y r) h1, List.filter_cons_of_neg (p := fun y => ltR r y) (by rw [ltR_asymm h1]; decide)]
   rfl
  | false =>
   have e1 : (x :: l).filter (fun y => ltR y r) = [] := List.filter_eq_nil_iff.2 fun y hy => by
    rcases List.mem_cons.1 hy with rfl | hy
    ·rw [h1]; decide
    ·intro q
     rw [ltR_trans (hx y hy) q] at h1
     cases h1
   unfold putR
   rw [e1]
   cases h2 : eqR x r with
   | true =>
    have h3 : ∀ y ∈ l, ltR r y = true := fun y hy => ltR_eq h2 (hx y hy)
    have h4 : ltR r x = false := by
     refine Bool.eq_false_iff.2 fun q => ?_
     rw [eqR_iff] at h2; rw [ltR_iff] at q
     omega
    show [r] ++ ([] ++ putLoop r true l) = _
    rw [putLoop_true r l h3, List.filter_cons_of_neg (p := fun y => ltR r y) (by rw [h4]; decide), List.filter_eq_self.2 h3]
    rfl
   | false =>
    have h4 := ltR_else h1 h2
    have h3 : ∀ y ∈ l, ltR r y = true := fun y hy => ltR_trans h4 (hx y hy)
    show [r] ++ ([x] ++ putLoop r true l) = _
    rw [putLoop_true r l h3, List.filter_cons_of_pos (p := fun y => ltR r y) h4, List.filter_eq_self.2 h3]
    rfl
theorem specRoutePut_eq (l : List S24) (r : S24) (hl : l.length ≤ 1048576) (k : Nat) (hk : 3 * l.length + 4 < k) : spec_RoutePut.f k l r.f0 r.f1 r.f2 r.f3 = some (routePut l r) := by
 unfold spec_RoutePut.f
 refine (specPut_loop l r hl l.length k 0 [] false (by omega) (Nat.zero_le _) (by omega)).trans ?_
 rw [List.nil_append, List.drop_zero]
 unfold putFin routePut
 by_cases h : routesOk l = true
 ·rw [putLoop_eq r l (ok_pair h)]
 ·rw [if_neg (fun q => h q.1), if_neg (fun q => h q.1)]

/-- A route is for an address. -/
def routeFits (a b v r x : Int) : Bool := routeOk a b v r && decide ((0 ≤ x ∧ x ≤ 65535) ∧ x / rest b = a / rest b)

theorem rest_shr {b : Int} (h : 0 ≤ b ∧ b ≤ 16) (x : Int) : shr .i64 x (wrap64 (16 - b)) = x / rest b := by
 rw [w64 (by omega) (by omega)]
 unfold shr rest
 rw [Nat.min_eq_left (show (16 - b).toNat ≤ IntKind.i64.bits by simp [IntKind.bits]; omega)]

theorem fits_eq {a b v r x : Int} (h : 0 ≤ b ∧ b ≤ 16) : impl_Route_fits.f a b v r x = some (decide (x / rest b = a / rest b)) := by
 obtain ⟨e1, e2, e3, e4⟩ := rest_shl h
 unfold impl_Route_fits.f
 rw [if_pos e1, rest_shr h, rest_shr h]
 by_cases h4 : x / rest b = a / rest b <;> simp [h4]
theorem rChain_all : ∀ (p : Option S24) (l : List S24), rChain p l = true → ∀ r ∈ l, rOk r = true
 | _, [], _, r, hr => by cases hr
 | none, s :: l, h, r, hr => by
  simp only [rChain, Bool.and_eq_true] at h
  rcases List.mem_cons.1 hr with rfl | hr
  ·exact h.1
  ·exact rChain_all _ l h.2 r hr
 | some q, s :: l, h, r, hr => by
  simp only [rChain, Bool.and_eq_true] at h
  rcases List.mem_cons.1 hr with rfl | hr
  ·exact h.1.1
  ·exact rChain_all _ l h.2 r hr
theorem routesOk_all {l : List S24} (h : routesOk l = true) : ∀ r ∈ l, rOk r = true := by
 unfold routesOk at h
 rw [Bool.and_eq_true] at h
 exact rChain_all _ l h.1
theorem bk_mem {l : List S24} {q : Int × S24} (h : q ∈ bk l) : q.2 ∈ l := by
 unfold bk at h
 obtain ⟨k, hk, rfl⟩ := List.mem_map.1 h
 have hk := List.mem_range.1 hk
 show rd_T24 l ((l.length - 1 - k : Nat) : Int) ∈ l
 rw [rdT_nat l (l.length - 1 - k) (by omega)]
 exact List.getElem_mem _
/-- A route of the row fits. -/
def fitsQ (x : Int) (q : Int × S24) : Bool := routeFits q.2.f0 q.2.f1 q.2.f2 q.2.f3 x
/-- What is told of the one that was found. -/
def toldOf : Option (Int × S24) → Int × Int × Int × Int × Bool
 | some q => (q.2.f0, q.2.f1, q.2.f2, q.2.f3, true)
 | none => (0, 0, 0, 0, false)
/-- The route for an address. -/
def routeTo (l : List S24) (x : Int) : Int × Int × Int × Int × Bool := if routesOk l = true then toldOf ((bk l).find? (fitsQ x)) else (0, 0, 0, 0, false)
theorem find_congr {α : Type} {p q : α → Bool} : ∀ {l : List α}, (∀ x ∈ l, p x = q x) → l.find? p = l.find? q
 | [], _ => rfl
 | a :: l, h => by
  rw [List.find?_cons, List.find?_cons, h a List.mem_cons_self, find_congr (fun x hx => h x (List.mem_cons_of_mem _ hx))]

theorem implRouteTo_eq (l : List S24) (hl : l.length ≤ 1048576) (x : Int) (k : Nat) (hk : l.length + 4 < k) : impl_RouteTo.f k l x = some (routeTo l x) := by
 unfold impl_RouteTo.f routeTo
 rw [implRoutesOk_eq l (by omega) k (by omega), word_eq]
 simp only [Option.bind_some]
 cases ho : routesOk l with
 | false => rfl
 | true =>
  rw [if_pos rfl, if_pos rfl]
  have hall := routesOk_all ho
  have hb : ∀ q ∈ bk l, (0 ≤ q.2.f1 ∧ q.2.f1 ≤ 16) ∧ rOk q.2 = true := fun q hq => ⟨(routeOk_bits (hall _ (bk_mem hq))).1, hall _ (bk_mem hq)⟩
  by_cases hx : 0 ≤ x ∧ x ≤ 65535
  ·have hfind : (bk l).find? (hit x 17) = (bk l).find? (fitsQ x) := find_congr fun q hq => by
    obtain ⟨h1, h2⟩ := hb q hq
    unfold hit fitsQ routeFits
    rw [fits_eq h1, show routeOk q.2.f0 q.2.f1 q.2.f2 q.2.f3 = true from h2, decide_eq_true (show q.2.f1 < 17 by omega)]
    by_cases h4 : x / rest q.2.f1 = q.2.f0 / rest q.2.f1 <;> simp [h4, hx]
   rw [if_pos (by simp [hx])]
   unfold impl_routeTo.f
   rw [if_pos ⟨by omega, List.all_eq_true.2 fun q hq => by rw [fits_eq (hb q hq).1]; rfl⟩, hfind]
   cases (bk l).find? (fitsQ x) <;> rfl
  ·have hfind : (bk l).find? (fitsQ x) = none := List.find?_eq_none.2 fun q hq => by
    unfold fitsQ routeFits
    simp [hx]
   rw [if_neg (by simp [hx]), hfind]
   rfl

/-- What pick draws. -/
def pk (b : List Int) (p n : Int) : Int := ((spec_l20Rd_pick.f 1 b p n).getD (0, 0)).1
theorem pick_f (b : List Int) (hb : Bytes b) (hl : b.length ≤ 2000) (p n : Int) (h0 : 0 ≤ p) (h1 : p ≤ 1073741824) (h2 : -2147483648 ≤ n) (h3 : n ≤ 65536) (k : Nat) :
  ∃ v, spec_l20Rd_pick.f (k + 1) b p n = some (v, p + 1) ∧ 0 ≤ v ∧ (1 ≤ n → v < n) ∧ (n < 1 → v = 0) := by
 have ep : wrap64 (p + 1) = p + 1 := w64 (by omega) (by omega)
 have ep' : wrap64 (p + 1 - 1) = p := by rw [w64 (by omega) (by omega)]; omega
 unfold spec_l20Rd_pick.f
 rw [ep]
 simp only [spec_l20Rd_pick.j0, ep']
 by_cases hn : n < 1
 ·rw [if_pos hn, if_pos trivial]
  exact ⟨0, rfl, by omega, fun h => by omega, fun _ => rfl⟩
 rw [if_neg hn]
 by_cases he : (b.length : Int) = 0
 ·rw [if_pos (by simpa using he)]
  exact ⟨0, rfl, by omega, fun h => by omega, fun _ => rfl⟩
 rw [if_neg (by simpa using he)]
 by_cases hp : p < (b.length : Int)
 ·rw [if_pos hp, if_pos h0, if_neg (by omega)]
  have hr := hb.at_ p
  rw [w64 (x := rd b p) (by omega) (by omega)]
  refine ⟨_, rfl, Int.tmod_nonneg _ hr.1, fun _ => ?_, fun h => by omega⟩
  rw [Int.tmod_eq_emod_of_nonneg hr.1]
  exact Int.emod_lt_of_pos _ (by omega)
 rw [if_neg hp]
 have m1 : 0 ≤ Int.tmod p (b.length : Int) ∧ Int.tmod p (b.length : Int) < (b.length : Int) := by
  rw [Int.tmod_eq_emod_of_nonneg h0]; exact ⟨Int.emod_nonneg _ he, Int.emod_lt_of_pos _ (by omega)⟩
 have e7 : wrap64 (wrap64 (p * 7) + 3) = p * 7 + 3 := by rw [w64 (x := p * 7) (by omega) (by omega), w64 (by omega) (by omega)]
 have m2 : 0 ≤ Int.tmod (p * 7 + 3) (b.length : Int) ∧ Int.tmod (p * 7 + 3) (b.length : Int) < (b.length : Int) := by
  rw [Int.tmod_eq_emod_of_nonneg (by omega)]; exact ⟨Int.emod_nonneg _ he, Int.emod_lt_of_pos _ (by omega)⟩
 rw [if_neg he, if_pos m1.1, if_pos m1.2, e7, if_pos m2.1, if_pos m2.2, if_neg (show ¬ n = 0 by omega)]
 have r1 := hb.at_ (Int.tmod p (b.length : Int))
 have r2 := hb.at_ (Int.tmod (p * 7 + 3) (b.length : Int))
 generalize rd b (Int.tmod p (b.length : Int)) = x1 at r1 ⊢
 generalize rd b (Int.tmod (p * 7 + 3) (b.length : Int)) = x2 at r2 ⊢
 have q0 : Int.tdiv p (b.length : Int) = p / (b.length : Int) := Int.tdiv_eq_ediv_of_nonneg h0
 have q1 : 0 ≤ p / (b.length : Int) := Int.ediv_nonneg h0 (by omega)
 have q2 : p / (b.length : Int) ≤ p := Int.ediv_le_self _ h0
 rw [q0]
 generalize p / (b.length : Int) = q at q1 q2 ⊢
 rw [w64 (x := x1) (by omega) (by omega), w64 (x := x2) (by omega) (by omega), w64 (x := x1 * 131) (by omega) (by omega), w64 (x := x2 * 1117) (by omega) (by omega), w64 (x := p * 29) (by omega) (by omega),
  w64 (x := q) (by omega) (by omega), w64 (x := q * 53) (by omega) (by omega), w64 (x := x1 * 131 + x2 * 1117) (by omega) (by omega), w64 (x := x1 * 131 + x2 * 1117 + p * 29) (by omega) (by omega), w64 (x := x1 * 131 + x2 * 1117 + p * 29 + q * 53) (by omega) (by omega)]
 obtain ⟨y, hy⟩ : ∃ y : Nat, x1 * 131 + x2 * 1117 + p * 29 + q * 53 = (y : Int) := ⟨(x1 * 131 + x2 * 1117 + p * 29 + q * 53).toNat, by omega⟩
 have hy2 : y < 1099511627776 := by omega
 rw [hy]
 have d0 : Int.tdiv (y : Int) 64 = ((y / 64 : Nat) : Int) := by rw [Int.tdiv_eq_ediv_of_nonneg (by omega)]; rfl
 have hz : y / 64 < 1099511627776 := by omega
 rw [d0, w64 (x := ((y / 64 : Nat) : Int)) (by omega) (by omega)]
 obtain ⟨ex, lx⟩ := xor_i64 y (y / 64) hy2 hz
 rw [ex]
 refine ⟨_, rfl, Int.tmod_nonneg _ (by omega), fun _ => ?_, fun h => by omega⟩
 rw [Int.tmod_eq_emod_of_nonneg (by omega)]
 exact Int.emod_lt_of_pos _ (by omega)
theorem pick_one (b : List Int) (p n : Int) (k : Nat) : spec_l20Rd_pick.f (k + 1) b p n = spec_l20Rd_pick.f 1 b p n := by
 unfold spec_l20Rd_pick.f
 simp only [spec_l20Rd_pick.j0]
theorem pick_eq {b : List Int} (hb : Bytes b) (hl : b.length ≤ 2000) {p n : Int} (h0 : 0 ≤ p) (h1 : p ≤ 1073741824) (h2 : -2147483648 ≤ n) (h3 : n ≤ 65536) {k : Nat} (hk : 1 ≤ k) : spec_l20Rd_pick.f k b p n = some (pk b p n, p + 1) := by
 obtain ⟨k, rfl⟩ : ∃ m, k = m + 1 := ⟨k - 1, by omega⟩
 rw [pick_one]
 obtain ⟨v, hv, _⟩ := pick_f b hb hl p n h0 h1 h2 h3 0
 unfold pk
 rw [hv]; rfl
theorem pk_range {b : List Int} (hb : Bytes b) (hl : b.length ≤ 2000) {p n : Int} (h0 : 0 ≤ p) (h1 : p ≤ 1073741824) (h2 : 1 ≤ n) (h3 : n ≤ 65536) : 0 ≤ pk b p n ∧ pk b p n < n := by
 obtain ⟨v, hv, g0, g1, _⟩ := pick_f b hb hl p n h0 h1 (by omega) h3 0
 unfold pk
 rw [hv]; exact ⟨g0, g1 h2⟩
/-- The bytes that are drawn from. -/
theorem open_eq (l : List Int) (hb : Bytes l) : ∃ b, spec_l20Open.f l = some (b, 0) ∧ Bytes b ∧ b.length ≤ 2000 := by
 unfold spec_l20Open.f
 by_cases h : (l.length : Int) > 2000
 ·rw [if_pos h, if_pos (by omega)]
  exact ⟨_, rfl, hb.take _, by simp; omega⟩
 ·rw [if_neg h]
  exact ⟨_, rfl, hb, by omega⟩

/-- odd tells just this. -/
theorem odd_eq {b : List Int} (hb : Bytes b) (hl : b.length ≤ 2000) {p n : Int} (h0 : 0 ≤ p) (h1 : p ≤ 1073741824) (h2 : 0 ≤ n) (h3 : n ≤ 65536) {k : Nat} (hk : 1 ≤ k) :
  ∃ o p', spec_l20Rd_odd.f k b p n = some (o, p') ∧ p ≤ p' ∧ p' ≤ p + 1 ∧ (n = 0 → o = false) := by
 unfold spec_l20Rd_odd.f
 by_cases h : n > 0
 ·rw [if_pos h, pick_eq hb hl h0 h1 (by omega) h3 hk]
  exact ⟨_, _, rfl, by omega, by omega, fun h => by omega⟩
 ·rw [if_neg h]
  exact ⟨_, _, rfl, by omega, by omega, fun _ => rfl⟩

theorem rd_bits {i v : Int} (h : 0 ≤ i ∧ i < 7) (hv : 0 ≤ v ∧ v < 17) : 0 ≤ rd [0, 4, 8, 8, 12, 16, v] i ∧ rd [0, 4, 8, 8, 12, 16, v] i ≤ 16 := by
 rcases (by omega : i = 0 ∨ i = 1 ∨ i = 2 ∨ i = 3 ∨ i = 4 ∨ i = 5 ∨ i = 6) with rfl | rfl | rfl | rfl | rfl | rfl | rfl
 ·show 0 ≤ (0 : Int) ∧ (0 : Int) ≤ 16
  decide
 ·show 0 ≤ (4 : Int) ∧ (4 : Int) ≤ 16
  decide
 ·show 0 ≤ (8 : Int) ∧ (8 : Int) ≤ 16
  decide
 ·show 0 ≤ (8 : Int) ∧ (8 : Int) ≤ 16
  decide
 ·show 0 ≤ (12 : Int) ∧ (12 : Int) ≤ 16
  decide
 ·show 0 ≤ (16 : Int) ∧ (16 : Int) ≤ 16
  decide
 ·show 0 ≤ v ∧ v ≤ 16
  omega
theorem drawRoute_eq {b : List Int} (hb : Bytes b) (hl : b.length ≤ 2000) {p m : Int} (h0 : 0 ≤ p) (h1 : p ≤ 268435456) (hm0 : 0 ≤ m) (hm1 : m ≤ 65536) {k : Nat} (hk : 1 ≤ k) :
  ∃ a n v r p', spec_l20Route.f k b p m = some (a, n, v, r, p') ∧ p ≤ p' ∧ p' ≤ p + 9 := by
 obtain ⟨k, rfl⟩ : ∃ m, k = m + 1 := ⟨k - 1, by omega⟩
 unfold spec_l20Route.f
 rw [pick_eq hb hl h0 (by omega) (by omega) (by omega) hk]
 simp only [Option.bind_some]
 rw [pick_eq hb hl (p := p + 1) (n := 7) (by omega) (by omega) (by omega) (by omega) hk]
 simp only [Option.bind_some]
 have r1 := pk_range hb hl (p := p) (n := 17) (by omega) (by omega) (by omega) (by omega)
 have r2 := pk_range hb hl (p := p + 1) (n := 7) (by omega) (by omega) (by omega) (by omega)
 rw [if_pos r2.1, if_pos (by simp only [List.length_cons, List.length_nil]; omega)]
 rw [pick_eq hb hl (p := p + 1 + 1) (n := 512) (by omega) (by omega) (by omega) (by omega) hk]
 simp only [Option.bind_some]
 rw [pick_eq hb hl (p := p + 1 + 1 + 1) (n := 6) (by omega) (by omega) (by omega) (by omega) hk]
 simp only [Option.bind_some]
 have r3 := pk_range hb hl (p := p + 1 + 1 + 1) (n := 6) (by omega) (by omega) (by omega) (by omega)
 rw [if_pos r3.1, if_pos (by simp only [List.length_cons, List.length_nil]; omega)]
 obtain ⟨e1, e2, e3, e4⟩ := rest_shl (rd_bits r2 r1)
 generalize rd [0, 4, 8, 8, 12, 16, pk b p 17] (pk b (p + 1) 7) = bits at e1 e2 e3 e4 ⊢
 generalize rd [0, 4096, 4352, 4353, wrap64 (4096 + pk b (p + 1 + 1) 512), 65535] (pk b (p + 1 + 1 + 1) 6) = adr
 rw [if_pos e1, if_neg (show ¬ shl .i64 1 (wrap64 (16 - bits)) = 0 by rw [e2]; omega)]
 rw [pick_eq hb hl (p := p + 1 + 1 + 1 + 1) (n := 3) (by omega) (by omega) (by omega) (by omega) hk]
 simp only [Option.bind_some]
 rw [pick_eq hb hl (p := p + 1 + 1 + 1 + 1 + 1) (n := 3) (by omega) (by omega) (by omega) (by omega) hk]
 simp only [Option.bind_some]
 obtain ⟨o, p2, e5, g5, g6, g7⟩ := odd_eq hb hl (p := p + 1 + 1 + 1 + 1 + 1 + 1) (n := m) (by omega) (by omega) hm0 hm1 hk
 simp only [e5, Option.bind_some]
 cases o with
 | false =>
  rw [if_neg (by decide)]
  exact ⟨_, _, _, _, _, rfl, by omega, by omega⟩
 | true =>
  simp only [if_true]
  rw [pick_eq hb hl (p := p2) (n := 3) (by omega) (by omega) (by omega) (by omega) hk]
  simp only [Option.bind_some]
  rw [pick_eq hb hl (p := p2 + 1) (n := 2) (by omega) (by omega) (by omega) (by omega) hk]
  simp only [Option.bind_some]
  split
  ·exact ⟨_, _, _, _, _, rfl, by omega, by omega⟩
  ·split
   ·exact ⟨_, _, _, _, _, rfl, by omega, by omega⟩
   ·exact ⟨_, _, _, _, _, rfl, by omega, by omega⟩

theorem routePut_end (l o : List S24) (hl : l.length ≤ 16) (a b v r : Int) (k : Nat) (hk : l.length + 1 < k) : ∃ q, spec_RoutePut.j2 k l o a b v r = some q ∧ q.1.length ≤ 8 := by
 obtain ⟨k, rfl⟩ : ∃ m, k = m + 1 := ⟨k - 1, by omega⟩
 simp only [spec_RoutePut.j2, specRoutesOk_eq l (by omega) k (by omega), specRouteOk_eq, Option.bind_some]
 split
 ·split
  ·split
   ·exact ⟨_, rfl, by simp⟩
   ·exact ⟨_, rfl, by show o.length ≤ 8; omega⟩
  ·exact ⟨_, rfl, by simp⟩
 ·exact ⟨_, rfl, by simp⟩
theorem routePut_loop (l : List S24) (hl : l.length ≤ 16) (a b v r : Int) : ∀ (d k i : Nat) (o : List S24) (z : Bool), l.length - i = d → i ≤ l.length → o.length ≤ 2 * i → 2 * d + l.length + 4 < k →
  ∃ q, spec_RoutePut.l0 k l o z (i : Int) a b v r = some q ∧ q.1.length ≤ 8 := by
 intro d
 induction d with
 | zero =>
  intro k i o z hd hi ho hk
  obtain ⟨k, rfl⟩ : ∃ m, k = m + 1 := ⟨k - 1, by omega⟩
  simp only [spec_RoutePut.l0]
  rw [if_neg (by omega)]
  split
  ·exact routePut_end l o hl a b v r k (by omega)
  ·rw [if_pos (by omega)]
   exact routePut_end l _ hl a b v r k (by omega)
 | succ d ih =>
  intro k i o z hd hi ho hk
  obtain ⟨k, rfl⟩ : ∃ m, k = m + 2 := ⟨k - 2, by omega⟩
  have e1 : wrap64 ((i : Int) + 1) = ((i + 1 : Nat) : Int) := by rw [w64 (by omega) (by omega)]; rfl
  have hj : ∀ z x a' b' v' r', ∃ q, spec_RoutePut.j1 (k + 1) l o z (i : Int) x a b v r a' b' v' r' = some q ∧ q.1.length ≤ 8 := by
   intro z x a' b' v' r'
   simp only [spec_RoutePut.j1, e1, Option.bind_some]
   have g1 : o.length < 4398046511104 := by omega
   have g2 : ∀ y : S24, (o ++ [y]).length < 4398046511104 := by intro y; rw [List.length_append]; simp only [List.length_cons, List.length_nil]; omega
   have g3 : ∀ y : S24, (o ++ [y]).length ≤ 2 * (i + 1) := by intro y; rw [List.length_append]; simp only [List.length_cons, List.length_nil]; omega
   have g4 : ∀ y y' : S24, (o ++ [y] ++ [y']).length ≤ 2 * (i + 1) := by intro y y'; rw [List.length_append, List.length_append]; simp only [List.length_cons, List.length_nil]; omega
   simp only [if_pos g1, if_pos (g2 _)]
   split
   ·split
    ·split
     ·exact ih k (i + 1) _ _ (by omega) (by omega) (g3 _) (by omega)
     ·exact ih k (i + 1) _ _ (by omega) (by omega) (g4 _ _) (by omega)
    ·exact ih k (i + 1) _ _ (by omega) (by omega) (g4 _ _) (by omega)
   ·split
    ·split
     ·exact ih k (i + 1) _ _ (by omega) (by omega) (by omega) (by omega)
     ·exact ih k (i + 1) _ _ (by omega) (by omega) (g3 _) (by omega)
    ·exact ih k (i + 1) _ _ (by omega) (by omega) (g3 _) (by omega)
  simp only [spec_RoutePut.l0]
  rw [if_pos (by omega), if_pos (by omega)]
  split
  ·exact hj _ _ _ _ _ _
  ·split
   ·exact hj _ _ _ _ _ _
   ·split
    ·exact hj _ _ _ _ _ _
    ·exact hj _ _ _ _ _ _
theorem routePut_eq (l : List S24) (hl : l.length ≤ 16) (a b v r : Int) (k : Nat) (hk : 60 ≤ k) : ∃ q, spec_RoutePut.f k l a b v r = some q ∧ q.1.length ≤ 8 := by
 unfold spec_RoutePut.f
 exact routePut_loop l hl a b v r l.length k 0 [] false (by omega) (by omega) (by simp) (by omega)

theorem drawRoutes_loop {b : List Int} (hb : Bytes b) (hl : b.length ≤ 2000) (m : Int) (hm0 : 0 ≤ m) (hm1 : m ≤ 65536) : ∀ (d k : Nat) (o : List S24) (p : Int), d ≤ 8 → o.length ≤ 8 → 0 ≤ p → p ≤ 100 + 9 * (8 - (d : Int)) → d + 62 ≤ k →
  ∃ L p', spec_l20Routes.l0 k m o (d : Int) b p = some (L, p') ∧ L.length ≤ 9 ∧ 0 ≤ p' ∧ p' ≤ 300 := by
 intro d
 induction d with
 | zero =>
  intro k o p hd ho hp hp2 hk
  obtain ⟨k, rfl⟩ : ∃ m, k = m + 1 := ⟨k - 1, by omega⟩
  obtain ⟨z, p2, e5, g5, g6, g7⟩ := odd_eq hb hl (p := p) (n := m) (by omega) (by omega) hm0 hm1 (k := k) (by omega)
  obtain ⟨a, n, v, r, p3, e, h1, h2⟩ := drawRoute_eq hb hl (p := p2) (m := 2) (by omega) (by omega) (by omega) (by omega) (k := k) (by omega)
  simp only [spec_l20Routes.l0]
  rw [if_neg (by omega)]
  simp only [e5, e, Option.bind_some]
  split
  ·rw [if_pos (by omega)]
   exact ⟨_, _, rfl, by rw [List.length_append]; simp only [List.length_cons, List.length_nil]; omega, by omega, by omega⟩
  ·exact ⟨_, _, rfl, by omega, by omega, by omega⟩
 | succ d ih =>
  intro k o p hd ho hp hp2 hk
  obtain ⟨k, rfl⟩ : ∃ m, k = m + 1 := ⟨k - 1, by omega⟩
  obtain ⟨a, n, v, r, p3, e, h1, h2⟩ := drawRoute_eq hb hl (p := p) (m := 0) (by omega) (by omega) (by omega) (by omega) (k := k) (by omega)
  obtain ⟨q, e2, h3⟩ := routePut_eq o (by omega) a n v r k (by omega)
  have e1 : wrap64 (((d + 1 : Nat) : Int) - 1) = (d : Int) := by rw [w64 (by omega) (by omega)]; omega
  simp only [spec_l20Routes.l0]
  rw [if_pos (by omega)]
  simp only [e, e2, e1, Option.bind_some]
  split
  ·exact ih k _ _ (by omega) h3 (by omega) (by omega) (by omega)
  ·exact ih k _ _ (by omega) ho (by omega) (by omega) (by omega)
theorem drawRoutes_eq {b : List Int} (hb : Bytes b) (hl : b.length ≤ 2000) {m p : Int} (hm0 : 0 ≤ m) (hm1 : m ≤ 65536) (hp : 0 ≤ p) (hp1 : p ≤ 90) (k : Nat) (hk : 70 ≤ k) :
  ∃ L p', spec_l20Routes.f k b p m = some (L, p') ∧ L.length ≤ 9 ∧ 0 ≤ p' ∧ p' ≤ 300 := by
 unfold spec_l20Routes.f
 rw [pick_eq hb hl (p := p) (n := 8) (by omega) (by omega) (by omega) (by omega) (by omega)]
 simp only [Option.bind_some]
 have r1 := pk_range hb hl (p := p) (n := 8) (by omega) (by omega) (by omega) (by omega)
 obtain ⟨d, hd⟩ : ∃ d : Nat, pk b p 8 = (d : Int) := ⟨(pk b p 8).toNat, by omega⟩
 rw [hd] at r1 ⊢
 exact drawRoutes_loop hb hl m hm0 hm1 d k [] (p + 1) (by omega) (by simp) (by omega) (by omega) (by omega)

theorem implRouteFits_eq (a b v r x : Int) : impl_RouteFits.f a b v r x = some (routeFits a b v r x) := by
 unfold impl_RouteFits.f routeFits impl_Route_fits.f
 simp only [implRouteOk_eq, word_eq, Option.bind_some]
 cases h : routeOk a b v r with
 | false => rfl
 | true =>
  obtain ⟨h1, h2⟩ := routeOk_bits h
  obtain ⟨e1, e2, e3, e4⟩ := rest_shl h1
  rw [if_pos e1, rest_shr h1, rest_shr h1]
  by_cases h3 : 0 ≤ x ∧ x ≤ 65535
  ·by_cases h4 : x / rest b = a / rest b <;> simp [h3, h4]
  ·simp [h3]

theorem implbytesOf_loop : ∀ (i k : Nat) (v : Int) (o : List Int), i < k → i ≤ o.length → o.length < 4611686018427387904 →
  impl_bytesOf.l0 k v o ((i : Int) - 1) = some (be i v ++ o.drop i)
 | 0, k, v, o, hk, hi, hl => by
  obtain ⟨k, rfl⟩ : ∃ m, k = m + 1 := ⟨k - 1, by omega⟩
  simp only [impl_bytesOf.l0]
  rw [if_neg (by omega)]; simp [be]
 | i + 1, k, v, o, hk, hi, hl => by
  obtain ⟨k, rfl⟩ : ∃ m, k = m + 1 := ⟨k - 1, by omega⟩
  have e1 : ((i + 1 : Nat) : Int) - 1 = (i : Int) := by omega
  have e2 : wrap64 ((i : Int) - 1) = (i : Int) - 1 := w64 (by omega) (by omega)
  have e3 : ((i : Int)).toNat = i := by omega
  rw [e1]
  simp only [impl_bytesOf.l0]
  rw [if_pos (by omega), if_pos (by omega), if_pos (by omega), e2, implbytesOf_loop i k _ _ (by omega) (by simp; omega) (by simpa using hl), e3, drop_rd _ i (by simp; omega), rd_set_eq _ _ _ (by omega), List.drop_set_of_lt (by omega)]
  simp [be]
theorem implbytesOf_eq (v n : Int) (h0 : 0 ≤ n) (h1 : n ≤ 1073741824) (k : Nat) (hk : n.toNat < k) : impl_bytesOf.f k v n = some (be n.toNat v) := by
 unfold impl_bytesOf.f
 rw [if_pos h0, if_pos (by omega), w64 (by omega) (by omega)]
 obtain ⟨n, rfl⟩ : ∃ m : Nat, n = m := ⟨n.toNat, by omega⟩
 rw [implbytesOf_loop n k v _ (by omega) (by simp) (by simp; omega)]
 simp

/-- A number as n bytes, n in 1..4; none for others. -/
def bytesV (v n : Int) : List Int := if (1 ≤ n ∧ n ≤ 4) ∧ 0 ≤ v ∧ v < 256 ^ n.toNat then be n.toNat v else []
theorem four {n : Int} (h : 1 ≤ n ∧ n ≤ 4) : n = 1 ∨ n = 2 ∨ n = 3 ∨ n = 4 := by omega
theorem lim_of (n : Int) (h : 1 ≤ n ∧ n ≤ 4) : wrap64 (shl .i64 1 (wrap64 (8 * n)) - 1) = 256 ^ n.toNat - 1 ∧ 0 ≤ wrap64 (8 * n) := by
 rcases four h with rfl | rfl | rfl | rfl <;> decide +kernel
theorem bytesV_length (v n : Int) : (bytesV v n).length ≤ 4 := by
 unfold bytesV; split
 ·rw [be_length]; omega
 ·simp
theorem bytesV_bytes (v n : Int) : Bytes (bytesV v n) := by
 unfold bytesV; split
 ·exact be_bytes _ _
 ·exact Bytes.nil

theorem implBytesOf_eq (v n : Int) (k : Nat) (hk : 6 ≤ k) : impl_BytesOf.f k v n = some (bytesV v n) := by
 unfold impl_BytesOf.f bytesV
 simp only [in_eq, Option.bind_some]
 by_cases h1 : 1 ≤ n ∧ n ≤ 4
 ·obtain ⟨e1, e2⟩ := lim_of n h1
  rw [if_pos (decide_eq_true h1), if_pos e2, e1]
  by_cases h2 : 0 ≤ v ∧ v ≤ 256 ^ n.toNat - 1
  ·rw [if_pos (decide_eq_true h2), implbytesOf_eq v n (by omega) (by omega) k (by omega), if_pos ⟨h1, h2.1, by omega⟩]; rfl
  ·rw [if_neg (by simpa using h2), if_neg (by omega)]
 ·rw [if_neg (by simpa using h1), if_neg (fun h => h1 h.1)]

theorem alive_eq (k : Nat) (hk : 6 ≤ k) : laws_alive.f k = some true := by
 unfold laws_alive.f
 simp only [implBytesOf_eq _ _ k hk, Option.bind_some]
 rfl

theorem bk_snd (l : List S24) : (bk l).map Prod.snd = l.reverse := by
 apply List.ext_getElem?
 intro k
 by_cases h : k < l.length
 ·rw [List.getElem?_map, bk_get l k h, List.getElem?_reverse h]
  show some (rd_T24 l ((l.length - 1 - k : Nat) : Int)) = _
  rw [rdT_nat l (l.length - 1 - k) (by omega), List.getElem?_eq_getElem (by omega)]
 ·rw [List.getElem?_eq_none (by rw [List.length_map, bk_len]; omega), List.getElem?_eq_none (by rw [List.length_reverse]; omega)]
theorem bk_find (l : List S24) (P : S24 → Bool) : ((bk l).find? (fun q => P q.2)).map Prod.snd = l.reverse.find? P := by
 rw [← bk_snd l, List.find?_map]; rfl
def fitsR (x : Int) (r : S24) : Bool := routeFits r.f0 r.f1 r.f2 r.f3 x
/-- What is told of a route, or of none. -/
def toldR : Option S24 → Int × Int × Int × Int × Bool
 | some r => (r.f0, r.f1, r.f2, r.f3, true)
 | none => (0, 0, 0, 0, false)
theorem routeTo_told {l : List S24} (h : routesOk l = true) (x : Int) : routeTo l x = toldR (l.reverse.find? (fitsR x)) := by
 have e : ((bk l).find? (fitsQ x)).map Prod.snd = l.reverse.find? (fitsR x) := bk_find l (fitsR x)
 unfold routeTo
 rw [if_pos h, ← e]
 cases (bk l).find? (fitsQ x) <;> rfl
theorem chain_of_pair : ∀ (p : Option S24) (l : List S24), (∀ q, p = some q → ∀ r ∈ l, ltR q r = true) → (∀ r ∈ l, rOk r = true) → l.Pairwise (fun r q => ltR r q = true) → rChain p l = true
 | _, [], _, _, _ => by unfold rChain; rfl
 | p, s :: l, hp, ho, hw => by
  obtain ⟨h1, h2⟩ := List.pairwise_cons.1 hw
  have h3 := chain_of_pair (some s) l (fun q hq r hr => by rw [← Option.some.inj hq]; exact h1 r hr) (fun r hr => ho r (List.mem_cons_of_mem _ hr)) h2
  cases p with
  | none => simp only [rChain, Bool.and_eq_true]; exact ⟨ho s List.mem_cons_self, h3⟩
  | some q => simp only [rChain, Bool.and_eq_true]; exact ⟨⟨ho s List.mem_cons_self, hp q rfl s List.mem_cons_self⟩, h3⟩
theorem put_routesOk {l : List S24} {r : S24} (ho : routesOk l = true) (hr : rOk r = true) (h8 : (putR l r).length ≤ 8) : routesOk (putR l r) = true := by
 have hp := ok_pair ho
 have ha := routesOk_all ho
 unfold routesOk
 rw [Bool.and_eq_true]
 refine ⟨chain_of_pair none _ (fun q hq => by cases hq) (fun y hy => ?_) ?_, decide_eq_true (by omega)⟩
 ·rcases List.mem_append.1 hy with hy | hy
  ·exact ha y (List.mem_filter.1 hy).1
  ·rcases List.mem_cons.1 hy with rfl | hy
   ·exact hr
   ·exact ha y (List.mem_filter.1 hy).1
 ·refine List.pairwise_append.2 ⟨hp.sublist List.filter_sublist, List.pairwise_cons.2 ⟨fun y hy => (List.mem_filter.1 hy).2, hp.sublist List.filter_sublist⟩, fun y hy z hz => ?_⟩
  have h1 := (List.mem_filter.1 hy).2
  rcases List.mem_cons.1 hz with rfl | hz
  ·exact h1
  ·exact ltR_trans h1 (List.mem_filter.1 hz).2
theorem split_put (r : S24) : ∀ l : List S24, l.Pairwise (fun x y => ltR x y = true) → ∃ mid, l = l.filter (fun x => ltR x r) ++ (mid ++ l.filter (fun x => ltR r x)) ∧ ∀ x ∈ mid, eqR x r = true
 | [], _ => ⟨[], rfl, fun x hx => by cases hx⟩
 | x :: l, h => by
  obtain ⟨hx, hl⟩ := List.pairwise_cons.1 h
  obtain ⟨mid, e, hm⟩ := split_put r l hl
  cases h1 : ltR x r with
  | true =>
   refine ⟨mid, ?_, hm⟩
   rw [List.filter_cons_of_pos (p := fun y => ltR y r) h1, List.filter_cons_of_neg (p := fun y => ltR r y) (by rw [ltR_asymm h1]; decide), List.cons_append, ← e]
  | false =>
   have e1 : (x :: l).filter (fun y => ltR y r) = [] := List.filter_eq_nil_iff.2 fun y hy => by
    rcases List.mem_cons.1 hy with rfl | hy
    ·rw [h1]; decide
    ·intro q
     rw [ltR_trans (hx y hy) q] at h1
     cases h1
   rw [e1]
   cases h2 : eqR x r with
   | true =>
    have h3 : ∀ y ∈ l, ltR r y = true := fun y hy => ltR_eq h2 (hx y hy)
    have h4 : ltR r x = false := by
     refine Bool.eq_false_iff.2 fun q => ?_
     rw [eqR_iff] at h2; rw [ltR_iff] at q
     omega
    refine ⟨[x], ?_, fun y hy => by rw [List.mem_singleton.1 hy]; exact h2⟩
    rw [List.filter_cons_of_neg (p := fun y => ltR r y) (by rw [h4]; decide), List.filter_eq_self.2 h3]
    rfl
   | false =>
    have h4 := ltR_else h1 h2
    have h3 : ∀ y ∈ l, ltR r y = true := fun y hy => ltR_trans h4 (hx y hy)
    refine ⟨[], ?_, fun y hy => by cases hy⟩
    rw [List.filter_cons_of_pos (p := fun y => ltR r y) h4, List.filter_eq_self.2 h3]
    rfl
theorem fits_like {s r : S24} (hs : rOk s = true) (hr : rOk r = true) (he : eqR s r = true) (x : Int) : fitsR x s = fitsR x r := by
 rw [eqR_iff] at he
 unfold fitsR routeFits
 rw [show routeOk s.f0 s.f1 s.f2 s.f3 = true from hs, show routeOk r.f0 r.f1 r.f2 r.f3 = true from hr, he.1, he.2]
theorem fits_same {s r : S24} {x : Int} (hs : fitsR x s = true) (hr : fitsR x r = true) (hb : r.f1 = s.f1) : r.f0 = s.f0 := by
 unfold fitsR routeFits at hs hr
 rw [Bool.and_eq_true] at hs hr
 have s1 := of_decide_eq_true hs.1
 have s2 := of_decide_eq_true hs.2
 have r1 := of_decide_eq_true hr.1
 have r2 := of_decide_eq_true hr.2
 rw [hb] at r1 r2
 obtain ⟨_, _, hR, _⟩ := rest_shl s1.1
 have e1 : r.f0 / rest s.f1 = s.f0 / rest s.f1 := r2.2.symm.trans s2.2
 have e2 := Int.mul_ediv_add_emod r.f0 (rest s.f1)
 have e3 := Int.mul_ediv_add_emod s.f0 (rest s.f1)
 rw [r1.2.2.1] at e2
 rw [s1.2.2.1] at e3
 rw [e1] at e2
 omega
/-- An address has the route that it had, or the one that was put, or a longer one that it had. -/
theorem put_told {l : List S24} {r : S24} (ho : routesOk l = true) (hr : rOk r = true) (h8 : (putR l r).length ≤ 8) (x : Int) :
  (fitsR x r = false → routeTo (putR l r) x = routeTo l x) ∧ (fitsR x r = true → ∃ t : S24, routeTo (putR l r) x = (t.f0, t.f1, t.f2, t.f3, true) ∧ (t = r ∨ routeTo l x = (t.f0, t.f1, t.f2, t.f3, true) ∧ r.f1 < t.f1)) := by
 obtain ⟨mid, e, hm⟩ := split_put r l (ok_pair ho)
 have ha := routesOk_all ho
 rw [routeTo_told ho, routeTo_told (put_routesOk ho hr h8)]
 have hmid : ∀ y ∈ mid, fitsR x y = fitsR x r := fun y hy => fits_like (ha y (by rw [e]; simp [hy])) hr (hm y hy) x
 have hhi : ∀ y ∈ l.filter (fun y => ltR r y), ltR r y = true := fun y hy => (List.mem_filter.1 hy).2
 have ep : putR l r = l.filter (fun x => ltR x r) ++ r :: l.filter (fun x => ltR r x) := rfl
 rw [ep]
 have el : l.reverse = (l.filter (fun x => ltR x r) ++ (mid ++ l.filter (fun x => ltR r x))).reverse := congrArg List.reverse e
 rw [el]
 generalize l.filter (fun x => ltR x r) = lo
 generalize l.filter (fun x => ltR r x) = hi at hhi
 rw [List.reverse_append, List.reverse_append, List.reverse_append, List.reverse_cons, List.append_assoc, List.append_assoc, List.find?_append, List.find?_append, List.find?_append, List.find?_append]
 refine ⟨fun h => ?_, fun h => ?_⟩
 ·rw [List.find?_eq_none.2 (show ∀ y ∈ [r], ¬ fitsR x y = true from fun y hy => by rw [List.mem_singleton.1 hy, h]; decide), List.find?_eq_none.2 (show ∀ y ∈ mid.reverse, ¬ fitsR x y = true from fun y hy => by rw [hmid y (List.mem_reverse.1 hy), h]; decide)]
 ·cases hf : hi.reverse.find? (fitsR x) with
  | some t =>
   refine ⟨t, rfl, .inr ⟨rfl, ?_⟩⟩
   have h1 := List.find?_some hf
   have h2 := (ltR_iff r t).1 (hhi t (List.mem_reverse.1 (List.mem_of_find?_eq_some hf)))
   rcases h2 with h2 | ⟨h2, h3⟩
   ·exact h2
   ·have := fits_same h1 h h2
    omega
  | none =>
   refine ⟨r, ?_, .inl rfl⟩
   rw [show [r].find? (fitsR x) = some r from List.find?_cons_of_pos h]
   rfl
theorem sameRoutes_loop (a : List S24) (hn : a.length < 4611686018427387904) : ∀ (d k i : Nat), a.length - i = d → i ≤ a.length → d < k → laws_sameRoutes.l0 k a a (i : Int) = some true
 | 0, k, i, hd, hi, hk => by
  obtain ⟨k, rfl⟩ : ∃ m, k = m + 1 := ⟨k - 1, by omega⟩
  simp only [laws_sameRoutes.l0]
  rw [if_neg (by omega)]
 | d + 1, k, i, hd, hi, hk => by
  obtain ⟨k, rfl⟩ : ∃ m, k = m + 1 := ⟨k - 1, by omega⟩
  have e2 : wrap64 ((i : Int) + 1) = ((i + 1 : Nat) : Int) := by rw [w64 (by omega) (by omega)]; rfl
  simp only [laws_sameRoutes.l0, beq_self_eq_true, Bool.not_true, Bool.or_self, Bool.false_eq_true, if_false]
  rw [if_pos (by omega), if_pos (by omega), if_pos (by omega), e2, sameRoutes_loop a hn d k (i + 1) (by omega) (by omega) (by omega)]
theorem sameRoutes_self (a : List S24) (hn : a.length < 4611686018427387904) (k : Nat) (hk : a.length < k) : laws_sameRoutes.f k a a = some true := by
 unfold laws_sameRoutes.f
 rw [if_pos rfl]
 exact sameRoutes_loop a hn a.length k 0 (by omega) (by omega) hk
theorem put_loop {l : List S24} {r : S24} (ho : routesOk l = true) (hr : rOk r = true) (h8 : (putR l r).length ≤ 8) (X : List Int) (hX : X.length ≤ 100) : ∀ (d k i : Nat), i + d = X.length → d + 20 ≤ k → laws_FnRoutePut.l0 k l (putR l r) X (X.length : Int) (i : Int) r.f0 r.f1 r.f2 r.f3 = some true := by
 have hl := putOk_len ho
 intro d
 induction d with
 | zero =>
  intro k i hi hk
  obtain ⟨k, rfl⟩ : ∃ m, k = m + 1 := ⟨k - 1, by omega⟩
  simp only [laws_FnRoutePut.l0]
  rw [if_neg (by omega), implRoutesOk_eq _ (by omega) k (by omega), put_routesOk ho hr h8]
  rfl
 | succ d ih =>
  intro k i hi hk
  obtain ⟨k, rfl⟩ : ∃ m, k = m + 1 := ⟨k - 1, by omega⟩
  have e1 : wrap64 ((i : Int) + 1) = ((i + 1 : Nat) : Int) := by rw [w64 (by omega) (by omega)]; rfl
  have hn := ih k (i + 1) (by omega) (by omega)
  simp only [laws_FnRoutePut.l0]
  rw [if_pos (by omega), if_pos (by omega), if_pos (by omega), e1, hn]
  generalize rd X (i : Int) = x
  obtain ⟨h1, h2⟩ := put_told ho hr h8 x
  rw [implRouteTo_eq l (by omega) x k (by omega), implRouteTo_eq (putR l r) (by omega) x k (by omega), implRouteFits_eq]
  simp only [Option.bind_some]
  have ef : routeFits r.f0 r.f1 r.f2 r.f3 x = fitsR x r := rfl
  rw [ef]
  cases hf : fitsR x r with
  | false =>
   rw [h1 hf]
   simp only [Bool.false_eq_true, if_false, bne_self_eq_false, beq_self_eq_true, Bool.not_true, Bool.or_self]
  | true =>
   obtain ⟨t, e, ht⟩ := h2 hf
   rw [e]
   rcases ht with rfl | ⟨ht, hb⟩
   ·simp only [beq_self_eq_true, Bool.not_true, Bool.or_self, Bool.false_eq_true, if_false, if_true]
   ·rw [ht]
    simp only [beq_self_eq_true, Bool.not_true, Bool.or_self, Bool.false_eq_true, if_false, if_true]
    rw [if_neg (show ¬ t.f1 ≤ r.f1 by omega)]
    split <;> rfl
theorem FnRoutePut : laws_FnRoutePut.Pure := by
 intro l hm hl hw
 refine ⟨100, ?_⟩
 obtain ⟨b, hb1, hb2, hb3⟩ := open_eq l (Bytes.of_wf hw)
 obtain ⟨L, p', e, hL, hp0, hp1⟩ := drawRoutes_eq hb2 hb3 (p := 0) (m := 15) (by omega) (by omega) (by omega) (by omega) 100 (by omega)
 obtain ⟨a, n, v, c, p2, e2, _⟩ := drawRoute_eq hb2 hb3 (p := p') (m := 12) (by omega) (by omega) (by omega) (by omega) (k := 100) (by omega)
 have i1 : impl_RoutePut.f 100 L a n v c = some (routePut L ⟨a, n, v, c⟩) := implRoutePut_eq L ⟨a, n, v, c⟩ (by omega) 100 (by omega)
 have s1 : spec_RoutePut.f 100 L a n v c = some (routePut L ⟨a, n, v, c⟩) := specRoutePut_eq L ⟨a, n, v, c⟩ (by omega) 100 (by omega)
 have hr := routePut_len L ⟨a, n, v, c⟩
 have q1 := sameRoutes_self (routePut L ⟨a, n, v, c⟩).1 (by omega) 100 (by omega)
 unfold laws_FnRoutePut.f
 by_cases h : (l.length : Int) > 1048576
 ·rw [if_pos h]
 rw [if_neg h]
 unfold spec_DrawRoutePut.f
 simp only [hb1, e, e2, Option.bind_some, i1, s1, q1, bne_self_eq_false, Bool.false_eq_true, if_false, Bool.not_true]
 simp only [laws_FnRoutePut.j0, Bool.false_eq_true, if_false]
 unfold routePut
 by_cases hg : routesOk L = true ∧ routeOk a n v c = true ∧ (putR L (⟨a, n, v, c⟩ : S24)).length ≤ 8
 ·rw [if_pos hg]
  simp only [if_true, laws_someAddrs.f, Option.bind_some]
  exact put_loop (r := (⟨a, n, v, c⟩ : S24)) hg.1 hg.2.1 hg.2.2 _ (by decide) 14 99 0 (by decide) (by omega)
 ·rw [if_neg hg]
  simp only [Bool.false_eq_true, if_false, List.length_nil, alive_eq 99 (by omega), Option.bind_some]
  rfl

end Go.Proofs.Ytpoedefohfonjaa.Pure

/- RouteFits is a range of addresses; the statement's own bounds alone. -/
import Derived.Test.YtpoedefohfonjaaPFnRouteFitsx5
import Derived.Test.YtpoedefohfonjaaBase
namespace Go.Proofs.Ytpoedefohfonjaa.Pure
set_option linter.unusedSimpArgs false
set_option linter.unusedVariables false
open Go Go.RowKit Go.Proofs.Ytpoedefohfonjaa.PFnRouteFits Go.Proofs.YtpoedefohfonjaaW.PrintWords Go.Proofs.YtpoedefohfonjaaW.PrintLast Go.Proofs.YtpoedefohfonjaaW.PrintMore Go.Proofs.Ytpoedefohfonjaa.Base

/-- What pick draws. -/
def pk (b : List Int) (p n : Int) : Int := ((spec_l20Rd_pick.f 1 b p n).getD (0, 0)).1
theorem pick_f (b : List Int) (hb : Bytes b) (hl : b.length ≤ 2000) (p n : Int) (h0 : 0 ≤ p) (h1 : p ≤ 1073741824) (h2 : -2147483648 ≤ n) (h3 : n ≤ 65536) (k : Nat) :
    ∃ v, spec_l20Rd_pick.f (k + 1) b p n = some (v, p + 1) ∧ 0 ≤ v ∧ (1 ≤ n → v < n) ∧ (n < 1 → v = 0) := by
  have ep : wrap64 (p + 1) = p + 1 := w64 (by omega) (by omega)
  have ep' : wrap64 (p + 1 - 1) = p := by rw [w64 (by omega) (by omega)]; omega
  unfold spec_l20Rd_pick.f
  rw [ep]
  simp only [spec_l20Rd_pick.j0, ep']
  by_cases hn : n < 1
  · rw [if_pos hn, if_pos trivial]
    exact ⟨0, rfl, by omega, fun h => by omega, fun _ => rfl⟩
  rw [if_neg hn]
  by_cases he : (b.length : Int) = 0
  · rw [if_pos (by simpa using he)]
    exact ⟨0, rfl, by omega, fun h => by omega, fun _ => rfl⟩
  rw [if_neg (by simpa using he)]
  by_cases hp : p < (b.length : Int)
  · rw [if_pos hp, if_pos h0, if_neg (by omega)]
    have hr := hb.at_ p
    rw [w64 (x := rd b p) (by omega) (by omega)]
    refine ⟨_, rfl, Int.tmod_nonneg _ hr.1, fun _ => ?_, fun h => by omega⟩
    rw [Int.tmod_eq_emod_of_nonneg hr.1]
    exact Int.emod_lt_of_pos _ (by omega)
  rw [if_neg hp]
  have m1 : 0 ≤ Int.tmod p (b.length : Int) ∧ Int.tmod p (b.length : Int) < (b.length : Int) := by
    rw [Int.tmod_eq_emod_of_nonneg h0]; exact ⟨Int.emod_nonneg _ he, Int.emod_lt_of_pos _ (by omega)⟩
  have e7 : wrap64 (wrap64 (p * 7) + 3) = p * 7 + 3 := by rw [w64 (x := p * 7) (by omega) (by omega), w64 (by omega) (by omega)]
  have m2 : 0 ≤ Int.tmod (p * 7 + 3) (b.length : Int) ∧ Int.tmod (p * 7 + 3) (b.length : Int) < (b.length : Int) := by
    rw [Int.tmod_eq_emod_of_nonneg (by omega)]; exact ⟨Int.emod_nonneg _ he, Int.emod_lt_of_pos _ (by omega)⟩
  rw [if_neg he, if_pos m1.1, if_pos m1.2, e7, if_pos m2.1, if_pos m2.2, if_neg (show ¬ n = 0 by omega)]
  have r1 := hb.at_ (Int.tmod p (b.length : Int))
  have r2 := hb.at_ (Int.tmod (p * 7 + 3) (b.length : Int))
  generalize rd b (Int.tmod p (b.length : Int)) = x1 at r1 ⊢
  generalize rd b (Int.tmod (p * 7 + 3) (b.length : Int)) = x2 at r2 ⊢
  have q0 : Int.tdiv p (b.length : Int) = p / (b.length : Int) := Int.tdiv_eq_ediv_of_nonneg h0
  have q1 : 0 ≤ p / (b.length : Int) := Int.ediv_nonneg h0 (by omega)
  have q2 : p / (b.length : Int) ≤ p := Int.ediv_le_self _ h0
  rw [q0]
  generalize p / (b.length : Int) = q at q1 q2 ⊢
  rw [w64 (x := x1) (by omega) (by omega), w64 (x := x2) (by omega) (by omega), w64 (x := x1 * 131) (by omega) (by omega), w64 (x := x2 * 1117) (by omega) (by omega), w64 (x := p * 29) (by omega) (by omega),
    w64 (x := q) (by omega) (by omega), w64 (x := q * 53) (by omega) (by omega), w64 (x := x1 * 131 + x2 * 1117) (by omega) (by omega), w64 (x := x1 * 131 + x2 * 1117 + p * 29) (by omega) (by omega), w64 (x := x1 * 131 + x2 * 1117 + p * 29 + q * 53) (by omega) (by omega)]
  obtain ⟨y, hy⟩ : ∃ y : Nat, x1 * 131 + x2 * 1117 + p * 29 + q * 53 = (y : Int) := ⟨(x1 * 131 + x2 * 1117 + p * 29 + q * 53).toNat, by omega⟩
  have hy2 : y < 1099511627776 := by omega
  rw [hy]
  have d0 : Int.tdiv (y : Int) 64 = ((y / 64 : Nat) : Int) := by rw [Int.tdiv_eq_ediv_of_nonneg (by omega)]; rfl
  have hz : y / 64 < 1099511627776 := by omega
  rw [d0, w64 (x := ((y / 64 : Nat) : Int)) (by omega) (by omega)]
  obtain ⟨ex, lx⟩ := xor_i64 y (y / 64) hy2 hz
  rw [ex]
  refine ⟨_, rfl, Int.tmod_nonneg _ (by omega), fun _ => ?_, fun h => by omega⟩
  rw [Int.tmod_eq_emod_of_nonneg (by omega)]
  exact Int.emod_lt_of_pos _ (by omega)
theorem pick_one (b : List Int) (p n : Int) (k : Nat) : spec_l20Rd_pick.f (k + 1) b p n = spec_l20Rd_pick.f 1 b p n := by
  unfold spec_l20Rd_pick.f
  simp only [spec_l20Rd_pick.j0]
theorem pick_eq {b : List Int} (hb : Bytes b) (hl : b.length ≤ 2000) {p n : Int} (h0 : 0 ≤ p) (h1 : p ≤ 1073741824) (h2 : -2147483648 ≤ n) (h3 : n ≤ 65536) {k : Nat} (hk : 1 ≤ k) : spec_l20Rd_pick.f k b p n = some (pk b p n, p + 1) := by
  obtain ⟨k, rfl⟩ : ∃ m, k = m + 1 := ⟨k - 1, by omega⟩
  rw [pick_one]
  obtain ⟨v, hv, _⟩ := pick_f b hb hl p n h0 h1 h2 h3 0
  unfold pk
  rw [hv]; rfl
theorem pk_range {b : List Int} (hb : Bytes b) (hl : b.length ≤ 2000) {p n : Int} (h0 : 0 ≤ p) (h1 : p ≤ 1073741824) (h2 : 1 ≤ n) (h3 : n ≤ 65536) : 0 ≤ pk b p n ∧ pk b p n < n := by
  obtain ⟨v, hv, g0, g1, _⟩ := pick_f b hb hl p n h0 h1 (by omega) h3 0
  unfold pk
  rw [hv]; exact ⟨g0, g1 h2⟩
/-- The bytes that are drawn from. -/
theorem open_eq (l : List Int) (hb : Bytes l) : ∃ b, spec_l20Open.f l = some (b, 0) ∧ Bytes b ∧ b.length ≤ 2000 := by
  unfold spec_l20Open.f
  by_cases h : (l.length : Int) > 2000
  · rw [if_pos h, if_pos (by omega)]
    exact ⟨_, rfl, hb.take _, by simp; omega⟩
  · rw [if_neg h]
    exact ⟨_, rfl, hb, by omega⟩

/-- odd tells just this. -/
theorem odd_eq {b : List Int} (hb : Bytes b) (hl : b.length ≤ 2000) {p n : Int} (h0 : 0 ≤ p) (h1 : p ≤ 1073741824) (h2 : 0 ≤ n) (h3 : n ≤ 65536) {k : Nat} (hk : 1 ≤ k) :
    ∃ o p', spec_l20Rd_odd.f k b p n = some (o, p') ∧ p ≤ p' ∧ p' ≤ p + 1 ∧ (n = 0 → o = false) := by
  unfold spec_l20Rd_odd.f
  by_cases h : n > 0
  · rw [if_pos h, pick_eq hb hl h0 h1 (by omega) h3 hk]
    exact ⟨_, _, rfl, by omega, by omega, fun h => by omega⟩
  · rw [if_neg h]
    exact ⟨_, _, rfl, by omega, by omega, fun _ => rfl⟩

theorem l1In_eq (a b c : Int) : spec_l1In.f a b c = some (decide (b ≤ a ∧ a ≤ c)) := by
  unfold spec_l1In.f
  by_cases h : a ≥ b <;> simp [h]

theorem in_eq (a b c : Int) : impl_in.f a b c = some (decide (b ≤ a ∧ a ≤ c)) := by
  unfold impl_in.f
  by_cases h : a ≥ b <;> simp [h]

theorem word_eq (a : Int) : impl_word.f a = some (decide (0 ≤ a ∧ a ≤ 65535)) := by
  unfold impl_word.f
  rw [in_eq]; rfl

/-- How many addresses have the same first bits. -/
def rest (b : Int) : Int := 2 ^ (16 - b).toNat
theorem rest_cases {b : Int} (h : 0 ≤ b ∧ b ≤ 16) : b = 0 ∨ b = 1 ∨ b = 2 ∨ b = 3 ∨ b = 4 ∨ b = 5 ∨ b = 6 ∨ b = 7 ∨ b = 8 ∨ b = 9 ∨ b = 10 ∨ b = 11 ∨ b = 12 ∨ b = 13 ∨ b = 14 ∨ b = 15 ∨ b = 16 := by omega
theorem rest_shl {b : Int} (h : 0 ≤ b ∧ b ≤ 16) : 0 ≤ wrap64 (16 - b) ∧ shl .i64 1 (wrap64 (16 - b)) = rest b ∧ 0 < rest b ∧ rest b ≤ 65536 := by
  rcases rest_cases h with rfl | rfl | rfl | rfl | rfl | rfl | rfl | rfl | rfl | rfl | rfl | rfl | rfl | rfl | rfl | rfl | rfl <;> decide +kernel
theorem rest_shr {b : Int} (h : 0 ≤ b ∧ b ≤ 16) (x : Int) : shr .i64 x (wrap64 (16 - b)) = x / rest b := by
  rw [w64 (by omega) (by omega)]
  unfold shr rest
  rw [Nat.min_eq_left (show (16 - b).toNat ≤ IntKind.i64.bits by simp [IntKind.bits]; omega)]
/-- A route is ok. -/
def routeOk (a b v r : Int) : Bool := decide ((0 ≤ b ∧ b ≤ 16) ∧ (0 ≤ a ∧ a ≤ 65535) ∧ a % rest b = 0 ∧ (0 ≤ v ∧ v ≤ 65535) ∧ (1 ≤ r ∧ r ≤ 48))
theorem specRouteOk_eq (a b v r : Int) : spec_RouteOk.f a b v r = some (routeOk a b v r) := by
  unfold spec_RouteOk.f routeOk spec_l6Rest.f
  simp only [l1In_eq, Option.bind_some]
  by_cases h1 : 0 ≤ b ∧ b ≤ 16
  · obtain ⟨e1, e2, e3, e4⟩ := rest_shl h1
    rw [if_pos e1, e2]
    by_cases h2 : 0 ≤ a ∧ a ≤ 65535
    · simp only [Option.bind_some, if_neg (show ¬ rest b = 0 by omega), Int.tmod_eq_emod_of_nonneg h2.1]
      by_cases h3 : a % rest b = 0 <;> by_cases h4 : 0 ≤ v ∧ v ≤ 65535 <;> simp [h1, h2, h3, h4]
    · simp [h1, h2]
  · simp [h1]
theorem implRouteOk_eq (a b v r : Int) : impl_RouteOk.f a b v r = some (routeOk a b v r) := by
  unfold impl_RouteOk.f routeOk
  simp only [in_eq, word_eq, Option.bind_some]
  by_cases h1 : 0 ≤ b ∧ b ≤ 16
  · obtain ⟨e1, e2, e3, e4⟩ := rest_shl h1
    rw [if_pos e1, e2]
    by_cases h2 : 0 ≤ a ∧ a ≤ 65535
    · simp only [if_neg (show ¬ rest b = 0 by omega), Int.tmod_eq_emod_of_nonneg h2.1]
      by_cases h3 : a % rest b = 0 <;> by_cases h4 : 0 ≤ v ∧ v ≤ 65535 <;> simp [h1, h2, h3, h4]
    · simp [h1, h2]
  · simp [h1]
theorem routeOk_bits {a b v r : Int} (h : routeOk a b v r = true) : (0 ≤ b ∧ b ≤ 16) ∧ (0 ≤ a ∧ a ≤ 65535) := by
  have := of_decide_eq_true h
  exact ⟨this.1, this.2.1⟩

theorem rd_bits {i v : Int} (h : 0 ≤ i ∧ i < 7) (hv : 0 ≤ v ∧ v < 17) : 0 ≤ rd [0, 4, 8, 8, 12, 16, v] i ∧ rd [0, 4, 8, 8, 12, 16, v] i ≤ 16 := by
  rcases (by omega : i = 0 ∨ i = 1 ∨ i = 2 ∨ i = 3 ∨ i = 4 ∨ i = 5 ∨ i = 6) with rfl | rfl | rfl | rfl | rfl | rfl | rfl
  · show 0 ≤ (0 : Int) ∧ (0 : Int) ≤ 16
    decide
  · show 0 ≤ (4 : Int) ∧ (4 : Int) ≤ 16
    decide
  · show 0 ≤ (8 : Int) ∧ (8 : Int) ≤ 16
    decide
  · show 0 ≤ (8 : Int) ∧ (8 : Int) ≤ 16
    decide
  · show 0 ≤ (12 : Int) ∧ (12 : Int) ≤ 16
    decide
  · show 0 ≤ (16 : Int) ∧ (16 : Int) ≤ 16
    decide
  · show 0 ≤ v ∧ v ≤ 16
    omega
theorem drawRoute_eq {b : List Int} (hb : Bytes b) (hl : b.length ≤ 2000) {p m : Int} (h0 : 0 ≤ p) (h1 : p ≤ 268435456) (hm0 : 0 ≤ m) (hm1 : m ≤ 65536) {k : Nat} (hk : 1 ≤ k) :
    ∃ a n v r p', spec_l20Route.f k b p m = some (a, n, v, r, p') ∧ p ≤ p' ∧ p' ≤ p + 9 := by
  obtain ⟨k, rfl⟩ : ∃ m, k = m + 1 := ⟨k - 1, by omega⟩
  unfold spec_l20Route.f
  rw [pick_eq hb hl h0 (by omega) (by omega) (by omega) hk]
  simp only [Option.bind_some]
  rw [pick_eq hb hl (p := p + 1) (n := 7) (by omega) (by omega) (by omega) (by omega) hk]
  simp only [Option.bind_some]
  have r1 := pk_range hb hl (p := p) (n := 17) (by omega) (by omega) (by omega) (by omega)
  have r2 := pk_range hb hl (p := p + 1) (n := 7) (by omega) (by omega) (by omega) (by omega)
  rw [if_pos r2.1, if_pos (by simp only [List.length_cons, List.length_nil]; omega)]
  rw [pick_eq hb hl (p := p + 1 + 1) (n := 512) (by omega) (by omega) (by omega) (by omega) hk]
  simp only [Option.bind_some]
  rw [pick_eq hb hl (p := p + 1 + 1 + 1) (n := 6) (by omega) (by omega) (by omega) (by omega) hk]
  simp only [Option.bind_some]
  have r3 := pk_range hb hl (p := p + 1 + 1 + 1) (n := 6) (by omega) (by omega) (by omega) (by omega)
  rw [if_pos r3.1, if_pos (by simp only [List.length_cons, List.length_nil]; omega)]
  obtain ⟨e1, e2, e3, e4⟩ := rest_shl (rd_bits r2 r1)
  generalize rd [0, 4, 8, 8, 12, 16, pk b p 17] (pk b (p + 1) 7) = bits at e1 e2 e3 e4 ⊢
  generalize rd [0, 4096, 4352, 4353, wrap64 (4096 + pk b (p + 1 + 1) 512), 65535] (pk b (p + 1 + 1 + 1) 6) = adr
  rw [if_pos e1, if_neg (show ¬ shl .i64 1 (wrap64 (16 - bits)) = 0 by rw [e2]; omega)]
  rw [pick_eq hb hl (p := p + 1 + 1 + 1 + 1) (n := 3) (by omega) (by omega) (by omega) (by omega) hk]
  simp only [Option.bind_some]
  rw [pick_eq hb hl (p := p + 1 + 1 + 1 + 1 + 1) (n := 3) (by omega) (by omega) (by omega) (by omega) hk]
  simp only [Option.bind_some]
  obtain ⟨o, p2, e5, g5, g6, g7⟩ := odd_eq hb hl (p := p + 1 + 1 + 1 + 1 + 1 + 1) (n := m) (by omega) (by omega) hm0 hm1 hk
  simp only [e5, Option.bind_some]
  cases o with
  | false =>
    rw [if_neg (by decide)]
    exact ⟨_, _, _, _, _, rfl, by omega, by omega⟩
  | true =>
    simp only [if_true]
    rw [pick_eq hb hl (p := p2) (n := 3) (by omega) (by omega) (by omega) (by omega) hk]
    simp only [Option.bind_some]
    rw [pick_eq hb hl (p := p2 + 1) (n := 2) (by omega) (by omega) (by omega) (by omega) hk]
    simp only [Option.bind_some]
    split
    · exact ⟨_, _, _, _, _, rfl, by omega, by omega⟩
    · split
      · exact ⟨_, _, _, _, _, rfl, by omega, by omega⟩
      · exact ⟨_, _, _, _, _, rfl, by omega, by omega⟩

theorem drawAddr_eq {b : List Int} (hb : Bytes b) (hl : b.length ≤ 2000) {p : Int} (h0 : 0 ≤ p) (h1 : p ≤ 268435456) {k : Nat} (hk : 1 ≤ k) :
    ∃ x p', spec_l20Addr.f k b p = some (x, p') ∧ p ≤ p' ∧ p' ≤ p + 5 := by
  unfold spec_l20Addr.f
  rw [pick_eq hb hl h0 (by omega) (by omega) (by omega) hk]
  simp only [Option.bind_some]
  rw [pick_eq hb hl (p := p + 1) (n := 256) (by omega) (by omega) (by omega) (by omega) hk]
  simp only [Option.bind_some]
  rw [pick_eq hb hl (p := p + 1 + 1) (n := 256) (by omega) (by omega) (by omega) (by omega) hk]
  simp only [Option.bind_some]
  rw [pick_eq hb hl (p := p + 1 + 1 + 1) (n := 2) (by omega) (by omega) (by omega) (by omega) hk]
  simp only [Option.bind_some]
  rw [pick_eq hb hl (p := p + 1 + 1 + 1 + 1) (n := 8) (by omega) (by omega) (by omega) (by omega) hk]
  simp only [Option.bind_some]
  have r3 := pk_range hb hl (p := p + 1 + 1 + 1 + 1) (n := 8) (by omega) (by omega) (by omega) (by omega)
  rw [if_pos r3.1, if_pos (by simp only [List.length_cons, List.length_nil]; omega)]
  exact ⟨_, _, rfl, by omega, by omega⟩

/-- A route is for an address. -/
def routeFits (a b v r x : Int) : Bool := routeOk a b v r && decide ((0 ≤ x ∧ x ≤ 65535) ∧ x / rest b = a / rest b)

theorem implRouteFits_eq (a b v r x : Int) : impl_RouteFits.f a b v r x = some (routeFits a b v r x) := by
  unfold impl_RouteFits.f routeFits impl_Route_fits.f
  simp only [implRouteOk_eq, word_eq, Option.bind_some]
  cases h : routeOk a b v r with
  | false => rfl
  | true =>
    obtain ⟨h1, h2⟩ := routeOk_bits h
    obtain ⟨e1, e2, e3, e4⟩ := rest_shl h1
    rw [if_pos e1, rest_shr h1, rest_shr h1]
    by_cases h3 : 0 ≤ x ∧ x ≤ 65535
    · by_cases h4 : x / rest b = a / rest b <;> simp [h3, h4]
    · simp [h3]

theorem specRouteFits_eq (a b v r x : Int) : spec_RouteFits.f a b v r x = some (routeFits a b v r x) := by
  unfold spec_RouteFits.f routeFits
  simp only [specRouteOk_eq, l1In_eq, Option.bind_some]
  cases h : routeOk a b v r with
  | false => rfl
  | true =>
    obtain ⟨h1, h2⟩ := routeOk_bits h
    obtain ⟨e1, e2, e3, e4⟩ := rest_shl h1
    by_cases h3 : 0 ≤ x ∧ x ≤ 65535
    · unfold spec_l6Rest.f
      have l1 : x / rest b ≤ x := Int.ediv_le_self _ h3.1
      have l2 : a / rest b ≤ a := Int.ediv_le_self _ h2.1
      have g1 : 0 ≤ x / rest b := Int.ediv_nonneg h3.1 (by omega)
      have g2 : 0 ≤ a / rest b := Int.ediv_nonneg h2.1 (by omega)
      rw [if_pos e1, e2]
      simp only [Option.bind_some, if_neg (show ¬ rest b = 0 by omega), Int.tdiv_eq_ediv_of_nonneg h3.1, Int.tdiv_eq_ediv_of_nonneg h2.1]
      rw [w64 (by omega) (by omega), w64 (by omega) (by omega)]
      by_cases h4 : x / rest b = a / rest b <;> simp [h3, h4]
    · simp [h3]


theorem implbytesOf_loop : ∀ (i k : Nat) (v : Int) (o : List Int), i < k → i ≤ o.length → o.length < 4611686018427387904 →
    impl_bytesOf.l0 k v o ((i : Int) - 1) = some (be i v ++ o.drop i)
  | 0, k, v, o, hk, hi, hl => by
    obtain ⟨k, rfl⟩ : ∃ m, k = m + 1 := ⟨k - 1, by omega⟩
    simp only [impl_bytesOf.l0]
    rw [if_neg (by omega)]; simp [be]
  | i + 1, k, v, o, hk, hi, hl => by
    obtain ⟨k, rfl⟩ : ∃ m, k = m + 1 := ⟨k - 1, by omega⟩
    have e1 : ((i + 1 : Nat) : Int) - 1 = (i : Int) := by omega
    have e2 : wrap64 ((i : Int) - 1) = (i : Int) - 1 := w64 (by omega) (by omega)
    have e3 : ((i : Int)).toNat = i := by omega
    rw [e1]
    simp only [impl_bytesOf.l0]
    rw [if_pos (by omega), if_pos (by omega), if_pos (by omega), e2, implbytesOf_loop i k _ _ (by omega) (by simp; omega) (by simpa using hl), e3, drop_rd _ i (by simp; omega), rd_set_eq _ _ _ (by omega), List.drop_set_of_lt (by omega)]
    simp [be]
theorem implbytesOf_eq (v n : Int) (h0 : 0 ≤ n) (h1 : n ≤ 1073741824) (k : Nat) (hk : n.toNat < k) : impl_bytesOf.f k v n = some (be n.toNat v) := by
  unfold impl_bytesOf.f
  rw [if_pos h0, if_pos (by omega), w64 (by omega) (by omega)]
  obtain ⟨n, rfl⟩ : ∃ m : Nat, n = m := ⟨n.toNat, by omega⟩
  rw [implbytesOf_loop n k v _ (by omega) (by simp) (by simp; omega)]
  simp

/-- A number as n bytes, n in 1..4; none for others. -/
def bytesV (v n : Int) : List Int := if (1 ≤ n ∧ n ≤ 4) ∧ 0 ≤ v ∧ v < 256 ^ n.toNat then be n.toNat v else []
theorem four {n : Int} (h : 1 ≤ n ∧ n ≤ 4) : n = 1 ∨ n = 2 ∨ n = 3 ∨ n = 4 := by omega
theorem lim_of (n : Int) (h : 1 ≤ n ∧ n ≤ 4) : wrap64 (shl .i64 1 (wrap64 (8 * n)) - 1) = 256 ^ n.toNat - 1 ∧ 0 ≤ wrap64 (8 * n) := by
  rcases four h with rfl | rfl | rfl | rfl <;> decide +kernel
theorem bytesV_length (v n : Int) : (bytesV v n).length ≤ 4 := by
  unfold bytesV; split
  · rw [be_length]; omega
  · simp
theorem bytesV_bytes (v n : Int) : Bytes (bytesV v n) := by
  unfold bytesV; split
  · exact be_bytes _ _
  · exact Bytes.nil

theorem implBytesOf_eq (v n : Int) (k : Nat) (hk : 6 ≤ k) : impl_BytesOf.f k v n = some (bytesV v n) := by
  unfold impl_BytesOf.f bytesV
  simp only [in_eq, Option.bind_some]
  by_cases h1 : 1 ≤ n ∧ n ≤ 4
  · obtain ⟨e1, e2⟩ := lim_of n h1
    rw [if_pos (decide_eq_true h1), if_pos e2, e1]
    by_cases h2 : 0 ≤ v ∧ v ≤ 256 ^ n.toNat - 1
    · rw [if_pos (decide_eq_true h2), implbytesOf_eq v n (by omega) (by omega) k (by omega), if_pos ⟨h1, h2.1, by omega⟩]; rfl
    · rw [if_neg (by simpa using h2), if_neg (by omega)]
  · rw [if_neg (by simpa using h1), if_neg (fun h => h1 h.1)]

theorem alive_eq (k : Nat) (hk : 6 ≤ k) : laws_alive.f k = some true := by
  unfold laws_alive.f
  simp only [implBytesOf_eq _ _ k hk, Option.bind_some]
  rfl

theorem rest_vals {b : Int} (h : 0 ≤ b ∧ b ≤ 16) : rest b = 65536 ∨ rest b = 32768 ∨ rest b = 16384 ∨ rest b = 8192 ∨ rest b = 4096 ∨ rest b = 2048 ∨ rest b = 1024 ∨ rest b = 512 ∨ rest b = 256 ∨ rest b = 128 ∨ rest b = 64 ∨ rest b = 32 ∨ rest b = 16 ∨ rest b = 8 ∨ rest b = 4 ∨ rest b = 2 ∨ rest b = 1 := by
  rcases rest_cases h with rfl | rfl | rfl | rfl | rfl | rfl | rfl | rfl | rfl | rfl | rfl | rfl | rfl | rfl | rfl | rfl | rfl <;> decide +kernel
theorem fits_range {b a x : Int} (h : 0 ≤ b ∧ b ≤ 16) (ha : 0 ≤ a ∧ a ≤ 65535) (hm : a % rest b = 0) : ((0 ≤ x ∧ x ≤ 65535) ∧ x / rest b = a / rest b) ↔ (a ≤ x ∧ x < a + rest b) := by
  have e := rest_vals h
  generalize rest b = R at e hm ⊢
  rcases e with rfl | rfl | rfl | rfl | rfl | rfl | rfl | rfl | rfl | rfl | rfl | rfl | rfl | rfl | rfl | rfl | rfl <;> omega
theorem two_le {j : Nat} (h : j ≤ 16) : 0 ≤ (2 : Int) ^ j ∧ (2 : Int) ^ j ≤ 65536 := by
  rcases (by omega : j = 0 ∨ j = 1 ∨ j = 2 ∨ j = 3 ∨ j = 4 ∨ j = 5 ∨ j = 6 ∨ j = 7 ∨ j = 8 ∨ j = 9 ∨ j = 10 ∨ j = 11 ∨ j = 12 ∨ j = 13 ∨ j = 14 ∨ j = 15 ∨ j = 16) with rfl | rfl | rfl | rfl | rfl | rfl | rfl | rfl | rfl | rfl | rfl | rfl | rfl | rfl | rfl | rfl | rfl <;> decide +kernel
theorem many_loop (x : Int) (t : Bool) (a b v r : Int) (n : Nat) (hn : n ≤ 16) (h : (if x ≥ a then (t == decide (x < wrap64 (a + 2 ^ n))) else (t == false)) = true) :
    ∀ (d j k : Nat), j + d = n → d + 8 ≤ k → laws_FnRouteFits.l0 k x t (2 ^ j) (16 - (d : Int)) a b v r = some true := by
  intro d
  induction d with
  | zero =>
    intro j k hj hk
    obtain ⟨k, rfl⟩ : ∃ m, k = m + 1 := ⟨k - 1, by omega⟩
    have e : j = n := by omega
    subst e
    simp only [laws_FnRouteFits.l0]
    rw [if_neg (by omega)]
    simp only [alive_eq k (by omega), Option.bind_some]
    by_cases hx : x ≥ a
    · rw [if_pos hx] at h ⊢; rw [if_pos h]
    · rw [if_neg hx] at h ⊢; rw [if_pos h]
  | succ d ih =>
    intro j k hj hk
    obtain ⟨k, rfl⟩ : ∃ m, k = m + 1 := ⟨k - 1, by omega⟩
    have e1 := two_le (j := j) (by omega)
    simp only [laws_FnRouteFits.l0]
    rw [if_pos (by omega), w64 (x := 2 ^ j * 2) (by omega) (by omega), w64 (x := 16 - ((d + 1 : Nat) : Int) + 1) (by omega) (by omega), ← Int.pow_succ, show (16 : Int) - ((d + 1 : Nat) : Int) + 1 = 16 - (d : Int) by omega]
    exact ih (j + 1) k (by omega) (by omega)
theorem FnRouteFits : laws_FnRouteFits.Pure := by
  intro l hm hl hw
  refine ⟨40, ?_⟩
  obtain ⟨b, hb1, hb2, hb3⟩ := open_eq l (Bytes.of_wf hw)
  obtain ⟨a, n, v, r, p', e, g1, g2⟩ := drawRoute_eq hb2 hb3 (p := 0) (m := 12) (by omega) (by omega) (by omega) (by omega) (k := 40) (by omega)
  obtain ⟨x, p2, e2, _⟩ := drawAddr_eq hb2 hb3 (p := p') (by omega) (by omega) (k := 40) (by omega)
  unfold laws_FnRouteFits.f
  by_cases h : (l.length : Int) > 1048576
  · rw [if_pos h]
  rw [if_neg h]
  unfold spec_DrawRouteFits.f
  simp only [hb1, e, e2, Option.bind_some, implRouteOk_eq, implRouteFits_eq, specRouteFits_eq, bne_self_eq_false, Bool.false_eq_true, if_false]
  cases hr : routeOk a n v r with
  | false =>
    rw [if_neg (by decide), if_neg (by unfold routeFits; rw [hr, Bool.false_and]; decide)]
    simp only [alive_eq 40 (by omega), Option.bind_some]
  | true =>
    rw [if_pos rfl]
    have hq := of_decide_eq_true hr
    have ef := fits_range (x := x) hq.1 hq.2.1 hq.2.2.1
    have er := rest_shl hq.1
    have hn : n = 16 - (((16 - n).toNat : Nat) : Int) := by omega
    have hmain := many_loop x (routeFits a n v r x) a n v r (16 - n).toNat (by omega) (by
      show (if x ≥ a then (routeFits a n v r x == decide (x < wrap64 (a + rest n))) else (routeFits a n v r x == false)) = true
      rw [w64 (by omega) (by omega)]
      unfold routeFits
      rw [hr, Bool.true_and]
      by_cases hx : x ≥ a
      · rw [if_pos hx]
        by_cases hy : x < a + rest n
        · rw [decide_eq_true (ef.2 ⟨hx, hy⟩), decide_eq_true hy]; rfl
        · rw [decide_eq_false (fun hc => hy (ef.1 hc).2), decide_eq_false hy]; rfl
      · rw [if_neg hx, decide_eq_false (fun hc => hx (ef.1 hc).1)]; rfl) (16 - n).toNat 0 40 (by omega) (by omega)
    rw [← hn] at hmain
    exact hmain

end Go.Proofs.Ytpoedefohfonjaa.Pure

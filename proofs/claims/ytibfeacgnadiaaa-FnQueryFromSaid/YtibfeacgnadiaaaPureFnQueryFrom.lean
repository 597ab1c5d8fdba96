/- QueryFrom: what is read was asked; the statement's own bounds alone. -/
import Derived.Test.YtibfeacgnadiaaaPFnQueryFromx8
import Derived.Test.YtibfeacgnadiaaaBase
namespace Go.Proofs.Ytibfeacgnadiaaa.Pure
set_option linter.unusedSimpArgs false
set_option linter.unusedVariables false
open Go Go.RowKit Go.Proofs.Ytibfeacgnadiaaa.PFnQueryFrom Go.Proofs.YtibfeacgnadiaaaW.PrintWords Go.Proofs.YtibfeacgnadiaaaW.PrintLast Go.Proofs.YtibfeacgnadiaaaW.PrintMore Go.Proofs.Ytibfeacgnadiaaa.Base

/-- What pick draws. -/
def pk (b : List Int) (p n : Int) : Int := ((spec_l20Rd_pick.f 1 b p n).getD (0, 0)).1
theorem pick_f (b : List Int) (hb : Bytes b) (hl : b.length ≤ 2000) (p n : Int) (h0 : 0 ≤ p) (h1 : p ≤ 1073741824) (h2 : -2147483648 ≤ n) (h3 : n ≤ 65536) (k : Nat) :
    ∃ v, spec_l20Rd_pick.f (k + 1) b p n = some (v, p + 1) ∧ 0 ≤ v ∧ (1 ≤ n → v < n) ∧ (n < 1 → v = 0) := by
  have ep : wrap64 (p + 1) = p + 1 := w64 (by omega) (by omega)
  have ep' : wrap64 (p + 1 - 1) = p := by rw [w64 (by omega) (by omega)]; omega
  unfold spec_l20Rd_pick.f
  rw [ep]
  simp only [spec_l20Rd_pick.j0, ep']
  by_cases hn : n < 1
  · rw [if_pos hn, if_pos trivial]
    exact ⟨0, rfl, by omega, fun h => by omega, fun _ => rfl⟩
  rw [if_neg hn]
  by_cases he : (b.length : Int) = 0
  · rw [if_pos (by simpa using he)]
    exact ⟨0, rfl, by omega, fun h => by omega, fun _ => rfl⟩
  rw [if_neg (by simpa using he)]
  by_cases hp : p < (b.length : Int)
  · rw [if_pos hp, if_pos h0, if_neg (by omega)]
    have hr := hb.at_ p
    rw [w64 (x := rd b p) (by omega) (by omega)]
    refine ⟨_, rfl, Int.tmod_nonneg _ hr.1, fun _ => ?_, fun h => by omega⟩
    rw [Int.tmod_eq_emod_of_nonneg hr.1]
    exact Int.emod_lt_of_pos _ (by omega)
  rw [if_neg hp]
  have m1 : 0 ≤ Int.tmod p (b.length : Int) ∧ Int.tmod p (b.length : Int) < (b.length : Int) := by
    rw [Int.tmod_eq_emod_of_nonneg h0]; exact ⟨Int.emod_nonneg _ he, Int.emod_lt_of_pos _ (by omega)⟩
  have e7 : wrap64 (wrap64 (p * 7) + 3) = p * 7 + 3 := by rw [w64 (x := p * 7) (by omega) (by omega), w64 (by omega) (by omega)]
  have m2 : 0 ≤ Int.tmod (p * 7 + 3) (b.length : Int) ∧ Int.tmod (p * 7 + 3) (b.length : Int) < (b.length : Int) := by
    rw [Int.tmod_eq_emod_of_nonneg (by omega)]; exact ⟨Int.emod_nonneg _ he, Int.emod_lt_of_pos _ (by omega)⟩
  rw [if_neg he, if_pos m1.1, if_pos m1.2, e7, if_pos m2.1, if_pos m2.2, if_neg (show ¬ n = 0 by omega)]
  have r1 := hb.at_ (Int.tmod p (b.length : Int))
  have r2 := hb.at_ (Int.tmod (p * 7 + 3) (b.length : Int))
  generalize rd b (Int.tmod p (b.length : Int)) = x1 at r1 ⊢
  generalize rd b (Int.tmod (p * 7 + 3) (b.length : Int)) = x2 at r2 ⊢
  have q0 : Int.tdiv p (b.length : Int) = p / (b.length : Int) := Int.tdiv_eq_ediv_of_nonneg h0
  have q1 : 0 ≤ p / (b.length : Int) := Int.ediv_nonneg h0 (by omega)
  have q2 : p / (b.length : Int) ≤ p := Int.ediv_le_self _ h0
  rw [q0]
  generalize p / (b.length : Int) = q at q1 q2 ⊢
  rw [w64 (x := x1) (by omega) (by omega), w64 (x := x2) (by omega) (by omega), w64 (x := x1 * 131) (by omega) (by omega), w64 (x := x2 * 1117) (by omega) (by omega), w64 (x := p * 29) (by omega) (by omega),
    w64 (x := q) (by omega) (by omega), w64 (x := q * 53) (by omega) (by omega), w64 (x := x1 * 131 + x2 * 1117) (by omega) (by omega), w64 (x := x1 * 131 + x2 * 1117 + p * 29) (by omega) (by omega), w64 (x := x1 * 131 + x2 * 1117 + p * 29 + q * 53) (by omega) (by omega)]
  obtain ⟨y, hy⟩ : ∃ y : Nat, x1 * 131 + x2 * 1117 + p * 29 + q * 53 = (y : Int) := ⟨(x1 * 131 + x2 * 1117 + p * 29 + q * 53).toNat, by omega⟩
  have hy2 : y < 1099511627776 := by omega
  rw [hy]
  have d0 : Int.tdiv (y : Int) 64 = ((y / 64 : Nat) : Int) := by rw [Int.tdiv_eq_ediv_of_nonneg (by omega)]; rfl
  have hz : y / 64 < 1099511627776 := by omega
  rw [d0, w64 (x := ((y / 64 : Nat) : Int)) (by omega) (by omega)]
  obtain ⟨ex, lx⟩ := xor_i64 y (y / 64) hy2 hz
  rw [ex]
  refine ⟨_, rfl, Int.tmod_nonneg _ (by omega), fun _ => ?_, fun h => by omega⟩
  rw [Int.tmod_eq_emod_of_nonneg (by omega)]
  exact Int.emod_lt_of_pos _ (by omega)
theorem pick_one (b : List Int) (p n : Int) (k : Nat) : spec_l20Rd_pick.f (k + 1) b p n = spec_l20Rd_pick.f 1 b p n := by
  unfold spec_l20Rd_pick.f
  simp only [spec_l20Rd_pick.j0]
theorem pick_eq {b : List Int} (hb : Bytes b) (hl : b.length ≤ 2000) {p n : Int} (h0 : 0 ≤ p) (h1 : p ≤ 1073741824) (h2 : -2147483648 ≤ n) (h3 : n ≤ 65536) {k : Nat} (hk : 1 ≤ k) : spec_l20Rd_pick.f k b p n = some (pk b p n, p + 1) := by
  obtain ⟨k, rfl⟩ : ∃ m, k = m + 1 := ⟨k - 1, by omega⟩
  rw [pick_one]
  obtain ⟨v, hv, _⟩ := pick_f b hb hl p n h0 h1 h2 h3 0
  unfold pk
  rw [hv]; rfl
theorem pk_range {b : List Int} (hb : Bytes b) (hl : b.length ≤ 2000) {p n : Int} (h0 : 0 ≤ p) (h1 : p ≤ 1073741824) (h2 : 1 ≤ n) (h3 : n ≤ 65536) : 0 ≤ pk b p n ∧ pk b p n < n := by
  obtain ⟨v, hv, g0, g1, _⟩ := pick_f b hb hl p n h0 h1 (by omega) h3 0
  unfold pk
  rw [hv]; exact ⟨g0, g1 h2⟩
/-- The bytes that are drawn from. -/
theorem open_eq (l : List Int) (hb : Bytes l) : ∃ b, spec_l20Open.f l = some (b, 0) ∧ Bytes b ∧ b.length ≤ 2000 := by
  unfold spec_l20Open.f
  by_cases h : (l.length : Int) > 2000
  · rw [if_pos h, if_pos (by omega)]
    exact ⟨_, rfl, hb.take _, by simp; omega⟩
  · rw [if_neg h]
    exact ⟨_, rfl, hb, by omega⟩

/-- odd tells just this. -/
theorem odd_eq {b : List Int} (hb : Bytes b) (hl : b.length ≤ 2000) {p n : Int} (h0 : 0 ≤ p) (h1 : p ≤ 1073741824) (h2 : 0 ≤ n) (h3 : n ≤ 65536) {k : Nat} (hk : 1 ≤ k) :
    ∃ o p', spec_l20Rd_odd.f k b p n = some (o, p') ∧ p ≤ p' ∧ p' ≤ p + 1 ∧ (n = 0 → o = false) := by
  unfold spec_l20Rd_odd.f
  by_cases h : n > 0
  · rw [if_pos h, pick_eq hb hl h0 h1 (by omega) h3 hk]
    exact ⟨_, _, rfl, by omega, by omega, fun h => by omega⟩
  · rw [if_neg h]
    exact ⟨_, _, rfl, by omega, by omega, fun _ => rfl⟩

theorem drawQuery_eq {b : List Int} (hb : Bytes b) (hl : b.length ≤ 2000) {p m : Int} (h0 : 0 ≤ p) (h1 : p ≤ 268435456) (hm0 : 0 ≤ m) (hm1 : m ≤ 65536) {k : Nat} (hk : 1 ≤ k) :
    ∃ n l a w p', spec_l20Query.f k b p m = some (n, l, a, w, p') ∧ p ≤ p' ∧ p' ≤ p + 7 ∧ (0 ≤ n ∧ n ≤ 4) ∧ (0 ≤ l ∧ l ≤ 255) ∧ (-5000 ≤ a ∧ a ≤ 65536) ∧ (0 ≤ w ∧ w ≤ 5) ∧
      (m = 0 → (1 ≤ n ∧ n ≤ 2) ∧ (0 ≤ l ∧ l ≤ 3) ∧ (0 ≤ a ∧ a ≤ 5)) := by
  unfold spec_l20Query.f
  rw [pick_eq hb hl h0 (by omega) (by omega) (by omega) hk]
  simp only [Option.bind_some]
  rw [pick_eq hb hl (p := p + 1) (n := 4) (by omega) (by omega) (by omega) (by omega) hk]
  simp only [Option.bind_some]
  rw [pick_eq hb hl (p := p + 1 + 1) (n := 6) (by omega) (by omega) (by omega) (by omega) hk]
  simp only [Option.bind_some]
  rw [pick_eq hb hl (p := p + 1 + 1 + 1) (n := 6) (by omega) (by omega) (by omega) (by omega) hk]
  simp only [Option.bind_some]
  have r1 := pk_range hb hl (p := p) (n := 2) (by omega) (by omega) (by omega) (by omega)
  have r2 := pk_range hb hl (p := p + 1) (n := 4) (by omega) (by omega) (by omega) (by omega)
  have r3 := pk_range hb hl (p := p + 1 + 1) (n := 6) (by omega) (by omega) (by omega) (by omega)
  have r4 := pk_range hb hl (p := p + 1 + 1 + 1) (n := 6) (by omega) (by omega) (by omega) (by omega)
  generalize pk b p 2 = n at r1 ⊢
  generalize pk b (p + 1) 4 = l at r2 ⊢
  generalize pk b (p + 1 + 1) 6 = a at r3 ⊢
  generalize pk b (p + 1 + 1 + 1) 6 = w at r4 ⊢
  obtain ⟨o, p2, e2, g5, g6, g7⟩ := odd_eq hb hl (p := p + 1 + 1 + 1 + 1) (n := m) (by omega) (by omega) hm0 hm1 hk
  simp only [e2, Option.bind_some]
  rw [w64 (x := 1 + n) (by omega) (by omega)]
  cases o with
  | false =>
    rw [if_neg (by decide)]
    exact ⟨_, _, _, _, _, rfl, by omega, by omega, by omega, by omega, by omega, by omega, fun _ => by omega⟩
  | true =>
    have hm : ¬ m = 0 := fun h => by have := g7 h; cases this
    simp only [if_true]
    rw [pick_eq hb hl (p := p2) (n := 3) (by omega) (by omega) (by omega) (by omega) hk]
    simp only [Option.bind_some]
    rw [pick_eq hb hl (p := p2 + 1) (n := 5) (by omega) (by omega) (by omega) (by omega) hk, pick_eq hb hl (p := p2 + 1) (n := 2) (by omega) (by omega) (by omega) (by omega) hk]
    simp only [Option.bind_some]
    have r5 := pk_range hb hl (p := p2 + 1) (n := 5) (by omega) (by omega) (by omega) (by omega)
    have r6 := pk_range hb hl (p := p2 + 1) (n := 2) (by omega) (by omega) (by omega) (by omega)
    rw [w64 (x := pk b (p2 + 1) 2 * 70000) (by omega) (by omega), w64 (by omega) (by omega)]
    split
    · exact ⟨_, _, _, _, _, rfl, by omega, by omega, by omega, by omega, by omega, by omega, fun h => absurd h hm⟩
    · split
      · exact ⟨_, _, _, _, _, rfl, by omega, by omega, by omega, by omega, by omega, by omega, fun h => absurd h hm⟩
      · exact ⟨_, _, _, _, _, rfl, by omega, by omega, by omega, by omega, by omega, by omega, fun h => absurd h hm⟩

theorem l1In_eq (a b c : Int) : spec_l1In.f a b c = some (decide (b ≤ a ∧ a ≤ c)) := by
  unfold spec_l1In.f
  by_cases h : a ≥ b <;> simp [h]

theorem in_eq (a b c : Int) : impl_in.f a b c = some (decide (b ≤ a ∧ a ≤ c)) := by
  unfold impl_in.f
  by_cases h : a ≥ b <;> simp [h]

theorem word_eq (a : Int) : impl_word.f a = some (decide (0 ≤ a ∧ a ≤ 65535)) := by
  unfold impl_word.f
  rw [in_eq]; rfl

/-- A query is ok. -/
def queryOk (k l a w : Int) : Bool := decide ((1 ≤ k ∧ k ≤ 2) ∧ (0 ≤ l ∧ l ≤ 254) ∧ (0 ≤ a ∧ a ≤ 65535) ∧ (0 ≤ w ∧ w ≤ 65535))
theorem specQueryOk_eq (k l a w : Int) : spec_QueryOk.f k l a w = some (queryOk k l a w) := by
  unfold spec_QueryOk.f queryOk
  simp only [l1In_eq, Option.bind_some]
  by_cases h1 : k = 1
  · subst h1
    by_cases h2 : 0 ≤ l ∧ l ≤ 254 <;> by_cases h3 : 0 ≤ a ∧ a ≤ 65535 <;> simp [h2, h3]
  · by_cases h4 : k = 2
    · subst h4
      by_cases h2 : 0 ≤ l ∧ l ≤ 254 <;> by_cases h3 : 0 ≤ a ∧ a ≤ 65535 <;> simp [h2, h3]
    · rw [if_neg h1, if_neg h4, decide_eq_false (by omega)]
theorem implQueryOk_eq (k l a w : Int) : impl_QueryOk.f k l a w = some (queryOk k l a w) := by
  unfold impl_QueryOk.f queryOk
  simp only [in_eq, word_eq, Option.bind_some]
  by_cases h1 : 1 ≤ k ∧ k ≤ 2 <;> by_cases h2 : 0 ≤ l ∧ l ≤ 254 <;> by_cases h3 : 0 ≤ a ∧ a ≤ 65535 <;> simp [h1, h2, h3]

theorem rdL_nat (ls : List (List Int)) (i : Nat) (h : i < ls.length) : rd_L1 ls (i : Int) = ls[i] := by
  unfold rd_L1; simp [List.getD_eq_getElem?_getD, List.getElem?_eq_getElem h]
theorem flat_next (ls : List (List Int)) (i : Nat) (h : i < ls.length) : (ls.take (i + 1)).flatten = (ls.take i).flatten ++ rd_L1 ls (i : Int) := by
  rw [List.take_succ_eq_append_getElem h, List.flatten_append, rdL_nat ls i h]; simp
theorem flat_le (ls : List (List Int)) (i : Nat) : (ls.take i).flatten.length ≤ ls.flatten.length := by
  have h : ls.flatten = (ls.take i).flatten ++ (ls.drop i).flatten := by rw [← List.flatten_append, List.take_append_drop]
  rw [h, List.length_append]; omega
theorem concat_loop1 (ls : List (List Int)) (hn : (ls.flatten.length : Int) ≤ 1048576) (hl : (ls.length : Int) < 1048576) : ∀ (d k i : Nat), ls.length - i = d → i ≤ ls.length → d < k →
    slices_Concat_byte_byte.l1 k (ls.take i).flatten ls (ls.length : Int) (i : Int) = some ls.flatten := by
  intro d
  induction d with
  | zero =>
    intro k i hd hi hk
    obtain ⟨k, rfl⟩ : ∃ m, k = m + 1 := ⟨k - 1, by omega⟩
    simp only [slices_Concat_byte_byte.l1]
    rw [if_neg (by omega), List.take_of_length_le (by omega)]
  | succ d ih =>
    intro k i hd hi hk
    obtain ⟨k, rfl⟩ : ∃ m, k = m + 1 := ⟨k - 1, by omega⟩
    have e1 : wrap64 ((i : Int) + 1) = ((i + 1 : Nat) : Int) := by rw [w64 (by omega) (by omega)]; rfl
    have h1 := flat_le ls (i + 1)
    rw [flat_next ls i (by omega), List.length_append] at h1
    simp only [slices_Concat_byte_byte.l1]
    rw [if_pos (by omega), if_pos (by omega), if_pos (by omega), if_pos (by omega), e1, ← flat_next ls i (by omega)]
    exact ih k (i + 1) (by omega) (by omega) (by omega)
theorem concat_loop0 (ls : List (List Int)) (hn : (ls.flatten.length : Int) ≤ 1048576) (hl : (ls.length : Int) < 1048576) : ∀ (d k i : Nat), ls.length - i = d → i ≤ ls.length → d + ls.length + 2 < k →
    slices_Concat_byte_byte.l0 k ls ((ls.take i).flatten.length : Int) ls (ls.length : Int) (i : Int) = some ls.flatten := by
  intro d
  induction d with
  | zero =>
    intro k i hd hi hk
    obtain ⟨k, rfl⟩ : ∃ m, k = m + 1 := ⟨k - 1, by omega⟩
    have h1 := flat_le ls i
    simp only [slices_Concat_byte_byte.l0]
    rw [if_neg (by omega)]
    unfold slices_Grow_byte_byte.f
    rw [if_pos (by omega)]
    exact concat_loop1 ls hn hl ls.length k 0 (by omega) (by omega) (by omega)
  | succ d ih =>
    intro k i hd hi hk
    obtain ⟨k, rfl⟩ : ∃ m, k = m + 1 := ⟨k - 1, by omega⟩
    have e1 : wrap64 ((i : Int) + 1) = ((i + 1 : Nat) : Int) := by rw [w64 (by omega) (by omega)]; rfl
    have h1 := flat_le ls (i + 1)
    have h2 := flat_next ls i (by omega)
    have h3 : ((ls.take (i + 1)).flatten.length : Int) = ((ls.take i).flatten.length : Int) + ((rd_L1 ls (i : Int)).length : Int) := by rw [h2, List.length_append]; omega
    have e2 : wrap64 (((ls.take i).flatten.length : Int) + ((rd_L1 ls (i : Int)).length : Int)) = ((ls.take (i + 1)).flatten.length : Int) := by rw [← h3, w64 (by omega) (by omega)]
    simp only [slices_Concat_byte_byte.l0]
    rw [if_pos (by omega), if_pos (by omega), if_pos (by omega), e2, if_neg (Int.not_lt.mpr (Int.natCast_nonneg _)), e1]
    exact ih k (i + 1) (by omega) (by omega) (by omega)
theorem concat_eq (ls : List (List Int)) (hn : (ls.flatten.length : Int) ≤ 1048576) (hl : (ls.length : Int) < 1048576) (k : Nat) (hk : 2 * ls.length + 2 < k) : slices_Concat_byte_byte.f k ls = some ls.flatten := by
  unfold slices_Concat_byte_byte.f
  exact concat_loop0 ls hn hl ls.length k 0 (by omega) (by omega) (by omega)

theorem implbytesOf_loop : ∀ (i k : Nat) (v : Int) (o : List Int), i < k → i ≤ o.length → o.length < 4611686018427387904 →
    impl_bytesOf.l0 k v o ((i : Int) - 1) = some (be i v ++ o.drop i)
  | 0, k, v, o, hk, hi, hl => by
    obtain ⟨k, rfl⟩ : ∃ m, k = m + 1 := ⟨k - 1, by omega⟩
    simp only [impl_bytesOf.l0]
    rw [if_neg (by omega)]; simp [be]
  | i + 1, k, v, o, hk, hi, hl => by
    obtain ⟨k, rfl⟩ : ∃ m, k = m + 1 := ⟨k - 1, by omega⟩
    have e1 : ((i + 1 : Nat) : Int) - 1 = (i : Int) := by omega
    have e2 : wrap64 ((i : Int) - 1) = (i : Int) - 1 := w64 (by omega) (by omega)
    have e3 : ((i : Int)).toNat = i := by omega
    rw [e1]
    simp only [impl_bytesOf.l0]
    rw [if_pos (by omega), if_pos (by omega), if_pos (by omega), e2, implbytesOf_loop i k _ _ (by omega) (by simp; omega) (by simpa using hl), e3, drop_rd _ i (by simp; omega), rd_set_eq _ _ _ (by omega), List.drop_set_of_lt (by omega)]
    simp [be]
theorem implbytesOf_eq (v n : Int) (h0 : 0 ≤ n) (h1 : n ≤ 1073741824) (k : Nat) (hk : n.toNat < k) : impl_bytesOf.f k v n = some (be n.toNat v) := by
  unfold impl_bytesOf.f
  rw [if_pos h0, if_pos (by omega), w64 (by omega) (by omega)]
  obtain ⟨n, rfl⟩ : ∃ m : Nat, n = m := ⟨n.toNat, by omega⟩
  rw [implbytesOf_loop n k v _ (by omega) (by simp) (by simp; omega)]
  simp

/-- A number as n bytes, n in 1..4; none for others. -/
def bytesV (v n : Int) : List Int := if (1 ≤ n ∧ n ≤ 4) ∧ 0 ≤ v ∧ v < 256 ^ n.toNat then be n.toNat v else []
theorem four {n : Int} (h : 1 ≤ n ∧ n ≤ 4) : n = 1 ∨ n = 2 ∨ n = 3 ∨ n = 4 := by omega
theorem lim_of (n : Int) (h : 1 ≤ n ∧ n ≤ 4) : wrap64 (shl .i64 1 (wrap64 (8 * n)) - 1) = 256 ^ n.toNat - 1 ∧ 0 ≤ wrap64 (8 * n) := by
  rcases four h with rfl | rfl | rfl | rfl <;> decide +kernel
theorem bytesV_length (v n : Int) : (bytesV v n).length ≤ 4 := by
  unfold bytesV; split
  · rw [be_length]; omega
  · simp
theorem bytesV_bytes (v n : Int) : Bytes (bytesV v n) := by
  unfold bytesV; split
  · exact be_bytes _ _
  · exact Bytes.nil

theorem be_front (n : Nat) (v : Int) : be (n + 1) v = (v / 256 ^ n % 256) :: be n v := by
  induction n generalizing v with
  | zero => simp [be]
  | succ n ih =>
    rw [be, ih (v / 256)]
    show _ = v / 256 ^ (n + 1) % 256 :: (be n (v / 256) ++ [v % 256])
    have e : v / 256 / 256 ^ n = v / 256 ^ (n + 1) := by
      rw [Int.ediv_ediv_of_nonneg (by decide), Int.pow_succ, Int.mul_comm]
    rw [e]; rfl
theorem shr_byte (v : Int) (i : Nat) (hi : i ≤ 3) : 0 ≤ wrap64 (8 * (i : Int)) ∧ shr .i64 v (wrap64 (8 * (i : Int))) = v / 256 ^ i := by
  obtain rfl | rfl | rfl | rfl : i = 0 ∨ i = 1 ∨ i = 2 ∨ i = 3 := by omega
  all_goals exact ⟨by decide +kernel, by rw [show wrap64 (8 * ((_ : Nat) : Int)) = 8 * _ from w64 (by omega) (by omega)]; rfl⟩
theorem specBytesOf_loop (v : Int) (hv : 0 ≤ v) : ∀ (i k : Nat) (o : List Int), i < k → i ≤ 4 → o.length + i ≤ 4 →
    spec_BytesOf.l0 k v o ((i : Int) - 1) = some (o ++ be i v)
  | 0, k, o, hk, hi, hl => by
    obtain ⟨k, rfl⟩ : ∃ m, k = m + 1 := ⟨k - 1, by omega⟩
    simp only [spec_BytesOf.l0]
    rw [if_neg (by omega)]; simp [be]
  | i + 1, k, o, hk, hi, hl => by
    obtain ⟨k, rfl⟩ : ∃ m, k = m + 1 := ⟨k - 1, by omega⟩
    have e1 : ((i + 1 : Nat) : Int) - 1 = (i : Int) := by omega
    have e2 : wrap64 ((i : Int) - 1) = (i : Int) - 1 := w64 (by omega) (by omega)
    obtain ⟨e3, e4⟩ := shr_byte v i (by omega)
    have e5 : Int.tmod (v / 256 ^ i) 256 % 256 = v / 256 ^ i % 256 := by
      rw [Int.tmod_eq_emod_of_nonneg (Int.ediv_nonneg hv (Int.pow_nonneg (by decide)))]; omega
    rw [e1]
    simp only [spec_BytesOf.l0]
    rw [if_pos (by omega), if_pos e3, if_pos (by omega), e4, e5, e2, specBytesOf_loop v hv i k _ (by omega) (by omega) (by simp; omega), be_front]
    simp
theorem specBytesOf_eq (v n : Int) (k : Nat) (hk : 6 ≤ k) : spec_BytesOf.f k v n = some (bytesV v n) := by
  obtain ⟨k, rfl⟩ : ∃ m, k = m + 1 := ⟨k - 1, by omega⟩
  unfold spec_BytesOf.f bytesV
  simp only [l1In_eq, Option.bind_some, spec_BytesOf.j0]
  by_cases h1 : 1 ≤ n ∧ n ≤ 4
  · obtain ⟨e1, e2⟩ := lim_of n h1
    rw [if_pos (decide_eq_true h1), if_pos e2, e1]
    by_cases h2 : 0 ≤ v ∧ v ≤ 256 ^ n.toNat - 1
    · rw [decide_eq_true h2, if_neg (by decide), if_pos ⟨h1, h2.1, by omega⟩, w64 (by omega) (by omega)]
      obtain ⟨n, rfl⟩ : ∃ m : Nat, n = m := ⟨n.toNat, by omega⟩
      rw [specBytesOf_loop v h2.1 n k [] (by omega) (by omega) (by simp; omega)]; rfl
    · rw [decide_eq_false h2, if_pos (by decide), if_neg (by omega)]
  · rw [if_neg (by simpa using h1), if_pos trivial, if_neg (fun h => h1 h.1)]

/-- A query as bytes. -/
def queryBytes (n l a w : Int) : List Int := if queryOk n l a w = true then [n, l] ++ be 2 a ++ be 2 w else []
theorem queryOk_parts {k a b c : Int} (h : queryOk k a b c = true) : (1 ≤ k ∧ k ≤ 2) ∧ (0 ≤ a ∧ a ≤ 254) ∧ (0 ≤ b ∧ b ≤ 65535) ∧ (0 ≤ c ∧ c ≤ 65535) := of_decide_eq_true h
theorem bytesV_two {v : Int} (h : 0 ≤ v ∧ v ≤ 65535) : bytesV v 2 = be 2 v := by unfold bytesV; rw [if_pos ⟨by omega, by omega, by show v < 65536; omega⟩]; rfl
theorem implQueryBytes_eq (n l a w : Int) (k : Nat) (hk : 10 ≤ k) : impl_QueryBytes.f k n l a w = some (queryBytes n l a w) := by
  unfold impl_QueryBytes.f queryBytes
  rw [implQueryOk_eq]
  simp only [Option.bind_some]
  cases h : queryOk n l a w with
  | false => rfl
  | true =>
    have hq := queryOk_parts h
    rw [if_pos rfl, if_pos rfl, implbytesOf_eq a 2 (by omega) (by omega) k (by omega), implbytesOf_eq w 2 (by omega) (by omega) k (by omega)]
    simp only [Option.bind_some]
    rw [concat_eq _ (by simp [be_length]) (by simp) k (by simp; omega)]
    simp only [Option.bind_some]
    rw [show n % 256 = n by omega, show l % 256 = l by omega]
    simp
theorem specQueryBytes_eq (n l a w : Int) (k : Nat) (hk : 10 ≤ k) : spec_QueryBytes.f k n l a w = some (queryBytes n l a w) := by
  unfold spec_QueryBytes.f queryBytes
  rw [specQueryOk_eq]
  simp only [Option.bind_some]
  cases h : queryOk n l a w with
  | false => rfl
  | true =>
    have hq := queryOk_parts h
    rw [if_pos rfl, if_pos rfl, specBytesOf_eq a 2 k (by omega), specBytesOf_eq w 2 k (by omega), bytesV_two hq.2.2.1, bytesV_two hq.2.2.2]
    simp only [Option.bind_some]
    rw [if_pos (by simp [be_length]), if_pos (by simp [be_length])]
    rw [show n % 256 = n by omega, show l % 256 = l by omega]
theorem queryBytes_len (n l a w : Int) : (queryBytes n l a w).length = if queryOk n l a w = true then 6 else 0 := by
  unfold queryBytes
  cases queryOk n l a w <;> simp [be_length]
theorem queryBytes_bytes (n l a w : Int) : Bytes (queryBytes n l a w) := by
  unfold queryBytes
  cases h : queryOk n l a w with
  | false => exact Bytes.nil
  | true =>
    have hq := queryOk_parts h
    exact (Bytes.append (Bytes.cons (by omega) (Bytes.cons (by omega) Bytes.nil)) (be_bytes _ _)).append (be_bytes _ _)

/-- The number of n bytes at a place; -1 if there is none. -/
def numAt (l : List Int) (a n : Int) : Int := if (1 ≤ n ∧ n ≤ 4) ∧ 0 ≤ a ∧ a + n ≤ l.length then num ((l.drop a.toNat).take n.toNat) else -1
theorem num_take (l : List Int) (i : Nat) (h : i < l.length) : num (l.take (i + 1)) = num (l.take i) * 256 + rd l (i : Int) := by
  rw [take_succ_rd l i h, num_append]
theorem num_take_range {l : List Int} (h : Bytes l) (i : Nat) (hi : i ≤ 4) : 0 ≤ num (l.take i) ∧ num (l.take i) < 4294967296 := by
  have h1 := num_range _ (h.take i)
  refine ⟨h1.1, Int.lt_of_lt_of_le h1.2 ?_⟩
  have h2 : (l.take i).length ≤ 4 := by rw [List.length_take]; omega
  generalize (l.take i).length = n at h2
  obtain rfl | rfl | rfl | rfl | rfl : n = 0 ∨ n = 1 ∨ n = 2 ∨ n = 3 ∨ n = 4 := by omega
  all_goals decide
theorem rd_drop (l : List Int) (a i : Nat) : rd (l.drop a) (i : Int) = rd l ((a + i : Nat) : Int) := by
  unfold rd; rw [List.getD_eq_getElem?_getD, List.getD_eq_getElem?_getD, List.getElem?_drop]; rfl

theorem implNumberAt_loop (m : List Int) (hb : Bytes m) (hn : m.length ≤ 4) : ∀ (d k i : Nat), m.length - i = d → i ≤ m.length → d < k →
    impl_NumberAt.l0 k (num (m.take i)) m (m.length : Int) (i : Int) = some (num m)
  | 0, k, i, hd, hi, hk => by
    obtain ⟨k, rfl⟩ : ∃ m, k = m + 1 := ⟨k - 1, by omega⟩
    simp only [impl_NumberAt.l0]
    rw [if_neg (by omega), List.take_of_length_le (by omega)]
  | d + 1, k, i, hd, hi, hk => by
    obtain ⟨k, rfl⟩ : ∃ m, k = m + 1 := ⟨k - 1, by omega⟩
    have e2 : wrap64 ((i : Int) + 1) = ((i + 1 : Nat) : Int) := by rw [w64 (by omega) (by omega)]; rfl
    have hr := hb.at_ (i : Int)
    have hm := num_take_range hb i (by omega)
    simp only [impl_NumberAt.l0]
    rw [if_pos (by omega), if_pos (by omega), if_pos (by omega), e2, w64 (x := rd m _) (by omega) (by omega), w64 (x := _ * 256) (by omega) (by omega)]
    rw [or_byte (by omega) (by omega) (by omega) (by omega), ← num_take _ i (by omega)]
    exact implNumberAt_loop m hb hn d k (i + 1) (by omega) (by omega) (by omega)
theorem implNumberAt_eq (l : List Int) (hb : Bytes l) (hl : l.length < 4611686018427387904) (a n : Int) (k : Nat) (hk : 6 ≤ k) : impl_NumberAt.f k l a n = some (numAt l a n) := by
  obtain ⟨k, rfl⟩ : ∃ m, k = m + 1 := ⟨k - 1, by omega⟩
  unfold impl_NumberAt.f numAt
  simp only [in_eq, Option.bind_some, impl_NumberAt.j0]
  by_cases h1 : 1 ≤ n ∧ n ≤ 4
  · rw [if_pos (decide_eq_true h1), w64 (x := (l.length : Int) - n) (by omega) (by omega)]
    by_cases h2 : a < 0
    · rw [if_pos h2, if_pos trivial, if_neg (by omega)]
    · rw [if_neg h2]
      by_cases h3 : a > (l.length : Int) - n
      · rw [if_pos (decide_eq_true h3), if_neg (by omega)]
      · rw [if_neg (by simpa using h3), if_pos (by omega), w64 (by omega) (by omega), if_pos (by omega), if_pos (by omega), if_pos (by omega)]
        have e : (l.take (a + n).toNat).drop a.toNat = (l.drop a.toNat).take n.toNat := by
          rw [List.drop_take]; congr 1; omega
        rw [e]
        have hlen : ((l.drop a.toNat).take n.toNat).length = n.toNat := by rw [List.length_take, List.length_drop]; omega
        exact implNumberAt_loop _ ((hb.drop _).take _) (by omega) _ k 0 (by rw [Nat.sub_zero]) (by omega) (by omega)
  · rw [if_neg (by simpa using h1), if_pos trivial, if_neg (by omega)]

/-- The query of bytes. -/
def queryFrom (l : List Int) : Int × Int × Int × Int × Bool :=
  if (l.length : Int) = 6 ∧ queryOk (rd l 0) (rd l 1) (numAt l 2 2) (numAt l 4 2) = true then (rd l 0, rd l 1, numAt l 2 2, numAt l 4 2, true) else (0, 0, 0, 0, false)
theorem implQueryFrom_eq (l : List Int) (hb : Bytes l) (k : Nat) (hk : 6 ≤ k) : impl_QueryFrom.f k l = some (queryFrom l) := by
  unfold impl_QueryFrom.f queryFrom
  by_cases h : (l.length : Int) = 6
  · have r0 := hb.at_ 0
    have r1 := hb.at_ 1
    rw [if_pos h, if_pos (by omega), if_pos (by omega), implNumberAt_eq l hb (by omega) 2 2 k hk, implNumberAt_eq l hb (by omega) 4 2 k hk]
    simp only [Option.bind_some]
    rw [w64 (x := rd l 0) (by omega) (by omega), w64 (x := rd l 1) (by omega) (by omega), implQueryOk_eq]
    simp only [Option.bind_some]
    cases queryOk (rd l 0) (rd l 1) (numAt l 2 2) (numAt l 4 2) <;> simp [h]
  · rw [if_neg h, if_neg (fun hc => h hc.1)]

theorem specNumberAt_loop (l : List Int) (hb : Bytes l) (a n : Nat) (hn : n ≤ 4) (ha : a + n ≤ l.length) (hl : l.length < 4611686018427387904) : ∀ (d k i : Nat), n - i = d → i ≤ n → d < k →
    spec_NumberAt.l0 k l (a : Int) (n : Int) (num ((l.drop a).take i)) (i : Int) = some (num ((l.drop a).take n))
  | 0, k, i, hd, hi, hk => by
    obtain ⟨k, rfl⟩ : ∃ m, k = m + 1 := ⟨k - 1, by omega⟩
    simp only [spec_NumberAt.l0]
    rw [if_neg (by omega)]
    obtain rfl : i = n := by omega
    rfl
  | d + 1, k, i, hd, hi, hk => by
    obtain ⟨k, rfl⟩ : ∃ m, k = m + 1 := ⟨k - 1, by omega⟩
    have e2 : wrap64 ((i : Int) + 1) = ((i + 1 : Nat) : Int) := by rw [w64 (by omega) (by omega)]; rfl
    have e3 : wrap64 ((a : Int) + (i : Int)) = ((a + i : Nat) : Int) := by rw [w64 (by omega) (by omega)]; rfl
    have hr := hb.at_ ((a + i : Nat) : Int)
    have hm := num_take_range (hb.drop a) i (by omega)
    simp only [spec_NumberAt.l0]
    rw [if_pos (by omega), e3, if_pos (by omega), if_pos (by omega), e2, w64 (x := rd l _) (by omega) (by omega), w64 (x := _ * 256) (by omega) (by omega), w64 (by omega) (by omega)]
    rw [← rd_drop, ← num_take _ i (by rw [List.length_drop]; omega)]
    exact specNumberAt_loop l hb a n hn ha hl d k (i + 1) (by omega) (by omega) (by omega)
theorem specNumberAt_eq (l : List Int) (hb : Bytes l) (hl : l.length < 4611686018427387904) (a n : Int) (k : Nat) (hk : 6 ≤ k) : spec_NumberAt.f k l a n = some (numAt l a n) := by
  obtain ⟨k, rfl⟩ : ∃ m, k = m + 1 := ⟨k - 1, by omega⟩
  unfold spec_NumberAt.f numAt
  simp only [l1In_eq, Option.bind_some, spec_NumberAt.j0]
  by_cases h1 : 1 ≤ n ∧ n ≤ 4
  · rw [if_pos (decide_eq_true h1), w64 (by omega) (by omega)]
    by_cases h2 : 0 ≤ a ∧ a ≤ (l.length : Int) - n
    · rw [decide_eq_true h2, if_neg (by decide), if_pos (by omega)]
      obtain ⟨a, rfl⟩ : ∃ m : Nat, a = m := ⟨a.toNat, by omega⟩
      obtain ⟨n, rfl⟩ : ∃ m : Nat, n = m := ⟨n.toNat, by omega⟩
      exact specNumberAt_loop l hb a n (by omega) (by omega) hl n k 0 (by omega) (by omega) (by omega)
    · rw [decide_eq_false h2, if_pos (by decide), if_neg (by omega)]
  · rw [if_neg (by simpa using h1), if_pos trivial, if_neg (by omega)]

theorem specQueryFrom_eq (l : List Int) (hb : Bytes l) (k : Nat) (hk : 6 ≤ k) : spec_QueryFrom.f k l = some (queryFrom l) := by
  unfold spec_QueryFrom.f queryFrom
  by_cases h : (l.length : Int) = 6
  · have r0 := hb.at_ 0
    have r1 := hb.at_ 1
    rw [if_pos h, if_pos (by omega), if_pos (by omega), specNumberAt_eq l hb (by omega) 2 2 k hk, specNumberAt_eq l hb (by omega) 4 2 k hk]
    simp only [Option.bind_some]
    rw [w64 (x := rd l 0) (by omega) (by omega), w64 (x := rd l 1) (by omega) (by omega), specQueryOk_eq]
    simp only [Option.bind_some]
    cases queryOk (rd l 0) (rd l 1) (numAt l 2 2) (numAt l 4 2) <;> simp [h]
  · rw [if_neg h, if_neg (fun hc => h hc.1)]

theorem sameBytes_self (l : List Int) : laws_sameBytes.f l l = some true := by
  unfold laws_sameBytes.f
  simp

theorem implBytesOf_eq (v n : Int) (k : Nat) (hk : 6 ≤ k) : impl_BytesOf.f k v n = some (bytesV v n) := by
  unfold impl_BytesOf.f bytesV
  simp only [in_eq, Option.bind_some]
  by_cases h1 : 1 ≤ n ∧ n ≤ 4
  · obtain ⟨e1, e2⟩ := lim_of n h1
    rw [if_pos (decide_eq_true h1), if_pos e2, e1]
    by_cases h2 : 0 ≤ v ∧ v ≤ 256 ^ n.toNat - 1
    · rw [if_pos (decide_eq_true h2), implbytesOf_eq v n (by omega) (by omega) k (by omega), if_pos ⟨h1, h2.1, by omega⟩]; rfl
    · rw [if_neg (by simpa using h2), if_neg (by omega)]
  · rw [if_neg (by simpa using h1), if_neg (fun h => h1 h.1)]

theorem alive_eq (k : Nat) (hk : 6 ≤ k) : laws_alive.f k = some true := by
  unfold laws_alive.f
  simp only [implBytesOf_eq _ _ k hk, Option.bind_some]
  rfl

theorem queryBytes_from : ∀ {l : List Int}, Bytes l → (l.length : Int) = 6 ∧ queryOk (rd l 0) (rd l 1) (numAt l 2 2) (numAt l 4 2) = true → queryBytes (rd l 0) (rd l 1) (numAt l 2 2) (numAt l 4 2) = l
  | [], _, h => absurd h.1 (by simp only [List.length_cons, List.length_nil]; omega)
  | [_], _, h => absurd h.1 (by simp only [List.length_cons, List.length_nil]; omega)
  | [_, _], _, h => absurd h.1 (by simp only [List.length_cons, List.length_nil]; omega)
  | [_, _, _], _, h => absurd h.1 (by simp only [List.length_cons, List.length_nil]; omega)
  | [_, _, _, _], _, h => absurd h.1 (by simp only [List.length_cons, List.length_nil]; omega)
  | [_, _, _, _, _], _, h => absurd h.1 (by simp only [List.length_cons, List.length_nil]; omega)
  | _ :: _ :: _ :: _ :: _ :: _ :: _ :: _, _, h => absurd h.1 (by simp only [List.length_cons]; omega)
  | [x0, x1, x2, x3, x4, x5], hb, h => by
    have h2 := h.2
    have q2 : 0 ≤ x2 ∧ x2 < 256 := hb.at_ 2
    have q3 : 0 ≤ x3 ∧ x3 < 256 := hb.at_ 3
    have q4 : 0 ≤ x4 ∧ x4 < 256 := hb.at_ 4
    have q5 : 0 ≤ x5 ∧ x5 < 256 := hb.at_ 5
    have e1 : numAt [x0, x1, x2, x3, x4, x5] 2 2 = x2 * 256 + x3 := by
      show (0 * 256 + x2) * 256 + x3 = x2 * 256 + x3
      omega
    have e2 : numAt [x0, x1, x2, x3, x4, x5] 4 2 = x4 * 256 + x5 := by
      show (0 * 256 + x4) * 256 + x5 = x4 * 256 + x5
      omega
    unfold queryBytes
    rw [if_pos h2, e1, e2]
    show [x0, x1, (x2 * 256 + x3) / 256 % 256, (x2 * 256 + x3) % 256, (x4 * 256 + x5) / 256 % 256, (x4 * 256 + x5) % 256] = _
    rw [show (x2 * 256 + x3) / 256 % 256 = x2 by omega, show (x2 * 256 + x3) % 256 = x3 by omega, show (x4 * 256 + x5) / 256 % 256 = x4 by omega, show (x4 * 256 + x5) % 256 = x5 by omega]
theorem drawQueryFrom_eq (l : List Int) (hb : Bytes l) (k : Nat) (hk : 30 ≤ k) : ∃ r, spec_DrawQueryFrom.f k l = some r ∧ Bytes r ∧ r.length ≤ 6 := by
  obtain ⟨b, hb1, hb2, hb3⟩ := open_eq l hb
  obtain ⟨n, q, a, w, p', e, g1, g2, _, _, _, g3, g4⟩ := drawQuery_eq hb2 hb3 (p := 0) (m := 0) (by omega) (by omega) (by omega) (by omega) (k := k) (by omega)
  obtain ⟨g5, g6, g7⟩ := g4 rfl
  have hok : queryOk n q a w = true := decide_eq_true (by omega)
  have hlen : (queryBytes n q a w).length = 6 := by rw [queryBytes_len, hok]; rfl
  have hby := queryBytes_bytes n q a w
  unfold spec_DrawQueryFrom.f
  simp only [hb1, e, Option.bind_some, specQueryBytes_eq n q a w k (by omega)]
  rw [pick_eq hb2 hb3 (p := p') (n := 4) (by omega) (by omega) (by omega) (by omega) (by omega)]
  simp only [Option.bind_some, hlen]
  split
  · rw [pick_eq hb2 hb3 (p := p' + 1) (n := ((6 : Nat) : Int)) (by omega) (by omega) (by omega) (by omega) (by omega)]
    simp only [Option.bind_some]
    rw [pick_eq hb2 hb3 (p := p' + 1 + 1) (n := 256) (by omega) (by omega) (by omega) (by omega) (by omega)]
    simp only [Option.bind_some]
    have r1 := pk_range hb2 hb3 (p := p' + 1) (n := ((6 : Nat) : Int)) (by omega) (by omega) (by omega) (by omega)
    rw [if_pos r1.1, if_pos (by omega)]
    exact ⟨_, rfl, hby.set _ (Bytes.mod _), by simp [hlen]⟩
  · split
    · rw [pick_eq hb2 hb3 (p := p' + 1) (n := ((6 : Nat) : Int)) (by omega) (by omega) (by omega) (by omega) (by omega)]
      simp only [Option.bind_some]
      have r1 := pk_range hb2 hb3 (p := p' + 1) (n := ((6 : Nat) : Int)) (by omega) (by omega) (by omega) (by omega)
      rw [if_pos r1.1, if_pos (by omega)]
      exact ⟨_, rfl, hby.take _, by rw [List.length_take]; omega⟩
    · exact ⟨_, rfl, hby, by omega⟩
theorem FnQueryFrom : laws_FnQueryFrom.Pure := by
  intro l hm hl hw
  refine ⟨40, ?_⟩
  obtain ⟨b, e, hb, hlb⟩ := drawQueryFrom_eq l (Bytes.of_wf hw) 40 (by omega)
  unfold laws_FnQueryFrom.f
  by_cases h : (l.length : Int) > 1048576
  · rw [if_pos h]
  rw [if_neg h]
  simp only [e, implQueryFrom_eq b hb 40 (by omega), specQueryFrom_eq b hb 40 (by omega), alive_eq 40 (by omega), Option.bind_some, beq_self_eq_true, Bool.and_self, if_true]
  by_cases hc : (b.length : Int) = 6 ∧ queryOk (rd b 0) (rd b 1) (numAt b 2 2) (numAt b 4 2) = true
  · have e1 : queryFrom b = (rd b 0, rd b 1, numAt b 2 2, numAt b 4 2, true) := if_pos hc
    rw [e1]
    simp only [implQueryBytes_eq _ _ _ _ 40 (by omega), queryBytes_from hb hc, sameBytes_self, Option.bind_some, if_true]
  · have e1 : queryFrom b = (0, 0, 0, 0, false) := if_neg hc
    rw [e1]; rfl

end Go.Proofs.Ytibfeacgnadiaaa.Pure

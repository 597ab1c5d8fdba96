/- SumTurned: the sum can be turned with a pair, and back; the statement's own bounds alone. -/
import Derived.Test.YtibfeacgnadiaaaPFnSumTurnedx3
import Derived.Test.YtibfeacgnadiaaaBase
namespace Go.Proofs.Ytibfeacgnadiaaa.Pure
set_option linter.unusedSimpArgs false
set_option linter.unusedVariables false
open Go Go.RowKit Go.Proofs.Ytibfeacgnadiaaa.PFnSumTurned Go.Proofs.YtibfeacgnadiaaaW.PrintWords Go.Proofs.YtibfeacgnadiaaaW.PrintLast Go.Proofs.YtibfeacgnadiaaaW.PrintMore Go.Proofs.Ytibfeacgnadiaaa.Base

theorem in_eq (a b c : Int) : impl_in.f a b c = some (decide (b ≤ a ∧ a ≤ c)) := by
  unfold impl_in.f
  by_cases h : a ≥ b <;> simp [h]

theorem word_eq (a : Int) : impl_word.f a = some (decide (0 ≤ a ∧ a ≤ 65535)) := by
  unfold impl_word.f
  rw [in_eq]; rfl

theorem l1In_eq (a b c : Int) : spec_l1In.f a b c = some (decide (b ≤ a ∧ a ≤ c)) := by
  unfold spec_l1In.f
  by_cases h : a ≥ b <;> simp [h]

/-- Two numbers added up as 'added' does. -/
def add1 (a b : Int) : Int := if a + b > 65535 then a + b - 65535 else a + b
theorem add1_range {a b : Int} (ha : 0 ≤ a ∧ a ≤ 65535) (hb : 0 ≤ b ∧ b ≤ 65535) : 0 ≤ add1 a b ∧ add1 a b ≤ 65535 := by unfold add1; split <;> omega
theorem added_loop (l : List Int) (hl : ∀ x ∈ l, 0 ≤ x ∧ x ≤ 65535) (hlen : l.length < 4611686018427387904) : ∀ (d k i : Nat) (s : Int), l.length - i = d → i ≤ l.length → d < k → 0 ≤ s ∧ s ≤ 65535 →
    impl_added.l0 k s l (l.length : Int) (i : Int) = some ((l.drop i).foldl add1 s)
  | 0, k, i, s, hd, hi, hk, hs => by
    obtain ⟨k, rfl⟩ : ∃ m, k = m + 1 := ⟨k - 1, by omega⟩
    simp only [impl_added.l0]
    rw [if_neg (by omega), List.drop_of_length_le (by omega)]; rfl
  | d + 1, k, i, s, hd, hi, hk, hs => by
    obtain ⟨k, rfl⟩ : ∃ m, k = m + 1 := ⟨k - 1, by omega⟩
    have hm : 0 ≤ rd l (i : Int) ∧ rd l (i : Int) ≤ 65535 := by rw [rd_nat l i (by omega)]; exact hl _ (List.getElem_mem _)
    have e1 : wrap64 (s + rd l (i : Int)) = s + rd l (i : Int) := w64 (by omega) (by omega)
    have e2 : wrap64 ((i : Int) + 1) = ((i + 1 : Nat) : Int) := by rw [w64 (by omega) (by omega)]; rfl
    have ih := fun s' hs' => added_loop l hl hlen d k (i + 1) s' (by omega) (by omega) (by omega) hs'
    simp only [impl_added.l0]
    rw [if_pos (by omega), if_pos (by omega), if_pos (by omega), e1, e2, drop_rd l i (by omega), List.foldl_cons]
    by_cases h : s + rd l (i : Int) > 65535
    · rw [if_pos h, w64 (by omega) (by omega), ih _ (by omega)]
      unfold add1; rw [if_pos h]
    · rw [if_neg h, ih _ (by omega)]
      unfold add1; rw [if_neg h]
theorem added_eq (l : List Int) (hl : ∀ x ∈ l, 0 ≤ x ∧ x ≤ 65535) (hlen : l.length < 4611686018427387904) (k : Nat) (hk : l.length < k) :
    impl_added.f k l = some (l.foldl add1 0) := by
  unfold impl_added.f
  exact added_loop l hl hlen l.length k 0 0 (by omega) (by omega) hk (by omega)

/-- A sum turned. -/
def turn (a b c : Int) : Int := if (0 ≤ a ∧ a ≤ 65535) ∧ (0 ≤ b ∧ b ≤ 65535) ∧ (0 ≤ c ∧ c ≤ 65535) then add1 (add1 a b) (65535 - c) else -1
theorem implSumTurned_eq (a b c : Int) (k : Nat) (hk : 4 ≤ k) : impl_SumTurned.f k a b c = some (turn a b c) := by
  unfold impl_SumTurned.f turn
  rw [word_eq, word_eq, word_eq]
  simp only [Option.bind_some]
  by_cases h1 : 0 ≤ a ∧ a ≤ 65535
  · by_cases h2 : 0 ≤ b ∧ b ≤ 65535
    · by_cases h3 : 0 ≤ c ∧ c ≤ 65535
      · have e : wrap64 (65535 - c) = 65535 - c := w64 (by omega) (by omega)
        rw [e, added_eq [a, b, 65535 - c] (by intro x hx; simp at hx; omega) (by simp) k (by simp; omega)]
        simp only [h1, h2, h3, decide_true, if_true, Option.bind_some, and_self]
        have : add1 0 a = a := by unfold add1; rw [if_neg (by omega)]; omega
        simp only [List.foldl_cons, List.foldl_nil, this]
      · simp [h1, h2, h3]
    · simp [h1, h2]
  · simp [h1]
theorem specSumTurned_eq (a b c : Int) (k : Nat) (hk : 1 ≤ k) : spec_SumTurned.f k a b c = some (turn a b c) := by
  obtain ⟨k, rfl⟩ : ∃ m, k = m + 1 := ⟨k - 1, by omega⟩
  unfold spec_SumTurned.f turn
  rw [l1In_eq, l1In_eq, l1In_eq]
  simp only [Option.bind_some]
  by_cases h1 : 0 ≤ a ∧ a ≤ 65535
  · by_cases h2 : 0 ≤ b ∧ b ≤ 65535
    · by_cases h3 : 0 ≤ c ∧ c ≤ 65535
      · simp only [h1, h2, h3, decide_true, if_true, and_self, Bool.not_true, spec_SumTurned.j0]
        rw [if_neg (by decide), w64 (x := a + b) (by omega) (by omega)]
        unfold add1
        by_cases h4 : a + b > 65535
        · rw [if_pos h4, if_pos h4, w64 (x := a + b - 65535) (by omega) (by omega), w64 (x := a + b - 65535 + 65535) (by omega) (by omega), w64 (x := a + b - 65535 + 65535 - c) (by omega) (by omega)]
          by_cases h5 : a + b - 65535 + 65535 - c > 65535
          · rw [if_pos h5, if_pos (by omega), w64 (by omega) (by omega)]; congr 1; omega
          · rw [if_neg h5, if_neg (by omega)]; congr 1; omega
        · rw [if_neg h4, if_neg h4, w64 (x := a + b + 65535) (by omega) (by omega), w64 (x := a + b + 65535 - c) (by omega) (by omega)]
          by_cases h5 : a + b + 65535 - c > 65535
          · rw [if_pos h5, if_pos (by omega), w64 (by omega) (by omega)]; congr 1; omega
          · rw [if_neg h5, if_neg (by omega)]; congr 1; omega
      · simp [h1, h2, h3, spec_SumTurned.j0]
    · simp [h1, h2, spec_SumTurned.j0]
  · simp [h1, spec_SumTurned.j0]

/-- What pick draws. -/
def pk (b : List Int) (p n : Int) : Int := ((spec_l20Rd_pick.f 1 b p n).getD (0, 0)).1
theorem pick_f (b : List Int) (hb : Bytes b) (hl : b.length ≤ 2000) (p n : Int) (h0 : 0 ≤ p) (h1 : p ≤ 1073741824) (h2 : -2147483648 ≤ n) (h3 : n ≤ 65536) (k : Nat) :
    ∃ v, spec_l20Rd_pick.f (k + 1) b p n = some (v, p + 1) ∧ 0 ≤ v ∧ (1 ≤ n → v < n) ∧ (n < 1 → v = 0) := by
  have ep : wrap64 (p + 1) = p + 1 := w64 (by omega) (by omega)
  have ep' : wrap64 (p + 1 - 1) = p := by rw [w64 (by omega) (by omega)]; omega
  unfold spec_l20Rd_pick.f
  rw [ep]
  simp only [spec_l20Rd_pick.j0, ep']
  by_cases hn : n < 1
  · rw [if_pos hn, if_pos trivial]
    exact ⟨0, rfl, by omega, fun h => by omega, fun _ => rfl⟩
  rw [if_neg hn]
  by_cases he : (b.length : Int) = 0
  · rw [if_pos (by simpa using he)]
    exact ⟨0, rfl, by omega, fun h => by omega, fun _ => rfl⟩
  rw [if_neg (by simpa using he)]
  by_cases hp : p < (b.length : Int)
  · rw [if_pos hp, if_pos h0, if_neg (by omega)]
    have hr := hb.at_ p
    rw [w64 (x := rd b p) (by omega) (by omega)]
    refine ⟨_, rfl, Int.tmod_nonneg _ hr.1, fun _ => ?_, fun h => by omega⟩
    rw [Int.tmod_eq_emod_of_nonneg hr.1]
    exact Int.emod_lt_of_pos _ (by omega)
  rw [if_neg hp]
  have m1 : 0 ≤ Int.tmod p (b.length : Int) ∧ Int.tmod p (b.length : Int) < (b.length : Int) := by
    rw [Int.tmod_eq_emod_of_nonneg h0]; exact ⟨Int.emod_nonneg _ he, Int.emod_lt_of_pos _ (by omega)⟩
  have e7 : wrap64 (wrap64 (p * 7) + 3) = p * 7 + 3 := by rw [w64 (x := p * 7) (by omega) (by omega), w64 (by omega) (by omega)]
  have m2 : 0 ≤ Int.tmod (p * 7 + 3) (b.length : Int) ∧ Int.tmod (p * 7 + 3) (b.length : Int) < (b.length : Int) := by
    rw [Int.tmod_eq_emod_of_nonneg (by omega)]; exact ⟨Int.emod_nonneg _ he, Int.emod_lt_of_pos _ (by omega)⟩
  rw [if_neg he, if_pos m1.1, if_pos m1.2, e7, if_pos m2.1, if_pos m2.2, if_neg (show ¬ n = 0 by omega)]
  have r1 := hb.at_ (Int.tmod p (b.length : Int))
  have r2 := hb.at_ (Int.tmod (p * 7 + 3) (b.length : Int))
  generalize rd b (Int.tmod p (b.length : Int)) = x1 at r1 ⊢
  generalize rd b (Int.tmod (p * 7 + 3) (b.length : Int)) = x2 at r2 ⊢
  have q0 : Int.tdiv p (b.length : Int) = p / (b.length : Int) := Int.tdiv_eq_ediv_of_nonneg h0
  have q1 : 0 ≤ p / (b.length : Int) := Int.ediv_nonneg h0 (by omega)
  have q2 : p / (b.length : Int) ≤ p := Int.ediv_le_self _ h0
  rw [q0]
  generalize p / (b.length : Int) = q at q1 q2 ⊢
  rw [w64 (x := x1) (by omega) (by omega), w64 (x := x2) (by omega) (by omega), w64 (x := x1 * 131) (by omega) (by omega), w64 (x := x2 * 1117) (by omega) (by omega), w64 (x := p * 29) (by omega) (by omega),
    w64 (x := q) (by omega) (by omega), w64 (x := q * 53) (by omega) (by omega), w64 (x := x1 * 131 + x2 * 1117) (by omega) (by omega), w64 (x := x1 * 131 + x2 * 1117 + p * 29) (by omega) (by omega), w64 (x := x1 * 131 + x2 * 1117 + p * 29 + q * 53) (by omega) (by omega)]
  obtain ⟨y, hy⟩ : ∃ y : Nat, x1 * 131 + x2 * 1117 + p * 29 + q * 53 = (y : Int) := ⟨(x1 * 131 + x2 * 1117 + p * 29 + q * 53).toNat, by omega⟩
  have hy2 : y < 1099511627776 := by omega
  rw [hy]
  have d0 : Int.tdiv (y : Int) 64 = ((y / 64 : Nat) : Int) := by rw [Int.tdiv_eq_ediv_of_nonneg (by omega)]; rfl
  have hz : y / 64 < 1099511627776 := by omega
  rw [d0, w64 (x := ((y / 64 : Nat) : Int)) (by omega) (by omega)]
  obtain ⟨ex, lx⟩ := xor_i64 y (y / 64) hy2 hz
  rw [ex]
  refine ⟨_, rfl, Int.tmod_nonneg _ (by omega), fun _ => ?_, fun h => by omega⟩
  rw [Int.tmod_eq_emod_of_nonneg (by omega)]
  exact Int.emod_lt_of_pos _ (by omega)
theorem pick_one (b : List Int) (p n : Int) (k : Nat) : spec_l20Rd_pick.f (k + 1) b p n = spec_l20Rd_pick.f 1 b p n := by
  unfold spec_l20Rd_pick.f
  simp only [spec_l20Rd_pick.j0]
theorem pick_eq {b : List Int} (hb : Bytes b) (hl : b.length ≤ 2000) {p n : Int} (h0 : 0 ≤ p) (h1 : p ≤ 1073741824) (h2 : -2147483648 ≤ n) (h3 : n ≤ 65536) {k : Nat} (hk : 1 ≤ k) : spec_l20Rd_pick.f k b p n = some (pk b p n, p + 1) := by
  obtain ⟨k, rfl⟩ : ∃ m, k = m + 1 := ⟨k - 1, by omega⟩
  rw [pick_one]
  obtain ⟨v, hv, _⟩ := pick_f b hb hl p n h0 h1 h2 h3 0
  unfold pk
  rw [hv]; rfl
theorem pk_range {b : List Int} (hb : Bytes b) (hl : b.length ≤ 2000) {p n : Int} (h0 : 0 ≤ p) (h1 : p ≤ 1073741824) (h2 : 1 ≤ n) (h3 : n ≤ 65536) : 0 ≤ pk b p n ∧ pk b p n < n := by
  obtain ⟨v, hv, g0, g1, _⟩ := pick_f b hb hl p n h0 h1 (by omega) h3 0
  unfold pk
  rw [hv]; exact ⟨g0, g1 h2⟩
/-- The bytes that are drawn from. -/
theorem open_eq (l : List Int) (hb : Bytes l) : ∃ b, spec_l20Open.f l = some (b, 0) ∧ Bytes b ∧ b.length ≤ 2000 := by
  unfold spec_l20Open.f
  by_cases h : (l.length : Int) > 2000
  · rw [if_pos h, if_pos (by omega)]
    exact ⟨_, rfl, hb.take _, by simp; omega⟩
  · rw [if_neg h]
    exact ⟨_, rfl, hb, by omega⟩

theorem drawWord_eq {b : List Int} (hb : Bytes b) (hl : b.length ≤ 2000) {p : Int} (h0 : 0 ≤ p) (h1 : p ≤ 536870912) {k : Nat} (hk : 1 ≤ k) :
    ∃ v p', spec_l20Rd_word.f k b p = some (v, p') ∧ 0 ≤ v ∧ v ≤ 65535 ∧ p ≤ p' ∧ p' ≤ p + 3 := by
  unfold spec_l20Rd_word.f
  rw [pick_eq hb hl h0 (by omega) (by omega) (by omega) hk]
  simp only [Option.bind_some]
  rw [pick_eq hb hl (p := p + 1) (n := 3) (by omega) (by omega) (by omega) (by omega) hk, pick_eq hb hl (p := p + 1) (n := 256) (by omega) (by omega) (by omega) (by omega) hk]
  simp only [Option.bind_some]
  rw [pick_eq hb hl (p := p + 1 + 1) (n := 256) (by omega) (by omega) (by omega) (by omega) hk]
  simp only [Option.bind_some]
  have r1 := pk_range hb hl (p := p + 1) (n := 3) (by omega) (by omega) (by omega) (by omega)
  have r2 := pk_range hb hl (p := p + 1) (n := 256) (by omega) (by omega) (by omega) (by omega)
  have r3 := pk_range hb hl (p := p + 1 + 1) (n := 256) (by omega) (by omega) (by omega) (by omega)
  rw [w64 (x := 65535 - pk b (p + 1) 3) (by omega) (by omega), w64 (x := pk b (p + 1) 256 * 256) (by omega) (by omega), w64 (by omega) (by omega)]
  by_cases h2 : pk b p 4 = 0
  · rw [if_pos h2]; exact ⟨_, _, rfl, by omega, by omega, by omega, by omega⟩
  · rw [if_neg h2]
    by_cases h3 : pk b p 4 = 1
    · rw [if_pos h3]; exact ⟨_, _, rfl, by omega, by omega, by omega, by omega⟩
    · rw [if_neg h3]; exact ⟨_, _, rfl, by omega, by omega, by omega, by omega⟩

theorem bytesB_of {l : List Int} (h : Bytes l) : bytesB l = true := List.all_eq_true.mpr (fun x hx => decide_eq_true (h x hx))
/-- The pairs' numbers together. -/
def tot : List Int → Int
  | [] => 0
  | [a] => a * 256
  | a :: b :: l => a * 256 + b + tot l
theorem sumAdd_mod {a b : Int} : sumAdd a b % 65535 = (a + b) % 65535 := by unfold sumAdd; split <;> omega
theorem sumP_mod : ∀ (l : List Int) (s : Int), Bytes l → 0 ≤ s ∧ s ≤ 65535 → (0 ≤ sumP l s ∧ sumP l s ≤ 65535) ∧ sumP l s % 65535 = (s + tot l) % 65535
  | [], s, _, hs => ⟨hs, by simp [sumP, tot]⟩
  | [a], s, hb, hs => by
    have ha := hb a (by simp)
    exact ⟨sumAdd_range hs (by omega), sumAdd_mod⟩
  | a :: b :: l, s, hb, hs => by
    have ha := hb a (by simp)
    have hb' := hb b (by simp)
    have hr := sumAdd_range hs (b := a * 256 + b) (by omega)
    have hm := sumAdd_mod (a := s) (b := a * 256 + b)
    obtain ⟨h1, h2⟩ := sumP_mod l (sumAdd s (a * 256 + b)) (fun x hx => hb x (by simp [hx])) hr
    refine ⟨h1, ?_⟩
    show sumP l (sumAdd s (a * 256 + b)) % 65535 = (s + (a * 256 + b + tot l)) % 65535
    omega
theorem sumP_append : ∀ (l m : List Int) (s : Int), l.length % 2 = 0 → sumP (l ++ m) s = sumP m (sumP l s)
  | [], m, s, _ => rfl
  | [a], m, s, h => by simp at h
  | a :: b :: l, m, s, h => by
    have := sumP_append l m (sumAdd s (a * 256 + b)) (by simp at h; omega)
    exact this
/-- How much a byte at place k counts. -/
def wt (k : Nat) : Int := if k % 2 = 0 then 256 else 1
theorem tot_set : ∀ (l : List Int) (k : Nat) (v : Int), k < l.length → tot (l.set k v) = tot l + (v - rd l (k : Int)) * wt k
  | [], k, v, h => by simp at h
  | [a], k, v, h => by
    obtain rfl : k = 0 := by simp at h; omega
    show v * 256 = a * 256 + (v - a) * 256
    omega
  | a :: b :: l, 0, v, h => by
    show v * 256 + b + tot l = a * 256 + b + tot l + (v - a) * 256
    omega
  | a :: b :: l, 1, v, h => by
    show a * 256 + v + tot l = a * 256 + b + tot l + (v - b) * 1
    omega
  | a :: b :: l, k + 2, v, h => by
    have ih := tot_set l k v (by simpa using h)
    have hw : wt (k + 2) = wt k := by unfold wt; rw [show (k + 2) % 2 = k % 2 by omega]
    have hr : rd (a :: b :: l) ((k + 2 : Nat) : Int) = rd l (k : Int) := by unfold rd; rfl
    show a * 256 + b + tot (l.set k v) = a * 256 + b + tot l + (v - rd (a :: b :: l) ((k + 2 : Nat) : Int)) * wt (k + 2)
    rw [ih, hw, hr]; omega
theorem xor16_nat : ∀ a : Nat, a < 256 → (a ^^^ 16 = a + 16 ∨ (a ^^^ 16) + 16 = a) ∧ a ^^^ 16 < 256 := by decide +kernel
theorem xor16 {a : Int} (h : 0 ≤ a ∧ a < 256) : (Go.bits .xor .u8 a 16 = a + 16 ∨ Go.bits .xor .u8 a 16 = a - 16) ∧ 0 ≤ Go.bits .xor .u8 a 16 ∧ Go.bits .xor .u8 a 16 < 256 := by
  obtain ⟨n, rfl⟩ : ∃ n : Nat, a = n := ⟨a.toNat, by omega⟩
  have hn : n < 256 := by omega
  obtain ⟨h1, h2⟩ := xor16_nat n hn
  have e : Go.bits .xor .u8 (n : Int) 16 = ((n ^^^ 16 : Nat) : Int) := by
    have ha' : n % 2 ^ IntKind.u8.bits = n := Nat.mod_eq_of_lt (by simp [IntKind.bits]; omega)
    rw [show (16 : Int) = ((16 : Nat) : Int) from rfl]
    simp only [Go.bits, BitVec.ofInt_natCast, BitVec.toNat_xor, BitVec.toNat_ofNat, ha']
    rw [show 16 % 2 ^ IntKind.u8.bits = 16 by simp [IntKind.bits], IntKind.wrap_u8]; omega
  rw [e]; omega

theorem implSumOf_eq {l : List Int} (hb : Bytes l) (hl : l.length ≤ 4611686018427387904) (k : Nat) : impl_SumOf.f k l = some (65535 - sumP l 0) := by
  unfold impl_SumOf.f impl_sumOf.f
  rw [if_pos ⟨bytesB_of hb, hl⟩]; rfl

/-- A number is the sum of bytes. -/
def sumFits (l : List Int) (s : Int) : Bool := decide ((0 ≤ s ∧ s ≤ 65535) ∧ s % 65535 = (65535 - sumP l 0) % 65535)
theorem implSumFits_eq {l : List Int} (hb : Bytes l) (hl : l.length ≤ 4611686018427387904) (s : Int) (k : Nat) : impl_SumFits.f k l s = some (sumFits l s) := by
  have hr := (sumP_mod l 0 hb (by omega)).1
  unfold impl_SumFits.f impl_sumOf.f sumFits
  rw [if_pos ⟨bytesB_of hb, hl⟩, word_eq]
  simp only [Option.bind_some]
  by_cases h1 : 0 ≤ s ∧ s ≤ 65535
  · rw [if_pos (decide_eq_true h1), Int.tmod_eq_emod_of_nonneg h1.1, Int.tmod_eq_emod_of_nonneg (by omega)]
    by_cases h2 : s = 65535 - sumP l 0
    · rw [if_pos h2, decide_eq_true ⟨h1, by rw [h2]⟩]
    · rw [if_neg h2]
      by_cases h3 : s % 65535 = 0
      · rw [if_pos h3]
        by_cases h4 : (65535 - sumP l 0) % 65535 = 0
        · rw [decide_eq_true ⟨h1, by omega⟩, h4]; rfl
        · rw [decide_eq_false (by omega), show ((65535 - sumP l 0) % 65535 == 0) = false from beq_eq_false_iff_ne.mpr h4]
      · rw [if_neg h3, decide_eq_false (by omega)]
  · rw [if_neg (by simpa using h1), decide_eq_false (by omega)]

theorem implbytesOf_loop : ∀ (i k : Nat) (v : Int) (o : List Int), i < k → i ≤ o.length → o.length < 4611686018427387904 →
    impl_bytesOf.l0 k v o ((i : Int) - 1) = some (be i v ++ o.drop i)
  | 0, k, v, o, hk, hi, hl => by
    obtain ⟨k, rfl⟩ : ∃ m, k = m + 1 := ⟨k - 1, by omega⟩
    simp only [impl_bytesOf.l0]
    rw [if_neg (by omega)]; simp [be]
  | i + 1, k, v, o, hk, hi, hl => by
    obtain ⟨k, rfl⟩ : ∃ m, k = m + 1 := ⟨k - 1, by omega⟩
    have e1 : ((i + 1 : Nat) : Int) - 1 = (i : Int) := by omega
    have e2 : wrap64 ((i : Int) - 1) = (i : Int) - 1 := w64 (by omega) (by omega)
    have e3 : ((i : Int)).toNat = i := by omega
    rw [e1]
    simp only [impl_bytesOf.l0]
    rw [if_pos (by omega), if_pos (by omega), if_pos (by omega), e2, implbytesOf_loop i k _ _ (by omega) (by simp; omega) (by simpa using hl), e3, drop_rd _ i (by simp; omega), rd_set_eq _ _ _ (by omega), List.drop_set_of_lt (by omega)]
    simp [be]
theorem implbytesOf_eq (v n : Int) (h0 : 0 ≤ n) (h1 : n ≤ 1073741824) (k : Nat) (hk : n.toNat < k) : impl_bytesOf.f k v n = some (be n.toNat v) := by
  unfold impl_bytesOf.f
  rw [if_pos h0, if_pos (by omega), w64 (by omega) (by omega)]
  obtain ⟨n, rfl⟩ : ∃ m : Nat, n = m := ⟨n.toNat, by omega⟩
  rw [implbytesOf_loop n k v _ (by omega) (by simp) (by simp; omega)]
  simp

/-- A number as n bytes, n in 1..4; none for others. -/
def bytesV (v n : Int) : List Int := if (1 ≤ n ∧ n ≤ 4) ∧ 0 ≤ v ∧ v < 256 ^ n.toNat then be n.toNat v else []
theorem four {n : Int} (h : 1 ≤ n ∧ n ≤ 4) : n = 1 ∨ n = 2 ∨ n = 3 ∨ n = 4 := by omega
theorem lim_of (n : Int) (h : 1 ≤ n ∧ n ≤ 4) : wrap64 (shl .i64 1 (wrap64 (8 * n)) - 1) = 256 ^ n.toNat - 1 ∧ 0 ≤ wrap64 (8 * n) := by
  rcases four h with rfl | rfl | rfl | rfl <;> decide +kernel
theorem bytesV_length (v n : Int) : (bytesV v n).length ≤ 4 := by
  unfold bytesV; split
  · rw [be_length]; omega
  · simp
theorem bytesV_bytes (v n : Int) : Bytes (bytesV v n) := by
  unfold bytesV; split
  · exact be_bytes _ _
  · exact Bytes.nil

theorem implBytesOf_eq (v n : Int) (k : Nat) (hk : 6 ≤ k) : impl_BytesOf.f k v n = some (bytesV v n) := by
  unfold impl_BytesOf.f bytesV
  simp only [in_eq, Option.bind_some]
  by_cases h1 : 1 ≤ n ∧ n ≤ 4
  · obtain ⟨e1, e2⟩ := lim_of n h1
    rw [if_pos (decide_eq_true h1), if_pos e2, e1]
    by_cases h2 : 0 ≤ v ∧ v ≤ 256 ^ n.toNat - 1
    · rw [if_pos (decide_eq_true h2), implbytesOf_eq v n (by omega) (by omega) k (by omega), if_pos ⟨h1, h2.1, by omega⟩]; rfl
    · rw [if_neg (by simpa using h2), if_neg (by omega)]
  · rw [if_neg (by simpa using h1), if_neg (fun h => h1 h.1)]

theorem alive_eq (k : Nat) (hk : 6 ≤ k) : laws_alive.f k = some true := by
  unfold laws_alive.f
  simp only [implBytesOf_eq _ _ k hk, Option.bind_some]
  rfl

theorem turn_mod {a b c : Int} (ha : 0 ≤ a ∧ a ≤ 65535) (hb : 0 ≤ b ∧ b ≤ 65535) (hc : 0 ≤ c ∧ c ≤ 65535) : (0 ≤ turn a b c ∧ turn a b c ≤ 65535) ∧ turn a b c % 65535 = (a + b - c) % 65535 := by
  unfold turn
  rw [if_pos ⟨ha, hb, hc⟩]
  have h1 := add1_range ha hb
  have h2 := add1_range h1 (b := 65535 - c) (by omega)
  refine ⟨h2, ?_⟩
  unfold add1
  split <;> split <;> omega
theorem drawSumTurned_eq (l : List Int) (hb : Bytes l) (k : Nat) (hk : 1 ≤ k) : ∃ a b c, spec_DrawSumTurned.f k l = some (a, b, c) := by
  obtain ⟨b, hb1, hb2, hb3⟩ := open_eq l hb
  unfold spec_DrawSumTurned.f
  obtain ⟨v1, p1, e1, _, _, g1, g2⟩ := drawWord_eq hb2 hb3 (p := 0) (by omega) (by omega) hk
  simp only [hb1, e1, Option.bind_some]
  rw [pick_eq hb2 hb3 (p := p1) (n := 20) (by omega) (by omega) (by omega) (by omega) hk]
  obtain ⟨v2, p2, e2, _, _, g3, g4⟩ := drawWord_eq hb2 hb3 (p := p1 + 1) (by omega) (by omega) hk
  simp only [e2, Option.bind_some]
  obtain ⟨v3, p3, e3, _, _, g5, g6⟩ := drawWord_eq hb2 hb3 (p := p2) (by omega) (by omega) hk
  simp only [e3, Option.bind_some]
  rw [pick_eq hb2 hb3 (p := p3) (n := 20) (by omega) (by omega) (by omega) (by omega) hk]
  exact ⟨_, _, _, rfl⟩
theorem sumP_front (v : Int) (hv : 0 ≤ v ∧ v ≤ 65535) : Bytes (([] ++ ([3, 77, 200, 5] : List Int)) ++ bytesV v 2) ∧ (([] ++ ([3, 77, 200, 5] : List Int)) ++ bytesV v 2).length = 6 ∧ sumP (([] ++ ([3, 77, 200, 5] : List Int)) ++ bytesV v 2) 0 = sumAdd 52050 v := by
  have ebv : bytesV v 2 = be 2 v := by unfold bytesV; rw [if_pos ⟨by omega, by omega, by show v < 65536; omega⟩]; rfl
  refine ⟨(Bytes.append Bytes.nil (fun x hx => by simp at hx; omega)).append (bytesV_bytes v 2), by rw [ebv]; rfl, ?_⟩
  rw [ebv]
  have e1 : sumAdd (sumAdd 0 (3 * 256 + 77)) (200 * 256 + 5) = 52050 := by unfold sumAdd; omega
  have e2 : v / 256 % 256 * 256 + v % 256 = v := by omega
  show sumAdd (sumAdd (sumAdd 0 (3 * 256 + 77)) (200 * 256 + 5)) (v / 256 % 256 * 256 + v % 256) = _
  rw [e1, e2]
theorem tl1 (p q b c t : Int) (m0 : p % 65535 = (52050 + b) % 65535) (m1 : q % 65535 = (52050 + c) % 65535) (t4 : t % 65535 = (65535 - p + b - c) % 65535) : t % 65535 = (65535 - q) % 65535 := by omega
theorem tl2 (a b c t u : Int) (t2 : t % 65535 = (a + b - c) % 65535) (t6 : u % 65535 = (t + c - b) % 65535) : u % 65535 = a % 65535 := by omega
theorem turned_law (a b c : Int) (ha : 0 ≤ a ∧ a ≤ 65535) (hb' : 0 ≤ b ∧ b ≤ 65535) (hc' : 0 ≤ c ∧ c ≤ 65535) :
    sumFits (([] ++ ([3, 77, 200, 5] : List Int)) ++ bytesV c 2) (turn (65535 - sumP (([] ++ ([3, 77, 200, 5] : List Int)) ++ bytesV b 2) 0) b c) = true ∧ 0 ≤ turn (turn a b c) c b ∧ turn (turn a b c) c b % 65535 = a % 65535 := by
  obtain ⟨t1, t2⟩ := turn_mod ha hb' hc'
  obtain ⟨f1, f2, f3⟩ := sumP_front b hb'
  obtain ⟨f4, f5, f6⟩ := sumP_front c hc'
  have r0 : 0 ≤ sumAdd 52050 b ∧ sumAdd 52050 b ≤ 65535 := sumAdd_range (by omega) hb'
  have r1 : 0 ≤ sumAdd 52050 c ∧ sumAdd 52050 c ≤ 65535 := sumAdd_range (by omega) hc'
  have m0 := sumAdd_mod (a := 52050) (b := b)
  have m1 := sumAdd_mod (a := 52050) (b := c)
  obtain ⟨t3, t4⟩ := turn_mod (a := 65535 - sumAdd 52050 b) (by omega) hb' hc'
  obtain ⟨t5, t6⟩ := turn_mod (a := turn a b c) (b := c) (c := b) t1 hc' hb'
  refine ⟨?_, t5.1, tl2 a b c _ _ t2 t6⟩
  unfold sumFits
  rw [f3, f6]
  exact decide_eq_true ⟨t3, tl1 _ _ b c _ m0 m1 t4⟩
theorem FnSumTurned : laws_FnSumTurned.Pure := by
  intro l hm hl hw
  have hb := Bytes.of_wf hw
  refine ⟨40, ?_⟩
  unfold laws_FnSumTurned.f
  by_cases h : (l.length : Int) > 1048576
  · rw [if_pos h]
  rw [if_neg h]
  obtain ⟨a, b, c, e⟩ := drawSumTurned_eq l hb 40 (by omega)
  simp only [e, implSumTurned_eq _ _ _ 40 (by omega), specSumTurned_eq _ _ _ 40 (by omega), implBytesOf_eq _ _ 40 (by omega), alive_eq 40 (by omega), Option.bind_some, if_true]
  by_cases hc : (0 ≤ a ∧ a ≤ 65535) ∧ (0 ≤ b ∧ b ≤ 65535) ∧ (0 ≤ c ∧ c ≤ 65535)
  · obtain ⟨ha, hb', hc'⟩ := hc
    obtain ⟨t1, t2⟩ := turn_mod ha hb' hc'
    obtain ⟨w1, w2, w3⟩ := turned_law a b c ha hb' hc'
    obtain ⟨f1, f2, _⟩ := sumP_front b hb'
    obtain ⟨f4, f5, _⟩ := sumP_front c hc'
    have l1 := bytesV_length b 2
    have l2 := bytesV_length c 2
    have q0 : ¬ turn a b c < 0 := by omega
    have q1 : (([] : List Int) ++ ([3, 77, 200, 5] : List Int)).length + (bytesV b 2).length < 140737488355328 := by simp; omega
    have q2 : (([] : List Int) ++ ([3, 77, 200, 5] : List Int)).length + (bytesV c 2).length < 140737488355328 := by simp; omega
    have q3 : ([] : List Int).length + ([3, 77, 200, 5] : List Int).length < 140737488355328 := by simp
    rw [if_neg q0, if_pos q3, if_pos q1, if_pos q3, if_pos q2, implSumOf_eq f1 (by omega) 40]
    simp only [Option.bind_some]
    rw [implSumFits_eq f4 (by omega) _ 40, w1]
    simp only [Option.bind_some, if_true]
    rw [Int.tmod_eq_emod_of_nonneg w2, Int.tmod_eq_emod_of_nonneg ha.1, if_pos w3]
  · have et : turn a b c = -1 := if_neg hc
    rw [et]; rfl

end Go.Proofs.Ytibfeacgnadiaaa.Pure

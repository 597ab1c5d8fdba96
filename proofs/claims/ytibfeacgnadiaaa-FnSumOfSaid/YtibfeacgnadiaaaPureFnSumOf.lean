/- SumOf: where pairs stand does not matter, and a turned byte is noticed; the statement's own bounds alone. -/
import Derived.Test.YtibfeacgnadiaaaPFnSumOfx3
import Derived.Test.YtibfeacgnadiaaaBase
namespace Go.Proofs.Ytibfeacgnadiaaa.Pure
set_option linter.unusedSimpArgs false
set_option linter.unusedVariables false
open Go Go.RowKit Go.Proofs.Ytibfeacgnadiaaa.PFnSumOf Go.Proofs.YtibfeacgnadiaaaW.PrintWords Go.Proofs.YtibfeacgnadiaaaW.PrintLast Go.Proofs.YtibfeacgnadiaaaW.PrintMore Go.Proofs.Ytibfeacgnadiaaa.Base

/-- What pick draws. -/
def pk (b : List Int) (p n : Int) : Int := ((spec_l20Rd_pick.f 1 b p n).getD (0, 0)).1
theorem pick_f (b : List Int) (hb : Bytes b) (hl : b.length ≤ 2000) (p n : Int) (h0 : 0 ≤ p) (h1 : p ≤ 1073741824) (h2 : -2147483648 ≤ n) (h3 : n ≤ 65536) (k : Nat) :
    ∃ v, spec_l20Rd_pick.f (k + 1) b p n = some (v, p + 1) ∧ 0 ≤ v ∧ (1 ≤ n → v < n) ∧ (n < 1 → v = 0) := by
  have ep : wrap64 (p + 1) = p + 1 := w64 (by omega) (by omega)
  have ep' : wrap64 (p + 1 - 1) = p := by rw [w64 (by omega) (by omega)]; omega
  unfold spec_l20Rd_pick.f
  rw [ep]
  simp only [spec_l20Rd_pick.j0, ep']
  by_cases hn : n < 1
  · rw [if_pos hn, if_pos trivial]
    exact ⟨0, rfl, by omega, fun h => by omega, fun _ => rfl⟩
  rw [if_neg hn]
  by_cases he : (b.length : Int) = 0
  · rw [if_pos (by simpa using he)]
    exact ⟨0, rfl, by omega, fun h => by omega, fun _ => rfl⟩
  rw [if_neg (by simpa using he)]
  by_cases hp : p < (b.length : Int)
  · rw [if_pos hp, if_pos h0, if_neg (by omega)]
    have hr := hb.at_ p
    rw [w64 (x := rd b p) (by omega) (by omega)]
    refine ⟨_, rfl, Int.tmod_nonneg _ hr.1, fun _ => ?_, fun h => by omega⟩
    rw [Int.tmod_eq_emod_of_nonneg hr.1]
    exact Int.emod_lt_of_pos _ (by omega)
  rw [if_neg hp]
  have m1 : 0 ≤ Int.tmod p (b.length : Int) ∧ Int.tmod p (b.length : Int) < (b.length : Int) := by
    rw [Int.tmod_eq_emod_of_nonneg h0]; exact ⟨Int.emod_nonneg _ he, Int.emod_lt_of_pos _ (by omega)⟩
  have e7 : wrap64 (wrap64 (p * 7) + 3) = p * 7 + 3 := by rw [w64 (x := p * 7) (by omega) (by omega), w64 (by omega) (by omega)]
  have m2 : 0 ≤ Int.tmod (p * 7 + 3) (b.length : Int) ∧ Int.tmod (p * 7 + 3) (b.length : Int) < (b.length : Int) := by
    rw [Int.tmod_eq_emod_of_nonneg (by omega)]; exact ⟨Int.emod_nonneg _ he, Int.emod_lt_of_pos _ (by omega)⟩
  rw [if_neg he, if_pos m1.1, if_pos m1.2, e7, if_pos m2.1, if_pos m2.2, if_neg (show ¬ n = 0 by omega)]
  have r1 := hb.at_ (Int.tmod p (b.length : Int))
  have r2 := hb.at_ (Int.tmod (p * 7 + 3) (b.length : Int))
  generalize rd b (Int.tmod p (b.length : Int)) = x1 at r1 ⊢
  generalize rd b (Int.tmod (p * 7 + 3) (b.length : Int)) = x2 at r2 ⊢
  have q0 : Int.tdiv p (b.length : Int) = p / (b.length : Int) := Int.tdiv_eq_ediv_of_nonneg h0
  have q1 : 0 ≤ p / (b.length : Int) := Int.ediv_nonneg h0 (by omega)
  have q2 : p / (b.length : Int) ≤ p := Int.ediv_le_self _ h0
  rw [q0]
  generalize p / (b.length : Int) = q at q1 q2 ⊢
  rw [w64 (x := x1) (by omega) (by omega), w64 (x := x2) (by omega) (by omega), w64 (x := x1 * 131) (by omega) (by omega), w64 (x := x2 * 1117) (by omega) (by omega), w64 (x := p * 29) (by omega) (by omega),
    w64 (x := q) (by omega) (by omega), w64 (x := q * 53) (by omega) (by omega), w64 (x := x1 * 131 + x2 * 1117) (by omega) (by omega), w64 (x := x1 * 131 + x2 * 1117 + p * 29) (by omega) (by omega), w64 (x := x1 * 131 + x2 * 1117 + p * 29 + q * 53) (by omega) (by omega)]
  obtain ⟨y, hy⟩ : ∃ y : Nat, x1 * 131 + x2 * 1117 + p * 29 + q * 53 = (y : Int) := ⟨(x1 * 131 + x2 * 1117 + p * 29 + q * 53).toNat, by omega⟩
  have hy2 : y < 1099511627776 := by omega
  rw [hy]
  have d0 : Int.tdiv (y : Int) 64 = ((y / 64 : Nat) : Int) := by rw [Int.tdiv_eq_ediv_of_nonneg (by omega)]; rfl
  have hz : y / 64 < 1099511627776 := by omega
  rw [d0, w64 (x := ((y / 64 : Nat) : Int)) (by omega) (by omega)]
  obtain ⟨ex, lx⟩ := xor_i64 y (y / 64) hy2 hz
  rw [ex]
  refine ⟨_, rfl, Int.tmod_nonneg _ (by omega), fun _ => ?_, fun h => by omega⟩
  rw [Int.tmod_eq_emod_of_nonneg (by omega)]
  exact Int.emod_lt_of_pos _ (by omega)
theorem pick_one (b : List Int) (p n : Int) (k : Nat) : spec_l20Rd_pick.f (k + 1) b p n = spec_l20Rd_pick.f 1 b p n := by
  unfold spec_l20Rd_pick.f
  simp only [spec_l20Rd_pick.j0]
theorem pick_eq {b : List Int} (hb : Bytes b) (hl : b.length ≤ 2000) {p n : Int} (h0 : 0 ≤ p) (h1 : p ≤ 1073741824) (h2 : -2147483648 ≤ n) (h3 : n ≤ 65536) {k : Nat} (hk : 1 ≤ k) : spec_l20Rd_pick.f k b p n = some (pk b p n, p + 1) := by
  obtain ⟨k, rfl⟩ : ∃ m, k = m + 1 := ⟨k - 1, by omega⟩
  rw [pick_one]
  obtain ⟨v, hv, _⟩ := pick_f b hb hl p n h0 h1 h2 h3 0
  unfold pk
  rw [hv]; rfl
theorem pk_range {b : List Int} (hb : Bytes b) (hl : b.length ≤ 2000) {p n : Int} (h0 : 0 ≤ p) (h1 : p ≤ 1073741824) (h2 : 1 ≤ n) (h3 : n ≤ 65536) : 0 ≤ pk b p n ∧ pk b p n < n := by
  obtain ⟨v, hv, g0, g1, _⟩ := pick_f b hb hl p n h0 h1 (by omega) h3 0
  unfold pk
  rw [hv]; exact ⟨g0, g1 h2⟩
/-- The bytes that are drawn from. -/
theorem open_eq (l : List Int) (hb : Bytes l) : ∃ b, spec_l20Open.f l = some (b, 0) ∧ Bytes b ∧ b.length ≤ 2000 := by
  unfold spec_l20Open.f
  by_cases h : (l.length : Int) > 2000
  · rw [if_pos h, if_pos (by omega)]
    exact ⟨_, rfl, hb.take _, by simp; omega⟩
  · rw [if_neg h]
    exact ⟨_, rfl, hb, by omega⟩

theorem drawBytes_loop {b : List Int} (hb : Bytes b) (hl : b.length ≤ 2000) : ∀ (d k : Nat) (p : Int) (o : List Int), d < k → Bytes o → o.length + d ≤ 4096 → 0 ≤ p → p + 2 * d ≤ 1073741824 →
    ∃ r p', spec_l20Rd_bytes.l0 k (d : Int) o b p = some (r, p') ∧ Bytes r ∧ r.length = o.length + d ∧ p ≤ p' ∧ p' ≤ p + 2 * d
  | 0, k, p, o, hk, ho, hlo, h0, h1 => by
    obtain ⟨k, rfl⟩ : ∃ m, k = m + 1 := ⟨k - 1, by omega⟩
    simp only [spec_l20Rd_bytes.l0]
    rw [if_neg (by omega)]
    exact ⟨o, p, rfl, ho, by omega, by omega, by omega⟩
  | d + 1, k, p, o, hk, ho, hlo, h0, h1 => by
    obtain ⟨k, rfl⟩ : ∃ m, k = m + 1 := ⟨k - 1, by omega⟩
    have e1 : wrap64 (((d + 1 : Nat) : Int) - 1) = (d : Int) := by rw [w64 (by omega) (by omega)]; omega
    simp only [spec_l20Rd_bytes.l0]
    rw [if_pos (by omega), pick_eq hb hl h0 (by omega) (by omega) (by omega) (show 1 ≤ k by omega)]
    simp only [Option.bind_some]
    rw [pick_eq hb hl (p := p + 1) (n := 256) (by omega) (by omega) (by omega) (by omega) (show 1 ≤ k by omega), pick_eq hb hl (p := p + 1) (n := 3) (by omega) (by omega) (by omega) (by omega) (show 1 ≤ k by omega)]
    simp only [Option.bind_some]
    rw [if_pos (show o.length < 140737488355328 by omega), if_pos (show o.length < 140737488355328 by omega), e1]
    by_cases h : pk b p 3 = 0
    · rw [if_pos h]
      obtain ⟨r, p', hr, g1, g2, g3, g4⟩ := drawBytes_loop hb hl d k (p + 1 + 1) (o ++ [pk b (p + 1) 256 % 256]) (by omega) (ho.append (Bytes.cons (Bytes.mod _) Bytes.nil)) (by simp; omega) (by omega) (by omega)
      exact ⟨r, p', hr, g1, by rw [g2]; simp; omega, by omega, by omega⟩
    · rw [if_neg h]
      obtain ⟨r, p', hr, g1, g2, g3, g4⟩ := drawBytes_loop hb hl d k (p + 1 + 1) (o ++ [wrap64 (pk b (p + 1) 3 + 97) % 256]) (by omega) (ho.append (Bytes.cons (Bytes.mod _) Bytes.nil)) (by simp; omega) (by omega) (by omega)
      exact ⟨r, p', hr, g1, by rw [g2]; simp; omega, by omega, by omega⟩
theorem drawBytes_eq {b : List Int} (hb : Bytes b) (hl : b.length ≤ 2000) {p n : Int} (h0 : 0 ≤ p) (h1 : p ≤ 536870912) (h2 : 0 ≤ n) (h3 : n ≤ 4096) {k : Nat} (hk : n.toNat < k) :
    ∃ r p', spec_l20Rd_bytes.f k b p n = some (r, p') ∧ Bytes r ∧ (r.length : Int) = n ∧ p ≤ p' ∧ p' ≤ p + 2 * n := by
  obtain ⟨n, rfl⟩ : ∃ m : Nat, n = m := ⟨n.toNat, by omega⟩
  obtain ⟨r, p', hr, g1, g2, g3, g4⟩ := drawBytes_loop hb hl n k p [] (by omega) Bytes.nil (by simp; omega) h0 (by omega)
  exact ⟨r, p', hr, g1, by simp at g2; omega, g3, by omega⟩

theorem bytesB_of {l : List Int} (h : Bytes l) : bytesB l = true := List.all_eq_true.mpr (fun x hx => decide_eq_true (h x hx))
/-- The pairs' numbers together. -/
def tot : List Int → Int
  | [] => 0
  | [a] => a * 256
  | a :: b :: l => a * 256 + b + tot l
theorem sumAdd_mod {a b : Int} : sumAdd a b % 65535 = (a + b) % 65535 := by unfold sumAdd; split <;> omega
theorem sumP_mod : ∀ (l : List Int) (s : Int), Bytes l → 0 ≤ s ∧ s ≤ 65535 → (0 ≤ sumP l s ∧ sumP l s ≤ 65535) ∧ sumP l s % 65535 = (s + tot l) % 65535
  | [], s, _, hs => ⟨hs, by simp [sumP, tot]⟩
  | [a], s, hb, hs => by
    have ha := hb a (by simp)
    exact ⟨sumAdd_range hs (by omega), sumAdd_mod⟩
  | a :: b :: l, s, hb, hs => by
    have ha := hb a (by simp)
    have hb' := hb b (by simp)
    have hr := sumAdd_range hs (b := a * 256 + b) (by omega)
    have hm := sumAdd_mod (a := s) (b := a * 256 + b)
    obtain ⟨h1, h2⟩ := sumP_mod l (sumAdd s (a * 256 + b)) (fun x hx => hb x (by simp [hx])) hr
    refine ⟨h1, ?_⟩
    show sumP l (sumAdd s (a * 256 + b)) % 65535 = (s + (a * 256 + b + tot l)) % 65535
    omega
theorem sumP_append : ∀ (l m : List Int) (s : Int), l.length % 2 = 0 → sumP (l ++ m) s = sumP m (sumP l s)
  | [], m, s, _ => rfl
  | [a], m, s, h => by simp at h
  | a :: b :: l, m, s, h => by
    have := sumP_append l m (sumAdd s (a * 256 + b)) (by simp at h; omega)
    exact this
/-- How much a byte at place k counts. -/
def wt (k : Nat) : Int := if k % 2 = 0 then 256 else 1
theorem tot_set : ∀ (l : List Int) (k : Nat) (v : Int), k < l.length → tot (l.set k v) = tot l + (v - rd l (k : Int)) * wt k
  | [], k, v, h => by simp at h
  | [a], k, v, h => by
    obtain rfl : k = 0 := by simp at h; omega
    show v * 256 = a * 256 + (v - a) * 256
    omega
  | a :: b :: l, 0, v, h => by
    show v * 256 + b + tot l = a * 256 + b + tot l + (v - a) * 256
    omega
  | a :: b :: l, 1, v, h => by
    show a * 256 + v + tot l = a * 256 + b + tot l + (v - b) * 1
    omega
  | a :: b :: l, k + 2, v, h => by
    have ih := tot_set l k v (by simpa using h)
    have hw : wt (k + 2) = wt k := by unfold wt; rw [show (k + 2) % 2 = k % 2 by omega]
    have hr : rd (a :: b :: l) ((k + 2 : Nat) : Int) = rd l (k : Int) := by unfold rd; rfl
    show a * 256 + b + tot (l.set k v) = a * 256 + b + tot l + (v - rd (a :: b :: l) ((k + 2 : Nat) : Int)) * wt (k + 2)
    rw [ih, hw, hr]; omega
theorem xor16_nat : ∀ a : Nat, a < 256 → (a ^^^ 16 = a + 16 ∨ (a ^^^ 16) + 16 = a) ∧ a ^^^ 16 < 256 := by decide +kernel
theorem xor16 {a : Int} (h : 0 ≤ a ∧ a < 256) : (Go.bits .xor .u8 a 16 = a + 16 ∨ Go.bits .xor .u8 a 16 = a - 16) ∧ 0 ≤ Go.bits .xor .u8 a 16 ∧ Go.bits .xor .u8 a 16 < 256 := by
  obtain ⟨n, rfl⟩ : ∃ n : Nat, a = n := ⟨a.toNat, by omega⟩
  have hn : n < 256 := by omega
  obtain ⟨h1, h2⟩ := xor16_nat n hn
  have e : Go.bits .xor .u8 (n : Int) 16 = ((n ^^^ 16 : Nat) : Int) := by
    have ha' : n % 2 ^ IntKind.u8.bits = n := Nat.mod_eq_of_lt (by simp [IntKind.bits]; omega)
    rw [show (16 : Int) = ((16 : Nat) : Int) from rfl]
    simp only [Go.bits, BitVec.ofInt_natCast, BitVec.toNat_xor, BitVec.toNat_ofNat, ha']
    rw [show 16 % 2 ^ IntKind.u8.bits = 16 by simp [IntKind.bits], IntKind.wrap_u8]; omega
  rw [e]; omega

theorem implSumOf_eq {l : List Int} (hb : Bytes l) (hl : l.length ≤ 4611686018427387904) (k : Nat) : impl_SumOf.f k l = some (65535 - sumP l 0) := by
  unfold impl_SumOf.f impl_sumOf.f
  rw [if_pos ⟨bytesB_of hb, hl⟩]; rfl

theorem sumAdd_two {s a b : Int} (hs : 0 ≤ s ∧ s ≤ 65535) (ha : 0 ≤ a ∧ a < 256) (hb : 0 ≤ b ∧ b < 256) : sumAdd (sumAdd s (a * 256)) b = sumAdd s (a * 256 + b) := by
  unfold sumAdd
  by_cases h1 : s + a * 256 > 65535
  · rw [if_pos h1, if_neg (by omega), if_pos (by omega)]; omega
  · rw [if_neg h1]
    by_cases h2 : s + a * 256 + b > 65535
    · rw [if_pos h2, if_pos (by omega)]; omega
    · rw [if_neg h2, if_neg (by omega)]; omega
theorem l1Sum_even (l : List Int) (hb : Bytes l) (hl : l.length < 4611686018427387904) (j k : Nat) (s : Int) (hs : 0 ≤ s ∧ s ≤ 65535) (h : 2 * j < l.length) :
    spec_l1Sum.l0 (k + 1) l s ((2 * j : Nat) : Int) = spec_l1Sum.l0 k l (sumAdd s (rd l ((2 * j : Nat) : Int) * 256)) ((2 * j + 1 : Nat) : Int) := by
  have hr := hb.at_ ((2 * j : Nat) : Int)
  have e1 : wrap64 (((2 * j : Nat) : Int) + 1) = ((2 * j + 1 : Nat) : Int) := by rw [w64 (by omega) (by omega)]; rfl
  simp only [spec_l1Sum.l0]
  rw [if_pos (by omega), if_pos (by rw [Int.tmod_eq_emod_of_nonneg (by omega)]; omega), if_pos (by omega), e1, w64 (x := rd l _) (by omega) (by omega), w64 (x := _ * 256) (by omega) (by omega), w64 (x := s + _) (by omega) (by omega)]
  unfold sumAdd
  by_cases h1 : s + rd l ((2 * j : Nat) : Int) * 256 > 65535
  · rw [if_pos h1, if_pos h1, w64 (by omega) (by omega)]
  · rw [if_neg h1, if_neg h1]
theorem l1Sum_odd (l : List Int) (hb : Bytes l) (hl : l.length < 4611686018427387904) (j k : Nat) (s : Int) (hs : 0 ≤ s ∧ s ≤ 65535) (h : 2 * j + 1 < l.length) :
    spec_l1Sum.l0 (k + 1) l s ((2 * j + 1 : Nat) : Int) = spec_l1Sum.l0 k l (sumAdd s (rd l ((2 * j + 1 : Nat) : Int))) ((2 * (j + 1) : Nat) : Int) := by
  have hr := hb.at_ ((2 * j + 1 : Nat) : Int)
  have e1 : wrap64 (((2 * j + 1 : Nat) : Int) + 1) = ((2 * (j + 1) : Nat) : Int) := by rw [w64 (by omega) (by omega)]; omega
  simp only [spec_l1Sum.l0]
  rw [if_pos (by omega), if_neg (by rw [Int.tmod_eq_emod_of_nonneg (by omega)]; omega), if_pos (by omega), e1, w64 (x := rd l _) (by omega) (by omega), w64 (x := s + _) (by omega) (by omega)]
  unfold sumAdd
  by_cases h1 : s + rd l ((2 * j + 1 : Nat) : Int) > 65535
  · rw [if_pos h1, if_pos h1, w64 (by omega) (by omega)]
  · rw [if_neg h1, if_neg h1]
theorem l1Sum_loop (l : List Int) (hb : Bytes l) (hl : l.length < 4611686018427387904) : ∀ (d k j : Nat) (s : Int), (l.length + 1) / 2 - j = d → j ≤ (l.length + 1) / 2 → 2 * d < k → 0 ≤ s ∧ s ≤ 65535 →
    spec_l1Sum.l0 k l s ((2 * j : Nat) : Int) = some (sumP (l.drop (2 * j)) s)
  | 0, k, j, s, hd, hj, hk, hs => by
    obtain ⟨k, rfl⟩ : ∃ m, k = m + 1 := ⟨k - 1, by omega⟩
    simp only [spec_l1Sum.l0]
    rw [if_neg (by omega), List.drop_of_length_le (by omega)]; rfl
  | d + 1, k, j, s, hd, hj, hk, hs => by
    obtain ⟨k, rfl⟩ : ∃ m, k = m + 1 + 1 := ⟨k - 2, by omega⟩
    have r0 := hb.at_ ((2 * j : Nat) : Int)
    rw [l1Sum_even l hb hl j (k + 1) s hs (by omega), drop_rd l (2 * j) (by omega)]
    by_cases h : 2 * j + 1 < l.length
    · have r1 := hb.at_ ((2 * j + 1 : Nat) : Int)
      rw [l1Sum_odd l hb hl j k _ (sumAdd_range hs (by omega)) h, drop_rd l (2 * j + 1) h, sumAdd_two hs r0 r1]
      rw [l1Sum_loop l hb hl d k (j + 1) _ (by omega) (by omega) (by omega) (sumAdd_range hs (by omega))]
      rfl
    · rw [List.drop_of_length_le (show l.length ≤ 2 * j + 1 by omega)]
      simp only [spec_l1Sum.l0]
      rw [if_neg (by omega)]; rfl
theorem specSumOf_eq {l : List Int} (hb : Bytes l) (hl : l.length < 4611686018427387904) (k : Nat) (hk : l.length + 1 < k) : spec_SumOf.f k l = some (65535 - sumP l 0) := by
  have hr := (sumP_mod l 0 hb (by omega)).1
  unfold spec_SumOf.f spec_l1Sum.f
  rw [show (0 : Int) = ((2 * 0 : Nat) : Int) from rfl]
  have := l1Sum_loop l hb hl ((l.length + 1) / 2) k 0 0 (by omega) (by omega) (by omega) (by omega)
  rw [show ((2 * 0 : Nat) : Int) = 0 from rfl] at this ⊢
  rw [this]
  simp only [Option.bind_some, Nat.mul_zero, List.drop_zero]
  rw [w64 (by omega) (by omega)]

theorem in_eq (a b c : Int) : impl_in.f a b c = some (decide (b ≤ a ∧ a ≤ c)) := by
  unfold impl_in.f
  by_cases h : a ≥ b <;> simp [h]

theorem implbytesOf_loop : ∀ (i k : Nat) (v : Int) (o : List Int), i < k → i ≤ o.length → o.length < 4611686018427387904 →
    impl_bytesOf.l0 k v o ((i : Int) - 1) = some (be i v ++ o.drop i)
  | 0, k, v, o, hk, hi, hl => by
    obtain ⟨k, rfl⟩ : ∃ m, k = m + 1 := ⟨k - 1, by omega⟩
    simp only [impl_bytesOf.l0]
    rw [if_neg (by omega)]; simp [be]
  | i + 1, k, v, o, hk, hi, hl => by
    obtain ⟨k, rfl⟩ : ∃ m, k = m + 1 := ⟨k - 1, by omega⟩
    have e1 : ((i + 1 : Nat) : Int) - 1 = (i : Int) := by omega
    have e2 : wrap64 ((i : Int) - 1) = (i : Int) - 1 := w64 (by omega) (by omega)
    have e3 : ((i : Int)).toNat = i := by omega
    rw [e1]
    simp only [impl_bytesOf.l0]
    rw [if_pos (by omega), if_pos (by omega), if_pos (by omega), e2, implbytesOf_loop i k _ _ (by omega) (by simp; omega) (by simpa using hl), e3, drop_rd _ i (by simp; omega), rd_set_eq _ _ _ (by omega), List.drop_set_of_lt (by omega)]
    simp [be]
theorem implbytesOf_eq (v n : Int) (h0 : 0 ≤ n) (h1 : n ≤ 1073741824) (k : Nat) (hk : n.toNat < k) : impl_bytesOf.f k v n = some (be n.toNat v) := by
  unfold impl_bytesOf.f
  rw [if_pos h0, if_pos (by omega), w64 (by omega) (by omega)]
  obtain ⟨n, rfl⟩ : ∃ m : Nat, n = m := ⟨n.toNat, by omega⟩
  rw [implbytesOf_loop n k v _ (by omega) (by simp) (by simp; omega)]
  simp

/-- A number as n bytes, n in 1..4; none for others. -/
def bytesV (v n : Int) : List Int := if (1 ≤ n ∧ n ≤ 4) ∧ 0 ≤ v ∧ v < 256 ^ n.toNat then be n.toNat v else []
theorem four {n : Int} (h : 1 ≤ n ∧ n ≤ 4) : n = 1 ∨ n = 2 ∨ n = 3 ∨ n = 4 := by omega
theorem lim_of (n : Int) (h : 1 ≤ n ∧ n ≤ 4) : wrap64 (shl .i64 1 (wrap64 (8 * n)) - 1) = 256 ^ n.toNat - 1 ∧ 0 ≤ wrap64 (8 * n) := by
  rcases four h with rfl | rfl | rfl | rfl <;> decide +kernel
theorem bytesV_length (v n : Int) : (bytesV v n).length ≤ 4 := by
  unfold bytesV; split
  · rw [be_length]; omega
  · simp
theorem bytesV_bytes (v n : Int) : Bytes (bytesV v n) := by
  unfold bytesV; split
  · exact be_bytes _ _
  · exact Bytes.nil

theorem implBytesOf_eq (v n : Int) (k : Nat) (hk : 6 ≤ k) : impl_BytesOf.f k v n = some (bytesV v n) := by
  unfold impl_BytesOf.f bytesV
  simp only [in_eq, Option.bind_some]
  by_cases h1 : 1 ≤ n ∧ n ≤ 4
  · obtain ⟨e1, e2⟩ := lim_of n h1
    rw [if_pos (decide_eq_true h1), if_pos e2, e1]
    by_cases h2 : 0 ≤ v ∧ v ≤ 256 ^ n.toNat - 1
    · rw [if_pos (decide_eq_true h2), implbytesOf_eq v n (by omega) (by omega) k (by omega), if_pos ⟨h1, h2.1, by omega⟩]; rfl
    · rw [if_neg (by simpa using h2), if_neg (by omega)]
  · rw [if_neg (by simpa using h1), if_neg (fun h => h1 h.1)]

theorem alive_eq (k : Nat) (hk : 6 ≤ k) : laws_alive.f k = some true := by
  unfold laws_alive.f
  simp only [implBytesOf_eq _ _ k hk, Option.bind_some]
  rfl

theorem drawSumOf_loop {b : List Int} (hb : Bytes b) (hl : b.length ≤ 2000) (n : Nat) (hn : n ≤ 1000) : ∀ (d k i : Nat) (o : List Int) (p : Int), n - i = d → i ≤ n → d < k → o.length = n → Bytes o → 0 ≤ p → p + 2 * d ≤ 1073741824 →
    ∃ r, spec_DrawSumOf.l0 k o (i : Int) b p = some r ∧ Bytes r ∧ r.length = n
  | 0, k, i, o, p, hd, hi, hk, ho, hbo, h0, h1 => by
    obtain ⟨k, rfl⟩ : ∃ m, k = m + 1 := ⟨k - 1, by omega⟩
    simp only [spec_DrawSumOf.l0]
    rw [if_neg (by omega)]
    exact ⟨o, rfl, hbo, ho⟩
  | d + 1, k, i, o, p, hd, hi, hk, ho, hbo, h0, h1 => by
    obtain ⟨k, rfl⟩ : ∃ m, k = m + 1 := ⟨k - 1, by omega⟩
    have e1 : wrap64 ((i : Int) + 1) = ((i + 1 : Nat) : Int) := by rw [w64 (by omega) (by omega)]; rfl
    simp only [spec_DrawSumOf.l0]
    rw [if_pos (by omega), pick_eq hb hl h0 (by omega) (by omega) (by omega) (show 1 ≤ k by omega)]
    simp only [Option.bind_some]
    rw [pick_eq hb hl (p := p + 1) (n := 2) (by omega) (by omega) (by omega) (by omega) (show 1 ≤ k by omega), e1]
    have r2 := pk_range hb hl (p := p + 1) (n := 2) (by omega) (by omega) (by omega) (by omega)
    simp only [Option.bind_some]
    have z : Bytes [0, 255] := Bytes.cons (by decide) (Bytes.cons (by decide) Bytes.nil)
    by_cases h : pk b p 3 = 0
    · rw [if_pos h, if_pos r2.1, if_pos (by simp; omega), if_pos (by omega)]
      exact drawSumOf_loop hb hl n hn d k (i + 1) _ (p + 1 + 1) (by omega) (by omega) (by omega) (by simp [ho]) (hbo.set _ (z.at_ _)) (by omega) (by omega)
    · rw [if_neg h]
      exact drawSumOf_loop hb hl n hn d k (i + 1) _ (p + 1) (by omega) (by omega) (by omega) ho hbo (by omega) (by omega)
theorem drawSumOf_eq (l : List Int) (hb : Bytes l) (k : Nat) (hk : 40 ≤ k) : ∃ r, spec_DrawSumOf.f k l = some r ∧ Bytes r ∧ r.length ≤ 19 := by
  obtain ⟨b, hb1, hb2, hb3⟩ := open_eq l hb
  unfold spec_DrawSumOf.f
  simp only [hb1, Option.bind_some]
  rw [pick_eq hb2 hb3 (p := 0) (n := 20) (by omega) (by omega) (by omega) (by omega) (by omega)]
  have r1 := pk_range hb2 hb3 (p := 0) (n := 20) (by omega) (by omega) (by omega) (by omega)
  obtain ⟨r, p', e1, g1, g2, g3, g4⟩ := drawBytes_eq hb2 hb3 (p := 0 + 1) (n := pk b 0 20) (by omega) (by omega) (by omega) (by omega) (k := k) (by omega)
  simp only [Option.bind_some, e1]
  obtain ⟨o, e2, g5, g6⟩ := drawSumOf_loop hb2 hb3 r.length (by omega) r.length k 0 r p' (by omega) (by omega) (by omega) rfl g1 (by omega) (by omega)
  exact ⟨o, e2, g5, by omega⟩
theorem sumP_comm (a b c d : Int) (l : List Int) (h1 : 0 ≤ a * 256 + b ∧ a * 256 + b ≤ 65535) (h2 : 0 ≤ c * 256 + d ∧ c * 256 + d ≤ 65535) : sumP (c :: d :: a :: b :: l) 0 = sumP (a :: b :: c :: d :: l) 0 := by
  show sumP l (sumAdd (sumAdd 0 (c * 256 + d)) (a * 256 + b)) = sumP l (sumAdd (sumAdd 0 (a * 256 + b)) (c * 256 + d))
  congr 1
  unfold sumAdd
  rw [if_neg (show ¬ 0 + (c * 256 + d) > 65535 by omega), if_neg (show ¬ 0 + (a * 256 + b) > 65535 by omega)]
  by_cases h : 0 + (c * 256 + d) + (a * 256 + b) > 65535
  · rw [if_pos h, if_pos (by omega)]; omega
  · rw [if_neg h, if_neg (by omega)]; omega
theorem FnSumOf_loop (b : List Int) (hb : Bytes b) (hl : b.length ≤ 19) : ∀ (d k i : Nat), b.length - i = d → i ≤ b.length → d + 10 < k → laws_FnSumOf.l0 k b (65535 - sumP b 0) (i : Int) = some true
  | 0, k, i, hd, hi, hk => by
    obtain ⟨k, rfl⟩ : ∃ m, k = m + 1 := ⟨k - 1, by omega⟩
    simp only [laws_FnSumOf.l0]
    rw [if_neg (by omega)]
    simp only [alive_eq k (by omega), Option.bind_some]
    by_cases h : (b.length : Int) < 4
    · rw [if_pos h]
    · rw [if_neg h, if_pos (by omega), if_pos (by omega), if_pos (by omega), if_pos (by omega), if_pos (by omega), if_pos (by simp; omega)]
      have e0 : b = rd b ((0 : Nat) : Int) :: rd b ((1 : Nat) : Int) :: rd b ((2 : Nat) : Int) :: rd b ((3 : Nat) : Int) :: b.drop 4 := by
        rw [← drop_rd b 3 (by omega), ← drop_rd b 2 (by omega), ← drop_rd b 1 (by omega), ← drop_rd b 0 (by omega)]; rfl
      have q0 := hb.at_ ((0 : Nat) : Int)
      have q1 := hb.at_ ((1 : Nat) : Int)
      have q2 := hb.at_ ((2 : Nat) : Int)
      have q3 := hb.at_ ((3 : Nat) : Int)
      have hb4 : Bytes ([rd b 2, rd b 3, rd b 0, rd b 1] ++ b.drop 4) := Bytes.append (Bytes.cons q2 (Bytes.cons q3 (Bytes.cons q0 (Bytes.cons q1 Bytes.nil)))) (hb.drop 4)
      rw [implSumOf_eq hb4 (by simp; omega) k]
      simp only [Option.bind_some]
      have es : sumP ([rd b 2, rd b 3, rd b 0, rd b 1] ++ b.drop 4) 0 = sumP b 0 := by
        have := sumP_comm (rd b ((0 : Nat) : Int)) (rd b ((1 : Nat) : Int)) (rd b ((2 : Nat) : Int)) (rd b ((3 : Nat) : Int)) (b.drop 4) (by omega) (by omega)
        rw [← e0] at this
        exact this
      rw [es, if_pos rfl]
  | d + 1, k, i, hd, hi, hk => by
    obtain ⟨k, rfl⟩ : ∃ m, k = m + 1 := ⟨k - 1, by omega⟩
    have e1 : wrap64 ((i : Int) + 1) = ((i + 1 : Nat) : Int) := by rw [w64 (by omega) (by omega)]; rfl
    have en : ((i : Int)).toNat = i := by omega
    have hi' : i < b.length := by omega
    have q := hb.at_ (i : Int)
    obtain ⟨x1, x2, x3⟩ := xor16 q
    simp only [laws_FnSumOf.l0, List.nil_append, Option.bind_some]
    rw [if_pos (by omega), if_pos (by simp; omega), if_pos (by omega), if_pos (by omega), e1, en]
    have hbs : Bytes (b.set i (Go.bits .xor .u8 (rd b (i : Int)) 16)) := hb.set i ⟨x2, x3⟩
    rw [implSumOf_eq hbs (by simp; omega) k]
    simp only [Option.bind_some]
    have s1 := sumP_mod b 0 hb (by omega)
    have s2 := sumP_mod _ 0 hbs (by omega)
    have ht := tot_set b i (Go.bits .xor .u8 (rd b (i : Int)) 16) hi'
    rw [Int.tmod_eq_emod_of_nonneg (by omega), Int.tmod_eq_emod_of_nonneg (by omega)]
    rw [if_neg ?_]
    · exact FnSumOf_loop b hb hl d k (i + 1) (by omega) (by omega) (by omega)
    · intro he
      have hwt : wt i = 256 ∨ wt i = 1 := by unfold wt; split <;> simp
      rcases x1 with x1 | x1 <;> rcases hwt with hwt | hwt <;> rw [x1, hwt] at ht <;> rw [x1] at he s2 <;> omega
theorem FnSumOf : laws_FnSumOf.Pure := by
  intro l hm hl hw
  have hb := Bytes.of_wf hw
  refine ⟨60, ?_⟩
  unfold laws_FnSumOf.f
  by_cases h : (l.length : Int) > 1048576
  · rw [if_pos h]
  rw [if_neg h]
  obtain ⟨b, e, hb2, hb3⟩ := drawSumOf_eq l hb 60 (by omega)
  have hr := sumP_mod b 0 hb2 (by omega)
  simp only [e, implSumOf_eq hb2 (by omega) 60, specSumOf_eq hb2 (by omega) 60 (by omega), Option.bind_some, if_true]
  rw [if_neg (by omega), decide_eq_false (by omega)]
  simp only [laws_FnSumOf.j0, Bool.false_eq_true, if_false]
  exact FnSumOf_loop b hb2 hb3 b.length 59 0 (by omega) (by omega) (by omega)

end Go.Proofs.Ytibfeacgnadiaaa.Pure

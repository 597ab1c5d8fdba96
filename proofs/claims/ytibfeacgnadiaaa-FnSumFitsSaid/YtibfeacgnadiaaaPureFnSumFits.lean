/- SumFits: with its sum behind it everything sums up to nothing; the statement's own bounds alone. -/
import Derived.Test.YtibfeacgnadiaaaPFnSumFitsx3
import Derived.Test.YtibfeacgnadiaaaBase
namespace Go.Proofs.Ytibfeacgnadiaaa.Pure
set_option linter.unusedSimpArgs false
set_option linter.unusedVariables false
open Go Go.RowKit Go.Proofs.Ytibfeacgnadiaaa.PFnSumFits Go.Proofs.YtibfeacgnadiaaaW.PrintWords Go.Proofs.YtibfeacgnadiaaaW.PrintLast Go.Proofs.YtibfeacgnadiaaaW.PrintMore Go.Proofs.Ytibfeacgnadiaaa.Base

/-- What pick draws. -/
def pk (b : List Int) (p n : Int) : Int := ((spec_l20Rd_pick.f 1 b p n).getD (0, 0)).1
theorem pick_f (b : List Int) (hb : Bytes b) (hl : b.length ≤ 2000) (p n : Int) (h0 : 0 ≤ p) (h1 : p ≤ 1073741824) (h2 : -2147483648 ≤ n) (h3 : n ≤ 65536) (k : Nat) :
    ∃ v, spec_l20Rd_pick.f (k + 1) b p n = some (v, p + 1) ∧ 0 ≤ v ∧ (1 ≤ n → v < n) ∧ (n < 1 → v = 0) := by
  have ep : wrap64 (p + 1) = p + 1 := w64 (by omega) (by omega)
  have ep' : wrap64 (p + 1 - 1) = p := by rw [w64 (by omega) (by omega)]; omega
  unfold spec_l20Rd_pick.f
  rw [ep]
  simp only [spec_l20Rd_pick.j0, ep']
  by_cases hn : n < 1
  · rw [if_pos hn, if_pos trivial]
    exact ⟨0, rfl, by omega, fun h => by omega, fun _ => rfl⟩
  rw [if_neg hn]
  by_cases he : (b.length : Int) = 0
  · rw [if_pos (by simpa using he)]
    exact ⟨0, rfl, by omega, fun h => by omega, fun _ => rfl⟩
  rw [if_neg (by simpa using he)]
  by_cases hp : p < (b.length : Int)
  · rw [if_pos hp, if_pos h0, if_neg (by omega)]
    have hr := hb.at_ p
    rw [w64 (x := rd b p) (by omega) (by omega)]
    refine ⟨_, rfl, Int.tmod_nonneg _ hr.1, fun _ => ?_, fun h => by omega⟩
    rw [Int.tmod_eq_emod_of_nonneg hr.1]
    exact Int.emod_lt_of_pos _ (by omega)
  rw [if_neg hp]
  have m1 : 0 ≤ Int.tmod p (b.length : Int) ∧ Int.tmod p (b.length : Int) < (b.length : Int) := by
    rw [Int.tmod_eq_emod_of_nonneg h0]; exact ⟨Int.emod_nonneg _ he, Int.emod_lt_of_pos _ (by omega)⟩
  have e7 : wrap64 (wrap64 (p * 7) + 3) = p * 7 + 3 := by rw [w64 (x := p * 7) (by omega) (by omega), w64 (by omega) (by omega)]
  have m2 : 0 ≤ Int.tmod (p * 7 + 3) (b.length : Int) ∧ Int.tmod (p * 7 + 3) (b.length : Int) < (b.length : Int) := by
    rw [Int.tmod_eq_emod_of_nonneg (by omega)]; exact ⟨Int.emod_nonneg _ he, Int.emod_lt_of_pos _ (by omega)⟩
  rw [if_neg he, if_pos m1.1, if_pos m1.2, e7, if_pos m2.1, if_pos m2.2, if_neg (show ¬ n = 0 by omega)]
  have r1 := hb.at_ (Int.tmod p (b.length : Int))
  have r2 := hb.at_ (Int.tmod (p * 7 + 3) (b.length : Int))
  generalize rd b (Int.tmod p (b.length : Int)) = x1 at r1 ⊢
  generalize rd b (Int.tmod (p * 7 + 3) (b.length : Int)) = x2 at r2 ⊢
  have q0 : Int.tdiv p (b.length : Int) = p / (b.length : Int) := Int.tdiv_eq_ediv_of_nonneg h0
  have q1 : 0 ≤ p / (b.length : Int) := Int.ediv_nonneg h0 (by omega)
  have q2 : p / (b.length : Int) ≤ p := Int.ediv_le_self _ h0
  rw [q0]
  generalize p / (b.length : Int) = q at q1 q2 ⊢
  rw [w64 (x := x1) (by omega) (by omega), w64 (x := x2) (by omega) (by omega), w64 (x := x1 * 131) (by omega) (by omega), w64 (x := x2 * 1117) (by omega) (by omega), w64 (x := p * 29) (by omega) (by omega),
    w64 (x := q) (by omega) (by omega), w64 (x := q * 53) (by omega) (by omega), w64 (x := x1 * 131 + x2 * 1117) (by omega) (by omega), w64 (x := x1 * 131 + x2 * 1117 + p * 29) (by omega) (by omega), w64 (x := x1 * 131 + x2 * 1117 + p * 29 + q * 53) (by omega) (by omega)]
  obtain ⟨y, hy⟩ : ∃ y : Nat, x1 * 131 + x2 * 1117 + p * 29 + q * 53 = (y : Int) := ⟨(x1 * 131 + x2 * 1117 + p * 29 + q * 53).toNat, by omega⟩
  have hy2 : y < 1099511627776 := by omega
  rw [hy]
  have d0 : Int.tdiv (y : Int) 64 = ((y / 64 : Nat) : Int) := by rw [Int.tdiv_eq_ediv_of_nonneg (by omega)]; rfl
  have hz : y / 64 < 1099511627776 := by omega
  rw [d0, w64 (x := ((y / 64 : Nat) : Int)) (by omega) (by omega)]
  obtain ⟨ex, lx⟩ := xor_i64 y (y / 64) hy2 hz
  rw [ex]
  refine ⟨_, rfl, Int.tmod_nonneg _ (by omega), fun _ => ?_, fun h => by omega⟩
  rw [Int.tmod_eq_emod_of_nonneg (by omega)]
  exact Int.emod_lt_of_pos _ (by omega)
theorem pick_one (b : List Int) (p n : Int) (k : Nat) : spec_l20Rd_pick.f (k + 1) b p n = spec_l20Rd_pick.f 1 b p n := by
  unfold spec_l20Rd_pick.f
  simp only [spec_l20Rd_pick.j0]
theorem pick_eq {b : List Int} (hb : Bytes b) (hl : b.length ≤ 2000) {p n : Int} (h0 : 0 ≤ p) (h1 : p ≤ 1073741824) (h2 : -2147483648 ≤ n) (h3 : n ≤ 65536) {k : Nat} (hk : 1 ≤ k) : spec_l20Rd_pick.f k b p n = some (pk b p n, p + 1) := by
  obtain ⟨k, rfl⟩ : ∃ m, k = m + 1 := ⟨k - 1, by omega⟩
  rw [pick_one]
  obtain ⟨v, hv, _⟩ := pick_f b hb hl p n h0 h1 h2 h3 0
  unfold pk
  rw [hv]; rfl
theorem pk_range {b : List Int} (hb : Bytes b) (hl : b.length ≤ 2000) {p n : Int} (h0 : 0 ≤ p) (h1 : p ≤ 1073741824) (h2 : 1 ≤ n) (h3 : n ≤ 65536) : 0 ≤ pk b p n ∧ pk b p n < n := by
  obtain ⟨v, hv, g0, g1, _⟩ := pick_f b hb hl p n h0 h1 (by omega) h3 0
  unfold pk
  rw [hv]; exact ⟨g0, g1 h2⟩
/-- The bytes that are drawn from. -/
theorem open_eq (l : List Int) (hb : Bytes l) : ∃ b, spec_l20Open.f l = some (b, 0) ∧ Bytes b ∧ b.length ≤ 2000 := by
  unfold spec_l20Open.f
  by_cases h : (l.length : Int) > 2000
  · rw [if_pos h, if_pos (by omega)]
    exact ⟨_, rfl, hb.take _, by simp; omega⟩
  · rw [if_neg h]
    exact ⟨_, rfl, hb, by omega⟩

theorem drawBytes_loop {b : List Int} (hb : Bytes b) (hl : b.length ≤ 2000) : ∀ (d k : Nat) (p : Int) (o : List Int), d < k → Bytes o → o.length + d ≤ 4096 → 0 ≤ p → p + 2 * d ≤ 1073741824 →
    ∃ r p', spec_l20Rd_bytes.l0 k (d : Int) o b p = some (r, p') ∧ Bytes r ∧ r.length = o.length + d ∧ p ≤ p' ∧ p' ≤ p + 2 * d
  | 0, k, p, o, hk, ho, hlo, h0, h1 => by
    obtain ⟨k, rfl⟩ : ∃ m, k = m + 1 := ⟨k - 1, by omega⟩
    simp only [spec_l20Rd_bytes.l0]
    rw [if_neg (by omega)]
    exact ⟨o, p, rfl, ho, by omega, by omega, by omega⟩
  | d + 1, k, p, o, hk, ho, hlo, h0, h1 => by
    obtain ⟨k, rfl⟩ : ∃ m, k = m + 1 := ⟨k - 1, by omega⟩
    have e1 : wrap64 (((d + 1 : Nat) : Int) - 1) = (d : Int) := by rw [w64 (by omega) (by omega)]; omega
    simp only [spec_l20Rd_bytes.l0]
    rw [if_pos (by omega), pick_eq hb hl h0 (by omega) (by omega) (by omega) (show 1 ≤ k by omega)]
    simp only [Option.bind_some]
    rw [pick_eq hb hl (p := p + 1) (n := 256) (by omega) (by omega) (by omega) (by omega) (show 1 ≤ k by omega), pick_eq hb hl (p := p + 1) (n := 3) (by omega) (by omega) (by omega) (by omega) (show 1 ≤ k by omega)]
    simp only [Option.bind_some]
    rw [if_pos (show o.length < 140737488355328 by omega), if_pos (show o.length < 140737488355328 by omega), e1]
    by_cases h : pk b p 3 = 0
    · rw [if_pos h]
      obtain ⟨r, p', hr, g1, g2, g3, g4⟩ := drawBytes_loop hb hl d k (p + 1 + 1) (o ++ [pk b (p + 1) 256 % 256]) (by omega) (ho.append (Bytes.cons (Bytes.mod _) Bytes.nil)) (by simp; omega) (by omega) (by omega)
      exact ⟨r, p', hr, g1, by rw [g2]; simp; omega, by omega, by omega⟩
    · rw [if_neg h]
      obtain ⟨r, p', hr, g1, g2, g3, g4⟩ := drawBytes_loop hb hl d k (p + 1 + 1) (o ++ [wrap64 (pk b (p + 1) 3 + 97) % 256]) (by omega) (ho.append (Bytes.cons (Bytes.mod _) Bytes.nil)) (by simp; omega) (by omega) (by omega)
      exact ⟨r, p', hr, g1, by rw [g2]; simp; omega, by omega, by omega⟩
theorem drawBytes_eq {b : List Int} (hb : Bytes b) (hl : b.length ≤ 2000) {p n : Int} (h0 : 0 ≤ p) (h1 : p ≤ 536870912) (h2 : 0 ≤ n) (h3 : n ≤ 4096) {k : Nat} (hk : n.toNat < k) :
    ∃ r p', spec_l20Rd_bytes.f k b p n = some (r, p') ∧ Bytes r ∧ (r.length : Int) = n ∧ p ≤ p' ∧ p' ≤ p + 2 * n := by
  obtain ⟨n, rfl⟩ : ∃ m : Nat, n = m := ⟨n.toNat, by omega⟩
  obtain ⟨r, p', hr, g1, g2, g3, g4⟩ := drawBytes_loop hb hl n k p [] (by omega) Bytes.nil (by simp; omega) h0 (by omega)
  exact ⟨r, p', hr, g1, by simp at g2; omega, g3, by omega⟩

theorem drawWord_eq {b : List Int} (hb : Bytes b) (hl : b.length ≤ 2000) {p : Int} (h0 : 0 ≤ p) (h1 : p ≤ 536870912) {k : Nat} (hk : 1 ≤ k) :
    ∃ v p', spec_l20Rd_word.f k b p = some (v, p') ∧ 0 ≤ v ∧ v ≤ 65535 ∧ p ≤ p' ∧ p' ≤ p + 3 := by
  unfold spec_l20Rd_word.f
  rw [pick_eq hb hl h0 (by omega) (by omega) (by omega) hk]
  simp only [Option.bind_some]
  rw [pick_eq hb hl (p := p + 1) (n := 3) (by omega) (by omega) (by omega) (by omega) hk, pick_eq hb hl (p := p + 1) (n := 256) (by omega) (by omega) (by omega) (by omega) hk]
  simp only [Option.bind_some]
  rw [pick_eq hb hl (p := p + 1 + 1) (n := 256) (by omega) (by omega) (by omega) (by omega) hk]
  simp only [Option.bind_some]
  have r1 := pk_range hb hl (p := p + 1) (n := 3) (by omega) (by omega) (by omega) (by omega)
  have r2 := pk_range hb hl (p := p + 1) (n := 256) (by omega) (by omega) (by omega) (by omega)
  have r3 := pk_range hb hl (p := p + 1 + 1) (n := 256) (by omega) (by omega) (by omega) (by omega)
  rw [w64 (x := 65535 - pk b (p + 1) 3) (by omega) (by omega), w64 (x := pk b (p + 1) 256 * 256) (by omega) (by omega), w64 (by omega) (by omega)]
  by_cases h2 : pk b p 4 = 0
  · rw [if_pos h2]; exact ⟨_, _, rfl, by omega, by omega, by omega, by omega⟩
  · rw [if_neg h2]
    by_cases h3 : pk b p 4 = 1
    · rw [if_pos h3]; exact ⟨_, _, rfl, by omega, by omega, by omega, by omega⟩
    · rw [if_neg h3]; exact ⟨_, _, rfl, by omega, by omega, by omega, by omega⟩

theorem bytesB_of {l : List Int} (h : Bytes l) : bytesB l = true := List.all_eq_true.mpr (fun x hx => decide_eq_true (h x hx))
/-- The pairs' numbers together. -/
def tot : List Int → Int
  | [] => 0
  | [a] => a * 256
  | a :: b :: l => a * 256 + b + tot l
theorem sumAdd_mod {a b : Int} : sumAdd a b % 65535 = (a + b) % 65535 := by unfold sumAdd; split <;> omega
theorem sumP_mod : ∀ (l : List Int) (s : Int), Bytes l → 0 ≤ s ∧ s ≤ 65535 → (0 ≤ sumP l s ∧ sumP l s ≤ 65535) ∧ sumP l s % 65535 = (s + tot l) % 65535
  | [], s, _, hs => ⟨hs, by simp [sumP, tot]⟩
  | [a], s, hb, hs => by
    have ha := hb a (by simp)
    exact ⟨sumAdd_range hs (by omega), sumAdd_mod⟩
  | a :: b :: l, s, hb, hs => by
    have ha := hb a (by simp)
    have hb' := hb b (by simp)
    have hr := sumAdd_range hs (b := a * 256 + b) (by omega)
    have hm := sumAdd_mod (a := s) (b := a * 256 + b)
    obtain ⟨h1, h2⟩ := sumP_mod l (sumAdd s (a * 256 + b)) (fun x hx => hb x (by simp [hx])) hr
    refine ⟨h1, ?_⟩
    show sumP l (sumAdd s (a * 256 + b)) % 65535 = (s + (a * 256 + b + tot l)) % 65535
    omega
theorem sumP_append : ∀ (l m : List Int) (s : Int), l.length % 2 = 0 → sumP (l ++ m) s = sumP m (sumP l s)
  | [], m, s, _ => rfl
  | [a], m, s, h => by simp at h
  | a :: b :: l, m, s, h => by
    have := sumP_append l m (sumAdd s (a * 256 + b)) (by simp at h; omega)
    exact this
/-- How much a byte at place k counts. -/
def wt (k : Nat) : Int := if k % 2 = 0 then 256 else 1
theorem tot_set : ∀ (l : List Int) (k : Nat) (v : Int), k < l.length → tot (l.set k v) = tot l + (v - rd l (k : Int)) * wt k
  | [], k, v, h => by simp at h
  | [a], k, v, h => by
    obtain rfl : k = 0 := by simp at h; omega
    show v * 256 = a * 256 + (v - a) * 256
    omega
  | a :: b :: l, 0, v, h => by
    show v * 256 + b + tot l = a * 256 + b + tot l + (v - a) * 256
    omega
  | a :: b :: l, 1, v, h => by
    show a * 256 + v + tot l = a * 256 + b + tot l + (v - b) * 1
    omega
  | a :: b :: l, k + 2, v, h => by
    have ih := tot_set l k v (by simpa using h)
    have hw : wt (k + 2) = wt k := by unfold wt; rw [show (k + 2) % 2 = k % 2 by omega]
    have hr : rd (a :: b :: l) ((k + 2 : Nat) : Int) = rd l (k : Int) := by unfold rd; rfl
    show a * 256 + b + tot (l.set k v) = a * 256 + b + tot l + (v - rd (a :: b :: l) ((k + 2 : Nat) : Int)) * wt (k + 2)
    rw [ih, hw, hr]; omega
theorem xor16_nat : ∀ a : Nat, a < 256 → (a ^^^ 16 = a + 16 ∨ (a ^^^ 16) + 16 = a) ∧ a ^^^ 16 < 256 := by decide +kernel
theorem xor16 {a : Int} (h : 0 ≤ a ∧ a < 256) : (Go.bits .xor .u8 a 16 = a + 16 ∨ Go.bits .xor .u8 a 16 = a - 16) ∧ 0 ≤ Go.bits .xor .u8 a 16 ∧ Go.bits .xor .u8 a 16 < 256 := by
  obtain ⟨n, rfl⟩ : ∃ n : Nat, a = n := ⟨a.toNat, by omega⟩
  have hn : n < 256 := by omega
  obtain ⟨h1, h2⟩ := xor16_nat n hn
  have e : Go.bits .xor .u8 (n : Int) 16 = ((n ^^^ 16 : Nat) : Int) := by
    have ha' : n % 2 ^ IntKind.u8.bits = n := Nat.mod_eq_of_lt (by simp [IntKind.bits]; omega)
    rw [show (16 : Int) = ((16 : Nat) : Int) from rfl]
    simp only [Go.bits, BitVec.ofInt_natCast, BitVec.toNat_xor, BitVec.toNat_ofNat, ha']
    rw [show 16 % 2 ^ IntKind.u8.bits = 16 by simp [IntKind.bits], IntKind.wrap_u8]; omega
  rw [e]; omega

theorem implSumOf_eq {l : List Int} (hb : Bytes l) (hl : l.length ≤ 4611686018427387904) (k : Nat) : impl_SumOf.f k l = some (65535 - sumP l 0) := by
  unfold impl_SumOf.f impl_sumOf.f
  rw [if_pos ⟨bytesB_of hb, hl⟩]; rfl

theorem l1In_eq (a b c : Int) : spec_l1In.f a b c = some (decide (b ≤ a ∧ a ≤ c)) := by
  unfold spec_l1In.f
  by_cases h : a ≥ b <;> simp [h]

theorem in_eq (a b c : Int) : impl_in.f a b c = some (decide (b ≤ a ∧ a ≤ c)) := by
  unfold impl_in.f
  by_cases h : a ≥ b <;> simp [h]

theorem word_eq (a : Int) : impl_word.f a = some (decide (0 ≤ a ∧ a ≤ 65535)) := by
  unfold impl_word.f
  rw [in_eq]; rfl

/-- A number is the sum of bytes. -/
def sumFits (l : List Int) (s : Int) : Bool := decide ((0 ≤ s ∧ s ≤ 65535) ∧ s % 65535 = (65535 - sumP l 0) % 65535)
theorem implSumFits_eq {l : List Int} (hb : Bytes l) (hl : l.length ≤ 4611686018427387904) (s : Int) (k : Nat) : impl_SumFits.f k l s = some (sumFits l s) := by
  have hr := (sumP_mod l 0 hb (by omega)).1
  unfold impl_SumFits.f impl_sumOf.f sumFits
  rw [if_pos ⟨bytesB_of hb, hl⟩, word_eq]
  simp only [Option.bind_some]
  by_cases h1 : 0 ≤ s ∧ s ≤ 65535
  · rw [if_pos (decide_eq_true h1), Int.tmod_eq_emod_of_nonneg h1.1, Int.tmod_eq_emod_of_nonneg (by omega)]
    by_cases h2 : s = 65535 - sumP l 0
    · rw [if_pos h2, decide_eq_true ⟨h1, by rw [h2]⟩]
    · rw [if_neg h2]
      by_cases h3 : s % 65535 = 0
      · rw [if_pos h3]
        by_cases h4 : (65535 - sumP l 0) % 65535 = 0
        · rw [decide_eq_true ⟨h1, by omega⟩, h4]; rfl
        · rw [decide_eq_false (by omega), show ((65535 - sumP l 0) % 65535 == 0) = false from beq_eq_false_iff_ne.mpr h4]
      · rw [if_neg h3, decide_eq_false (by omega)]
  · rw [if_neg (by simpa using h1), decide_eq_false (by omega)]

theorem sumAdd_two {s a b : Int} (hs : 0 ≤ s ∧ s ≤ 65535) (ha : 0 ≤ a ∧ a < 256) (hb : 0 ≤ b ∧ b < 256) : sumAdd (sumAdd s (a * 256)) b = sumAdd s (a * 256 + b) := by
  unfold sumAdd
  by_cases h1 : s + a * 256 > 65535
  · rw [if_pos h1, if_neg (by omega), if_pos (by omega)]; omega
  · rw [if_neg h1]
    by_cases h2 : s + a * 256 + b > 65535
    · rw [if_pos h2, if_pos (by omega)]; omega
    · rw [if_neg h2, if_neg (by omega)]; omega
theorem l1Sum_even (l : List Int) (hb : Bytes l) (hl : l.length < 4611686018427387904) (j k : Nat) (s : Int) (hs : 0 ≤ s ∧ s ≤ 65535) (h : 2 * j < l.length) :
    spec_l1Sum.l0 (k + 1) l s ((2 * j : Nat) : Int) = spec_l1Sum.l0 k l (sumAdd s (rd l ((2 * j : Nat) : Int) * 256)) ((2 * j + 1 : Nat) : Int) := by
  have hr := hb.at_ ((2 * j : Nat) : Int)
  have e1 : wrap64 (((2 * j : Nat) : Int) + 1) = ((2 * j + 1 : Nat) : Int) := by rw [w64 (by omega) (by omega)]; rfl
  simp only [spec_l1Sum.l0]
  rw [if_pos (by omega), if_pos (by rw [Int.tmod_eq_emod_of_nonneg (by omega)]; omega), if_pos (by omega), e1, w64 (x := rd l _) (by omega) (by omega), w64 (x := _ * 256) (by omega) (by omega), w64 (x := s + _) (by omega) (by omega)]
  unfold sumAdd
  by_cases h1 : s + rd l ((2 * j : Nat) : Int) * 256 > 65535
  · rw [if_pos h1, if_pos h1, w64 (by omega) (by omega)]
  · rw [if_neg h1, if_neg h1]
theorem l1Sum_odd (l : List Int) (hb : Bytes l) (hl : l.length < 4611686018427387904) (j k : Nat) (s : Int) (hs : 0 ≤ s ∧ s ≤ 65535) (h : 2 * j + 1 < l.length) :
    spec_l1Sum.l0 (k + 1) l s ((2 * j + 1 : Nat) : Int) = spec_l1Sum.l0 k l (sumAdd s (rd l ((2 * j + 1 : Nat) : Int))) ((2 * (j + 1) : Nat) : Int) := by
  have hr := hb.at_ ((2 * j + 1 : Nat) : Int)
  have e1 : wrap64 (((2 * j + 1 : Nat) : Int) + 1) = ((2 * (j + 1) : Nat) : Int) := by rw [w64 (by omega) (by omega)]; omega
  simp only [spec_l1Sum.l0]
  rw [if_pos (by omega), if_neg (by rw [Int.tmod_eq_emod_of_nonneg (by omega)]; omega), if_pos (by omega), e1, w64 (x := rd l _) (by omega) (by omega), w64 (x := s + _) (by omega) (by omega)]
  unfold sumAdd
  by_cases h1 : s + rd l ((2 * j + 1 : Nat) : Int) > 65535
  · rw [if_pos h1, if_pos h1, w64 (by omega) (by omega)]
  · rw [if_neg h1, if_neg h1]
theorem l1Sum_loop (l : List Int) (hb : Bytes l) (hl : l.length < 4611686018427387904) : ∀ (d k j : Nat) (s : Int), (l.length + 1) / 2 - j = d → j ≤ (l.length + 1) / 2 → 2 * d < k → 0 ≤ s ∧ s ≤ 65535 →
    spec_l1Sum.l0 k l s ((2 * j : Nat) : Int) = some (sumP (l.drop (2 * j)) s)
  | 0, k, j, s, hd, hj, hk, hs => by
    obtain ⟨k, rfl⟩ : ∃ m, k = m + 1 := ⟨k - 1, by omega⟩
    simp only [spec_l1Sum.l0]
    rw [if_neg (by omega), List.drop_of_length_le (by omega)]; rfl
  | d + 1, k, j, s, hd, hj, hk, hs => by
    obtain ⟨k, rfl⟩ : ∃ m, k = m + 1 + 1 := ⟨k - 2, by omega⟩
    have r0 := hb.at_ ((2 * j : Nat) : Int)
    rw [l1Sum_even l hb hl j (k + 1) s hs (by omega), drop_rd l (2 * j) (by omega)]
    by_cases h : 2 * j + 1 < l.length
    · have r1 := hb.at_ ((2 * j + 1 : Nat) : Int)
      rw [l1Sum_odd l hb hl j k _ (sumAdd_range hs (by omega)) h, drop_rd l (2 * j + 1) h, sumAdd_two hs r0 r1]
      rw [l1Sum_loop l hb hl d k (j + 1) _ (by omega) (by omega) (by omega) (sumAdd_range hs (by omega))]
      rfl
    · rw [List.drop_of_length_le (show l.length ≤ 2 * j + 1 by omega)]
      simp only [spec_l1Sum.l0]
      rw [if_neg (by omega)]; rfl
theorem specSumOf_eq {l : List Int} (hb : Bytes l) (hl : l.length < 4611686018427387904) (k : Nat) (hk : l.length + 1 < k) : spec_SumOf.f k l = some (65535 - sumP l 0) := by
  have hr := (sumP_mod l 0 hb (by omega)).1
  unfold spec_SumOf.f spec_l1Sum.f
  rw [show (0 : Int) = ((2 * 0 : Nat) : Int) from rfl]
  have := l1Sum_loop l hb hl ((l.length + 1) / 2) k 0 0 (by omega) (by omega) (by omega) (by omega)
  rw [show ((2 * 0 : Nat) : Int) = 0 from rfl] at this ⊢
  rw [this]
  simp only [Option.bind_some, Nat.mul_zero, List.drop_zero]
  rw [w64 (by omega) (by omega)]

theorem specSumFits_eq {l : List Int} (hb : Bytes l) (hl : l.length < 4611686018427387904) (s : Int) (k : Nat) (hk : l.length + 1 < k) : spec_SumFits.f k l s = some (sumFits l s) := by
  have hr := (sumP_mod l 0 hb (by omega)).1
  unfold spec_SumFits.f sumFits
  rw [l1In_eq, specSumOf_eq hb hl k hk]
  simp only [Option.bind_some]
  by_cases h1 : 0 ≤ s ∧ s ≤ 65535
  · rw [if_pos (decide_eq_true h1), Int.tmod_eq_emod_of_nonneg h1.1, Int.tmod_eq_emod_of_nonneg (by omega)]
    by_cases h2 : s % 65535 = (65535 - sumP l 0) % 65535
    · rw [decide_eq_true ⟨h1, h2⟩, h2]; simp
    · rw [decide_eq_false (fun h => h2 h.2), show (s % 65535 == (65535 - sumP l 0) % 65535) = false from beq_eq_false_iff_ne.mpr h2]
  · rw [if_neg (by simpa using h1), decide_eq_false (fun h => h1 h.1)]

theorem implbytesOf_loop : ∀ (i k : Nat) (v : Int) (o : List Int), i < k → i ≤ o.length → o.length < 4611686018427387904 →
    impl_bytesOf.l0 k v o ((i : Int) - 1) = some (be i v ++ o.drop i)
  | 0, k, v, o, hk, hi, hl => by
    obtain ⟨k, rfl⟩ : ∃ m, k = m + 1 := ⟨k - 1, by omega⟩
    simp only [impl_bytesOf.l0]
    rw [if_neg (by omega)]; simp [be]
  | i + 1, k, v, o, hk, hi, hl => by
    obtain ⟨k, rfl⟩ : ∃ m, k = m + 1 := ⟨k - 1, by omega⟩
    have e1 : ((i + 1 : Nat) : Int) - 1 = (i : Int) := by omega
    have e2 : wrap64 ((i : Int) - 1) = (i : Int) - 1 := w64 (by omega) (by omega)
    have e3 : ((i : Int)).toNat = i := by omega
    rw [e1]
    simp only [impl_bytesOf.l0]
    rw [if_pos (by omega), if_pos (by omega), if_pos (by omega), e2, implbytesOf_loop i k _ _ (by omega) (by simp; omega) (by simpa using hl), e3, drop_rd _ i (by simp; omega), rd_set_eq _ _ _ (by omega), List.drop_set_of_lt (by omega)]
    simp [be]
theorem implbytesOf_eq (v n : Int) (h0 : 0 ≤ n) (h1 : n ≤ 1073741824) (k : Nat) (hk : n.toNat < k) : impl_bytesOf.f k v n = some (be n.toNat v) := by
  unfold impl_bytesOf.f
  rw [if_pos h0, if_pos (by omega), w64 (by omega) (by omega)]
  obtain ⟨n, rfl⟩ : ∃ m : Nat, n = m := ⟨n.toNat, by omega⟩
  rw [implbytesOf_loop n k v _ (by omega) (by simp) (by simp; omega)]
  simp

/-- A number as n bytes, n in 1..4; none for others. -/
def bytesV (v n : Int) : List Int := if (1 ≤ n ∧ n ≤ 4) ∧ 0 ≤ v ∧ v < 256 ^ n.toNat then be n.toNat v else []
theorem four {n : Int} (h : 1 ≤ n ∧ n ≤ 4) : n = 1 ∨ n = 2 ∨ n = 3 ∨ n = 4 := by omega
theorem lim_of (n : Int) (h : 1 ≤ n ∧ n ≤ 4) : wrap64 (shl .i64 1 (wrap64 (8 * n)) - 1) = 256 ^ n.toNat - 1 ∧ 0 ≤ wrap64 (8 * n) := by
  rcases four h with rfl | rfl | rfl | rfl <;> decide +kernel
theorem bytesV_length (v n : Int) : (bytesV v n).length ≤ 4 := by
  unfold bytesV; split
  · rw [be_length]; omega
  · simp
theorem bytesV_bytes (v n : Int) : Bytes (bytesV v n) := by
  unfold bytesV; split
  · exact be_bytes _ _
  · exact Bytes.nil

theorem implBytesOf_eq (v n : Int) (k : Nat) (hk : 6 ≤ k) : impl_BytesOf.f k v n = some (bytesV v n) := by
  unfold impl_BytesOf.f bytesV
  simp only [in_eq, Option.bind_some]
  by_cases h1 : 1 ≤ n ∧ n ≤ 4
  · obtain ⟨e1, e2⟩ := lim_of n h1
    rw [if_pos (decide_eq_true h1), if_pos e2, e1]
    by_cases h2 : 0 ≤ v ∧ v ≤ 256 ^ n.toNat - 1
    · rw [if_pos (decide_eq_true h2), implbytesOf_eq v n (by omega) (by omega) k (by omega), if_pos ⟨h1, h2.1, by omega⟩]; rfl
    · rw [if_neg (by simpa using h2), if_neg (by omega)]
  · rw [if_neg (by simpa using h1), if_neg (fun h => h1 h.1)]

theorem alive_eq (k : Nat) (hk : 6 ≤ k) : laws_alive.f k = some true := by
  unfold laws_alive.f
  simp only [implBytesOf_eq _ _ k hk, Option.bind_some]
  rfl

theorem drawSumFits_eq (l : List Int) (hb : Bytes l) (k : Nat) (hk : 30 ≤ k) : ∃ b s, spec_DrawSumFits.f k l = some (b, s) ∧ Bytes b ∧ b.length ≤ 7 := by
  obtain ⟨b, hb1, hb2, hb3⟩ := open_eq l hb
  unfold spec_DrawSumFits.f
  simp only [hb1, Option.bind_some]
  rw [pick_eq hb2 hb3 (p := 0) (n := 8) (by omega) (by omega) (by omega) (by omega) (by omega)]
  have r1 := pk_range hb2 hb3 (p := 0) (n := 8) (by omega) (by omega) (by omega) (by omega)
  obtain ⟨r, p', e1, g1, g2, g3, g4⟩ := drawBytes_eq hb2 hb3 (p := 0 + 1) (n := pk b 0 8) (by omega) (by omega) (by omega) (by omega) (k := k) (by omega)
  simp only [Option.bind_some, e1]
  rw [pick_eq hb2 hb3 (p := p') (n := 3) (by omega) (by omega) (by omega) (by omega) (by omega)]
  simp only [Option.bind_some]
  obtain ⟨v, p2, e2, _, _, g5, g6⟩ := drawWord_eq hb2 hb3 (p := p' + 1) (by omega) (by omega) (k := k) (by omega)
  rw [specSumOf_eq g1 (by omega) k (by omega), pick_eq hb2 hb3 (p := p' + 1) (n := 8) (by omega) (by omega) (by omega) (by omega) (by omega), e2]
  simp only [Option.bind_some]
  rw [pick_eq hb2 hb3 (p := p2) (n := 8) (by omega) (by omega) (by omega) (by omega) (by omega)]
  simp only [Option.bind_some]
  split <;> exact ⟨r, _, rfl, g1, by omega⟩
theorem FnSumFits : laws_FnSumFits.Pure := by
  intro l hm hl hw
  have hb := Bytes.of_wf hw
  refine ⟨40, ?_⟩
  unfold laws_FnSumFits.f
  by_cases h : (l.length : Int) > 1048576
  · rw [if_pos h]
  rw [if_neg h]
  obtain ⟨b, s, e, hb2, hb3⟩ := drawSumFits_eq l hb 40 (by omega)
  have hr := sumP_mod b 0 hb2 (by omega)
  simp only [e, implSumFits_eq hb2 (by omega) s 40, specSumFits_eq hb2 (by omega) s 40 (by omega), Option.bind_some, bne_self_eq_false, Bool.false_eq_true, if_false]
  simp only [laws_FnSumFits.j0, alive_eq 39 (by omega), Option.bind_some]
  by_cases h1 : s < 0
  · have ef : sumFits b s = false := decide_eq_false (by omega)
    rw [if_pos h1, if_pos trivial, if_neg (by omega), ef]; rfl
  rw [if_neg h1]
  by_cases h2 : s > 65535
  · have ef : sumFits b s = false := decide_eq_false (by omega)
    rw [if_pos h2, if_pos trivial, if_pos (by omega), if_neg (by omega), ef]; rfl
  rw [if_neg h2]
  by_cases h3 : ((b.length : Int) % 2) = 1
  · rw [if_pos (by simpa using h3), if_pos (by omega), if_pos (by omega)]
  rw [if_neg (by simpa using h3)]
  have ebv : bytesV s 2 = be 2 s := by unfold bytesV; rw [if_pos ⟨by omega, by omega, by show s < 65536; omega⟩]; rfl
  have hbm : Bytes (([] ++ b) ++ bytesV s 2) := (Bytes.append Bytes.nil hb2).append (bytesV_bytes s 2)
  have hlv := bytesV_length s 2
  simp only [implBytesOf_eq s 2 39 (by omega), Option.bind_some]
  rw [if_pos (by simp; omega), if_pos (by simp; omega), implSumOf_eq hbm (by simp; omega) 39]
  simp only [Option.bind_some]
  have hs2 : sumP (([] ++ b) ++ bytesV s 2) 0 = sumAdd (sumP b 0) s := by
    rw [List.nil_append, sumP_append b _ 0 (by omega), ebv]
    show sumAdd (sumP b 0) (s / 256 % 256 * 256 + s % 256) = _
    congr 1; omega
  rw [hs2]
  have hm2 := sumAdd_mod (a := sumP b 0) (b := s)
  have hr2 := sumAdd_range hr.1 (b := s) (by omega)
  rw [Int.tmod_eq_emod_of_nonneg (by omega)]
  have : sumFits b s = ((65535 - sumAdd (sumP b 0) s) % 65535 == 0) := by
    unfold sumFits
    by_cases h4 : (65535 - sumAdd (sumP b 0) s) % 65535 = 0
    · rw [decide_eq_true ⟨by omega, by omega⟩, h4]; rfl
    · rw [decide_eq_false (by omega), show ((65535 - sumAdd (sumP b 0) s) % 65535 == 0) = false from beq_eq_false_iff_ne.mpr h4]
  rw [this]; simp

end Go.Proofs.Ytibfeacgnadiaaa.Pure

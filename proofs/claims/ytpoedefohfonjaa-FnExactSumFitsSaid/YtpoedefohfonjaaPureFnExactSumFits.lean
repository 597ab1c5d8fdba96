/- SumFits of the program is the reference's at all bytes and numbers; the statement's own bounds alone. -/
import Derived.Test.YtpoedefohfonjaaPFnExactSumFitsx2
import Derived.Test.YtpoedefohfonjaaBase
namespace Go.Proofs.Ytpoedefohfonjaa.Pure
set_option linter.unusedSimpArgs false
set_option linter.unusedVariables false
open Go Go.RowKit Go.Proofs.Ytpoedefohfonjaa.PFnExactSumFits Go.Proofs.YtpoedefohfonjaaW.PrintWords Go.Proofs.YtpoedefohfonjaaW.PrintLast Go.Proofs.YtpoedefohfonjaaW.PrintMore Go.Proofs.Ytpoedefohfonjaa.Base

theorem l1In_eq (a b c : Int) : spec_l1In.f a b c = some (decide (b ≤ a ∧ a ≤ c)) := by
  unfold spec_l1In.f
  by_cases h : a ≥ b <;> simp [h]

theorem in_eq (a b c : Int) : impl_in.f a b c = some (decide (b ≤ a ∧ a ≤ c)) := by
  unfold impl_in.f
  by_cases h : a ≥ b <;> simp [h]

theorem word_eq (a : Int) : impl_word.f a = some (decide (0 ≤ a ∧ a ≤ 65535)) := by
  unfold impl_word.f
  rw [in_eq]; rfl

theorem bytesB_of {l : List Int} (h : Bytes l) : bytesB l = true := List.all_eq_true.mpr (fun x hx => decide_eq_true (h x hx))
/-- The pairs' numbers together. -/
def tot : List Int → Int
  | [] => 0
  | [a] => a * 256
  | a :: b :: l => a * 256 + b + tot l
theorem sumAdd_mod {a b : Int} : sumAdd a b % 65535 = (a + b) % 65535 := by unfold sumAdd; split <;> omega
theorem sumP_mod : ∀ (l : List Int) (s : Int), Bytes l → 0 ≤ s ∧ s ≤ 65535 → (0 ≤ sumP l s ∧ sumP l s ≤ 65535) ∧ sumP l s % 65535 = (s + tot l) % 65535
  | [], s, _, hs => ⟨hs, by simp [sumP, tot]⟩
  | [a], s, hb, hs => by
    have ha := hb a (by simp)
    exact ⟨sumAdd_range hs (by omega), sumAdd_mod⟩
  | a :: b :: l, s, hb, hs => by
    have ha := hb a (by simp)
    have hb' := hb b (by simp)
    have hr := sumAdd_range hs (b := a * 256 + b) (by omega)
    have hm := sumAdd_mod (a := s) (b := a * 256 + b)
    obtain ⟨h1, h2⟩ := sumP_mod l (sumAdd s (a * 256 + b)) (fun x hx => hb x (by simp [hx])) hr
    refine ⟨h1, ?_⟩
    show sumP l (sumAdd s (a * 256 + b)) % 65535 = (s + (a * 256 + b + tot l)) % 65535
    omega
theorem sumP_append : ∀ (l m : List Int) (s : Int), l.length % 2 = 0 → sumP (l ++ m) s = sumP m (sumP l s)
  | [], m, s, _ => rfl
  | [a], m, s, h => by simp at h
  | a :: b :: l, m, s, h => by
    have := sumP_append l m (sumAdd s (a * 256 + b)) (by simp at h; omega)
    exact this
/-- How much a byte at place k counts. -/
def wt (k : Nat) : Int := if k % 2 = 0 then 256 else 1
theorem tot_set : ∀ (l : List Int) (k : Nat) (v : Int), k < l.length → tot (l.set k v) = tot l + (v - rd l (k : Int)) * wt k
  | [], k, v, h => by simp at h
  | [a], k, v, h => by
    obtain rfl : k = 0 := by simp at h; omega
    show v * 256 = a * 256 + (v - a) * 256
    omega
  | a :: b :: l, 0, v, h => by
    show v * 256 + b + tot l = a * 256 + b + tot l + (v - a) * 256
    omega
  | a :: b :: l, 1, v, h => by
    show a * 256 + v + tot l = a * 256 + b + tot l + (v - b) * 1
    omega
  | a :: b :: l, k + 2, v, h => by
    have ih := tot_set l k v (by simpa using h)
    have hw : wt (k + 2) = wt k := by unfold wt; rw [show (k + 2) % 2 = k % 2 by omega]
    have hr : rd (a :: b :: l) ((k + 2 : Nat) : Int) = rd l (k : Int) := by unfold rd; rfl
    show a * 256 + b + tot (l.set k v) = a * 256 + b + tot l + (v - rd (a :: b :: l) ((k + 2 : Nat) : Int)) * wt (k + 2)
    rw [ih, hw, hr]; omega
theorem xor16_nat : ∀ a : Nat, a < 256 → (a ^^^ 16 = a + 16 ∨ (a ^^^ 16) + 16 = a) ∧ a ^^^ 16 < 256 := by decide +kernel
theorem xor16 {a : Int} (h : 0 ≤ a ∧ a < 256) : (Go.bits .xor .u8 a 16 = a + 16 ∨ Go.bits .xor .u8 a 16 = a - 16) ∧ 0 ≤ Go.bits .xor .u8 a 16 ∧ Go.bits .xor .u8 a 16 < 256 := by
  obtain ⟨n, rfl⟩ : ∃ n : Nat, a = n := ⟨a.toNat, by omega⟩
  have hn : n < 256 := by omega
  obtain ⟨h1, h2⟩ := xor16_nat n hn
  have e : Go.bits .xor .u8 (n : Int) 16 = ((n ^^^ 16 : Nat) : Int) := by
    have ha' : n % 2 ^ IntKind.u8.bits = n := Nat.mod_eq_of_lt (by simp [IntKind.bits]; omega)
    rw [show (16 : Int) = ((16 : Nat) : Int) from rfl]
    simp only [Go.bits, BitVec.ofInt_natCast, BitVec.toNat_xor, BitVec.toNat_ofNat, ha']
    rw [show 16 % 2 ^ IntKind.u8.bits = 16 by simp [IntKind.bits], IntKind.wrap_u8]; omega
  rw [e]; omega

/-- A number is the sum of bytes. -/
def sumFits (l : List Int) (s : Int) : Bool := decide ((0 ≤ s ∧ s ≤ 65535) ∧ s % 65535 = (65535 - sumP l 0) % 65535)
theorem implSumFits_eq {l : List Int} (hb : Bytes l) (hl : l.length ≤ 4611686018427387904) (s : Int) (k : Nat) : impl_SumFits.f k l s = some (sumFits l s) := by
  have hr := (sumP_mod l 0 hb (by omega)).1
  unfold impl_SumFits.f impl_sumOf.f sumFits
  rw [if_pos ⟨bytesB_of hb, hl⟩, word_eq]
  simp only [Option.bind_some]
  by_cases h1 : 0 ≤ s ∧ s ≤ 65535
  · rw [if_pos (decide_eq_true h1), Int.tmod_eq_emod_of_nonneg h1.1, Int.tmod_eq_emod_of_nonneg (by omega)]
    by_cases h2 : s = 65535 - sumP l 0
    · rw [if_pos h2, decide_eq_true ⟨h1, by rw [h2]⟩]
    · rw [if_neg h2]
      by_cases h3 : s % 65535 = 0
      · rw [if_pos h3]
        by_cases h4 : (65535 - sumP l 0) % 65535 = 0
        · rw [decide_eq_true ⟨h1, by omega⟩, h4]; rfl
        · rw [decide_eq_false (by omega), show ((65535 - sumP l 0) % 65535 == 0) = false from beq_eq_false_iff_ne.mpr h4]
      · rw [if_neg h3, decide_eq_false (by omega)]
  · rw [if_neg (by simpa using h1), decide_eq_false (by omega)]

theorem sumAdd_two {s a b : Int} (hs : 0 ≤ s ∧ s ≤ 65535) (ha : 0 ≤ a ∧ a < 256) (hb : 0 ≤ b ∧ b < 256) : sumAdd (sumAdd s (a * 256)) b = sumAdd s (a * 256 + b) := by
  unfold sumAdd
  by_cases h1 : s + a * 256 > 65535
  · rw [if_pos h1, if_neg (by omega), if_pos (by omega)]; omega
  · rw [if_neg h1]
    by_cases h2 : s + a * 256 + b > 65535
    · rw [if_pos h2, if_pos (by omega)]; omega
    · rw [if_neg h2, if_neg (by omega)]; omega
theorem l1Sum_even (l : List Int) (hb : Bytes l) (hl : l.length < 4611686018427387904) (j k : Nat) (s : Int) (hs : 0 ≤ s ∧ s ≤ 65535) (h : 2 * j < l.length) :
    spec_l1Sum.l0 (k + 1) l s ((2 * j : Nat) : Int) = spec_l1Sum.l0 k l (sumAdd s (rd l ((2 * j : Nat) : Int) * 256)) ((2 * j + 1 : Nat) : Int) := by
  have hr := hb.at_ ((2 * j : Nat) : Int)
  have e1 : wrap64 (((2 * j : Nat) : Int) + 1) = ((2 * j + 1 : Nat) : Int) := by rw [w64 (by omega) (by omega)]; rfl
  simp only [spec_l1Sum.l0]
  rw [if_pos (by omega), if_pos (by rw [Int.tmod_eq_emod_of_nonneg (by omega)]; omega), if_pos (by omega), e1, w64 (x := rd l _) (by omega) (by omega), w64 (x := _ * 256) (by omega) (by omega), w64 (x := s + _) (by omega) (by omega)]
  unfold sumAdd
  by_cases h1 : s + rd l ((2 * j : Nat) : Int) * 256 > 65535
  · rw [if_pos h1, if_pos h1, w64 (by omega) (by omega)]
  · rw [if_neg h1, if_neg h1]
theorem l1Sum_odd (l : List Int) (hb : Bytes l) (hl : l.length < 4611686018427387904) (j k : Nat) (s : Int) (hs : 0 ≤ s ∧ s ≤ 65535) (h : 2 * j + 1 < l.length) :
    spec_l1Sum.l0 (k + 1) l s ((2 * j + 1 : Nat) : Int) = spec_l1Sum.l0 k l (sumAdd s (rd l ((2 * j + 1 : Nat) : Int))) ((2 * (j + 1) : Nat) : Int) := by
  have hr := hb.at_ ((2 * j + 1 : Nat) : Int)
  have e1 : wrap64 (((2 * j + 1 : Nat) : Int) + 1) = ((2 * (j + 1) : Nat) : Int) := by rw [w64 (by omega) (by omega)]; omega
  simp only [spec_l1Sum.l0]
  rw [if_pos (by omega), if_neg (by rw [Int.tmod_eq_emod_of_nonneg (by omega)]; omega), if_pos (by omega), e1, w64 (x := rd l _) (by omega) (by omega), w64 (x := s + _) (by omega) (by omega)]
  unfold sumAdd
  by_cases h1 : s + rd l ((2 * j + 1 : Nat) : Int) > 65535
  · rw [if_pos h1, if_pos h1, w64 (by omega) (by omega)]
  · rw [if_neg h1, if_neg h1]
theorem l1Sum_loop (l : List Int) (hb : Bytes l) (hl : l.length < 4611686018427387904) : ∀ (d k j : Nat) (s : Int), (l.length + 1) / 2 - j = d → j ≤ (l.length + 1) / 2 → 2 * d < k → 0 ≤ s ∧ s ≤ 65535 →
    spec_l1Sum.l0 k l s ((2 * j : Nat) : Int) = some (sumP (l.drop (2 * j)) s)
  | 0, k, j, s, hd, hj, hk, hs => by
    obtain ⟨k, rfl⟩ : ∃ m, k = m + 1 := ⟨k - 1, by omega⟩
    simp only [spec_l1Sum.l0]
    rw [if_neg (by omega), List.drop_of_length_le (by omega)]; rfl
  | d + 1, k, j, s, hd, hj, hk, hs => by
    obtain ⟨k, rfl⟩ : ∃ m, k = m + 1 + 1 := ⟨k - 2, by omega⟩
    have r0 := hb.at_ ((2 * j : Nat) : Int)
    rw [l1Sum_even l hb hl j (k + 1) s hs (by omega), drop_rd l (2 * j) (by omega)]
    by_cases h : 2 * j + 1 < l.length
    · have r1 := hb.at_ ((2 * j + 1 : Nat) : Int)
      rw [l1Sum_odd l hb hl j k _ (sumAdd_range hs (by omega)) h, drop_rd l (2 * j + 1) h, sumAdd_two hs r0 r1]
      rw [l1Sum_loop l hb hl d k (j + 1) _ (by omega) (by omega) (by omega) (sumAdd_range hs (by omega))]
      rfl
    · rw [List.drop_of_length_le (show l.length ≤ 2 * j + 1 by omega)]
      simp only [spec_l1Sum.l0]
      rw [if_neg (by omega)]; rfl
theorem specSumOf_eq {l : List Int} (hb : Bytes l) (hl : l.length < 4611686018427387904) (k : Nat) (hk : l.length + 1 < k) : spec_SumOf.f k l = some (65535 - sumP l 0) := by
  have hr := (sumP_mod l 0 hb (by omega)).1
  unfold spec_SumOf.f spec_l1Sum.f
  rw [show (0 : Int) = ((2 * 0 : Nat) : Int) from rfl]
  have := l1Sum_loop l hb hl ((l.length + 1) / 2) k 0 0 (by omega) (by omega) (by omega) (by omega)
  rw [show ((2 * 0 : Nat) : Int) = 0 from rfl] at this ⊢
  rw [this]
  simp only [Option.bind_some, Nat.mul_zero, List.drop_zero]
  rw [w64 (by omega) (by omega)]

theorem specSumFits_eq {l : List Int} (hb : Bytes l) (hl : l.length < 4611686018427387904) (s : Int) (k : Nat) (hk : l.length + 1 < k) : spec_SumFits.f k l s = some (sumFits l s) := by
  have hr := (sumP_mod l 0 hb (by omega)).1
  unfold spec_SumFits.f sumFits
  rw [l1In_eq, specSumOf_eq hb hl k hk]
  simp only [Option.bind_some]
  by_cases h1 : 0 ≤ s ∧ s ≤ 65535
  · rw [if_pos (decide_eq_true h1), Int.tmod_eq_emod_of_nonneg h1.1, Int.tmod_eq_emod_of_nonneg (by omega)]
    by_cases h2 : s % 65535 = (65535 - sumP l 0) % 65535
    · rw [decide_eq_true ⟨h1, h2⟩, h2]; simp
    · rw [decide_eq_false (fun h => h2 h.2), show (s % 65535 == (65535 - sumP l 0) % 65535) = false from beq_eq_false_iff_ne.mpr h2]
  · rw [if_neg (by simpa using h1), decide_eq_false (fun h => h1 h.1)]

theorem toByteS_loop (l : List Int) (hn : l.length < 4611686018427387904) : ∀ (d k i : Nat) (o : List Int), l.length - i = d → i ≤ l.length → d < k → o.length = l.length → o.take i = l.take i →
    laws_toByteS.l0 k l o (i : Int) = some l
  | 0, k, i, o, hd, hi, hk, hl, ho => by
    obtain ⟨k, rfl⟩ : ∃ m, k = m + 1 := ⟨k - 1, by omega⟩
    simp only [laws_toByteS.l0]
    rw [if_neg (by omega)]
    rw [List.take_of_length_le (by omega), List.take_of_length_le (by omega)] at ho
    rw [ho]
  | d + 1, k, i, o, hd, hi, hk, hl, ho => by
    obtain ⟨k, rfl⟩ : ∃ m, k = m + 1 := ⟨k - 1, by omega⟩
    have e2 : wrap64 ((i : Int) + 1) = ((i + 1 : Nat) : Int) := by rw [w64 (by omega) (by omega)]; rfl
    simp only [laws_toByteS.l0]
    rw [if_pos (by omega), if_pos (by omega), if_pos (by omega), e2]
    exact toByteS_loop l hn d k (i + 1) _ (by omega) (by omega) (by omega) (by simp [hl]) (by simpa using set_take l o i (by omega) hl ho)
theorem toByteS_eq (l : List Int) (hn : l.length ≤ 140737488351232) (k : Nat) (hk : l.length < k) : laws_toByteS.f k l = some l := by
  unfold laws_toByteS.f
  rw [if_pos (by omega), if_pos (by omega)]
  exact toByteS_loop l (by omega) l.length k 0 _ (by omega) (by omega) hk (by simp) (by simp)

theorem eqByteS_loop (a b : List Int) (hab : a.length = b.length) (hn : a.length < 4611686018427387904) : ∀ (d k i : Nat), a.length - i = d → i ≤ a.length → d < k → a.take i = b.take i →
    laws_eqByteS.l0 k a b (i : Int) = some (decide (a = b))
  | 0, k, i, hd, hi, hk, ho => by
    obtain ⟨k, rfl⟩ : ∃ m, k = m + 1 := ⟨k - 1, by omega⟩
    simp only [laws_eqByteS.l0]
    rw [if_neg (by omega)]
    rw [List.take_of_length_le (by omega), List.take_of_length_le (by omega)] at ho
    rw [decide_eq_true ho]
  | d + 1, k, i, hd, hi, hk, ho => by
    obtain ⟨k, rfl⟩ : ∃ m, k = m + 1 := ⟨k - 1, by omega⟩
    have e2 : wrap64 ((i : Int) + 1) = ((i + 1 : Nat) : Int) := by rw [w64 (by omega) (by omega)]; rfl
    simp only [laws_eqByteS.l0]
    rw [if_pos (by omega), if_pos (by omega), if_pos (by omega), e2]
    by_cases h : rd a (i : Int) = rd b (i : Int)
    · rw [if_pos h]
      exact eqByteS_loop a b hab hn d k (i + 1) (by omega) (by omega) (by omega) (by rw [take_succ_rd a i (by omega), take_succ_rd b i (by omega), ho, h])
    · rw [if_neg h, decide_eq_false (fun e => h (by rw [e]))]
theorem eqByteS_eq (a b : List Int) (hn : a.length < 4611686018427387904) (k : Nat) (hk : a.length < k) : laws_eqByteS.f k a b = some (decide (a = b)) := by
  unfold laws_eqByteS.f
  by_cases h : (a.length : Int) = (b.length : Int)
  · rw [if_pos h]; exact eqByteS_loop a b (by omega) hn a.length k 0 (by omega) (by omega) hk (by simp)
  · rw [if_neg h, decide_eq_false (fun e => h (by rw [e]))]

theorem FnExactSumFits : laws_FnExactSumFits.Pure := by
  intro l s _ hl hw _
  have hb := Bytes.of_wf hw
  refine ⟨l.length + 6, ?_⟩
  unfold laws_FnExactSumFits.f
  by_cases h : (l.length : Int) > 1048576
  · rw [if_pos h]
  · rw [if_neg h]
    simp only [toByteS_eq l (by omega) (l.length + 6) (by omega), specSumFits_eq hb (by omega) s (l.length + 6) (by omega), implSumFits_eq hb (by omega) s (l.length + 6),
      eqByteS_eq l l (by omega) (l.length + 6) (by omega), Option.bind_some, if_true, decide_true, bne_self_eq_false, Bool.false_eq_true, if_false]

end Go.Proofs.Ytpoedefohfonjaa.Pure

/- FrameFrom of the program is the reference's at all bytes; the statement's own bounds alone. -/
import Derived.Test.YtbjfnpjkldfeiaaPFnExactFrameFromx7
import Derived.Test.YtbjfnpjkldfeiaaVBase
namespace Go.Proofs.Ytbjfnpjkldfeiaa.Pure
set_option linter.unusedSimpArgs false
set_option linter.unusedVariables false
open Go Go.RowKit Go.Proofs.Ytbjfnpjkldfeiaa.PFnExactFrameFrom Go.Proofs.YtbjfnpjkldfeiaaV.PrintWords Go.Proofs.YtbjfnpjkldfeiaaV.PrintLast Go.Proofs.YtbjfnpjkldfeiaaV.PrintMore Go.Proofs.Ytbjfnpjkldfeiaa.Base

theorem l1In_eq (a b c : Int) : spec_l1In.f a b c = some (decide (b ≤ a ∧ a ≤ c)) := by
  unfold spec_l1In.f
  by_cases h : a ≥ b <;> simp [h]

theorem in_eq (a b c : Int) : impl_in.f a b c = some (decide (b ≤ a ∧ a ≤ c)) := by
  unfold impl_in.f
  by_cases h : a ≥ b <;> simp [h]

/-- A frame is ok. -/
def frameOk (t f k : Int) (d : List Int) : Bool := decide ((0 ≤ t ∧ t ≤ 255) ∧ (0 ≤ f ∧ f ≤ 254) ∧ (0 ≤ k ∧ k ≤ 255) ∧ (d.length : Int) ≤ 64)
theorem specFrameOk_eq (t f k : Int) (d : List Int) : spec_FrameOk.f t f k d = some (frameOk t f k d) := by
  unfold spec_FrameOk.f frameOk
  simp only [l1In_eq, Option.bind_some]
  by_cases h1 : 0 ≤ t ∧ t ≤ 255 <;> by_cases h2 : 0 ≤ f ∧ f ≤ 254 <;> by_cases h3 : 0 ≤ k ∧ k ≤ 255 <;> simp [h1, h2, h3]
theorem implFrameOk_eq (t f k : Int) (d : List Int) : impl_FrameOk.f t f k d = some (frameOk t f k d) := by
  unfold impl_FrameOk.f frameOk
  simp only [in_eq, Option.bind_some]
  by_cases h1 : 0 ≤ t ∧ t ≤ 255 <;> by_cases h2 : 0 ≤ f ∧ f ≤ 254 <;> by_cases h3 : 0 ≤ k ∧ k ≤ 255 <;> simp [h1, h2, h3]

theorem bytesB_of {l : List Int} (h : Bytes l) : bytesB l = true := List.all_eq_true.mpr (fun x hx => decide_eq_true (h x hx))
/-- The pairs' numbers together. -/
def tot : List Int → Int
  | [] => 0
  | [a] => a * 256
  | a :: b :: l => a * 256 + b + tot l
theorem sumAdd_mod {a b : Int} : sumAdd a b % 65535 = (a + b) % 65535 := by unfold sumAdd; split <;> omega
theorem sumP_mod : ∀ (l : List Int) (s : Int), Bytes l → 0 ≤ s ∧ s ≤ 65535 → (0 ≤ sumP l s ∧ sumP l s ≤ 65535) ∧ sumP l s % 65535 = (s + tot l) % 65535
  | [], s, _, hs => ⟨hs, by simp [sumP, tot]⟩
  | [a], s, hb, hs => by
    have ha := hb a (by simp)
    exact ⟨sumAdd_range hs (by omega), sumAdd_mod⟩
  | a :: b :: l, s, hb, hs => by
    have ha := hb a (by simp)
    have hb' := hb b (by simp)
    have hr := sumAdd_range hs (b := a * 256 + b) (by omega)
    have hm := sumAdd_mod (a := s) (b := a * 256 + b)
    obtain ⟨h1, h2⟩ := sumP_mod l (sumAdd s (a * 256 + b)) (fun x hx => hb x (by simp [hx])) hr
    refine ⟨h1, ?_⟩
    show sumP l (sumAdd s (a * 256 + b)) % 65535 = (s + (a * 256 + b + tot l)) % 65535
    omega
theorem sumP_append : ∀ (l m : List Int) (s : Int), l.length % 2 = 0 → sumP (l ++ m) s = sumP m (sumP l s)
  | [], m, s, _ => rfl
  | [a], m, s, h => by simp at h
  | a :: b :: l, m, s, h => by
    have := sumP_append l m (sumAdd s (a * 256 + b)) (by simp at h; omega)
    exact this
/-- How much a byte at place k counts. -/
def wt (k : Nat) : Int := if k % 2 = 0 then 256 else 1
theorem tot_set : ∀ (l : List Int) (k : Nat) (v : Int), k < l.length → tot (l.set k v) = tot l + (v - rd l (k : Int)) * wt k
  | [], k, v, h => by simp at h
  | [a], k, v, h => by
    obtain rfl : k = 0 := by simp at h; omega
    show v * 256 = a * 256 + (v - a) * 256
    omega
  | a :: b :: l, 0, v, h => by
    show v * 256 + b + tot l = a * 256 + b + tot l + (v - a) * 256
    omega
  | a :: b :: l, 1, v, h => by
    show a * 256 + v + tot l = a * 256 + b + tot l + (v - b) * 1
    omega
  | a :: b :: l, k + 2, v, h => by
    have ih := tot_set l k v (by simpa using h)
    have hw : wt (k + 2) = wt k := by unfold wt; rw [show (k + 2) % 2 = k % 2 by omega]
    have hr : rd (a :: b :: l) ((k + 2 : Nat) : Int) = rd l (k : Int) := by unfold rd; rfl
    show a * 256 + b + tot (l.set k v) = a * 256 + b + tot l + (v - rd (a :: b :: l) ((k + 2 : Nat) : Int)) * wt (k + 2)
    rw [ih, hw, hr]; omega
theorem xor16_nat : ∀ a : Nat, a < 256 → (a ^^^ 16 = a + 16 ∨ (a ^^^ 16) + 16 = a) ∧ a ^^^ 16 < 256 := by decide +kernel
theorem xor16 {a : Int} (h : 0 ≤ a ∧ a < 256) : (Go.bits .xor .u8 a 16 = a + 16 ∨ Go.bits .xor .u8 a 16 = a - 16) ∧ 0 ≤ Go.bits .xor .u8 a 16 ∧ Go.bits .xor .u8 a 16 < 256 := by
  obtain ⟨n, rfl⟩ : ∃ n : Nat, a = n := ⟨a.toNat, by omega⟩
  have hn : n < 256 := by omega
  obtain ⟨h1, h2⟩ := xor16_nat n hn
  have e : Go.bits .xor .u8 (n : Int) 16 = ((n ^^^ 16 : Nat) : Int) := by
    have ha' : n % 2 ^ IntKind.u8.bits = n := Nat.mod_eq_of_lt (by simp [IntKind.bits]; omega)
    rw [show (16 : Int) = ((16 : Nat) : Int) from rfl]
    simp only [Go.bits, BitVec.ofInt_natCast, BitVec.toNat_xor, BitVec.toNat_ofNat, ha']
    rw [show 16 % 2 ^ IntKind.u8.bits = 16 by simp [IntKind.bits], IntKind.wrap_u8]; omega
  rw [e]; omega

/-- The sum's two bytes. -/
def sum2 (l : List Int) : List Int := be 2 (65535 - sumP l 0)
theorem sum2_len (l : List Int) : (sum2 l).length = 2 := by unfold sum2; rw [be_length]

/-- A frame's bytes ahead of the sum. -/
def frameHead (t f n : Int) (d : List Int) : List Int := [t, f, n, (d.length : Int)] ++ d
/-- A frame as bytes. -/
def frameBytes (t f n : Int) (d : List Int) : List Int := if frameOk t f n d = true then frameHead t f n d ++ sum2 (frameHead t f n d) else []
theorem frameOk_parts {t f n : Int} {d : List Int} (h : frameOk t f n d = true) : (0 ≤ t ∧ t ≤ 255) ∧ (0 ≤ f ∧ f ≤ 254) ∧ (0 ≤ n ∧ n ≤ 255) ∧ (d.length : Int) ≤ 64 := of_decide_eq_true h
theorem frameHead_len (t f n : Int) (d : List Int) : (frameHead t f n d).length = 4 + d.length := by unfold frameHead; rw [List.length_append]; rfl
theorem frameHead_bytes {t f n : Int} {d : List Int} (h : frameOk t f n d = true) (hd : Bytes d) : Bytes (frameHead t f n d) := by
  have hq := frameOk_parts h
  exact (Bytes.cons (by omega) (Bytes.cons (by omega) (Bytes.cons (by omega) (Bytes.cons (by omega) Bytes.nil)))).append hd
theorem frameHead_eq {t f n : Int} {d : List Int} (h : frameOk t f n d = true) : [t % 256, f % 256, n % 256, (d.length : Int) % 256] ++ d = frameHead t f n d := by
  have hq := frameOk_parts h
  rw [show t % 256 = t by omega, show f % 256 = f by omega, show n % 256 = n by omega, show (d.length : Int) % 256 = (d.length : Int) by omega]; rfl
theorem frameBytes_len (t f n : Int) (d : List Int) : (frameBytes t f n d).length ≤ 70 := by
  unfold frameBytes
  cases h : frameOk t f n d with
  | false => exact Nat.zero_le _
  | true =>
    have hq := frameOk_parts h
    rw [if_pos rfl, List.length_append, sum2_len, frameHead_len]; omega

theorem implbytesOf_loop : ∀ (i k : Nat) (v : Int) (o : List Int), i < k → i ≤ o.length → o.length < 4611686018427387904 →
    impl_bytesOf.l0 k v o ((i : Int) - 1) = some (be i v ++ o.drop i)
  | 0, k, v, o, hk, hi, hl => by
    obtain ⟨k, rfl⟩ : ∃ m, k = m + 1 := ⟨k - 1, by omega⟩
    simp only [impl_bytesOf.l0]
    rw [if_neg (by omega)]; simp [be]
  | i + 1, k, v, o, hk, hi, hl => by
    obtain ⟨k, rfl⟩ : ∃ m, k = m + 1 := ⟨k - 1, by omega⟩
    have e1 : ((i + 1 : Nat) : Int) - 1 = (i : Int) := by omega
    have e2 : wrap64 ((i : Int) - 1) = (i : Int) - 1 := w64 (by omega) (by omega)
    have e3 : ((i : Int)).toNat = i := by omega
    rw [e1]
    simp only [impl_bytesOf.l0]
    rw [if_pos (by omega), if_pos (by omega), if_pos (by omega), e2, implbytesOf_loop i k _ _ (by omega) (by simp; omega) (by simpa using hl), e3, drop_rd _ i (by simp; omega), rd_set_eq _ _ _ (by omega), List.drop_set_of_lt (by omega)]
    simp [be]
theorem implbytesOf_eq (v n : Int) (h0 : 0 ≤ n) (h1 : n ≤ 1073741824) (k : Nat) (hk : n.toNat < k) : impl_bytesOf.f k v n = some (be n.toNat v) := by
  unfold impl_bytesOf.f
  rw [if_pos h0, if_pos (by omega), w64 (by omega) (by omega)]
  obtain ⟨n, rfl⟩ : ∃ m : Nat, n = m := ⟨n.toNat, by omega⟩
  rw [implbytesOf_loop n k v _ (by omega) (by simp) (by simp; omega)]
  simp

theorem rdL_nat (ls : List (List Int)) (i : Nat) (h : i < ls.length) : rd_L1 ls (i : Int) = ls[i] := by
  unfold rd_L1; simp [List.getD_eq_getElem?_getD, List.getElem?_eq_getElem h]
theorem flat_next (ls : List (List Int)) (i : Nat) (h : i < ls.length) : (ls.take (i + 1)).flatten = (ls.take i).flatten ++ rd_L1 ls (i : Int) := by
  rw [List.take_succ_eq_append_getElem h, List.flatten_append, rdL_nat ls i h]; simp
theorem flat_le (ls : List (List Int)) (i : Nat) : (ls.take i).flatten.length ≤ ls.flatten.length := by
  have h : ls.flatten = (ls.take i).flatten ++ (ls.drop i).flatten := by rw [← List.flatten_append, List.take_append_drop]
  rw [h, List.length_append]; omega
theorem concat_loop1 (ls : List (List Int)) (hn : (ls.flatten.length : Int) ≤ 1048576) (hl : (ls.length : Int) < 1048576) : ∀ (d k i : Nat), ls.length - i = d → i ≤ ls.length → d < k →
    slices_Concat_byte_byte.l1 k (ls.take i).flatten ls (ls.length : Int) (i : Int) = some ls.flatten := by
  intro d
  induction d with
  | zero =>
    intro k i hd hi hk
    obtain ⟨k, rfl⟩ : ∃ m, k = m + 1 := ⟨k - 1, by omega⟩
    simp only [slices_Concat_byte_byte.l1]
    rw [if_neg (by omega), List.take_of_length_le (by omega)]
  | succ d ih =>
    intro k i hd hi hk
    obtain ⟨k, rfl⟩ : ∃ m, k = m + 1 := ⟨k - 1, by omega⟩
    have e1 : wrap64 ((i : Int) + 1) = ((i + 1 : Nat) : Int) := by rw [w64 (by omega) (by omega)]; rfl
    have h1 := flat_le ls (i + 1)
    rw [flat_next ls i (by omega), List.length_append] at h1
    simp only [slices_Concat_byte_byte.l1]
    rw [if_pos (by omega), if_pos (by omega), if_pos (by omega), if_pos (by omega), e1, ← flat_next ls i (by omega)]
    exact ih k (i + 1) (by omega) (by omega) (by omega)
theorem concat_loop0 (ls : List (List Int)) (hn : (ls.flatten.length : Int) ≤ 1048576) (hl : (ls.length : Int) < 1048576) : ∀ (d k i : Nat), ls.length - i = d → i ≤ ls.length → d + ls.length + 2 < k →
    slices_Concat_byte_byte.l0 k ls ((ls.take i).flatten.length : Int) ls (ls.length : Int) (i : Int) = some ls.flatten := by
  intro d
  induction d with
  | zero =>
    intro k i hd hi hk
    obtain ⟨k, rfl⟩ : ∃ m, k = m + 1 := ⟨k - 1, by omega⟩
    have h1 := flat_le ls i
    simp only [slices_Concat_byte_byte.l0]
    rw [if_neg (by omega)]
    unfold slices_Grow_byte_byte.f
    rw [if_pos (by omega)]
    exact concat_loop1 ls hn hl ls.length k 0 (by omega) (by omega) (by omega)
  | succ d ih =>
    intro k i hd hi hk
    obtain ⟨k, rfl⟩ : ∃ m, k = m + 1 := ⟨k - 1, by omega⟩
    have e1 : wrap64 ((i : Int) + 1) = ((i + 1 : Nat) : Int) := by rw [w64 (by omega) (by omega)]; rfl
    have h1 := flat_le ls (i + 1)
    have h2 := flat_next ls i (by omega)
    have h3 : ((ls.take (i + 1)).flatten.length : Int) = ((ls.take i).flatten.length : Int) + ((rd_L1 ls (i : Int)).length : Int) := by rw [h2, List.length_append]; omega
    have e2 : wrap64 (((ls.take i).flatten.length : Int) + ((rd_L1 ls (i : Int)).length : Int)) = ((ls.take (i + 1)).flatten.length : Int) := by rw [← h3, w64 (by omega) (by omega)]
    simp only [slices_Concat_byte_byte.l0]
    rw [if_pos (by omega), if_pos (by omega), if_pos (by omega), e2, if_neg (Int.not_lt.mpr (Int.natCast_nonneg _)), e1]
    exact ih k (i + 1) (by omega) (by omega) (by omega)
theorem concat_eq (ls : List (List Int)) (hn : (ls.flatten.length : Int) ≤ 1048576) (hl : (ls.length : Int) < 1048576) (k : Nat) (hk : 2 * ls.length + 2 < k) : slices_Concat_byte_byte.f k ls = some ls.flatten := by
  unfold slices_Concat_byte_byte.f
  exact concat_loop0 ls hn hl ls.length k 0 (by omega) (by omega) (by omega)

theorem implSum2 {l : List Int} (hb : Bytes l) (hl : l.length ≤ 70) (k : Nat) (hk : 80 ≤ k) : ((impl_sumOf.f k l).bind fun t => impl_bytesOf.f k t 2) = some (sum2 l) := by
  unfold impl_sumOf.f
  rw [if_pos ⟨bytesB_of hb, by omega⟩]
  simp only [Option.bind_some]
  rw [implbytesOf_eq _ 2 (by omega) (by omega) k (by omega)]
  rfl

theorem implFrameBytes_eq (t f n : Int) (d : List Int) (hd : Bytes d) (k : Nat) (hk : 80 ≤ k) : impl_FrameBytes.f k t f n d = some (frameBytes t f n d) := by
  unfold impl_FrameBytes.f frameBytes
  rw [implFrameOk_eq]
  simp only [Option.bind_some]
  cases h : frameOk t f n d with
  | false => rfl
  | true =>
    have hq := frameOk_parts h
    have h1 := implSum2 (frameHead_bytes h hd) (by rw [frameHead_len]; omega) k hk
    have h2 : (frameHead t f n d).length = 4 + d.length := frameHead_len _ _ _ _
    have h3 := sum2_len (frameHead t f n d)
    obtain ⟨x, hx, hy⟩ := Option.bind_eq_some_iff.mp h1
    rw [if_pos rfl, if_pos rfl, frameHead_eq h, if_pos (by simp only [List.length_cons, List.length_nil]; omega), hx]
    simp only [Option.bind_some]
    rw [hy]
    simp only [Option.bind_some]
    rw [concat_eq _ (by simp only [List.flatten_cons, List.flatten_nil, List.append_nil, List.length_append]; omega) (by simp only [List.length_cons, List.length_nil]; omega) k (by simp only [List.length_cons, List.length_nil]; omega)]
    simp only [Option.bind_some, List.flatten_cons, List.flatten_nil, List.append_nil]

/-- The number of n bytes at a place; -1 if there is none. -/
def numAt (l : List Int) (a n : Int) : Int := if (1 ≤ n ∧ n ≤ 4) ∧ 0 ≤ a ∧ a + n ≤ l.length then num ((l.drop a.toNat).take n.toNat) else -1
theorem num_take (l : List Int) (i : Nat) (h : i < l.length) : num (l.take (i + 1)) = num (l.take i) * 256 + rd l (i : Int) := by
  rw [take_succ_rd l i h, num_append]
theorem num_take_range {l : List Int} (h : Bytes l) (i : Nat) (hi : i ≤ 4) : 0 ≤ num (l.take i) ∧ num (l.take i) < 4294967296 := by
  have h1 := num_range _ (h.take i)
  refine ⟨h1.1, Int.lt_of_lt_of_le h1.2 ?_⟩
  have h2 : (l.take i).length ≤ 4 := by rw [List.length_take]; omega
  generalize (l.take i).length = n at h2
  obtain rfl | rfl | rfl | rfl | rfl : n = 0 ∨ n = 1 ∨ n = 2 ∨ n = 3 ∨ n = 4 := by omega
  all_goals decide
theorem rd_drop (l : List Int) (a i : Nat) : rd (l.drop a) (i : Int) = rd l ((a + i : Nat) : Int) := by
  unfold rd; rw [List.getD_eq_getElem?_getD, List.getD_eq_getElem?_getD, List.getElem?_drop]; rfl

theorem specNumberAt_loop (l : List Int) (hb : Bytes l) (a n : Nat) (hn : n ≤ 4) (ha : a + n ≤ l.length) (hl : l.length < 4611686018427387904) : ∀ (d k i : Nat), n - i = d → i ≤ n → d < k →
    spec_NumberAt.l0 k l (a : Int) (n : Int) (num ((l.drop a).take i)) (i : Int) = some (num ((l.drop a).take n))
  | 0, k, i, hd, hi, hk => by
    obtain ⟨k, rfl⟩ : ∃ m, k = m + 1 := ⟨k - 1, by omega⟩
    simp only [spec_NumberAt.l0]
    rw [if_neg (by omega)]
    obtain rfl : i = n := by omega
    rfl
  | d + 1, k, i, hd, hi, hk => by
    obtain ⟨k, rfl⟩ : ∃ m, k = m + 1 := ⟨k - 1, by omega⟩
    have e2 : wrap64 ((i : Int) + 1) = ((i + 1 : Nat) : Int) := by rw [w64 (by omega) (by omega)]; rfl
    have e3 : wrap64 ((a : Int) + (i : Int)) = ((a + i : Nat) : Int) := by rw [w64 (by omega) (by omega)]; rfl
    have hr := hb.at_ ((a + i : Nat) : Int)
    have hm := num_take_range (hb.drop a) i (by omega)
    simp only [spec_NumberAt.l0]
    rw [if_pos (by omega), e3, if_pos (by omega), if_pos (by omega), e2, w64 (x := rd l _) (by omega) (by omega), w64 (x := _ * 256) (by omega) (by omega), w64 (by omega) (by omega)]
    rw [← rd_drop, ← num_take _ i (by rw [List.length_drop]; omega)]
    exact specNumberAt_loop l hb a n hn ha hl d k (i + 1) (by omega) (by omega) (by omega)
theorem specNumberAt_eq (l : List Int) (hb : Bytes l) (hl : l.length < 4611686018427387904) (a n : Int) (k : Nat) (hk : 6 ≤ k) : spec_NumberAt.f k l a n = some (numAt l a n) := by
  obtain ⟨k, rfl⟩ : ∃ m, k = m + 1 := ⟨k - 1, by omega⟩
  unfold spec_NumberAt.f numAt
  simp only [l1In_eq, Option.bind_some, spec_NumberAt.j0]
  by_cases h1 : 1 ≤ n ∧ n ≤ 4
  · rw [if_pos (decide_eq_true h1), w64 (by omega) (by omega)]
    by_cases h2 : 0 ≤ a ∧ a ≤ (l.length : Int) - n
    · rw [decide_eq_true h2, if_neg (by decide), if_pos (by omega)]
      obtain ⟨a, rfl⟩ : ∃ m : Nat, a = m := ⟨a.toNat, by omega⟩
      obtain ⟨n, rfl⟩ : ∃ m : Nat, n = m := ⟨n.toNat, by omega⟩
      exact specNumberAt_loop l hb a n (by omega) (by omega) hl n k 0 (by omega) (by omega) (by omega)
    · rw [decide_eq_false h2, if_pos (by decide), if_neg (by omega)]
  · rw [if_neg (by simpa using h1), if_pos trivial, if_neg (by omega)]

theorem sumAdd_two {s a b : Int} (hs : 0 ≤ s ∧ s ≤ 65535) (ha : 0 ≤ a ∧ a < 256) (hb : 0 ≤ b ∧ b < 256) : sumAdd (sumAdd s (a * 256)) b = sumAdd s (a * 256 + b) := by
  unfold sumAdd
  by_cases h1 : s + a * 256 > 65535
  · rw [if_pos h1, if_neg (by omega), if_pos (by omega)]; omega
  · rw [if_neg h1]
    by_cases h2 : s + a * 256 + b > 65535
    · rw [if_pos h2, if_pos (by omega)]; omega
    · rw [if_neg h2, if_neg (by omega)]; omega
theorem l1Sum_even (l : List Int) (hb : Bytes l) (hl : l.length < 4611686018427387904) (j k : Nat) (s : Int) (hs : 0 ≤ s ∧ s ≤ 65535) (h : 2 * j < l.length) :
    spec_l1Sum.l0 (k + 1) l s ((2 * j : Nat) : Int) = spec_l1Sum.l0 k l (sumAdd s (rd l ((2 * j : Nat) : Int) * 256)) ((2 * j + 1 : Nat) : Int) := by
  have hr := hb.at_ ((2 * j : Nat) : Int)
  have e1 : wrap64 (((2 * j : Nat) : Int) + 1) = ((2 * j + 1 : Nat) : Int) := by rw [w64 (by omega) (by omega)]; rfl
  simp only [spec_l1Sum.l0]
  rw [if_pos (by omega), if_pos (by rw [Int.tmod_eq_emod_of_nonneg (by omega)]; omega), if_pos (by omega), e1, w64 (x := rd l _) (by omega) (by omega), w64 (x := _ * 256) (by omega) (by omega), w64 (x := s + _) (by omega) (by omega)]
  unfold sumAdd
  by_cases h1 : s + rd l ((2 * j : Nat) : Int) * 256 > 65535
  · rw [if_pos h1, if_pos h1, w64 (by omega) (by omega)]
  · rw [if_neg h1, if_neg h1]
theorem l1Sum_odd (l : List Int) (hb : Bytes l) (hl : l.length < 4611686018427387904) (j k : Nat) (s : Int) (hs : 0 ≤ s ∧ s ≤ 65535) (h : 2 * j + 1 < l.length) :
    spec_l1Sum.l0 (k + 1) l s ((2 * j + 1 : Nat) : Int) = spec_l1Sum.l0 k l (sumAdd s (rd l ((2 * j + 1 : Nat) : Int))) ((2 * (j + 1) : Nat) : Int) := by
  have hr := hb.at_ ((2 * j + 1 : Nat) : Int)
  have e1 : wrap64 (((2 * j + 1 : Nat) : Int) + 1) = ((2 * (j + 1) : Nat) : Int) := by rw [w64 (by omega) (by omega)]; omega
  simp only [spec_l1Sum.l0]
  rw [if_pos (by omega), if_neg (by rw [Int.tmod_eq_emod_of_nonneg (by omega)]; omega), if_pos (by omega), e1, w64 (x := rd l _) (by omega) (by omega), w64 (x := s + _) (by omega) (by omega)]
  unfold sumAdd
  by_cases h1 : s + rd l ((2 * j + 1 : Nat) : Int) > 65535
  · rw [if_pos h1, if_pos h1, w64 (by omega) (by omega)]
  · rw [if_neg h1, if_neg h1]
theorem l1Sum_loop (l : List Int) (hb : Bytes l) (hl : l.length < 4611686018427387904) : ∀ (d k j : Nat) (s : Int), (l.length + 1) / 2 - j = d → j ≤ (l.length + 1) / 2 → 2 * d < k → 0 ≤ s ∧ s ≤ 65535 →
    spec_l1Sum.l0 k l s ((2 * j : Nat) : Int) = some (sumP (l.drop (2 * j)) s)
  | 0, k, j, s, hd, hj, hk, hs => by
    obtain ⟨k, rfl⟩ : ∃ m, k = m + 1 := ⟨k - 1, by omega⟩
    simp only [spec_l1Sum.l0]
    rw [if_neg (by omega), List.drop_of_length_le (by omega)]; rfl
  | d + 1, k, j, s, hd, hj, hk, hs => by
    obtain ⟨k, rfl⟩ : ∃ m, k = m + 1 + 1 := ⟨k - 2, by omega⟩
    have r0 := hb.at_ ((2 * j : Nat) : Int)
    rw [l1Sum_even l hb hl j (k + 1) s hs (by omega), drop_rd l (2 * j) (by omega)]
    by_cases h : 2 * j + 1 < l.length
    · have r1 := hb.at_ ((2 * j + 1 : Nat) : Int)
      rw [l1Sum_odd l hb hl j k _ (sumAdd_range hs (by omega)) h, drop_rd l (2 * j + 1) h, sumAdd_two hs r0 r1]
      rw [l1Sum_loop l hb hl d k (j + 1) _ (by omega) (by omega) (by omega) (sumAdd_range hs (by omega))]
      rfl
    · rw [List.drop_of_length_le (show l.length ≤ 2 * j + 1 by omega)]
      simp only [spec_l1Sum.l0]
      rw [if_neg (by omega)]; rfl
theorem specSumOf_eq {l : List Int} (hb : Bytes l) (hl : l.length < 4611686018427387904) (k : Nat) (hk : l.length + 1 < k) : spec_SumOf.f k l = some (65535 - sumP l 0) := by
  have hr := (sumP_mod l 0 hb (by omega)).1
  unfold spec_SumOf.f spec_l1Sum.f
  rw [show (0 : Int) = ((2 * 0 : Nat) : Int) from rfl]
  have := l1Sum_loop l hb hl ((l.length + 1) / 2) k 0 0 (by omega) (by omega) (by omega) (by omega)
  rw [show ((2 * 0 : Nat) : Int) = 0 from rfl] at this ⊢
  rw [this]
  simp only [Option.bind_some, Nat.mul_zero, List.drop_zero]
  rw [w64 (by omega) (by omega)]

theorem equalB_loop (a b : List Int) (hab : a.length = b.length) (hn : a.length < 4611686018427387904) : ∀ (d k i : Nat), a.length - i = d → i ≤ a.length → d < k → a.take i = b.take i →
    slices_Equal_byte_byte.l0 k a b (a.length : Int) (i : Int) = some (decide (a = b))
  | 0, k, i, hd, hi, hk, ho => by
    obtain ⟨k, rfl⟩ : ∃ m, k = m + 1 := ⟨k - 1, by omega⟩
    simp only [slices_Equal_byte_byte.l0]
    rw [if_neg (by omega)]
    rw [List.take_of_length_le (by omega), List.take_of_length_le (by omega)] at ho
    rw [decide_eq_true ho]
  | d + 1, k, i, hd, hi, hk, ho => by
    obtain ⟨k, rfl⟩ : ∃ m, k = m + 1 := ⟨k - 1, by omega⟩
    have e2 : wrap64 ((i : Int) + 1) = ((i + 1 : Nat) : Int) := by rw [w64 (by omega) (by omega)]; rfl
    simp only [slices_Equal_byte_byte.l0]
    rw [if_pos (by omega), if_pos (by omega), if_pos (by omega), if_pos (by omega), e2]
    by_cases h : rd a (i : Int) = rd b (i : Int)
    · rw [if_pos h]
      exact equalB_loop a b hab hn d k (i + 1) (by omega) (by omega) (by omega) (by rw [take_succ_rd a i (by omega), take_succ_rd b i (by omega), ho, h])
    · rw [if_neg h, decide_eq_false (fun e => h (by rw [e]))]
theorem equalB_eq (a b : List Int) (hn : a.length < 4611686018427387904) (k : Nat) (hk : a.length < k) : slices_Equal_byte_byte.f k a b = some (decide (a = b)) := by
  unfold slices_Equal_byte_byte.f
  by_cases h : (a.length : Int) = (b.length : Int)
  · rw [if_pos h]; exact equalB_loop a b (by omega) hn a.length k 0 (by omega) (by omega) hk (by simp)
  · rw [if_neg h, decide_eq_false (fun e => h (by rw [e]))]

/-- The bytes that a frame's bytes carry. -/
def frameData (l : List Int) : List Int := (l.take (l.length - 2)).drop 4
/-- The frame of bytes. -/
def frameFrom (l : List Int) : Int × Int × Int × List Int × Bool :=
  if 6 ≤ l.length ∧ frameBytes (rd l 0) (rd l 1) (rd l 2) (frameData l) = l then (rd l 0, rd l 1, rd l 2, frameData l, true) else (0, 0, 0, [], false)
theorem frameData_len (l : List Int) : (frameData l).length = l.length - 6 := by unfold frameData; rw [List.length_drop, List.length_take]; omega
theorem frameData_bytes {l : List Int} (h : Bytes l) : Bytes (frameData l) := (h.take _).drop _
theorem frame_split (l : List Int) (h : 6 ≤ l.length) : l.take (l.length - 2) = [rd l 0, rd l 1, rd l 2, rd l 3] ++ frameData l := by
  have e := List.take_append_drop 4 (l.take (l.length - 2))
  rw [← e]
  show _ = [rd l 0, rd l 1, rd l 2, rd l 3] ++ (l.take (l.length - 2)).drop 4
  congr 1
  rw [List.take_take, Nat.min_eq_left (by omega)]
  have t0 := take_succ_rd l 0 (by omega)
  have t1 := take_succ_rd l 1 (by omega)
  have t2 := take_succ_rd l 2 (by omega)
  have t3 := take_succ_rd l 3 (by omega)
  rw [t3, t2, t1, t0]
  rfl
theorem frameBytes_self {l : List Int} (hb : Bytes l) (h : 6 ≤ l.length) : frameBytes (rd l 0) (rd l 1) (rd l 2) (frameData l) = l ↔
    frameOk (rd l 0) (rd l 1) (rd l 2) (frameData l) = true ∧ rd l 3 = ((frameData l).length : Int) ∧ numAt l ((l.length : Int) - 2) 2 = 65535 - sumP (l.take (l.length - 2)) 0 := by
  have hs := frame_split l h
  have hdl := frameData_len l
  have hn : numAt l ((l.length : Int) - 2) 2 = num (l.drop (l.length - 2)) := by
    unfold numAt
    rw [if_pos ⟨by omega, by omega, by omega⟩, show ((l.length : Int) - 2).toNat = l.length - 2 by omega, List.take_of_length_le (by rw [List.length_drop]; show l.length - (l.length - 2) ≤ 2; omega)]
  have htl : (l.drop (l.length - 2)).length = 2 := by rw [List.length_drop]; omega
  have htb : Bytes (l.drop (l.length - 2)) := hb.drop _
  unfold frameBytes
  cases ho : frameOk (rd l 0) (rd l 1) (rd l 2) (frameData l) with
  | false =>
    rw [if_neg (by decide)]
    constructor
    · intro e; rw [← e] at h; simp at h
    · rintro ⟨e, _⟩; cases e
  | true =>
    rw [if_pos rfl]
    have hh : (frameHead (rd l 0) (rd l 1) (rd l 2) (frameData l)).length = l.length - 2 := by rw [frameHead_len]; omega
    have hhb := frameHead_bytes ho (frameData_bytes hb)
    have hsr := (sumP_mod (frameHead (rd l 0) (rd l 1) (rd l 2) (frameData l)) 0 hhb (by omega)).1
    constructor
    · intro e
      have e1 : frameHead (rd l 0) (rd l 1) (rd l 2) (frameData l) = l.take (l.length - 2) := by
        have e3 : (frameHead (rd l 0) (rd l 1) (rd l 2) (frameData l) ++ sum2 (frameHead (rd l 0) (rd l 1) (rd l 2) (frameData l))).take (l.length - 2) = frameHead (rd l 0) (rd l 1) (rd l 2) (frameData l) := by
          rw [← hh]; exact List.take_left
        rw [← e3, e]
      have e2 : sum2 (frameHead (rd l 0) (rd l 1) (rd l 2) (frameData l)) = l.drop (l.length - 2) := by
        have e3 : (frameHead (rd l 0) (rd l 1) (rd l 2) (frameData l) ++ sum2 (frameHead (rd l 0) (rd l 1) (rd l 2) (frameData l))).drop (l.length - 2) = sum2 (frameHead (rd l 0) (rd l 1) (rd l 2) (frameData l)) := by
          rw [← hh]; exact List.drop_left
        rw [← e3, e]
      refine ⟨rfl, ?_, ?_⟩
      · rw [hs] at e1
        have e4 := congrArg (fun z => rd z 3) e1
        unfold frameHead at e4
        exact e4.symm
      · rw [hn, ← e2, ← e1]
        exact num_be 2 _ (by omega) (by show _ < 65536; omega)
    · rintro ⟨_, e1, e2⟩
      have e3 : frameHead (rd l 0) (rd l 1) (rd l 2) (frameData l) = l.take (l.length - 2) := by
        rw [hs]; unfold frameHead; rw [e1]
      rw [e3]
      have e4 : sum2 (l.take (l.length - 2)) = l.drop (l.length - 2) := by
        unfold sum2
        rw [← e2, hn]
        have := be_num _ htb
        rwa [htl] at this
      rw [e4, List.take_append_drop]
theorem frame_lens {l : List Int} (h : 6 ≤ l.length) (hl : l.length < 4611686018427387904) : wrap64 ((l.length : Int) - 2) = ((l.length - 2 : Nat) : Int) := by rw [w64 (by omega) (by omega)]; omega
theorem implFrameFrom_eq (l : List Int) (hb : Bytes l) (hl : l.length ≤ 1099511627776) (k : Nat) (hk : 80 ≤ k) : impl_FrameFrom.f k l = some (frameFrom l) := by
  unfold impl_FrameFrom.f frameFrom
  by_cases h : 6 ≤ l.length
  · have e := frame_lens h (by omega)
    have w0 : wrap64 (rd l 0) = rd l 0 := by have := hb.at_ 0; exact w64 (by omega) (by omega)
    have w1 : wrap64 (rd l 1) = rd l 1 := by have := hb.at_ 1; exact w64 (by omega) (by omega)
    have w2 : wrap64 (rd l 2) = rd l 2 := by have := hb.at_ 2; exact w64 (by omega) (by omega)
    rw [if_neg (by omega), if_pos (by omega), if_pos (by omega), if_pos (by omega), e, if_pos (by omega), if_pos (by omega), Int.toNat_natCast]
    rw [show (l.take (l.length - 2)).drop 4 = frameData l from rfl]
    unfold impl_clone_byte.f
    rw [if_pos (by rw [frameData_len]; omega)]
    simp only [Option.bind_some, w0, w1, w2]
    rw [implFrameBytes_eq _ _ _ _ (frameData_bytes hb) k hk]
    simp only [Option.bind_some]
    have hfl := frameBytes_len (rd l 0) (rd l 1) (rd l 2) (frameData l)
    rw [equalB_eq _ _ (by omega) k (by omega)]
    simp only [Option.bind_some, decide_eq_true_eq, h, true_and]
    split <;> rfl
  · rw [if_pos (by omega), if_neg (fun e => h e.1)]
theorem specFrameFrom_eq (l : List Int) (hb : Bytes l) (hl : l.length ≤ 1099511627776) (k : Nat) (hk : 80 ≤ k) (hk2 : l.length + 2 < k) : spec_FrameFrom.f k l = some (frameFrom l) := by
  obtain ⟨k, rfl⟩ : ∃ m, k = m + 1 := ⟨k - 1, by omega⟩
  unfold spec_FrameFrom.f frameFrom
  by_cases h : 6 ≤ l.length
  · have e := frame_lens h (by omega)
    have hdl := frameData_len l
    have w0 : wrap64 (rd l 0) = rd l 0 := by have := hb.at_ 0; exact w64 (by omega) (by omega)
    have w1 : wrap64 (rd l 1) = rd l 1 := by have := hb.at_ 1; exact w64 (by omega) (by omega)
    have w2 : wrap64 (rd l 2) = rd l 2 := by have := hb.at_ 2; exact w64 (by omega) (by omega)
    have w3 : wrap64 (rd l 3) = rd l 3 := by have := hb.at_ 3; exact w64 (by omega) (by omega)
    rw [if_neg (by omega), if_pos (by omega), if_pos (by omega), if_pos (by omega), e, Int.toNat_natCast]
    simp only [Option.bind_some, w0, w1, w2, w3, List.nil_append, List.length_nil, Nat.zero_add]
    rw [show (l.take (l.length - 2)).drop 4 = frameData l from rfl]
    have h3 : (3 : Int) < (l.length : Int) := by omega
    rw [if_pos (by omega), if_pos (by omega), if_pos (by omega)]
    have hp : (0 : Int) ≤ ((l.length - 2 : Nat) : Int) := by omega
    simp only [if_pos h3, specFrameOk_eq, specNumberAt_eq l hb (by omega) _ 2 (k + 1) (by omega), specSumOf_eq (hb.take (l.length - 2)) (by rw [List.length_take]; omega) (k + 1) (by rw [List.length_take]; omega), Option.bind_some, spec_FrameFrom.j0, if_true, if_pos hp]
    have hi := frameBytes_self hb h
    rw [show (l.length : Int) - 2 = ((l.length - 2 : Nat) : Int) by omega] at hi
    by_cases hf : frameBytes (rd l 0) (rd l 1) (rd l 2) (frameData l) = l
    · obtain ⟨h1, h2, h3⟩ := hi.1 hf
      rw [if_pos h1, if_pos h2, if_neg (by simp [h3]), if_pos ⟨h, hf⟩]
    · rw [if_neg (show ¬ (6 ≤ l.length ∧ frameBytes (rd l 0) (rd l 1) (rd l 2) (frameData l) = l) from fun q => hf q.2)]
      by_cases h1 : frameOk (rd l 0) (rd l 1) (rd l 2) (frameData l) = true
      · rw [if_pos h1]
        by_cases h2 : rd l 3 = ((frameData l).length : Int)
        · rw [if_pos h2, if_pos (by simp only [bne_iff_ne, ne_eq]; exact fun h3 => hf (hi.2 ⟨h1, h2, h3⟩))]
        · rw [if_neg h2]
      · rw [if_neg h1]
  · rw [if_pos (by omega), if_neg (fun e => h e.1)]

theorem toByteS_loop (l : List Int) (hn : l.length < 4611686018427387904) : ∀ (d k i : Nat) (o : List Int), l.length - i = d → i ≤ l.length → d < k → o.length = l.length → o.take i = l.take i →
    laws_toByteS.l0 k l o (i : Int) = some l
  | 0, k, i, o, hd, hi, hk, hl, ho => by
    obtain ⟨k, rfl⟩ : ∃ m, k = m + 1 := ⟨k - 1, by omega⟩
    simp only [laws_toByteS.l0]
    rw [if_neg (by omega)]
    rw [List.take_of_length_le (by omega), List.take_of_length_le (by omega)] at ho
    rw [ho]
  | d + 1, k, i, o, hd, hi, hk, hl, ho => by
    obtain ⟨k, rfl⟩ : ∃ m, k = m + 1 := ⟨k - 1, by omega⟩
    have e2 : wrap64 ((i : Int) + 1) = ((i + 1 : Nat) : Int) := by rw [w64 (by omega) (by omega)]; rfl
    simp only [laws_toByteS.l0]
    rw [if_pos (by omega), if_pos (by omega), if_pos (by omega), e2]
    exact toByteS_loop l hn d k (i + 1) _ (by omega) (by omega) (by omega) (by simp [hl]) (by simpa using set_take l o i (by omega) hl ho)
theorem toByteS_eq (l : List Int) (hn : l.length ≤ 140737488351232) (k : Nat) (hk : l.length < k) : laws_toByteS.f k l = some l := by
  unfold laws_toByteS.f
  rw [if_pos (by omega), if_pos (by omega)]
  exact toByteS_loop l (by omega) l.length k 0 _ (by omega) (by omega) hk (by simp) (by simp)

theorem eqByteS_loop (a b : List Int) (hab : a.length = b.length) (hn : a.length < 4611686018427387904) : ∀ (d k i : Nat), a.length - i = d → i ≤ a.length → d < k → a.take i = b.take i →
    laws_eqByteS.l0 k a b (i : Int) = some (decide (a = b))
  | 0, k, i, hd, hi, hk, ho => by
    obtain ⟨k, rfl⟩ : ∃ m, k = m + 1 := ⟨k - 1, by omega⟩
    simp only [laws_eqByteS.l0]
    rw [if_neg (by omega)]
    rw [List.take_of_length_le (by omega), List.take_of_length_le (by omega)] at ho
    rw [decide_eq_true ho]
  | d + 1, k, i, hd, hi, hk, ho => by
    obtain ⟨k, rfl⟩ : ∃ m, k = m + 1 := ⟨k - 1, by omega⟩
    have e2 : wrap64 ((i : Int) + 1) = ((i + 1 : Nat) : Int) := by rw [w64 (by omega) (by omega)]; rfl
    simp only [laws_eqByteS.l0]
    rw [if_pos (by omega), if_pos (by omega), if_pos (by omega), e2]
    by_cases h : rd a (i : Int) = rd b (i : Int)
    · rw [if_pos h]
      exact eqByteS_loop a b hab hn d k (i + 1) (by omega) (by omega) (by omega) (by rw [take_succ_rd a i (by omega), take_succ_rd b i (by omega), ho, h])
    · rw [if_neg h, decide_eq_false (fun e => h (by rw [e]))]
theorem eqByteS_eq (a b : List Int) (hn : a.length < 4611686018427387904) (k : Nat) (hk : a.length < k) : laws_eqByteS.f k a b = some (decide (a = b)) := by
  unfold laws_eqByteS.f
  by_cases h : (a.length : Int) = (b.length : Int)
  · rw [if_pos h]; exact eqByteS_loop a b (by omega) hn a.length k 0 (by omega) (by omega) hk (by simp)
  · rw [if_neg h, decide_eq_false (fun e => h (by rw [e]))]

theorem eqFrame_eq (t f n : Int) (d : List Int) (h : d.length ≤ 1048576) (k : Nat) (hk : d.length < k) : laws_eqFrame.f k t f n d t f n d = some true := by
  unfold laws_eqFrame.f
  simp only [eqByteS_eq d d (by omega) k hk, Option.bind_some, if_true, decide_true]

theorem markByteS_loop (n : Nat) (hn : n < 4611686018427387904) : ∀ (d k i : Nat) (o : List Int) (a : Int), n - i = d → i ≤ n → d < k → o.length = n → 0 ≤ a → a + d < 4611686018427387904 →
    laws_markByteS.l0 k o a (i : Int) = some (a + d, o.take i ++ marks a d)
  | 0, k, i, o, a, hd, hi, hk, hl, ha, hb => by
    obtain ⟨k, rfl⟩ : ∃ m, k = m + 1 := ⟨k - 1, by omega⟩
    simp only [laws_markByteS.l0]
    rw [if_neg (by omega), List.take_of_length_le (by omega)]
    simp [marks]
  | d + 1, k, i, o, a, hd, hi, hk, hl, ha, hb => by
    obtain ⟨k, rfl⟩ : ∃ m, k = m + 1 := ⟨k - 1, by omega⟩
    have e2 : wrap64 ((i : Int) + 1) = ((i + 1 : Nat) : Int) := by rw [w64 (by omega) (by omega)]; rfl
    simp only [laws_markByteS.l0]
    rw [if_pos (by omega), if_pos (by omega), e2, w64 (x := a + 1) (by omega) (by omega)]
    rw [markByteS_loop n hn d k (i + 1) _ (a + 1) (by omega) (by omega) (by omega) (by simp [hl]) (by omega) (by omega)]
    congr 1
    refine Prod.ext (by simp; omega) ?_
    show _ = o.take i ++ marks a (d + 1)
    have e : ((i : Int)).toNat = i := by omega
    rw [e, take_succ_rd _ i (by simp; omega), rd_set_eq _ _ _ (by omega), List.take_set_of_le (by omega)]
    simp [marks]
theorem markByteS_eq (l : List Int) (a : Int) (ha : 0 ≤ a) (hb : a + l.length < 4611686018427387904) (k : Nat) (hk : l.length < k) : laws_markByteS.f k l a = some (a + l.length, marks a l.length) := by
  unfold laws_markByteS.f
  rw [show (0 : Int) = ((0 : Nat) : Int) from rfl, markByteS_loop l.length (by omega) l.length k 0 l a (by omega) (by omega) hk rfl ha hb]
  simp

theorem heldByteS_loop (n : Nat) (b : Int) (hn : n < 4611686018427387904) : ∀ (d k i : Nat) (a : Int), n - i = d → i ≤ n → d < k → 0 ≤ a → a = b + i → a + d < 4611686018427387904 →
    laws_heldByteS.l0 k (marks b n) a (i : Int) = some (a + d)
  | 0, k, i, a, hd, hi, hk, ha, he, hb => by
    obtain ⟨k, rfl⟩ : ∃ m, k = m + 1 := ⟨k - 1, by omega⟩
    simp only [laws_heldByteS.l0]
    rw [if_neg (by rw [marks_length]; omega)]
    simp
  | d + 1, k, i, a, hd, hi, hk, ha, he, hb => by
    obtain ⟨k, rfl⟩ : ∃ m, k = m + 1 := ⟨k - 1, by omega⟩
    have e2 : wrap64 ((i : Int) + 1) = ((i + 1 : Nat) : Int) := by rw [w64 (by omega) (by omega)]; rfl
    simp only [laws_heldByteS.l0]
    rw [if_pos (by rw [marks_length]; omega), if_pos (by omega), marks_rd b n i (by omega), if_pos (by rw [he]), e2, w64 (x := a + 1) (by omega) (by omega)]
    rw [heldByteS_loop n b hn d k (i + 1) (a + 1) (by omega) (by omega) (by omega) (by omega) (by omega) (by omega)]
    congr 1; omega
theorem heldByteS_eq (n : Nat) (a : Int) (ha : 0 ≤ a) (hb : a + n < 4611686018427387904) (k : Nat) (hk : n < k) : laws_heldByteS.f k (marks a n) a = some (a + n) := by
  unfold laws_heldByteS.f
  rw [show (0 : Int) = ((0 : Nat) : Int) from rfl, heldByteS_loop n a (by omega) n k 0 a (by omega) (by omega) hk ha (by omega) (by omega)]

theorem markFrame_eq (t f n : Int) (d : List Int) (hl : d.length ≤ 1048576) (k : Nat) (hk : d.length < k) : laws_markFrame.f k t f n d 1 = some (1 + (d.length : Int), marks 1 d.length) := by
  unfold laws_markFrame.f
  rw [markByteS_eq d 1 (by omega) (by omega) k hk]
  rfl
theorem heldFrame_eq (t f n : Int) (m : Nat) (hl : m ≤ 1048576) (k : Nat) (hk : m < k) : laws_heldFrame.f k t f n (marks 1 m) 1 = some (1 + (m : Int)) := by
  unfold laws_heldFrame.f
  rw [heldByteS_eq m 1 (by omega) (by omega) k hk]
  simp only [Option.bind_some]
  rw [if_neg (by omega)]
theorem frameFrom_len (l : List Int) : (frameFrom l).2.2.2.1.length ≤ l.length := by
  unfold frameFrom
  split
  · show (frameData l).length ≤ _
    rw [frameData_len]; omega
  · exact Nat.zero_le _
theorem FnExactFrameFrom : laws_FnExactFrameFrom.Pure := by
  intro l hm hl2 hw
  have hb := Bytes.of_wf hw
  refine ⟨l.length + 103, ?_⟩
  unfold laws_FnExactFrameFrom.f
  by_cases h : (l.length : Int) > 1048576
  · rw [if_pos h]
  rw [if_neg h]
  have hn : l.length ≤ 1048576 := by omega
  have hx := frameFrom_len l
  have ht : ∀ k, l.length < k → laws_toByteS.f k l = some l := fun k hk => toByteS_eq l (by omega) k hk
  have hi : ∀ k, 80 ≤ k → impl_FrameFrom.f k l = some (frameFrom l) := fun k hk => implFrameFrom_eq l hb (by omega) k hk
  have hs := specFrameFrom_eq l hb (by omega) (l.length + 103) (by omega) (by omega)
  have he : ∀ k, l.length < k → laws_eqByteS.f k l l = some true := fun k hk => by rw [eqByteS_eq _ _ (by omega) k hk]; simp
  obtain ⟨⟨a, b, c, d, o⟩, hF⟩ : ∃ z, frameFrom l = z := ⟨_, rfl⟩
  rw [hF] at hs hx
  simp only [hF] at hi
  dsimp only at hx
  have hq : ∀ k, l.length < k → laws_eqFrame.f k a b c d a b c d = some true := fun k hk => eqFrame_eq a b c d (by omega) k (by omega)
  have hg : ∀ k, l.length < k → laws_markFrame.f k a b c d 1 = some (1 + (d.length : Int), marks 1 d.length) := fun k hk => markFrame_eq a b c d (by omega) k (by omega)
  have hh : ∀ k, l.length < k → laws_heldFrame.f k a b c (marks 1 d.length) 1 = some (1 + (d.length : Int)) := fun k hk => heldFrame_eq a b c d.length (by omega) k (by omega)
  have hmk : ∀ k, l.length < k → laws_markByteS.f k l 1 = some (1 + (l.length : Int), marks 1 l.length) := fun k hk => markByteS_eq l 1 (by omega) (by omega) k hk
  have hq1 : ¬ (1 + (l.length : Int) < 0) := by omega
  have hq2 : ¬ (1 + (d.length : Int) < 0) := by omega
  have k0 : l.length < l.length + 103 := by omega
  have k1 : l.length < l.length + 102 := by omega
  have k2 : l.length < l.length + 101 := by omega
  have k3 : l.length < l.length + 100 := by omega
  have j0 : 80 ≤ l.length + 103 := by omega
  have j1 : 80 ≤ l.length + 102 := by omega
  have j2 : 80 ≤ l.length + 101 := by omega
  have hself : (o != o) = false := by simp
  simp only [ht _ k0, hs, hi _ j0, hq _ k0, Option.bind_some, if_true, hself, laws_FnExactFrameFrom.j0, ht _ k1, he _ k1, hmk _ k1, if_neg hq1, hq _ k1, Bool.false_eq_true, if_false,
    laws_FnExactFrameFrom.j1, hg _ k2, hh _ k2, if_neg hq2, ht _ k2, hi _ j2, hq _ k2, laws_FnExactFrameFrom.j2, hh _ k3]

end Go.Proofs.Ytbjfnpjkldfeiaa.Pure

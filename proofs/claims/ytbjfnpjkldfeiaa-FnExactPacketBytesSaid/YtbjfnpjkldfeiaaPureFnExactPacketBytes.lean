/- PacketBytes of the program is the reference's at all packets; no condition. -/
import Derived.Test.YtbjfnpjkldfeiaaPFnExactPacketBytesx7
import Derived.Test.YtbjfnpjkldfeiaaBase
namespace Go.Proofs.Ytbjfnpjkldfeiaa.Pure
set_option linter.unusedSimpArgs false
set_option linter.unusedVariables false
open Go Go.RowKit Go.Proofs.Ytbjfnpjkldfeiaa.PFnExactPacketBytes Go.Proofs.YtbjfnpjkldfeiaaW.PrintWords Go.Proofs.YtbjfnpjkldfeiaaW.PrintLast Go.Proofs.YtbjfnpjkldfeiaaW.PrintMore Go.Proofs.Ytbjfnpjkldfeiaa.Base

theorem l1In_eq (a b c : Int) : spec_l1In.f a b c = some (decide (b ≤ a ∧ a ≤ c)) := by
  unfold spec_l1In.f
  by_cases h : a ≥ b <;> simp [h]

theorem in_eq (a b c : Int) : impl_in.f a b c = some (decide (b ≤ a ∧ a ≤ c)) := by
  unfold impl_in.f
  by_cases h : a ≥ b <;> simp [h]

theorem word_eq (a : Int) : impl_word.f a = some (decide (0 ≤ a ∧ a ≤ 65535)) := by
  unfold impl_word.f
  rw [in_eq]; rfl

/-- A packet is ok. -/
def packetOk (a b c d e f : Int) (m w : Bool) (l : List Int) : Bool :=
  decide ((0 ≤ a ∧ a ≤ 65535) ∧ (0 ≤ b ∧ b ≤ 65535) ∧ (0 ≤ c ∧ c ≤ 255) ∧ (0 ≤ d ∧ d ≤ 255) ∧ (0 ≤ e ∧ e ≤ 255) ∧ (0 ≤ f ∧ f ≤ 255) ∧ (l.length : Int) ≤ 48 ∧ (m = true → (l.length : Int) > 0) ∧ (w = true → f = 0 ∧ m = false))
theorem packet_end (m w : Bool) (f n : Int) : (if n ≤ 48 then (if m = true then (if n > 0 then (if w = true then (if f = 0 then (some (!m)) else (some false)) else (some true)) else (some false)) else (if w = true then (if f = 0 then (some (!m)) else (some false)) else (some true))) else (some false)) =
    some (decide (n ≤ 48 ∧ (m = true → n > 0) ∧ (w = true → f = 0 ∧ m = false))) := by
  by_cases h1 : n ≤ 48 <;> by_cases h2 : n > 0 <;> by_cases h3 : f = 0 <;> cases m <;> cases w <;> simp [h1, h2, h3] <;> omega
theorem specPacketOk_eq (a b c d e f : Int) (m w : Bool) (l : List Int) : spec_PacketOk.f a b c d e f m w l = some (packetOk a b c d e f m w l) := by
  unfold spec_PacketOk.f packetOk
  simp only [l1In_eq, Option.bind_some, packet_end]
  by_cases h1 : 0 ≤ a ∧ a ≤ 65535
  · by_cases h2 : 0 ≤ b ∧ b ≤ 65535
    · by_cases h3 : 0 ≤ c ∧ c ≤ 255
      · by_cases h4 : 0 ≤ d ∧ d ≤ 255
        · by_cases h5 : 0 ≤ e ∧ e ≤ 255
          · by_cases h6 : 0 ≤ f ∧ f ≤ 255
            · simp only [h1, h2, h3, h4, h5, h6, true_and, and_self, decide_true, if_true]
            · simp [h1, h2, h3, h4, h5, h6]
          · simp [h1, h2, h3, h4, h5]
        · simp [h1, h2, h3, h4]
      · simp [h1, h2, h3]
    · simp [h1, h2]
  · simp [h1]
theorem implPacketOk_eq (a b c d e f : Int) (m w : Bool) (l : List Int) : impl_PacketOk.f a b c d e f m w l = some (packetOk a b c d e f m w l) := by
  unfold impl_PacketOk.f packetOk
  simp only [in_eq, word_eq, Option.bind_some, packet_end]
  by_cases h1 : 0 ≤ a ∧ a ≤ 65535
  · by_cases h2 : 0 ≤ b ∧ b ≤ 65535
    · by_cases h3 : 0 ≤ c ∧ c ≤ 255
      · by_cases h4 : 0 ≤ d ∧ d ≤ 255
        · by_cases h5 : 0 ≤ e ∧ e ≤ 255
          · by_cases h6 : 0 ≤ f ∧ f ≤ 255
            · simp only [h1, h2, h3, h4, h5, h6, true_and, and_self, decide_true, if_true]
            · simp [h1, h2, h3, h4, h5, h6]
          · simp [h1, h2, h3, h4, h5]
        · simp [h1, h2, h3, h4]
      · simp [h1, h2, h3]
    · simp [h1, h2]
  · simp [h1]

theorem bytesB_of {l : List Int} (h : Bytes l) : bytesB l = true := List.all_eq_true.mpr (fun x hx => decide_eq_true (h x hx))
/-- The pairs' numbers together. -/
def tot : List Int → Int
  | [] => 0
  | [a] => a * 256
  | a :: b :: l => a * 256 + b + tot l
theorem sumAdd_mod {a b : Int} : sumAdd a b % 65535 = (a + b) % 65535 := by unfold sumAdd; split <;> omega
theorem sumP_mod : ∀ (l : List Int) (s : Int), Bytes l → 0 ≤ s ∧ s ≤ 65535 → (0 ≤ sumP l s ∧ sumP l s ≤ 65535) ∧ sumP l s % 65535 = (s + tot l) % 65535
  | [], s, _, hs => ⟨hs, by simp [sumP, tot]⟩
  | [a], s, hb, hs => by
    have ha := hb a (by simp)
    exact ⟨sumAdd_range hs (by omega), sumAdd_mod⟩
  | a :: b :: l, s, hb, hs => by
    have ha := hb a (by simp)
    have hb' := hb b (by simp)
    have hr := sumAdd_range hs (b := a * 256 + b) (by omega)
    have hm := sumAdd_mod (a := s) (b := a * 256 + b)
    obtain ⟨h1, h2⟩ := sumP_mod l (sumAdd s (a * 256 + b)) (fun x hx => hb x (by simp [hx])) hr
    refine ⟨h1, ?_⟩
    show sumP l (sumAdd s (a * 256 + b)) % 65535 = (s + (a * 256 + b + tot l)) % 65535
    omega
theorem sumP_append : ∀ (l m : List Int) (s : Int), l.length % 2 = 0 → sumP (l ++ m) s = sumP m (sumP l s)
  | [], m, s, _ => rfl
  | [a], m, s, h => by simp at h
  | a :: b :: l, m, s, h => by
    have := sumP_append l m (sumAdd s (a * 256 + b)) (by simp at h; omega)
    exact this
/-- How much a byte at place k counts. -/
def wt (k : Nat) : Int := if k % 2 = 0 then 256 else 1
theorem tot_set : ∀ (l : List Int) (k : Nat) (v : Int), k < l.length → tot (l.set k v) = tot l + (v - rd l (k : Int)) * wt k
  | [], k, v, h => by simp at h
  | [a], k, v, h => by
    obtain rfl : k = 0 := by simp at h; omega
    show v * 256 = a * 256 + (v - a) * 256
    omega
  | a :: b :: l, 0, v, h => by
    show v * 256 + b + tot l = a * 256 + b + tot l + (v - a) * 256
    omega
  | a :: b :: l, 1, v, h => by
    show a * 256 + v + tot l = a * 256 + b + tot l + (v - b) * 1
    omega
  | a :: b :: l, k + 2, v, h => by
    have ih := tot_set l k v (by simpa using h)
    have hw : wt (k + 2) = wt k := by unfold wt; rw [show (k + 2) % 2 = k % 2 by omega]
    have hr : rd (a :: b :: l) ((k + 2 : Nat) : Int) = rd l (k : Int) := by unfold rd; rfl
    show a * 256 + b + tot (l.set k v) = a * 256 + b + tot l + (v - rd (a :: b :: l) ((k + 2 : Nat) : Int)) * wt (k + 2)
    rw [ih, hw, hr]; omega
theorem xor16_nat : ∀ a : Nat, a < 256 → (a ^^^ 16 = a + 16 ∨ (a ^^^ 16) + 16 = a) ∧ a ^^^ 16 < 256 := by decide +kernel
theorem xor16 {a : Int} (h : 0 ≤ a ∧ a < 256) : (Go.bits .xor .u8 a 16 = a + 16 ∨ Go.bits .xor .u8 a 16 = a - 16) ∧ 0 ≤ Go.bits .xor .u8 a 16 ∧ Go.bits .xor .u8 a 16 < 256 := by
  obtain ⟨n, rfl⟩ : ∃ n : Nat, a = n := ⟨a.toNat, by omega⟩
  have hn : n < 256 := by omega
  obtain ⟨h1, h2⟩ := xor16_nat n hn
  have e : Go.bits .xor .u8 (n : Int) 16 = ((n ^^^ 16 : Nat) : Int) := by
    have ha' : n % 2 ^ IntKind.u8.bits = n := Nat.mod_eq_of_lt (by simp [IntKind.bits]; omega)
    rw [show (16 : Int) = ((16 : Nat) : Int) from rfl]
    simp only [Go.bits, BitVec.ofInt_natCast, BitVec.toNat_xor, BitVec.toNat_ofNat, ha']
    rw [show 16 % 2 ^ IntKind.u8.bits = 16 by simp [IntKind.bits], IntKind.wrap_u8]; omega
  rw [e]; omega

theorem sumAdd_two {s a b : Int} (hs : 0 ≤ s ∧ s ≤ 65535) (ha : 0 ≤ a ∧ a < 256) (hb : 0 ≤ b ∧ b < 256) : sumAdd (sumAdd s (a * 256)) b = sumAdd s (a * 256 + b) := by
  unfold sumAdd
  by_cases h1 : s + a * 256 > 65535
  · rw [if_pos h1, if_neg (by omega), if_pos (by omega)]; omega
  · rw [if_neg h1]
    by_cases h2 : s + a * 256 + b > 65535
    · rw [if_pos h2, if_pos (by omega)]; omega
    · rw [if_neg h2, if_neg (by omega)]; omega
theorem l1Sum_even (l : List Int) (hb : Bytes l) (hl : l.length < 4611686018427387904) (j k : Nat) (s : Int) (hs : 0 ≤ s ∧ s ≤ 65535) (h : 2 * j < l.length) :
    spec_l1Sum.l0 (k + 1) l s ((2 * j : Nat) : Int) = spec_l1Sum.l0 k l (sumAdd s (rd l ((2 * j : Nat) : Int) * 256)) ((2 * j + 1 : Nat) : Int) := by
  have hr := hb.at_ ((2 * j : Nat) : Int)
  have e1 : wrap64 (((2 * j : Nat) : Int) + 1) = ((2 * j + 1 : Nat) : Int) := by rw [w64 (by omega) (by omega)]; rfl
  simp only [spec_l1Sum.l0]
  rw [if_pos (by omega), if_pos (by rw [Int.tmod_eq_emod_of_nonneg (by omega)]; omega), if_pos (by omega), e1, w64 (x := rd l _) (by omega) (by omega), w64 (x := _ * 256) (by omega) (by omega), w64 (x := s + _) (by omega) (by omega)]
  unfold sumAdd
  by_cases h1 : s + rd l ((2 * j : Nat) : Int) * 256 > 65535
  · rw [if_pos h1, if_pos h1, w64 (by omega) (by omega)]
  · rw [if_neg h1, if_neg h1]
theorem l1Sum_odd (l : List Int) (hb : Bytes l) (hl : l.length < 4611686018427387904) (j k : Nat) (s : Int) (hs : 0 ≤ s ∧ s ≤ 65535) (h : 2 * j + 1 < l.length) :
    spec_l1Sum.l0 (k + 1) l s ((2 * j + 1 : Nat) : Int) = spec_l1Sum.l0 k l (sumAdd s (rd l ((2 * j + 1 : Nat) : Int))) ((2 * (j + 1) : Nat) : Int) := by
  have hr := hb.at_ ((2 * j + 1 : Nat) : Int)
  have e1 : wrap64 (((2 * j + 1 : Nat) : Int) + 1) = ((2 * (j + 1) : Nat) : Int) := by rw [w64 (by omega) (by omega)]; omega
  simp only [spec_l1Sum.l0]
  rw [if_pos (by omega), if_neg (by rw [Int.tmod_eq_emod_of_nonneg (by omega)]; omega), if_pos (by omega), e1, w64 (x := rd l _) (by omega) (by omega), w64 (x := s + _) (by omega) (by omega)]
  unfold sumAdd
  by_cases h1 : s + rd l ((2 * j + 1 : Nat) : Int) > 65535
  · rw [if_pos h1, if_pos h1, w64 (by omega) (by omega)]
  · rw [if_neg h1, if_neg h1]
theorem l1Sum_loop (l : List Int) (hb : Bytes l) (hl : l.length < 4611686018427387904) : ∀ (d k j : Nat) (s : Int), (l.length + 1) / 2 - j = d → j ≤ (l.length + 1) / 2 → 2 * d < k → 0 ≤ s ∧ s ≤ 65535 →
    spec_l1Sum.l0 k l s ((2 * j : Nat) : Int) = some (sumP (l.drop (2 * j)) s)
  | 0, k, j, s, hd, hj, hk, hs => by
    obtain ⟨k, rfl⟩ : ∃ m, k = m + 1 := ⟨k - 1, by omega⟩
    simp only [spec_l1Sum.l0]
    rw [if_neg (by omega), List.drop_of_length_le (by omega)]; rfl
  | d + 1, k, j, s, hd, hj, hk, hs => by
    obtain ⟨k, rfl⟩ : ∃ m, k = m + 1 + 1 := ⟨k - 2, by omega⟩
    have r0 := hb.at_ ((2 * j : Nat) : Int)
    rw [l1Sum_even l hb hl j (k + 1) s hs (by omega), drop_rd l (2 * j) (by omega)]
    by_cases h : 2 * j + 1 < l.length
    · have r1 := hb.at_ ((2 * j + 1 : Nat) : Int)
      rw [l1Sum_odd l hb hl j k _ (sumAdd_range hs (by omega)) h, drop_rd l (2 * j + 1) h, sumAdd_two hs r0 r1]
      rw [l1Sum_loop l hb hl d k (j + 1) _ (by omega) (by omega) (by omega) (sumAdd_range hs (by omega))]
      rfl
    · rw [List.drop_of_length_le (show l.length ≤ 2 * j + 1 by omega)]
      simp only [spec_l1Sum.l0]
      rw [if_neg (by omega)]; rfl
theorem specSumOf_eq {l : List Int} (hb : Bytes l) (hl : l.length < 4611686018427387904) (k : Nat) (hk : l.length + 1 < k) : spec_SumOf.f k l = some (65535 - sumP l 0) := by
  have hr := (sumP_mod l 0 hb (by omega)).1
  unfold spec_SumOf.f spec_l1Sum.f
  rw [show (0 : Int) = ((2 * 0 : Nat) : Int) from rfl]
  have := l1Sum_loop l hb hl ((l.length + 1) / 2) k 0 0 (by omega) (by omega) (by omega) (by omega)
  rw [show ((2 * 0 : Nat) : Int) = 0 from rfl] at this ⊢
  rw [this]
  simp only [Option.bind_some, Nat.mul_zero, List.drop_zero]
  rw [w64 (by omega) (by omega)]

theorem rdL_nat (ls : List (List Int)) (i : Nat) (h : i < ls.length) : rd_L1 ls (i : Int) = ls[i] := by
  unfold rd_L1; simp [List.getD_eq_getElem?_getD, List.getElem?_eq_getElem h]
theorem flat_next (ls : List (List Int)) (i : Nat) (h : i < ls.length) : (ls.take (i + 1)).flatten = (ls.take i).flatten ++ rd_L1 ls (i : Int) := by
  rw [List.take_succ_eq_append_getElem h, List.flatten_append, rdL_nat ls i h]; simp
theorem flat_le (ls : List (List Int)) (i : Nat) : (ls.take i).flatten.length ≤ ls.flatten.length := by
  have h : ls.flatten = (ls.take i).flatten ++ (ls.drop i).flatten := by rw [← List.flatten_append, List.take_append_drop]
  rw [h, List.length_append]; omega
theorem concat_loop1 (ls : List (List Int)) (hn : (ls.flatten.length : Int) ≤ 1048576) (hl : (ls.length : Int) < 1048576) : ∀ (d k i : Nat), ls.length - i = d → i ≤ ls.length → d < k →
    slices_Concat_byte_byte.l1 k (ls.take i).flatten ls (ls.length : Int) (i : Int) = some ls.flatten := by
  intro d
  induction d with
  | zero =>
    intro k i hd hi hk
    obtain ⟨k, rfl⟩ : ∃ m, k = m + 1 := ⟨k - 1, by omega⟩
    simp only [slices_Concat_byte_byte.l1]
    rw [if_neg (by omega), List.take_of_length_le (by omega)]
  | succ d ih =>
    intro k i hd hi hk
    obtain ⟨k, rfl⟩ : ∃ m, k = m + 1 := ⟨k - 1, by omega⟩
    have e1 : wrap64 ((i : Int) + 1) = ((i + 1 : Nat) : Int) := by rw [w64 (by omega) (by omega)]; rfl
    have h1 := flat_le ls (i + 1)
    rw [flat_next ls i (by omega), List.length_append] at h1
    simp only [slices_Concat_byte_byte.l1]
    rw [if_pos (by omega), if_pos (by omega), if_pos (by omega), if_pos (by omega), e1, ← flat_next ls i (by omega)]
    exact ih k (i + 1) (by omega) (by omega) (by omega)
theorem concat_loop0 (ls : List (List Int)) (hn : (ls.flatten.length : Int) ≤ 1048576) (hl : (ls.length : Int) < 1048576) : ∀ (d k i : Nat), ls.length - i = d → i ≤ ls.length → d + ls.length + 2 < k →
    slices_Concat_byte_byte.l0 k ls ((ls.take i).flatten.length : Int) ls (ls.length : Int) (i : Int) = some ls.flatten := by
  intro d
  induction d with
  | zero =>
    intro k i hd hi hk
    obtain ⟨k, rfl⟩ : ∃ m, k = m + 1 := ⟨k - 1, by omega⟩
    have h1 := flat_le ls i
    simp only [slices_Concat_byte_byte.l0]
    rw [if_neg (by omega)]
    unfold slices_Grow_byte_byte.f
    rw [if_pos (by omega)]
    exact concat_loop1 ls hn hl ls.length k 0 (by omega) (by omega) (by omega)
  | succ d ih =>
    intro k i hd hi hk
    obtain ⟨k, rfl⟩ : ∃ m, k = m + 1 := ⟨k - 1, by omega⟩
    have e1 : wrap64 ((i : Int) + 1) = ((i + 1 : Nat) : Int) := by rw [w64 (by omega) (by omega)]; rfl
    have h1 := flat_le ls (i + 1)
    have h2 := flat_next ls i (by omega)
    have h3 : ((ls.take (i + 1)).flatten.length : Int) = ((ls.take i).flatten.length : Int) + ((rd_L1 ls (i : Int)).length : Int) := by rw [h2, List.length_append]; omega
    have e2 : wrap64 (((ls.take i).flatten.length : Int) + ((rd_L1 ls (i : Int)).length : Int)) = ((ls.take (i + 1)).flatten.length : Int) := by rw [← h3, w64 (by omega) (by omega)]
    simp only [slices_Concat_byte_byte.l0]
    rw [if_pos (by omega), if_pos (by omega), if_pos (by omega), e2, if_neg (Int.not_lt.mpr (Int.natCast_nonneg _)), e1]
    exact ih k (i + 1) (by omega) (by omega) (by omega)
theorem concat_eq (ls : List (List Int)) (hn : (ls.flatten.length : Int) ≤ 1048576) (hl : (ls.length : Int) < 1048576) (k : Nat) (hk : 2 * ls.length + 2 < k) : slices_Concat_byte_byte.f k ls = some ls.flatten := by
  unfold slices_Concat_byte_byte.f
  exact concat_loop0 ls hn hl ls.length k 0 (by omega) (by omega) (by omega)

theorem implbytesOf_loop : ∀ (i k : Nat) (v : Int) (o : List Int), i < k → i ≤ o.length → o.length < 4611686018427387904 →
    impl_bytesOf.l0 k v o ((i : Int) - 1) = some (be i v ++ o.drop i)
  | 0, k, v, o, hk, hi, hl => by
    obtain ⟨k, rfl⟩ : ∃ m, k = m + 1 := ⟨k - 1, by omega⟩
    simp only [impl_bytesOf.l0]
    rw [if_neg (by omega)]; simp [be]
  | i + 1, k, v, o, hk, hi, hl => by
    obtain ⟨k, rfl⟩ : ∃ m, k = m + 1 := ⟨k - 1, by omega⟩
    have e1 : ((i + 1 : Nat) : Int) - 1 = (i : Int) := by omega
    have e2 : wrap64 ((i : Int) - 1) = (i : Int) - 1 := w64 (by omega) (by omega)
    have e3 : ((i : Int)).toNat = i := by omega
    rw [e1]
    simp only [impl_bytesOf.l0]
    rw [if_pos (by omega), if_pos (by omega), if_pos (by omega), e2, implbytesOf_loop i k _ _ (by omega) (by simp; omega) (by simpa using hl), e3, drop_rd _ i (by simp; omega), rd_set_eq _ _ _ (by omega), List.drop_set_of_lt (by omega)]
    simp [be]
theorem implbytesOf_eq (v n : Int) (h0 : 0 ≤ n) (h1 : n ≤ 1073741824) (k : Nat) (hk : n.toNat < k) : impl_bytesOf.f k v n = some (be n.toNat v) := by
  unfold impl_bytesOf.f
  rw [if_pos h0, if_pos (by omega), w64 (by omega) (by omega)]
  obtain ⟨n, rfl⟩ : ∃ m : Nat, n = m := ⟨n.toNat, by omega⟩
  rw [implbytesOf_loop n k v _ (by omega) (by simp) (by simp; omega)]
  simp

/-- A number as n bytes, n in 1..4; none for others. -/
def bytesV (v n : Int) : List Int := if (1 ≤ n ∧ n ≤ 4) ∧ 0 ≤ v ∧ v < 256 ^ n.toNat then be n.toNat v else []
theorem four {n : Int} (h : 1 ≤ n ∧ n ≤ 4) : n = 1 ∨ n = 2 ∨ n = 3 ∨ n = 4 := by omega
theorem lim_of (n : Int) (h : 1 ≤ n ∧ n ≤ 4) : wrap64 (shl .i64 1 (wrap64 (8 * n)) - 1) = 256 ^ n.toNat - 1 ∧ 0 ≤ wrap64 (8 * n) := by
  rcases four h with rfl | rfl | rfl | rfl <;> decide +kernel
theorem bytesV_length (v n : Int) : (bytesV v n).length ≤ 4 := by
  unfold bytesV; split
  · rw [be_length]; omega
  · simp
theorem bytesV_bytes (v n : Int) : Bytes (bytesV v n) := by
  unfold bytesV; split
  · exact be_bytes _ _
  · exact Bytes.nil

theorem be_front (n : Nat) (v : Int) : be (n + 1) v = (v / 256 ^ n % 256) :: be n v := by
  induction n generalizing v with
  | zero => simp [be]
  | succ n ih =>
    rw [be, ih (v / 256)]
    show _ = v / 256 ^ (n + 1) % 256 :: (be n (v / 256) ++ [v % 256])
    have e : v / 256 / 256 ^ n = v / 256 ^ (n + 1) := by
      rw [Int.ediv_ediv_of_nonneg (by decide), Int.pow_succ, Int.mul_comm]
    rw [e]; rfl
theorem shr_byte (v : Int) (i : Nat) (hi : i ≤ 3) : 0 ≤ wrap64 (8 * (i : Int)) ∧ shr .i64 v (wrap64 (8 * (i : Int))) = v / 256 ^ i := by
  obtain rfl | rfl | rfl | rfl : i = 0 ∨ i = 1 ∨ i = 2 ∨ i = 3 := by omega
  all_goals exact ⟨by decide +kernel, by rw [show wrap64 (8 * ((_ : Nat) : Int)) = 8 * _ from w64 (by omega) (by omega)]; rfl⟩
theorem specBytesOf_loop (v : Int) (hv : 0 ≤ v) : ∀ (i k : Nat) (o : List Int), i < k → i ≤ 4 → o.length + i ≤ 4 →
    spec_BytesOf.l0 k v o ((i : Int) - 1) = some (o ++ be i v)
  | 0, k, o, hk, hi, hl => by
    obtain ⟨k, rfl⟩ : ∃ m, k = m + 1 := ⟨k - 1, by omega⟩
    simp only [spec_BytesOf.l0]
    rw [if_neg (by omega)]; simp [be]
  | i + 1, k, o, hk, hi, hl => by
    obtain ⟨k, rfl⟩ : ∃ m, k = m + 1 := ⟨k - 1, by omega⟩
    have e1 : ((i + 1 : Nat) : Int) - 1 = (i : Int) := by omega
    have e2 : wrap64 ((i : Int) - 1) = (i : Int) - 1 := w64 (by omega) (by omega)
    obtain ⟨e3, e4⟩ := shr_byte v i (by omega)
    have e5 : Int.tmod (v / 256 ^ i) 256 % 256 = v / 256 ^ i % 256 := by
      rw [Int.tmod_eq_emod_of_nonneg (Int.ediv_nonneg hv (Int.pow_nonneg (by decide)))]; omega
    rw [e1]
    simp only [spec_BytesOf.l0]
    rw [if_pos (by omega), if_pos e3, if_pos (by omega), e4, e5, e2, specBytesOf_loop v hv i k _ (by omega) (by omega) (by simp; omega), be_front]
    simp
theorem specBytesOf_eq (v n : Int) (k : Nat) (hk : 6 ≤ k) : spec_BytesOf.f k v n = some (bytesV v n) := by
  obtain ⟨k, rfl⟩ : ∃ m, k = m + 1 := ⟨k - 1, by omega⟩
  unfold spec_BytesOf.f bytesV
  simp only [l1In_eq, Option.bind_some, spec_BytesOf.j0]
  by_cases h1 : 1 ≤ n ∧ n ≤ 4
  · obtain ⟨e1, e2⟩ := lim_of n h1
    rw [if_pos (decide_eq_true h1), if_pos e2, e1]
    by_cases h2 : 0 ≤ v ∧ v ≤ 256 ^ n.toNat - 1
    · rw [decide_eq_true h2, if_neg (by decide), if_pos ⟨h1, h2.1, by omega⟩, w64 (by omega) (by omega)]
      obtain ⟨n, rfl⟩ : ∃ m : Nat, n = m := ⟨n.toNat, by omega⟩
      rw [specBytesOf_loop v h2.1 n k [] (by omega) (by omega) (by simp; omega)]; rfl
    · rw [decide_eq_false h2, if_pos (by decide), if_neg (by omega)]
  · rw [if_neg (by simpa using h1), if_pos trivial, if_neg (fun h => h1 h.1)]

/-- The sum's two bytes. -/
def sum2 (l : List Int) : List Int := be 2 (65535 - sumP l 0)
theorem specSum2 {l : List Int} (hb : Bytes l) (hl : l.length ≤ 70) (k : Nat) (hk : 80 ≤ k) : ((spec_SumOf.f k l).bind fun t => spec_BytesOf.f k t 2) = some (sum2 l) := by
  have h := (sumP_mod l 0 hb (by omega)).1
  rw [specSumOf_eq hb (by omega) k (by omega)]
  simp only [Option.bind_some]
  rw [specBytesOf_eq _ 2 k (by omega)]
  unfold bytesV sum2
  rw [if_pos ⟨by omega, by omega, by show 65535 - sumP l 0 < 65536; omega⟩]; rfl
theorem implSum2 {l : List Int} (hb : Bytes l) (hl : l.length ≤ 70) (k : Nat) (hk : 80 ≤ k) : ((impl_sumOf.f k l).bind fun t => impl_bytesOf.f k t 2) = some (sum2 l) := by
  unfold impl_sumOf.f
  rw [if_pos ⟨bytesB_of hb, by omega⟩]
  simp only [Option.bind_some]
  rw [implbytesOf_eq _ 2 (by omega) (by omega) k (by omega)]
  rfl
theorem sum2_len (l : List Int) : (sum2 l).length = 2 := by unfold sum2; rw [be_length]

theorem bytesV_two' {v : Int} (h : 0 ≤ v ∧ v ≤ 65535) : bytesV v 2 = be 2 v := by unfold bytesV; rw [if_pos ⟨by omega, by omega, by show v < 65536; omega⟩]; rfl
/-- The flags' number. -/
def flagsOf (m w : Bool) : Int := (if m then 1 else 0) + (if w then 2 else 0)
theorem flagsOf_range (m w : Bool) : 0 ≤ flagsOf m w ∧ flagsOf m w ≤ 3 := by cases m <;> cases w <;> decide
theorem specFlags_eq (a b c d e f : Int) (m w : Bool) (l : List Int) : spec_l4Flags.f a b c d e f m w l = some (flagsOf m w) := by
  cases m <;> cases w <;> rfl
theorem implFlags_eq (m w : Bool) : ((impl_bit.f m 1).bind fun t => (impl_bit.f w 2).bind fun t' => some ((wrap64 (t + t')) % 256)) = some (flagsOf m w) := by
  cases m <;> cases w <;> decide +kernel
/-- A packet's head ahead of the sum. -/
def packetHead (a b c d e f : Int) (m w : Bool) (l : List Int) : List Int := be 2 a ++ be 2 b ++ [c, d, e, f, flagsOf m w, (l.length : Int)]
/-- A packet as bytes. -/
def packetBytes (a b c d e f : Int) (m w : Bool) (l : List Int) : List Int :=
  if packetOk a b c d e f m w l = true then packetHead a b c d e f m w l ++ sum2 (packetHead a b c d e f m w l) ++ l else []
theorem packetHead_len (a b c d e f : Int) (m w : Bool) (l : List Int) : (packetHead a b c d e f m w l).length = 10 := by
  unfold packetHead; rw [List.length_append, List.length_append, be_length, be_length]; rfl
theorem packetOk_parts {a b c d e f : Int} {m w : Bool} {l : List Int} (h : packetOk a b c d e f m w l = true) : (0 ≤ a ∧ a ≤ 65535) ∧ (0 ≤ b ∧ b ≤ 65535) ∧ (0 ≤ c ∧ c ≤ 255) ∧ (0 ≤ d ∧ d ≤ 255) ∧ (0 ≤ e ∧ e ≤ 255) ∧ (0 ≤ f ∧ f ≤ 255) ∧ (l.length : Int) ≤ 48 := by
  have := of_decide_eq_true h
  exact ⟨this.1, this.2.1, this.2.2.1, this.2.2.2.1, this.2.2.2.2.1, this.2.2.2.2.2.1, this.2.2.2.2.2.2.1⟩
theorem packetHead_bytes {a b c d e f : Int} {m w : Bool} {l : List Int} (h : packetOk a b c d e f m w l = true) : Bytes (packetHead a b c d e f m w l) := by
  have hq := packetOk_parts h
  have hf := flagsOf_range m w
  exact ((be_bytes _ _).append (be_bytes _ _)).append (Bytes.cons (by omega) (Bytes.cons (by omega) (Bytes.cons (by omega) (Bytes.cons (by omega) (Bytes.cons (by omega) (Bytes.cons (by omega) Bytes.nil))))))
theorem packetTail_eq {a b c d e f : Int} {m w : Bool} {l : List Int} (h : packetOk a b c d e f m w l = true) : [c % 256, d % 256, e % 256, f % 256, flagsOf m w % 256, (l.length : Int) % 256] = [c, d, e, f, flagsOf m w, (l.length : Int)] := by
  have hq := packetOk_parts h
  have hf := flagsOf_range m w
  rw [show c % 256 = c by omega, show d % 256 = d by omega, show e % 256 = e by omega, show f % 256 = f by omega, show flagsOf m w % 256 = flagsOf m w by omega, show (l.length : Int) % 256 = (l.length : Int) by omega]
theorem specHead_eq {a b c d e f : Int} {m w : Bool} {l : List Int} (h : packetOk a b c d e f m w l = true) (k : Nat) (hk : 80 ≤ k) : spec_l4Head.f k a b c d e f m w l = some (packetHead a b c d e f m w l) := by
  have hq := packetOk_parts h
  unfold spec_l4Head.f packetHead
  rw [specBytesOf_eq a 2 k (by omega), specBytesOf_eq b 2 k (by omega), bytesV_two' hq.1, bytesV_two' hq.2.1, specFlags_eq]
  simp only [Option.bind_some]
  rw [if_pos (by rw [be_length, be_length]; omega), if_pos (by rw [List.length_append, be_length, be_length]; simp only [List.length_cons, List.length_nil]; omega), packetTail_eq h]
theorem specPacketBytes_eq (a b c d e f : Int) (m w : Bool) (l : List Int) (k : Nat) (hk : 80 ≤ k) : spec_PacketBytes.f k a b c d e f m w l = some (packetBytes a b c d e f m w l) := by
  unfold spec_PacketBytes.f packetBytes
  rw [specPacketOk_eq]
  simp only [Option.bind_some]
  cases h : packetOk a b c d e f m w l with
  | false => rfl
  | true =>
    have hq := packetOk_parts h
    have h2 := packetHead_len a b c d e f m w l
    have h3 := sum2_len (packetHead a b c d e f m w l)
    have h1 := specSum2 (packetHead_bytes h) (by omega) k hk
    obtain ⟨x, hx, hy⟩ := Option.bind_eq_some_iff.mp h1
    rw [if_pos rfl, if_pos rfl, specHead_eq h k hk]
    simp only [Option.bind_some]
    rw [hx]
    simp only [Option.bind_some]
    rw [hy]
    simp only [Option.bind_some]
    rw [if_pos (by omega), if_pos (by rw [List.length_append]; omega)]
theorem implpacketBytes_eq {a b c d e f : Int} {m w : Bool} {l : List Int} (h : packetOk a b c d e f m w l = true) (k : Nat) (hk : 80 ≤ k) : impl_packetBytes.f k a b c d e f m w l = some (packetHead a b c d e f m w l ++ sum2 (packetHead a b c d e f m w l) ++ l) := by
  have hq := packetOk_parts h
  have h2 := packetHead_len a b c d e f m w l
  have h3 := sum2_len (packetHead a b c d e f m w l)
  have h1 := implSum2 (packetHead_bytes h) (by omega) k hk
  have hf := packetTail_eq h
  have hg := implFlags_eq m w
  obtain ⟨x1, hx1, hg⟩ := Option.bind_eq_some_iff.mp hg
  obtain ⟨x2, hx2, hg⟩ := Option.bind_eq_some_iff.mp hg
  have hg := Option.some.inj hg
  obtain ⟨x, hx, hy⟩ := Option.bind_eq_some_iff.mp h1
  have hf' := flagsOf_range m w
  rw [show flagsOf m w % 256 = flagsOf m w by omega] at hf
  unfold impl_packetBytes.f
  rw [implbytesOf_eq a 2 (by omega) (by omega) k (by omega), implbytesOf_eq b 2 (by omega) (by omega) k (by omega), hx1, hx2]
  simp only [Option.bind_some]
  rw [hg, hf]
  have hc : ∀ y : List Int, y.length = 6 → [be (2 : Int).toNat a, be (2 : Int).toNat b, y].flatten.length = 10 := by
    intro y hy; simp only [List.flatten_cons, List.flatten_nil, List.append_nil, List.length_append, be_length, hy]; rfl
  rw [concat_eq _ (by rw [hc _ rfl]; omega) (by simp only [List.length_cons, List.length_nil]; omega) k (by simp only [List.length_cons, List.length_nil]; omega)]
  simp only [Option.bind_some]
  have hh : [be (2 : Int).toNat a, be (2 : Int).toNat b, [c, d, e, f, flagsOf m w, (l.length : Int)]].flatten = packetHead a b c d e f m w l := by
    simp only [List.flatten_cons, List.flatten_nil, List.append_nil]; unfold packetHead; rw [List.append_assoc]; rfl
  rw [hh, hx]
  simp only [Option.bind_some]
  rw [hy]
  simp only [Option.bind_some]
  rw [concat_eq _ (by simp only [List.flatten_cons, List.flatten_nil, List.append_nil, List.length_append]; omega) (by simp only [List.length_cons, List.length_nil]; omega) k (by simp only [List.length_cons, List.length_nil]; omega)]
  simp only [Option.bind_some, List.flatten_cons, List.flatten_nil, List.append_nil, List.append_assoc]
theorem implPacketBytes_eq (a b c d e f : Int) (m w : Bool) (l : List Int) (k : Nat) (hk : 80 ≤ k) : impl_PacketBytes.f k a b c d e f m w l = some (packetBytes a b c d e f m w l) := by
  unfold impl_PacketBytes.f packetBytes
  rw [implPacketOk_eq]
  simp only [Option.bind_some]
  cases h : packetOk a b c d e f m w l with
  | false => rfl
  | true =>
    rw [if_pos rfl, if_pos rfl, implpacketBytes_eq h k hk]
    rfl
theorem packetBytes_len (a b c d e f : Int) (m w : Bool) (l : List Int) : (packetBytes a b c d e f m w l).length ≤ 60 := by
  unfold packetBytes
  cases h : packetOk a b c d e f m w l with
  | false => exact Nat.zero_le _
  | true =>
    have hq := packetOk_parts h
    rw [if_pos rfl, List.length_append, List.length_append, sum2_len, packetHead_len]; omega

theorem toByteS_loop (l : List Int) (hn : l.length < 4611686018427387904) : ∀ (d k i : Nat) (o : List Int), l.length - i = d → i ≤ l.length → d < k → o.length = l.length → o.take i = l.take i →
    laws_toByteS.l0 k l o (i : Int) = some l
  | 0, k, i, o, hd, hi, hk, hl, ho => by
    obtain ⟨k, rfl⟩ : ∃ m, k = m + 1 := ⟨k - 1, by omega⟩
    simp only [laws_toByteS.l0]
    rw [if_neg (by omega)]
    rw [List.take_of_length_le (by omega), List.take_of_length_le (by omega)] at ho
    rw [ho]
  | d + 1, k, i, o, hd, hi, hk, hl, ho => by
    obtain ⟨k, rfl⟩ : ∃ m, k = m + 1 := ⟨k - 1, by omega⟩
    have e2 : wrap64 ((i : Int) + 1) = ((i + 1 : Nat) : Int) := by rw [w64 (by omega) (by omega)]; rfl
    simp only [laws_toByteS.l0]
    rw [if_pos (by omega), if_pos (by omega), if_pos (by omega), e2]
    exact toByteS_loop l hn d k (i + 1) _ (by omega) (by omega) (by omega) (by simp [hl]) (by simpa using set_take l o i (by omega) hl ho)
theorem toByteS_eq (l : List Int) (hn : l.length ≤ 140737488351232) (k : Nat) (hk : l.length < k) : laws_toByteS.f k l = some l := by
  unfold laws_toByteS.f
  rw [if_pos (by omega), if_pos (by omega)]
  exact toByteS_loop l (by omega) l.length k 0 _ (by omega) (by omega) hk (by simp) (by simp)

theorem eqByteS_loop (a b : List Int) (hab : a.length = b.length) (hn : a.length < 4611686018427387904) : ∀ (d k i : Nat), a.length - i = d → i ≤ a.length → d < k → a.take i = b.take i →
    laws_eqByteS.l0 k a b (i : Int) = some (decide (a = b))
  | 0, k, i, hd, hi, hk, ho => by
    obtain ⟨k, rfl⟩ : ∃ m, k = m + 1 := ⟨k - 1, by omega⟩
    simp only [laws_eqByteS.l0]
    rw [if_neg (by omega)]
    rw [List.take_of_length_le (by omega), List.take_of_length_le (by omega)] at ho
    rw [decide_eq_true ho]
  | d + 1, k, i, hd, hi, hk, ho => by
    obtain ⟨k, rfl⟩ : ∃ m, k = m + 1 := ⟨k - 1, by omega⟩
    have e2 : wrap64 ((i : Int) + 1) = ((i + 1 : Nat) : Int) := by rw [w64 (by omega) (by omega)]; rfl
    simp only [laws_eqByteS.l0]
    rw [if_pos (by omega), if_pos (by omega), if_pos (by omega), e2]
    by_cases h : rd a (i : Int) = rd b (i : Int)
    · rw [if_pos h]
      exact eqByteS_loop a b hab hn d k (i + 1) (by omega) (by omega) (by omega) (by rw [take_succ_rd a i (by omega), take_succ_rd b i (by omega), ho, h])
    · rw [if_neg h, decide_eq_false (fun e => h (by rw [e]))]
theorem eqByteS_eq (a b : List Int) (hn : a.length < 4611686018427387904) (k : Nat) (hk : a.length < k) : laws_eqByteS.f k a b = some (decide (a = b)) := by
  unfold laws_eqByteS.f
  by_cases h : (a.length : Int) = (b.length : Int)
  · rw [if_pos h]; exact eqByteS_loop a b (by omega) hn a.length k 0 (by omega) (by omega) hk (by simp)
  · rw [if_neg h, decide_eq_false (fun e => h (by rw [e]))]

theorem szPacket_eq (a b c d e f : Int) (m w : Bool) (l : List Int) (n : Int) (h : l.length ≤ 9223372036854775807) (hn0 : 0 ≤ n) (hn : n ≤ 1048576) : laws_szPacket.f a b c d e f m w l n = some (if (l.length : Int) > n then (-1 : Int) else n - (l.length : Int)) := by
  unfold laws_szPacket.f laws_szByteS.f
  rw [w64 (by omega) (by omega)]
  by_cases h1 : (l.length : Int) > n
  · rw [if_pos (by omega), if_pos h1]; rfl
  · rw [if_neg (by omega), if_neg h1]
    simp only [Option.bind_some]
    rw [if_neg (by omega)]
theorem toPacket_eq (a b c d e f : Int) (m w : Bool) (l : List Int) (h : l.length ≤ 1048576) (k : Nat) (hk : l.length < k) : laws_toPacket.f k a b c d e f m w l = some (a, b, c, d, e, f, m, w, l) := by
  unfold laws_toPacket.f
  simp only [toByteS_eq l (by omega) k hk, Option.bind_some]
theorem eqPacket_eq (a b c d e f : Int) (m w : Bool) (l : List Int) (h : l.length ≤ 1048576) (k : Nat) (hk : l.length < k) : laws_eqPacket.f k a b c d e f m w l a b c d e f m w l = some true := by
  unfold laws_eqPacket.f
  simp only [eqByteS_eq l l (by omega) k hk, Option.bind_some, if_true, decide_true, bne_self_eq_false, Bool.false_eq_true, if_false]

theorem markByteS_loop (n : Nat) (hn : n < 4611686018427387904) : ∀ (d k i : Nat) (o : List Int) (a : Int), n - i = d → i ≤ n → d < k → o.length = n → 0 ≤ a → a + d < 4611686018427387904 →
    laws_markByteS.l0 k o a (i : Int) = some (a + d, o.take i ++ marks a d)
  | 0, k, i, o, a, hd, hi, hk, hl, ha, hb => by
    obtain ⟨k, rfl⟩ : ∃ m, k = m + 1 := ⟨k - 1, by omega⟩
    simp only [laws_markByteS.l0]
    rw [if_neg (by omega), List.take_of_length_le (by omega)]
    simp [marks]
  | d + 1, k, i, o, a, hd, hi, hk, hl, ha, hb => by
    obtain ⟨k, rfl⟩ : ∃ m, k = m + 1 := ⟨k - 1, by omega⟩
    have e2 : wrap64 ((i : Int) + 1) = ((i + 1 : Nat) : Int) := by rw [w64 (by omega) (by omega)]; rfl
    simp only [laws_markByteS.l0]
    rw [if_pos (by omega), if_pos (by omega), e2, w64 (x := a + 1) (by omega) (by omega)]
    rw [markByteS_loop n hn d k (i + 1) _ (a + 1) (by omega) (by omega) (by omega) (by simp [hl]) (by omega) (by omega)]
    congr 1
    refine Prod.ext (by simp; omega) ?_
    show _ = o.take i ++ marks a (d + 1)
    have e : ((i : Int)).toNat = i := by omega
    rw [e, take_succ_rd _ i (by simp; omega), rd_set_eq _ _ _ (by omega), List.take_set_of_le (by omega)]
    simp [marks]
theorem markByteS_eq (l : List Int) (a : Int) (ha : 0 ≤ a) (hb : a + l.length < 4611686018427387904) (k : Nat) (hk : l.length < k) : laws_markByteS.f k l a = some (a + l.length, marks a l.length) := by
  unfold laws_markByteS.f
  rw [show (0 : Int) = ((0 : Nat) : Int) from rfl, markByteS_loop l.length (by omega) l.length k 0 l a (by omega) (by omega) hk rfl ha hb]
  simp

theorem heldByteS_loop (n : Nat) (b : Int) (hn : n < 4611686018427387904) : ∀ (d k i : Nat) (a : Int), n - i = d → i ≤ n → d < k → 0 ≤ a → a = b + i → a + d < 4611686018427387904 →
    laws_heldByteS.l0 k (marks b n) a (i : Int) = some (a + d)
  | 0, k, i, a, hd, hi, hk, ha, he, hb => by
    obtain ⟨k, rfl⟩ : ∃ m, k = m + 1 := ⟨k - 1, by omega⟩
    simp only [laws_heldByteS.l0]
    rw [if_neg (by rw [marks_length]; omega)]
    simp
  | d + 1, k, i, a, hd, hi, hk, ha, he, hb => by
    obtain ⟨k, rfl⟩ : ∃ m, k = m + 1 := ⟨k - 1, by omega⟩
    have e2 : wrap64 ((i : Int) + 1) = ((i + 1 : Nat) : Int) := by rw [w64 (by omega) (by omega)]; rfl
    simp only [laws_heldByteS.l0]
    rw [if_pos (by rw [marks_length]; omega), if_pos (by omega), marks_rd b n i (by omega), if_pos (by rw [he]), e2, w64 (x := a + 1) (by omega) (by omega)]
    rw [heldByteS_loop n b hn d k (i + 1) (a + 1) (by omega) (by omega) (by omega) (by omega) (by omega) (by omega)]
    congr 1; omega
theorem heldByteS_eq (n : Nat) (a : Int) (ha : 0 ≤ a) (hb : a + n < 4611686018427387904) (k : Nat) (hk : n < k) : laws_heldByteS.f k (marks a n) a = some (a + n) := by
  unfold laws_heldByteS.f
  rw [show (0 : Int) = ((0 : Nat) : Int) from rfl, heldByteS_loop n a (by omega) n k 0 a (by omega) (by omega) hk ha (by omega) (by omega)]

theorem markPacket_eq (a b c d e f : Int) (m w : Bool) (l : List Int) (hl : l.length ≤ 1048576) (k : Nat) (hk : l.length < k) : laws_markPacket.f k a b c d e f m w l 1 = some (1 + (l.length : Int), marks 1 l.length) := by
  unfold laws_markPacket.f
  rw [markByteS_eq l 1 (by omega) (by omega) k hk]
  rfl
theorem FnExactPacketBytes (a0_0 : Int) (a0_1 : Int) (a0_2 : Int) (a0_3 : Int) (a0_4 : Int) (a0_5 : Int) (a0_6 : Bool) (a0_7 : Bool) (l0_8 : (List Int)) (_ : (Lit.int .i64 a0_0).wf = true) (_ : (Lit.int .i64 a0_1).wf = true) (_ : (Lit.int .i64 a0_2).wf = true) (_ : (Lit.int .i64 a0_3).wf = true) (_ : (Lit.int .i64 a0_4).wf = true) (_ : (Lit.int .i64 a0_5).wf = true) (g0_8 : (l0_8.length ≤ maxLen ∧ ∀ x ∈ l0_8, (Lit.int .u8 x).wf = true)) : ∃ k, laws_FnExactPacketBytes.f k a0_0 a0_1 a0_2 a0_3 a0_4 a0_5 a0_6 a0_7 l0_8 = some true := by
  have hm : l0_8.length ≤ 9223372036854775807 := g0_8.1
  refine ⟨l0_8.length + 101, ?_⟩
  unfold laws_FnExactPacketBytes.f
  rw [szPacket_eq _ _ _ _ _ _ _ _ _ 1048576 hm (by omega) (by omega)]
  simp only [Option.bind_some]
  by_cases h1 : (l0_8.length : Int) > 1048576
  · rw [if_pos h1]; rfl
  have hl : (packetBytes a0_0 a0_1 a0_2 a0_3 a0_4 a0_5 a0_6 a0_7 l0_8).length ≤ 60 := packetBytes_len _ _ _ _ _ _ _ _ _
  have hq1 : ¬ (1 + (l0_8.length : Int) < 0) := by omega
  have hq2 : ¬ (1 + ((packetBytes a0_0 a0_1 a0_2 a0_3 a0_4 a0_5 a0_6 a0_7 l0_8).length : Int) < 0) := by omega
  have ht : ∀ k, l0_8.length < k → laws_toPacket.f k a0_0 a0_1 a0_2 a0_3 a0_4 a0_5 a0_6 a0_7 l0_8 = some (a0_0, a0_1, a0_2, a0_3, a0_4, a0_5, a0_6, a0_7, l0_8) := fun k hk => toPacket_eq a0_0 a0_1 a0_2 a0_3 a0_4 a0_5 a0_6 a0_7 l0_8 (by omega) k hk
  have hi : ∀ k, 80 ≤ k → impl_PacketBytes.f k a0_0 a0_1 a0_2 a0_3 a0_4 a0_5 a0_6 a0_7 l0_8 = some (packetBytes a0_0 a0_1 a0_2 a0_3 a0_4 a0_5 a0_6 a0_7 l0_8) := fun k hk => implPacketBytes_eq _ _ _ _ _ _ _ _ _ k hk
  have he : ∀ k, 80 ≤ k → laws_eqByteS.f k (packetBytes a0_0 a0_1 a0_2 a0_3 a0_4 a0_5 a0_6 a0_7 l0_8) (packetBytes a0_0 a0_1 a0_2 a0_3 a0_4 a0_5 a0_6 a0_7 l0_8) = some true := fun k hk => by rw [eqByteS_eq _ _ (by omega) k (by omega)]; simp
  have hk1 : l0_8.length < l0_8.length + 101 := by omega
  have hk2 : l0_8.length < l0_8.length + 100 := by omega
  have hk3 : 80 ≤ l0_8.length + 101 := by omega
  have hk4 : 80 ≤ l0_8.length + 100 := by omega
  rw [if_neg h1, if_neg (by omega)]
  simp only [ht _ hk1, hi _ hk3, he _ hk3, specPacketBytes_eq a0_0 a0_1 a0_2 a0_3 a0_4 a0_5 a0_6 a0_7 l0_8 _ hk3, eqPacket_eq a0_0 a0_1 a0_2 a0_3 a0_4 a0_5 a0_6 a0_7 l0_8 (by omega) _ hk1, markPacket_eq a0_0 a0_1 a0_2 a0_3 a0_4 a0_5 a0_6 a0_7 l0_8 (by omega) _ hk1, Option.bind_some, if_true, if_neg hq1, Bool.not_true]
  simp only [laws_FnExactPacketBytes.j0, Bool.false_eq_true, if_false, markByteS_eq (packetBytes a0_0 a0_1 a0_2 a0_3 a0_4 a0_5 a0_6 a0_7 l0_8) 1 (by omega) (by omega) (l0_8.length + 100) (by omega), heldByteS_eq (packetBytes a0_0 a0_1 a0_2 a0_3 a0_4 a0_5 a0_6 a0_7 l0_8).length 1 (by omega) (by omega) (l0_8.length + 100) (by omega),
    Option.bind_some, if_neg hq2, if_true, ht _ hk2, hi _ hk4, he _ hk4]

end Go.Proofs.Ytbjfnpjkldfeiaa.Pure

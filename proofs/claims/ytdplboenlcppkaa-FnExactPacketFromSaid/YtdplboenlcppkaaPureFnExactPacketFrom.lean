/- PacketFrom of the program is the reference's at all bytes; the statement's own bounds alone. -/
import Derived.Test.YtdplboenlcppkaaPFnExactPacketFromx8
import Derived.Test.YtdplboenlcppkaaUFnExactPacketFromBase
namespace Go.Proofs.Ytdplboenlcppkaa.Pure
set_option linter.unusedSimpArgs false
set_option linter.unusedVariables false
open Go Go.RowKit Go.Proofs.Ytdplboenlcppkaa.PFnExactPacketFrom Go.Proofs.YtdplboenlcppkaaUFnExactPacketFrom.PrintWords Go.Proofs.YtdplboenlcppkaaUFnExactPacketFrom.PrintLast Go.Proofs.YtdplboenlcppkaaUFnExactPacketFrom.PrintMore Go.Proofs.Ytdplboenlcppkaa.Base

theorem l1In_eq (a b c : Int) : spec_l1In.f a b c = some (decide (b ≤ a ∧ a ≤ c)) := by
  unfold spec_l1In.f
  by_cases h : a ≥ b <;> simp [h]

theorem in_eq (a b c : Int) : impl_in.f a b c = some (decide (b ≤ a ∧ a ≤ c)) := by
  unfold impl_in.f
  by_cases h : a ≥ b <;> simp [h]

theorem word_eq (a : Int) : impl_word.f a = some (decide (0 ≤ a ∧ a ≤ 65535)) := by
  unfold impl_word.f
  rw [in_eq]; rfl

/-- A packet is ok. -/
def packetOk (a b c d e f : Int) (m w : Bool) (l : List Int) : Bool :=
  decide ((0 ≤ a ∧ a ≤ 65535) ∧ (0 ≤ b ∧ b ≤ 65535) ∧ (0 ≤ c ∧ c ≤ 255) ∧ (0 ≤ d ∧ d ≤ 255) ∧ (0 ≤ e ∧ e ≤ 255) ∧ (0 ≤ f ∧ f ≤ 255) ∧ (l.length : Int) ≤ 48 ∧ (m = true → (l.length : Int) > 0) ∧ (w = true → f = 0 ∧ m = false))
theorem packet_end (m w : Bool) (f n : Int) : (if n ≤ 48 then (if m = true then (if n > 0 then (if w = true then (if f = 0 then (some (!m)) else (some false)) else (some true)) else (some false)) else (if w = true then (if f = 0 then (some (!m)) else (some false)) else (some true))) else (some false)) =
    some (decide (n ≤ 48 ∧ (m = true → n > 0) ∧ (w = true → f = 0 ∧ m = false))) := by
  by_cases h1 : n ≤ 48 <;> by_cases h2 : n > 0 <;> by_cases h3 : f = 0 <;> cases m <;> cases w <;> simp [h1, h2, h3] <;> omega
theorem specPacketOk_eq (a b c d e f : Int) (m w : Bool) (l : List Int) : spec_PacketOk.f a b c d e f m w l = some (packetOk a b c d e f m w l) := by
  unfold spec_PacketOk.f packetOk
  simp only [l1In_eq, Option.bind_some, packet_end]
  by_cases h1 : 0 ≤ a ∧ a ≤ 65535
  · by_cases h2 : 0 ≤ b ∧ b ≤ 65535
    · by_cases h3 : 0 ≤ c ∧ c ≤ 255
      · by_cases h4 : 0 ≤ d ∧ d ≤ 255
        · by_cases h5 : 0 ≤ e ∧ e ≤ 255
          · by_cases h6 : 0 ≤ f ∧ f ≤ 255
            · simp only [h1, h2, h3, h4, h5, h6, true_and, and_self, decide_true, if_true]
            · simp [h1, h2, h3, h4, h5, h6]
          · simp [h1, h2, h3, h4, h5]
        · simp [h1, h2, h3, h4]
      · simp [h1, h2, h3]
    · simp [h1, h2]
  · simp [h1]
theorem implPacketOk_eq (a b c d e f : Int) (m w : Bool) (l : List Int) : impl_PacketOk.f a b c d e f m w l = some (packetOk a b c d e f m w l) := by
  unfold impl_PacketOk.f packetOk
  simp only [in_eq, word_eq, Option.bind_some, packet_end]
  by_cases h1 : 0 ≤ a ∧ a ≤ 65535
  · by_cases h2 : 0 ≤ b ∧ b ≤ 65535
    · by_cases h3 : 0 ≤ c ∧ c ≤ 255
      · by_cases h4 : 0 ≤ d ∧ d ≤ 255
        · by_cases h5 : 0 ≤ e ∧ e ≤ 255
          · by_cases h6 : 0 ≤ f ∧ f ≤ 255
            · simp only [h1, h2, h3, h4, h5, h6, true_and, and_self, decide_true, if_true]
            · simp [h1, h2, h3, h4, h5, h6]
          · simp [h1, h2, h3, h4, h5]
        · simp [h1, h2, h3, h4]
      · simp [h1, h2, h3]
    · simp [h1, h2]
  · simp [h1]

theorem bytesB_of {l : List Int} (h : Bytes l) : bytesB l = true := List.all_eq_true.mpr (fun x hx => decide_eq_true (h x hx))
/-- The pairs' numbers together. -/
def tot : List Int → Int
  | [] => 0
  | [a] => a * 256
  | a :: b :: l => a * 256 + b + tot l
theorem sumAdd_mod {a b : Int} : sumAdd a b % 65535 = (a + b) % 65535 := by unfold sumAdd; split <;> omega
theorem sumP_mod : ∀ (l : List Int) (s : Int), Bytes l → 0 ≤ s ∧ s ≤ 65535 → (0 ≤ sumP l s ∧ sumP l s ≤ 65535) ∧ sumP l s % 65535 = (s + tot l) % 65535
  | [], s, _, hs => ⟨hs, by simp [sumP, tot]⟩
  | [a], s, hb, hs => by
    have ha := hb a (by simp)
    exact ⟨sumAdd_range hs (by omega), sumAdd_mod⟩
  | a :: b :: l, s, hb, hs => by
    have ha := hb a (by simp)
    have hb' := hb b (by simp)
    have hr := sumAdd_range hs (b := a * 256 + b) (by omega)
    have hm := sumAdd_mod (a := s) (b := a * 256 + b)
    obtain ⟨h1, h2⟩ := sumP_mod l (sumAdd s (a * 256 + b)) (fun x hx => hb x (by simp [hx])) hr
    refine ⟨h1, ?_⟩
    show sumP l (sumAdd s (a * 256 + b)) % 65535 = (s + (a * 256 + b + tot l)) % 65535
    omega
theorem sumP_append : ∀ (l m : List Int) (s : Int), l.length % 2 = 0 → sumP (l ++ m) s = sumP m (sumP l s)
  | [], m, s, _ => rfl
  | [a], m, s, h => by simp at h
  | a :: b :: l, m, s, h => by
    have := sumP_append l m (sumAdd s (a * 256 + b)) (by simp at h; omega)
    exact this
/-- How much a byte at place k counts. -/
def wt (k : Nat) : Int := if k % 2 = 0 then 256 else 1
theorem tot_set : ∀ (l : List Int) (k : Nat) (v : Int), k < l.length → tot (l.set k v) = tot l + (v - rd l (k : Int)) * wt k
  | [], k, v, h => by simp at h
  | [a], k, v, h => by
    obtain rfl : k = 0 := by simp at h; omega
    show v * 256 = a * 256 + (v - a) * 256
    omega
  | a :: b :: l, 0, v, h => by
    show v * 256 + b + tot l = a * 256 + b + tot l + (v - a) * 256
    omega
  | a :: b :: l, 1, v, h => by
    show a * 256 + v + tot l = a * 256 + b + tot l + (v - b) * 1
    omega
  | a :: b :: l, k + 2, v, h => by
    have ih := tot_set l k v (by simpa using h)
    have hw : wt (k + 2) = wt k := by unfold wt; rw [show (k + 2) % 2 = k % 2 by omega]
    have hr : rd (a :: b :: l) ((k + 2 : Nat) : Int) = rd l (k : Int) := by unfold rd; rfl
    show a * 256 + b + tot (l.set k v) = a * 256 + b + tot l + (v - rd (a :: b :: l) ((k + 2 : Nat) : Int)) * wt (k + 2)
    rw [ih, hw, hr]; omega
theorem xor16_nat : ∀ a : Nat, a < 256 → (a ^^^ 16 = a + 16 ∨ (a ^^^ 16) + 16 = a) ∧ a ^^^ 16 < 256 := by decide +kernel
theorem xor16 {a : Int} (h : 0 ≤ a ∧ a < 256) : (Go.bits .xor .u8 a 16 = a + 16 ∨ Go.bits .xor .u8 a 16 = a - 16) ∧ 0 ≤ Go.bits .xor .u8 a 16 ∧ Go.bits .xor .u8 a 16 < 256 := by
  obtain ⟨n, rfl⟩ : ∃ n : Nat, a = n := ⟨a.toNat, by omega⟩
  have hn : n < 256 := by omega
  obtain ⟨h1, h2⟩ := xor16_nat n hn
  have e : Go.bits .xor .u8 (n : Int) 16 = ((n ^^^ 16 : Nat) : Int) := by
    have ha' : n % 2 ^ IntKind.u8.bits = n := Nat.mod_eq_of_lt (by simp [IntKind.bits]; omega)
    rw [show (16 : Int) = ((16 : Nat) : Int) from rfl]
    simp only [Go.bits, BitVec.ofInt_natCast, BitVec.toNat_xor, BitVec.toNat_ofNat, ha']
    rw [show 16 % 2 ^ IntKind.u8.bits = 16 by simp [IntKind.bits], IntKind.wrap_u8]; omega
  rw [e]; omega

/-- The sum's two bytes. -/
def sum2 (l : List Int) : List Int := be 2 (65535 - sumP l 0)
theorem sum2_len (l : List Int) : (sum2 l).length = 2 := by unfold sum2; rw [be_length]

/-- The flags' number. -/
def flagsOf (m w : Bool) : Int := (if m then 1 else 0) + (if w then 2 else 0)
theorem flagsOf_range (m w : Bool) : 0 ≤ flagsOf m w ∧ flagsOf m w ≤ 3 := by cases m <;> cases w <;> decide
/-- A packet's head ahead of the sum. -/
def packetHead (a b c d e f : Int) (m w : Bool) (l : List Int) : List Int := be 2 a ++ be 2 b ++ [c, d, e, f, flagsOf m w, (l.length : Int)]
/-- A packet as bytes. -/
def packetBytes (a b c d e f : Int) (m w : Bool) (l : List Int) : List Int :=
  if packetOk a b c d e f m w l = true then packetHead a b c d e f m w l ++ sum2 (packetHead a b c d e f m w l) ++ l else []
theorem packetHead_len (a b c d e f : Int) (m w : Bool) (l : List Int) : (packetHead a b c d e f m w l).length = 10 := by
  unfold packetHead; rw [List.length_append, List.length_append, be_length, be_length]; rfl
theorem packetOk_parts {a b c d e f : Int} {m w : Bool} {l : List Int} (h : packetOk a b c d e f m w l = true) : (0 ≤ a ∧ a ≤ 65535) ∧ (0 ≤ b ∧ b ≤ 65535) ∧ (0 ≤ c ∧ c ≤ 255) ∧ (0 ≤ d ∧ d ≤ 255) ∧ (0 ≤ e ∧ e ≤ 255) ∧ (0 ≤ f ∧ f ≤ 255) ∧ (l.length : Int) ≤ 48 := by
  have := of_decide_eq_true h
  exact ⟨this.1, this.2.1, this.2.2.1, this.2.2.2.1, this.2.2.2.2.1, this.2.2.2.2.2.1, this.2.2.2.2.2.2.1⟩
theorem packetHead_bytes {a b c d e f : Int} {m w : Bool} {l : List Int} (h : packetOk a b c d e f m w l = true) : Bytes (packetHead a b c d e f m w l) := by
  have hq := packetOk_parts h
  have hf := flagsOf_range m w
  exact ((be_bytes _ _).append (be_bytes _ _)).append (Bytes.cons (by omega) (Bytes.cons (by omega) (Bytes.cons (by omega) (Bytes.cons (by omega) (Bytes.cons (by omega) (Bytes.cons (by omega) Bytes.nil))))))
theorem packetTail_eq {a b c d e f : Int} {m w : Bool} {l : List Int} (h : packetOk a b c d e f m w l = true) : [c % 256, d % 256, e % 256, f % 256, flagsOf m w % 256, (l.length : Int) % 256] = [c, d, e, f, flagsOf m w, (l.length : Int)] := by
  have hq := packetOk_parts h
  have hf := flagsOf_range m w
  rw [show c % 256 = c by omega, show d % 256 = d by omega, show e % 256 = e by omega, show f % 256 = f by omega, show flagsOf m w % 256 = flagsOf m w by omega, show (l.length : Int) % 256 = (l.length : Int) by omega]
theorem packetBytes_len (a b c d e f : Int) (m w : Bool) (l : List Int) : (packetBytes a b c d e f m w l).length ≤ 60 := by
  unfold packetBytes
  cases h : packetOk a b c d e f m w l with
  | false => exact Nat.zero_le _
  | true =>
    have hq := packetOk_parts h
    rw [if_pos rfl, List.length_append, List.length_append, sum2_len, packetHead_len]; omega

/-- The number of n bytes at a place; -1 if there is none. -/
def numAt (l : List Int) (a n : Int) : Int := if (1 ≤ n ∧ n ≤ 4) ∧ 0 ≤ a ∧ a + n ≤ l.length then num ((l.drop a.toNat).take n.toNat) else -1
theorem num_take (l : List Int) (i : Nat) (h : i < l.length) : num (l.take (i + 1)) = num (l.take i) * 256 + rd l (i : Int) := by
  rw [take_succ_rd l i h, num_append]
theorem num_take_range {l : List Int} (h : Bytes l) (i : Nat) (hi : i ≤ 4) : 0 ≤ num (l.take i) ∧ num (l.take i) < 4294967296 := by
  have h1 := num_range _ (h.take i)
  refine ⟨h1.1, Int.lt_of_lt_of_le h1.2 ?_⟩
  have h2 : (l.take i).length ≤ 4 := by rw [List.length_take]; omega
  generalize (l.take i).length = n at h2
  obtain rfl | rfl | rfl | rfl | rfl : n = 0 ∨ n = 1 ∨ n = 2 ∨ n = 3 ∨ n = 4 := by omega
  all_goals decide
theorem rd_drop (l : List Int) (a i : Nat) : rd (l.drop a) (i : Int) = rd l ((a + i : Nat) : Int) := by
  unfold rd; rw [List.getD_eq_getElem?_getD, List.getD_eq_getElem?_getD, List.getElem?_drop]; rfl

/-- A number is the sum of bytes. -/
def sumFits (l : List Int) (s : Int) : Bool := decide ((0 ≤ s ∧ s ≤ 65535) ∧ s % 65535 = (65535 - sumP l 0) % 65535)
theorem implSumFits_eq {l : List Int} (hb : Bytes l) (hl : l.length ≤ 4611686018427387904) (s : Int) (k : Nat) : impl_SumFits.f k l s = some (sumFits l s) := by
  have hr := (sumP_mod l 0 hb (by omega)).1
  unfold impl_SumFits.f impl_sumOf.f sumFits
  rw [if_pos ⟨bytesB_of hb, hl⟩, word_eq]
  simp only [Option.bind_some]
  by_cases h1 : 0 ≤ s ∧ s ≤ 65535
  · rw [if_pos (decide_eq_true h1), Int.tmod_eq_emod_of_nonneg h1.1, Int.tmod_eq_emod_of_nonneg (by omega)]
    by_cases h2 : s = 65535 - sumP l 0
    · rw [if_pos h2, decide_eq_true ⟨h1, by rw [h2]⟩]
    · rw [if_neg h2]
      by_cases h3 : s % 65535 = 0
      · rw [if_pos h3]
        by_cases h4 : (65535 - sumP l 0) % 65535 = 0
        · rw [decide_eq_true ⟨h1, by omega⟩, h4]; rfl
        · rw [decide_eq_false (by omega), show ((65535 - sumP l 0) % 65535 == 0) = false from beq_eq_false_iff_ne.mpr h4]
      · rw [if_neg h3, decide_eq_false (by omega)]
  · rw [if_neg (by simpa using h1), decide_eq_false (by omega)]

def bitM (x : Int) : Bool := decide (x % 2 = 1)
def bitW (x : Int) : Bool := decide (x / 2 % 2 = 1)
/-- Bytes are a packet's. -/
def pfOk (l : List Int) : Bool := decide (12 ≤ l.length ∧ sumFits (l.take 10) (numAt l 10 2) = true ∧ (l.length : Int) = 12 + rd l 9 ∧ rd l 8 ≤ 3 ∧
  packetOk (numAt l 0 2) (numAt l 2 2) (rd l 4) (rd l 5) (rd l 6) (rd l 7) (bitM (rd l 8)) (bitW (rd l 8)) (l.drop 12) = true)
/-- The packet of bytes. -/
def packetFrom (l : List Int) : Int × Int × Int × Int × Int × Int × Bool × Bool × List Int × Bool :=
  if pfOk l = true then (numAt l 0 2, numAt l 2 2, rd l 4, rd l 5, rd l 6, rd l 7, bitM (rd l 8), bitW (rd l 8), l.drop 12, true) else (0, 0, 0, 0, 0, 0, false, false, [], false)
theorem four_of {x : Int} (h0 : 0 ≤ x) (h3 : x ≤ 3) : x = 0 ∨ x = 1 ∨ x = 2 ∨ x = 3 := by omega
theorem packetFrom_ok (l : List Int) : (packetFrom l).2.2.2.2.2.2.2.2.2 = pfOk l := by
  unfold packetFrom
  cases pfOk l <;> rfl

theorem implNumberAt_loop (m : List Int) (hb : Bytes m) (hn : m.length ≤ 4) : ∀ (d k i : Nat), m.length - i = d → i ≤ m.length → d < k →
    impl_NumberAt.l0 k (num (m.take i)) m (m.length : Int) (i : Int) = some (num m)
  | 0, k, i, hd, hi, hk => by
    obtain ⟨k, rfl⟩ : ∃ m, k = m + 1 := ⟨k - 1, by omega⟩
    simp only [impl_NumberAt.l0]
    rw [if_neg (by omega), List.take_of_length_le (by omega)]
  | d + 1, k, i, hd, hi, hk => by
    obtain ⟨k, rfl⟩ : ∃ m, k = m + 1 := ⟨k - 1, by omega⟩
    have e2 : wrap64 ((i : Int) + 1) = ((i + 1 : Nat) : Int) := by rw [w64 (by omega) (by omega)]; rfl
    have hr := hb.at_ (i : Int)
    have hm := num_take_range hb i (by omega)
    simp only [impl_NumberAt.l0]
    rw [if_pos (by omega), if_pos (by omega), if_pos (by omega), e2, w64 (x := rd m _) (by omega) (by omega), w64 (x := _ * 256) (by omega) (by omega)]
    rw [or_byte (by omega) (by omega) (by omega) (by omega), ← num_take _ i (by omega)]
    exact implNumberAt_loop m hb hn d k (i + 1) (by omega) (by omega) (by omega)
theorem implNumberAt_eq (l : List Int) (hb : Bytes l) (hl : l.length < 4611686018427387904) (a n : Int) (k : Nat) (hk : 6 ≤ k) : impl_NumberAt.f k l a n = some (numAt l a n) := by
  obtain ⟨k, rfl⟩ : ∃ m, k = m + 1 := ⟨k - 1, by omega⟩
  unfold impl_NumberAt.f numAt
  simp only [in_eq, Option.bind_some, impl_NumberAt.j0]
  by_cases h1 : 1 ≤ n ∧ n ≤ 4
  · rw [if_pos (decide_eq_true h1), w64 (x := (l.length : Int) - n) (by omega) (by omega)]
    by_cases h2 : a < 0
    · rw [if_pos h2, if_pos trivial, if_neg (by omega)]
    · rw [if_neg h2]
      by_cases h3 : a > (l.length : Int) - n
      · rw [if_pos (decide_eq_true h3), if_neg (by omega)]
      · rw [if_neg (by simpa using h3), if_pos (by omega), w64 (by omega) (by omega), if_pos (by omega), if_pos (by omega), if_pos (by omega)]
        have e : (l.take (a + n).toNat).drop a.toNat = (l.drop a.toNat).take n.toNat := by
          rw [List.drop_take]; congr 1; omega
        rw [e]
        have hlen : ((l.drop a.toNat).take n.toNat).length = n.toNat := by rw [List.length_take, List.length_drop]; omega
        exact implNumberAt_loop _ ((hb.drop _).take _) (by omega) _ k 0 (by rw [Nat.sub_zero]) (by omega) (by omega)
  · rw [if_neg (by simpa using h1), if_pos trivial, if_neg (by omega)]

theorem and_m {x : Int} (h0 : 0 ≤ x) (h3 : x ≤ 3) : (Go.bits .and .u8 x 1 != 0) = bitM x := by
  rcases four_of h0 h3 with rfl | rfl | rfl | rfl <;> decide +kernel
theorem and_w {x : Int} (h0 : 0 ≤ x) (h3 : x ≤ 3) : (Go.bits .and .u8 x 2 != 0) = bitW x := by
  rcases four_of h0 h3 with rfl | rfl | rfl | rfl <;> decide +kernel
theorem implPacketFrom_eq (l : List Int) (hb : Bytes l) (hl : l.length ≤ 1099511627776) (k : Nat) (hk : 20 ≤ k) : impl_PacketFrom.f k l = some (packetFrom l) := by
  obtain ⟨k, rfl⟩ : ∃ m, k = m + 1 + 1 := ⟨k - 2, by omega⟩
  unfold impl_PacketFrom.f packetFrom
  by_cases h : 12 ≤ l.length
  · have w4 : wrap64 (rd l 4) = rd l 4 := by have := hb.at_ 4; exact w64 (by omega) (by omega)
    have w5 : wrap64 (rd l 5) = rd l 5 := by have := hb.at_ 5; exact w64 (by omega) (by omega)
    have w6 : wrap64 (rd l 6) = rd l 6 := by have := hb.at_ 6; exact w64 (by omega) (by omega)
    have w7 : wrap64 (rd l 7) = rd l 7 := by have := hb.at_ 7; exact w64 (by omega) (by omega)
    have w9 : wrap64 (12 + wrap64 (rd l 9)) = 12 + rd l 9 := by have := hb.at_ 9; rw [w64 (x := rd l 9) (by omega) (by omega), w64 (by omega) (by omega)]
    have h8 := hb.at_ 8
    have nA : ∀ (a : Int) (k : Nat), 6 ≤ k → impl_NumberAt.f k l a 2 = some (numAt l a 2) := fun a k hk => implNumberAt_eq l hb (by omega) a 2 k hk
    have c4 : (4 : Int) < (l.length : Int) := by omega
    have c5 : (5 : Int) < (l.length : Int) := by omega
    have c6 : (6 : Int) < (l.length : Int) := by omega
    have c7 : (7 : Int) < (l.length : Int) := by omega
    have c8 : (8 : Int) < (l.length : Int) := by omega
    have c9 : (9 : Int) < (l.length : Int) := by omega
    have c12 : (12 : Int) ≤ (l.length : Int) := by omega
    have hcl : impl_clone_byte.f (l.drop 12) = some (l.drop 12) := by unfold impl_clone_byte.f; rw [if_pos (by rw [List.length_drop]; omega)]
    rw [if_neg (by omega), if_pos (by omega), nA 10 _ (by omega)]
    simp only [Option.bind_some]
    rw [implSumFits_eq (hb.take 10) (by rw [List.length_take]; omega) _ _]
    simp only [Option.bind_some, w9, if_pos c9, if_pos c8]
    by_cases hs : sumFits (l.take 10) (numAt l 10 2) = true
    · rw [if_pos hs]
      by_cases h9 : (l.length : Int) = 12 + rd l 9
      · rw [if_pos h9]
        simp only [impl_PacketFrom.j0, impl_PacketFrom.j1]
        by_cases h83 : rd l 8 ≤ 3
        · rw [if_neg (by simp; omega), nA 0 _ (by omega), nA 2 _ (by omega)]
          simp only [Option.bind_some, if_pos c4, if_pos c5, if_pos c6, if_pos c7, if_pos c8, if_pos c12, hcl, w4, w5, w6, w7, implPacketOk_eq, and_m h8.1 h83, and_w h8.1 h83]
          unfold pfOk
          cases hp : packetOk (numAt l 0 2) (numAt l 2 2) (rd l 4) (rd l 5) (rd l 6) (rd l 7) (bitM (rd l 8)) (bitW (rd l 8)) (l.drop 12) with
          | true => rw [if_neg (by decide), if_pos (decide_eq_true ⟨h, hs, h9, h83, rfl⟩)]
          | false => rw [if_pos (by decide), if_neg (by simp)]
        · rw [if_pos (by simp; omega), if_neg (by unfold pfOk; simp; intros; omega)]
      · rw [if_neg h9]
        simp only [impl_PacketFrom.j0, if_true]
        rw [if_neg (by unfold pfOk; simp; intros; omega)]
    · rw [if_neg hs]
      simp only [impl_PacketFrom.j0, if_true]
      rw [if_neg (by unfold pfOk; simp [hs])]
  · rw [if_pos (by omega)]
    simp only [impl_PacketFrom.j0, if_true]
    rw [if_neg (by unfold pfOk; simp; intros; omega)]

theorem specNumberAt_loop (l : List Int) (hb : Bytes l) (a n : Nat) (hn : n ≤ 4) (ha : a + n ≤ l.length) (hl : l.length < 4611686018427387904) : ∀ (d k i : Nat), n - i = d → i ≤ n → d < k →
    spec_NumberAt.l0 k l (a : Int) (n : Int) (num ((l.drop a).take i)) (i : Int) = some (num ((l.drop a).take n))
  | 0, k, i, hd, hi, hk => by
    obtain ⟨k, rfl⟩ : ∃ m, k = m + 1 := ⟨k - 1, by omega⟩
    simp only [spec_NumberAt.l0]
    rw [if_neg (by omega)]
    obtain rfl : i = n := by omega
    rfl
  | d + 1, k, i, hd, hi, hk => by
    obtain ⟨k, rfl⟩ : ∃ m, k = m + 1 := ⟨k - 1, by omega⟩
    have e2 : wrap64 ((i : Int) + 1) = ((i + 1 : Nat) : Int) := by rw [w64 (by omega) (by omega)]; rfl
    have e3 : wrap64 ((a : Int) + (i : Int)) = ((a + i : Nat) : Int) := by rw [w64 (by omega) (by omega)]; rfl
    have hr := hb.at_ ((a + i : Nat) : Int)
    have hm := num_take_range (hb.drop a) i (by omega)
    simp only [spec_NumberAt.l0]
    rw [if_pos (by omega), e3, if_pos (by omega), if_pos (by omega), e2, w64 (x := rd l _) (by omega) (by omega), w64 (x := _ * 256) (by omega) (by omega), w64 (by omega) (by omega)]
    rw [← rd_drop, ← num_take _ i (by rw [List.length_drop]; omega)]
    exact specNumberAt_loop l hb a n hn ha hl d k (i + 1) (by omega) (by omega) (by omega)
theorem specNumberAt_eq (l : List Int) (hb : Bytes l) (hl : l.length < 4611686018427387904) (a n : Int) (k : Nat) (hk : 6 ≤ k) : spec_NumberAt.f k l a n = some (numAt l a n) := by
  obtain ⟨k, rfl⟩ : ∃ m, k = m + 1 := ⟨k - 1, by omega⟩
  unfold spec_NumberAt.f numAt
  simp only [l1In_eq, Option.bind_some, spec_NumberAt.j0]
  by_cases h1 : 1 ≤ n ∧ n ≤ 4
  · rw [if_pos (decide_eq_true h1), w64 (by omega) (by omega)]
    by_cases h2 : 0 ≤ a ∧ a ≤ (l.length : Int) - n
    · rw [decide_eq_true h2, if_neg (by decide), if_pos (by omega)]
      obtain ⟨a, rfl⟩ : ∃ m : Nat, a = m := ⟨a.toNat, by omega⟩
      obtain ⟨n, rfl⟩ : ∃ m : Nat, n = m := ⟨n.toNat, by omega⟩
      exact specNumberAt_loop l hb a n (by omega) (by omega) hl n k 0 (by omega) (by omega) (by omega)
    · rw [decide_eq_false h2, if_pos (by decide), if_neg (by omega)]
  · rw [if_neg (by simpa using h1), if_pos trivial, if_neg (by omega)]

theorem sumAdd_two {s a b : Int} (hs : 0 ≤ s ∧ s ≤ 65535) (ha : 0 ≤ a ∧ a < 256) (hb : 0 ≤ b ∧ b < 256) : sumAdd (sumAdd s (a * 256)) b = sumAdd s (a * 256 + b) := by
  unfold sumAdd
  by_cases h1 : s + a * 256 > 65535
  · rw [if_pos h1, if_neg (by omega), if_pos (by omega)]; omega
  · rw [if_neg h1]
    by_cases h2 : s + a * 256 + b > 65535
    · rw [if_pos h2, if_pos (by omega)]; omega
    · rw [if_neg h2, if_neg (by omega)]; omega
theorem l1Sum_even (l : List Int) (hb : Bytes l) (hl : l.length < 4611686018427387904) (j k : Nat) (s : Int) (hs : 0 ≤ s ∧ s ≤ 65535) (h : 2 * j < l.length) :
    spec_l1Sum.l0 (k + 1) l s ((2 * j : Nat) : Int) = spec_l1Sum.l0 k l (sumAdd s (rd l ((2 * j : Nat) : Int) * 256)) ((2 * j + 1 : Nat) : Int) := by
  have hr := hb.at_ ((2 * j : Nat) : Int)
  have e1 : wrap64 (((2 * j : Nat) : Int) + 1) = ((2 * j + 1 : Nat) : Int) := by rw [w64 (by omega) (by omega)]; rfl
  simp only [spec_l1Sum.l0]
  rw [if_pos (by omega), if_pos (by rw [Int.tmod_eq_emod_of_nonneg (by omega)]; omega), if_pos (by omega), e1, w64 (x := rd l _) (by omega) (by omega), w64 (x := _ * 256) (by omega) (by omega), w64 (x := s + _) (by omega) (by omega)]
  unfold sumAdd
  by_cases h1 : s + rd l ((2 * j : Nat) : Int) * 256 > 65535
  · rw [if_pos h1, if_pos h1, w64 (by omega) (by omega)]
  · rw [if_neg h1, if_neg h1]
theorem l1Sum_odd (l : List Int) (hb : Bytes l) (hl : l.length < 4611686018427387904) (j k : Nat) (s : Int) (hs : 0 ≤ s ∧ s ≤ 65535) (h : 2 * j + 1 < l.length) :
    spec_l1Sum.l0 (k + 1) l s ((2 * j + 1 : Nat) : Int) = spec_l1Sum.l0 k l (sumAdd s (rd l ((2 * j + 1 : Nat) : Int))) ((2 * (j + 1) : Nat) : Int) := by
  have hr := hb.at_ ((2 * j + 1 : Nat) : Int)
  have e1 : wrap64 (((2 * j + 1 : Nat) : Int) + 1) = ((2 * (j + 1) : Nat) : Int) := by rw [w64 (by omega) (by omega)]; omega
  simp only [spec_l1Sum.l0]
  rw [if_pos (by omega), if_neg (by rw [Int.tmod_eq_emod_of_nonneg (by omega)]; omega), if_pos (by omega), e1, w64 (x := rd l _) (by omega) (by omega), w64 (x := s + _) (by omega) (by omega)]
  unfold sumAdd
  by_cases h1 : s + rd l ((2 * j + 1 : Nat) : Int) > 65535
  · rw [if_pos h1, if_pos h1, w64 (by omega) (by omega)]
  · rw [if_neg h1, if_neg h1]
theorem l1Sum_loop (l : List Int) (hb : Bytes l) (hl : l.length < 4611686018427387904) : ∀ (d k j : Nat) (s : Int), (l.length + 1) / 2 - j = d → j ≤ (l.length + 1) / 2 → 2 * d < k → 0 ≤ s ∧ s ≤ 65535 →
    spec_l1Sum.l0 k l s ((2 * j : Nat) : Int) = some (sumP (l.drop (2 * j)) s)
  | 0, k, j, s, hd, hj, hk, hs => by
    obtain ⟨k, rfl⟩ : ∃ m, k = m + 1 := ⟨k - 1, by omega⟩
    simp only [spec_l1Sum.l0]
    rw [if_neg (by omega), List.drop_of_length_le (by omega)]; rfl
  | d + 1, k, j, s, hd, hj, hk, hs => by
    obtain ⟨k, rfl⟩ : ∃ m, k = m + 1 + 1 := ⟨k - 2, by omega⟩
    have r0 := hb.at_ ((2 * j : Nat) : Int)
    rw [l1Sum_even l hb hl j (k + 1) s hs (by omega), drop_rd l (2 * j) (by omega)]
    by_cases h : 2 * j + 1 < l.length
    · have r1 := hb.at_ ((2 * j + 1 : Nat) : Int)
      rw [l1Sum_odd l hb hl j k _ (sumAdd_range hs (by omega)) h, drop_rd l (2 * j + 1) h, sumAdd_two hs r0 r1]
      rw [l1Sum_loop l hb hl d k (j + 1) _ (by omega) (by omega) (by omega) (sumAdd_range hs (by omega))]
      rfl
    · rw [List.drop_of_length_le (show l.length ≤ 2 * j + 1 by omega)]
      simp only [spec_l1Sum.l0]
      rw [if_neg (by omega)]; rfl
theorem specSumOf_eq {l : List Int} (hb : Bytes l) (hl : l.length < 4611686018427387904) (k : Nat) (hk : l.length + 1 < k) : spec_SumOf.f k l = some (65535 - sumP l 0) := by
  have hr := (sumP_mod l 0 hb (by omega)).1
  unfold spec_SumOf.f spec_l1Sum.f
  rw [show (0 : Int) = ((2 * 0 : Nat) : Int) from rfl]
  have := l1Sum_loop l hb hl ((l.length + 1) / 2) k 0 0 (by omega) (by omega) (by omega) (by omega)
  rw [show ((2 * 0 : Nat) : Int) = 0 from rfl] at this ⊢
  rw [this]
  simp only [Option.bind_some, Nat.mul_zero, List.drop_zero]
  rw [w64 (by omega) (by omega)]

theorem specSumFits_eq {l : List Int} (hb : Bytes l) (hl : l.length < 4611686018427387904) (s : Int) (k : Nat) (hk : l.length + 1 < k) : spec_SumFits.f k l s = some (sumFits l s) := by
  have hr := (sumP_mod l 0 hb (by omega)).1
  unfold spec_SumFits.f sumFits
  rw [l1In_eq, specSumOf_eq hb hl k hk]
  simp only [Option.bind_some]
  by_cases h1 : 0 ≤ s ∧ s ≤ 65535
  · rw [if_pos (decide_eq_true h1), Int.tmod_eq_emod_of_nonneg h1.1, Int.tmod_eq_emod_of_nonneg (by omega)]
    by_cases h2 : s % 65535 = (65535 - sumP l 0) % 65535
    · rw [decide_eq_true ⟨h1, h2⟩, h2]; simp
    · rw [decide_eq_false (fun h => h2 h.2), show (s % 65535 == (65535 - sumP l 0) % 65535) = false from beq_eq_false_iff_ne.mpr h2]
  · rw [if_neg (by simpa using h1), decide_eq_false (fun h => h1 h.1)]

theorem tmod_m {x : Int} (h0 : 0 ≤ x) (h3 : x ≤ 3) : (Int.tmod x 2 == 1) = bitM x := by
  rcases four_of h0 h3 with rfl | rfl | rfl | rfl <;> decide
theorem tdiv_w {x : Int} (h0 : 0 ≤ x) (h3 : x ≤ 3) : ((Int.tdiv x 2) % 256 == 1) = bitW x := by
  rcases four_of h0 h3 with rfl | rfl | rfl | rfl <;> decide
theorem specPacketFrom_eq (l : List Int) (hb : Bytes l) (hl : l.length ≤ 1099511627776) (k : Nat) (hk : 30 ≤ k) : spec_PacketFrom.f k l = some (packetFrom l) := by
  obtain ⟨k, rfl⟩ : ∃ m, k = m + 1 := ⟨k - 1, by omega⟩
  unfold spec_PacketFrom.f packetFrom
  by_cases h : 12 ≤ l.length
  · have w4 : wrap64 (rd l 4) = rd l 4 := by have := hb.at_ 4; exact w64 (by omega) (by omega)
    have w5 : wrap64 (rd l 5) = rd l 5 := by have := hb.at_ 5; exact w64 (by omega) (by omega)
    have w6 : wrap64 (rd l 6) = rd l 6 := by have := hb.at_ 6; exact w64 (by omega) (by omega)
    have w7 : wrap64 (rd l 7) = rd l 7 := by have := hb.at_ 7; exact w64 (by omega) (by omega)
    have w9 : wrap64 (rd l 9) = rd l 9 := by have := hb.at_ 9; exact w64 (by omega) (by omega)
    have h8 := hb.at_ 8
    have nA : ∀ (a : Int), spec_NumberAt.f (k + 1) l a 2 = some (numAt l a 2) := fun a => specNumberAt_eq l hb (by omega) a 2 (k + 1) (by omega)
    have c4 : (4 : Int) < (l.length : Int) := by omega
    have c5 : (5 : Int) < (l.length : Int) := by omega
    have c6 : (6 : Int) < (l.length : Int) := by omega
    have c7 : (7 : Int) < (l.length : Int) := by omega
    have c8 : (8 : Int) < (l.length : Int) := by omega
    have c9 : (9 : Int) < (l.length : Int) := by omega
    have c10 : (10 : Int) ≤ (l.length : Int) := by omega
    have c12 : (12 : Int) ≤ (l.length : Int) := by omega
    have cA : 0 + (l.drop 12).length < 140737488355328 := by rw [List.length_drop]; omega
    have hdl : ((l.drop 12).length : Int) = (l.length : Int) - 12 := by rw [List.length_drop]; omega
    rw [if_neg (by omega), nA 0]
    simp only [Option.bind_some, nA, if_pos c4, if_pos c5, if_pos c6, if_pos c7, if_pos c8, if_pos c9, if_pos c10, if_pos c12, List.nil_append, List.length_nil, if_pos cA, w4, w5, w6, w7, w9, spec_PacketFrom.j0, if_true, specPacketOk_eq,
      specSumFits_eq (hb.take 10) (by rw [List.length_take]; omega) (numAt l 10 2) (k + 1) (by rw [List.length_take]; omega)]
    by_cases h83 : rd l 8 ≤ 3
    · rw [if_neg (by omega)]
      by_cases h9 : (l.length : Int) = 12 + rd l 9
      · rw [if_pos (by omega), tmod_m h8.1 h83, tdiv_w h8.1 h83]
        unfold pfOk
        cases hp : packetOk (numAt l 0 2) (numAt l 2 2) (rd l 4) (rd l 5) (rd l 6) (rd l 7) (bitM (rd l 8)) (bitW (rd l 8)) (l.drop 12) with
        | true =>
          rw [if_pos rfl]
          cases hs : sumFits (l.take 10) (numAt l 10 2) with
          | true => rw [if_neg (by decide), if_pos (decide_eq_true ⟨h, rfl, h9, h83, rfl⟩)]
          | false => rw [if_pos (by decide), if_neg (by simp)]
        | false => rw [if_neg (by decide), if_neg (by simp)]
      · rw [if_neg (by omega), if_neg (by unfold pfOk; simp; intros; omega)]
    · rw [if_pos (by omega), if_neg (by unfold pfOk; simp; intros; omega)]
  · rw [if_pos (by omega), if_neg (by unfold pfOk; simp; intros; omega)]

theorem toByteS_loop (l : List Int) (hn : l.length < 4611686018427387904) : ∀ (d k i : Nat) (o : List Int), l.length - i = d → i ≤ l.length → d < k → o.length = l.length → o.take i = l.take i →
    laws_toByteS.l0 k l o (i : Int) = some l
  | 0, k, i, o, hd, hi, hk, hl, ho => by
    obtain ⟨k, rfl⟩ : ∃ m, k = m + 1 := ⟨k - 1, by omega⟩
    simp only [laws_toByteS.l0]
    rw [if_neg (by omega)]
    rw [List.take_of_length_le (by omega), List.take_of_length_le (by omega)] at ho
    rw [ho]
  | d + 1, k, i, o, hd, hi, hk, hl, ho => by
    obtain ⟨k, rfl⟩ : ∃ m, k = m + 1 := ⟨k - 1, by omega⟩
    have e2 : wrap64 ((i : Int) + 1) = ((i + 1 : Nat) : Int) := by rw [w64 (by omega) (by omega)]; rfl
    simp only [laws_toByteS.l0]
    rw [if_pos (by omega), if_pos (by omega), if_pos (by omega), e2]
    exact toByteS_loop l hn d k (i + 1) _ (by omega) (by omega) (by omega) (by simp [hl]) (by simpa using set_take l o i (by omega) hl ho)
theorem toByteS_eq (l : List Int) (hn : l.length ≤ 140737488351232) (k : Nat) (hk : l.length < k) : laws_toByteS.f k l = some l := by
  unfold laws_toByteS.f
  rw [if_pos (by omega), if_pos (by omega)]
  exact toByteS_loop l (by omega) l.length k 0 _ (by omega) (by omega) hk (by simp) (by simp)

theorem eqByteS_loop (a b : List Int) (hab : a.length = b.length) (hn : a.length < 4611686018427387904) : ∀ (d k i : Nat), a.length - i = d → i ≤ a.length → d < k → a.take i = b.take i →
    laws_eqByteS.l0 k a b (i : Int) = some (decide (a = b))
  | 0, k, i, hd, hi, hk, ho => by
    obtain ⟨k, rfl⟩ : ∃ m, k = m + 1 := ⟨k - 1, by omega⟩
    simp only [laws_eqByteS.l0]
    rw [if_neg (by omega)]
    rw [List.take_of_length_le (by omega), List.take_of_length_le (by omega)] at ho
    rw [decide_eq_true ho]
  | d + 1, k, i, hd, hi, hk, ho => by
    obtain ⟨k, rfl⟩ : ∃ m, k = m + 1 := ⟨k - 1, by omega⟩
    have e2 : wrap64 ((i : Int) + 1) = ((i + 1 : Nat) : Int) := by rw [w64 (by omega) (by omega)]; rfl
    simp only [laws_eqByteS.l0]
    rw [if_pos (by omega), if_pos (by omega), if_pos (by omega), e2]
    by_cases h : rd a (i : Int) = rd b (i : Int)
    · rw [if_pos h]
      exact eqByteS_loop a b hab hn d k (i + 1) (by omega) (by omega) (by omega) (by rw [take_succ_rd a i (by omega), take_succ_rd b i (by omega), ho, h])
    · rw [if_neg h, decide_eq_false (fun e => h (by rw [e]))]
theorem eqByteS_eq (a b : List Int) (hn : a.length < 4611686018427387904) (k : Nat) (hk : a.length < k) : laws_eqByteS.f k a b = some (decide (a = b)) := by
  unfold laws_eqByteS.f
  by_cases h : (a.length : Int) = (b.length : Int)
  · rw [if_pos h]; exact eqByteS_loop a b (by omega) hn a.length k 0 (by omega) (by omega) hk (by simp)
  · rw [if_neg h, decide_eq_false (fun e => h (by rw [e]))]

theorem eqPacket_eq (a b c d e f : Int) (m w : Bool) (l : List Int) (h : l.length ≤ 1048576) (k : Nat) (hk : l.length < k) : laws_eqPacket.f k a b c d e f m w l a b c d e f m w l = some true := by
  unfold laws_eqPacket.f
  simp only [eqByteS_eq l l (by omega) k hk, Option.bind_some, if_true, decide_true, bne_self_eq_false, Bool.false_eq_true, if_false]

theorem markByteS_loop (n : Nat) (hn : n < 4611686018427387904) : ∀ (d k i : Nat) (o : List Int) (a : Int), n - i = d → i ≤ n → d < k → o.length = n → 0 ≤ a → a + d < 4611686018427387904 →
    laws_markByteS.l0 k o a (i : Int) = some (a + d, o.take i ++ marks a d)
  | 0, k, i, o, a, hd, hi, hk, hl, ha, hb => by
    obtain ⟨k, rfl⟩ : ∃ m, k = m + 1 := ⟨k - 1, by omega⟩
    simp only [laws_markByteS.l0]
    rw [if_neg (by omega), List.take_of_length_le (by omega)]
    simp [marks]
  | d + 1, k, i, o, a, hd, hi, hk, hl, ha, hb => by
    obtain ⟨k, rfl⟩ : ∃ m, k = m + 1 := ⟨k - 1, by omega⟩
    have e2 : wrap64 ((i : Int) + 1) = ((i + 1 : Nat) : Int) := by rw [w64 (by omega) (by omega)]; rfl
    simp only [laws_markByteS.l0]
    rw [if_pos (by omega), if_pos (by omega), e2, w64 (x := a + 1) (by omega) (by omega)]
    rw [markByteS_loop n hn d k (i + 1) _ (a + 1) (by omega) (by omega) (by omega) (by simp [hl]) (by omega) (by omega)]
    congr 1
    refine Prod.ext (by simp; omega) ?_
    show _ = o.take i ++ marks a (d + 1)
    have e : ((i : Int)).toNat = i := by omega
    rw [e, take_succ_rd _ i (by simp; omega), rd_set_eq _ _ _ (by omega), List.take_set_of_le (by omega)]
    simp [marks]
theorem markByteS_eq (l : List Int) (a : Int) (ha : 0 ≤ a) (hb : a + l.length < 4611686018427387904) (k : Nat) (hk : l.length < k) : laws_markByteS.f k l a = some (a + l.length, marks a l.length) := by
  unfold laws_markByteS.f
  rw [show (0 : Int) = ((0 : Nat) : Int) from rfl, markByteS_loop l.length (by omega) l.length k 0 l a (by omega) (by omega) hk rfl ha hb]
  simp

theorem heldByteS_loop (n : Nat) (b : Int) (hn : n < 4611686018427387904) : ∀ (d k i : Nat) (a : Int), n - i = d → i ≤ n → d < k → 0 ≤ a → a = b + i → a + d < 4611686018427387904 →
    laws_heldByteS.l0 k (marks b n) a (i : Int) = some (a + d)
  | 0, k, i, a, hd, hi, hk, ha, he, hb => by
    obtain ⟨k, rfl⟩ : ∃ m, k = m + 1 := ⟨k - 1, by omega⟩
    simp only [laws_heldByteS.l0]
    rw [if_neg (by rw [marks_length]; omega)]
    simp
  | d + 1, k, i, a, hd, hi, hk, ha, he, hb => by
    obtain ⟨k, rfl⟩ : ∃ m, k = m + 1 := ⟨k - 1, by omega⟩
    have e2 : wrap64 ((i : Int) + 1) = ((i + 1 : Nat) : Int) := by rw [w64 (by omega) (by omega)]; rfl
    simp only [laws_heldByteS.l0]
    rw [if_pos (by rw [marks_length]; omega), if_pos (by omega), marks_rd b n i (by omega), if_pos (by rw [he]), e2, w64 (x := a + 1) (by omega) (by omega)]
    rw [heldByteS_loop n b hn d k (i + 1) (a + 1) (by omega) (by omega) (by omega) (by omega) (by omega) (by omega)]
    congr 1; omega
theorem heldByteS_eq (n : Nat) (a : Int) (ha : 0 ≤ a) (hb : a + n < 4611686018427387904) (k : Nat) (hk : n < k) : laws_heldByteS.f k (marks a n) a = some (a + n) := by
  unfold laws_heldByteS.f
  rw [show (0 : Int) = ((0 : Nat) : Int) from rfl, heldByteS_loop n a (by omega) n k 0 a (by omega) (by omega) hk ha (by omega) (by omega)]

theorem markPacket_eq (a b c d e f : Int) (m w : Bool) (l : List Int) (hl : l.length ≤ 1048576) (k : Nat) (hk : l.length < k) : laws_markPacket.f k a b c d e f m w l 1 = some (1 + (l.length : Int), marks 1 l.length) := by
  unfold laws_markPacket.f
  rw [markByteS_eq l 1 (by omega) (by omega) k hk]
  rfl
theorem heldPacket_eq (a b c d e f : Int) (m w : Bool) (n : Nat) (hl : n ≤ 1048576) (k : Nat) (hk : n < k) : laws_heldPacket.f k a b c d e f m w (marks 1 n) 1 = some (1 + (n : Int)) := by
  unfold laws_heldPacket.f
  rw [heldByteS_eq n 1 (by omega) (by omega) k hk]
  simp only [Option.bind_some]
  rw [if_neg (by omega)]
theorem packetFrom_len (l : List Int) : (packetFrom l).2.2.2.2.2.2.2.2.1.length ≤ l.length := by
  unfold packetFrom
  split
  · show (l.drop 12).length ≤ _
    rw [List.length_drop]; omega
  · exact Nat.zero_le _
theorem FnExactPacketFrom : laws_FnExactPacketFrom.Pure := by
  intro l hm hl2 hw
  have hb := Bytes.of_wf hw
  refine ⟨l.length + 103, ?_⟩
  unfold laws_FnExactPacketFrom.f
  by_cases h : (l.length : Int) > 1048576
  · rw [if_pos h]
  rw [if_neg h]
  have hn : l.length ≤ 1048576 := by omega
  have hx := packetFrom_len l
  have ht : ∀ k, l.length < k → laws_toByteS.f k l = some l := fun k hk => toByteS_eq l (by omega) k hk
  have hi : ∀ k, 80 ≤ k → impl_PacketFrom.f k l = some (packetFrom l) := fun k hk => implPacketFrom_eq l hb (by omega) k (by omega)
  have hs := specPacketFrom_eq l hb (by omega) (l.length + 103) (by omega)
  have he : ∀ k, l.length < k → laws_eqByteS.f k l l = some true := fun k hk => by rw [eqByteS_eq _ _ (by omega) k hk]; simp
  obtain ⟨⟨a, b, c, d, e, f, m, w, r, o⟩, hF⟩ : ∃ z, packetFrom l = z := ⟨_, rfl⟩
  rw [hF] at hs hx
  simp only [hF] at hi
  dsimp only at hx
  have hq : ∀ k, l.length < k → laws_eqPacket.f k a b c d e f m w r a b c d e f m w r = some true := fun k hk => eqPacket_eq a b c d e f m w r (by omega) k (by omega)
  have hg : ∀ k, l.length < k → laws_markPacket.f k a b c d e f m w r 1 = some (1 + (r.length : Int), marks 1 r.length) := fun k hk => markPacket_eq a b c d e f m w r (by omega) k (by omega)
  have hh : ∀ k, l.length < k → laws_heldPacket.f k a b c d e f m w (marks 1 r.length) 1 = some (1 + (r.length : Int)) := fun k hk => heldPacket_eq a b c d e f m w r.length (by omega) k (by omega)
  have hmk : ∀ k, l.length < k → laws_markByteS.f k l 1 = some (1 + (l.length : Int), marks 1 l.length) := fun k hk => markByteS_eq l 1 (by omega) (by omega) k hk
  have hq1 : ¬ (1 + (l.length : Int) < 0) := by omega
  have hq2 : ¬ (1 + (r.length : Int) < 0) := by omega
  have k0 : l.length < l.length + 103 := by omega
  have k1 : l.length < l.length + 102 := by omega
  have k2 : l.length < l.length + 101 := by omega
  have k3 : l.length < l.length + 100 := by omega
  have j0 : 80 ≤ l.length + 103 := by omega
  have j1 : 80 ≤ l.length + 102 := by omega
  have j2 : 80 ≤ l.length + 101 := by omega
  have hself : (o != o) = false := by simp
  simp only [ht _ k0, hs, hi _ j0, hq _ k0, Option.bind_some, if_true, hself, laws_FnExactPacketFrom.j0, ht _ k1, he _ k1, hmk _ k1, if_neg hq1, hq _ k1, Bool.false_eq_true, if_false,
    laws_FnExactPacketFrom.j1, hg _ k2, hh _ k2, if_neg hq2, ht _ k2, hi _ j2, hq _ k2, laws_FnExactPacketFrom.j2, hh _ k3]

end Go.Proofs.Ytdplboenlcppkaa.Pure

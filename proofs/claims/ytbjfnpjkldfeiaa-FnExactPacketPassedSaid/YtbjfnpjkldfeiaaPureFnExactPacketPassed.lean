/- The program's PacketPassed is the reference's at all bytes; the statement's own bounds alone. -/
import Derived.Test.YtbjfnpjkldfeiaaPFnExactPacketPassedx9
import Derived.Test.YtbjfnpjkldfeiaaUFnExactPacketPassedBase
namespace Go.Proofs.Ytbjfnpjkldfeiaa.Pure
set_option linter.unusedSimpArgs false
set_option linter.unusedVariables false
open Go Go.RowKit Go.Proofs.Ytbjfnpjkldfeiaa.PFnExactPacketPassed Go.Proofs.YtbjfnpjkldfeiaaUFnExactPacketPassed.PrintWords Go.Proofs.YtbjfnpjkldfeiaaUFnExactPacketPassed.PrintLast Go.Proofs.YtbjfnpjkldfeiaaUFnExactPacketPassed.PrintMore Go.Proofs.Ytbjfnpjkldfeiaa.Base

theorem l1In_eq (a b c : Int) : spec_l1In.f a b c = some (decide (b ≤ a ∧ a ≤ c)) := by
  unfold spec_l1In.f
  by_cases h : a ≥ b <;> simp [h]

theorem in_eq (a b c : Int) : impl_in.f a b c = some (decide (b ≤ a ∧ a ≤ c)) := by
  unfold impl_in.f
  by_cases h : a ≥ b <;> simp [h]

theorem word_eq (a : Int) : impl_word.f a = some (decide (0 ≤ a ∧ a ≤ 65535)) := by
  unfold impl_word.f
  rw [in_eq]; rfl

/-- A packet is ok. -/
def packetOk (a b c d e f : Int) (m w : Bool) (l : List Int) : Bool :=
  decide ((0 ≤ a ∧ a ≤ 65535) ∧ (0 ≤ b ∧ b ≤ 65535) ∧ (0 ≤ c ∧ c ≤ 255) ∧ (0 ≤ d ∧ d ≤ 255) ∧ (0 ≤ e ∧ e ≤ 255) ∧ (0 ≤ f ∧ f ≤ 255) ∧ (l.length : Int) ≤ 48 ∧ (m = true → (l.length : Int) > 0) ∧ (w = true → f = 0 ∧ m = false))
theorem packet_end (m w : Bool) (f n : Int) : (if n ≤ 48 then (if m = true then (if n > 0 then (if w = true then (if f = 0 then (some (!m)) else (some false)) else (some true)) else (some false)) else (if w = true then (if f = 0 then (some (!m)) else (some false)) else (some true))) else (some false)) =
    some (decide (n ≤ 48 ∧ (m = true → n > 0) ∧ (w = true → f = 0 ∧ m = false))) := by
  by_cases h1 : n ≤ 48 <;> by_cases h2 : n > 0 <;> by_cases h3 : f = 0 <;> cases m <;> cases w <;> simp [h1, h2, h3] <;> omega
theorem specPacketOk_eq (a b c d e f : Int) (m w : Bool) (l : List Int) : spec_PacketOk.f a b c d e f m w l = some (packetOk a b c d e f m w l) := by
  unfold spec_PacketOk.f packetOk
  simp only [l1In_eq, Option.bind_some, packet_end]
  by_cases h1 : 0 ≤ a ∧ a ≤ 65535
  · by_cases h2 : 0 ≤ b ∧ b ≤ 65535
    · by_cases h3 : 0 ≤ c ∧ c ≤ 255
      · by_cases h4 : 0 ≤ d ∧ d ≤ 255
        · by_cases h5 : 0 ≤ e ∧ e ≤ 255
          · by_cases h6 : 0 ≤ f ∧ f ≤ 255
            · simp only [h1, h2, h3, h4, h5, h6, true_and, and_self, decide_true, if_true]
            · simp [h1, h2, h3, h4, h5, h6]
          · simp [h1, h2, h3, h4, h5]
        · simp [h1, h2, h3, h4]
      · simp [h1, h2, h3]
    · simp [h1, h2]
  · simp [h1]
theorem implPacketOk_eq (a b c d e f : Int) (m w : Bool) (l : List Int) : impl_PacketOk.f a b c d e f m w l = some (packetOk a b c d e f m w l) := by
  unfold impl_PacketOk.f packetOk
  simp only [in_eq, word_eq, Option.bind_some, packet_end]
  by_cases h1 : 0 ≤ a ∧ a ≤ 65535
  · by_cases h2 : 0 ≤ b ∧ b ≤ 65535
    · by_cases h3 : 0 ≤ c ∧ c ≤ 255
      · by_cases h4 : 0 ≤ d ∧ d ≤ 255
        · by_cases h5 : 0 ≤ e ∧ e ≤ 255
          · by_cases h6 : 0 ≤ f ∧ f ≤ 255
            · simp only [h1, h2, h3, h4, h5, h6, true_and, and_self, decide_true, if_true]
            · simp [h1, h2, h3, h4, h5, h6]
          · simp [h1, h2, h3, h4, h5]
        · simp [h1, h2, h3, h4]
      · simp [h1, h2, h3]
    · simp [h1, h2]
  · simp [h1]

theorem bytesB_of {l : List Int} (h : Bytes l) : bytesB l = true := List.all_eq_true.mpr (fun x hx => decide_eq_true (h x hx))
/-- The pairs' numbers together. -/
def tot : List Int → Int
  | [] => 0
  | [a] => a * 256
  | a :: b :: l => a * 256 + b + tot l
theorem sumAdd_mod {a b : Int} : sumAdd a b % 65535 = (a + b) % 65535 := by unfold sumAdd; split <;> omega
theorem sumP_mod : ∀ (l : List Int) (s : Int), Bytes l → 0 ≤ s ∧ s ≤ 65535 → (0 ≤ sumP l s ∧ sumP l s ≤ 65535) ∧ sumP l s % 65535 = (s + tot l) % 65535
  | [], s, _, hs => ⟨hs, by simp [sumP, tot]⟩
  | [a], s, hb, hs => by
    have ha := hb a (by simp)
    exact ⟨sumAdd_range hs (by omega), sumAdd_mod⟩
  | a :: b :: l, s, hb, hs => by
    have ha := hb a (by simp)
    have hb' := hb b (by simp)
    have hr := sumAdd_range hs (b := a * 256 + b) (by omega)
    have hm := sumAdd_mod (a := s) (b := a * 256 + b)
    obtain ⟨h1, h2⟩ := sumP_mod l (sumAdd s (a * 256 + b)) (fun x hx => hb x (by simp [hx])) hr
    refine ⟨h1, ?_⟩
    show sumP l (sumAdd s (a * 256 + b)) % 65535 = (s + (a * 256 + b + tot l)) % 65535
    omega
theorem sumP_append : ∀ (l m : List Int) (s : Int), l.length % 2 = 0 → sumP (l ++ m) s = sumP m (sumP l s)
  | [], m, s, _ => rfl
  | [a], m, s, h => by simp at h
  | a :: b :: l, m, s, h => by
    have := sumP_append l m (sumAdd s (a * 256 + b)) (by simp at h; omega)
    exact this
/-- How much a byte at place k counts. -/
def wt (k : Nat) : Int := if k % 2 = 0 then 256 else 1
theorem tot_set : ∀ (l : List Int) (k : Nat) (v : Int), k < l.length → tot (l.set k v) = tot l + (v - rd l (k : Int)) * wt k
  | [], k, v, h => by simp at h
  | [a], k, v, h => by
    obtain rfl : k = 0 := by simp at h; omega
    show v * 256 = a * 256 + (v - a) * 256
    omega
  | a :: b :: l, 0, v, h => by
    show v * 256 + b + tot l = a * 256 + b + tot l + (v - a) * 256
    omega
  | a :: b :: l, 1, v, h => by
    show a * 256 + v + tot l = a * 256 + b + tot l + (v - b) * 1
    omega
  | a :: b :: l, k + 2, v, h => by
    have ih := tot_set l k v (by simpa using h)
    have hw : wt (k + 2) = wt k := by unfold wt; rw [show (k + 2) % 2 = k % 2 by omega]
    have hr : rd (a :: b :: l) ((k + 2 : Nat) : Int) = rd l (k : Int) := by unfold rd; rfl
    show a * 256 + b + tot (l.set k v) = a * 256 + b + tot l + (v - rd (a :: b :: l) ((k + 2 : Nat) : Int)) * wt (k + 2)
    rw [ih, hw, hr]; omega
theorem xor16_nat : ∀ a : Nat, a < 256 → (a ^^^ 16 = a + 16 ∨ (a ^^^ 16) + 16 = a) ∧ a ^^^ 16 < 256 := by decide +kernel
theorem xor16 {a : Int} (h : 0 ≤ a ∧ a < 256) : (Go.bits .xor .u8 a 16 = a + 16 ∨ Go.bits .xor .u8 a 16 = a - 16) ∧ 0 ≤ Go.bits .xor .u8 a 16 ∧ Go.bits .xor .u8 a 16 < 256 := by
  obtain ⟨n, rfl⟩ : ∃ n : Nat, a = n := ⟨a.toNat, by omega⟩
  have hn : n < 256 := by omega
  obtain ⟨h1, h2⟩ := xor16_nat n hn
  have e : Go.bits .xor .u8 (n : Int) 16 = ((n ^^^ 16 : Nat) : Int) := by
    have ha' : n % 2 ^ IntKind.u8.bits = n := Nat.mod_eq_of_lt (by simp [IntKind.bits]; omega)
    rw [show (16 : Int) = ((16 : Nat) : Int) from rfl]
    simp only [Go.bits, BitVec.ofInt_natCast, BitVec.toNat_xor, BitVec.toNat_ofNat, ha']
    rw [show 16 % 2 ^ IntKind.u8.bits = 16 by simp [IntKind.bits], IntKind.wrap_u8]; omega
  rw [e]; omega

/-- The sum's two bytes. -/
def sum2 (l : List Int) : List Int := be 2 (65535 - sumP l 0)
theorem sum2_len (l : List Int) : (sum2 l).length = 2 := by unfold sum2; rw [be_length]

/-- The flags' number. -/
def flagsOf (m w : Bool) : Int := (if m then 1 else 0) + (if w then 2 else 0)
theorem flagsOf_range (m w : Bool) : 0 ≤ flagsOf m w ∧ flagsOf m w ≤ 3 := by cases m <;> cases w <;> decide
/-- A packet's head ahead of the sum. -/
def packetHead (a b c d e f : Int) (m w : Bool) (l : List Int) : List Int := be 2 a ++ be 2 b ++ [c, d, e, f, flagsOf m w, (l.length : Int)]
/-- A packet as bytes. -/
def packetBytes (a b c d e f : Int) (m w : Bool) (l : List Int) : List Int :=
  if packetOk a b c d e f m w l = true then packetHead a b c d e f m w l ++ sum2 (packetHead a b c d e f m w l) ++ l else []
theorem packetHead_len (a b c d e f : Int) (m w : Bool) (l : List Int) : (packetHead a b c d e f m w l).length = 10 := by
  unfold packetHead; rw [List.length_append, List.length_append, be_length, be_length]; rfl
theorem packetOk_parts {a b c d e f : Int} {m w : Bool} {l : List Int} (h : packetOk a b c d e f m w l = true) : (0 ≤ a ∧ a ≤ 65535) ∧ (0 ≤ b ∧ b ≤ 65535) ∧ (0 ≤ c ∧ c ≤ 255) ∧ (0 ≤ d ∧ d ≤ 255) ∧ (0 ≤ e ∧ e ≤ 255) ∧ (0 ≤ f ∧ f ≤ 255) ∧ (l.length : Int) ≤ 48 := by
  have := of_decide_eq_true h
  exact ⟨this.1, this.2.1, this.2.2.1, this.2.2.2.1, this.2.2.2.2.1, this.2.2.2.2.2.1, this.2.2.2.2.2.2.1⟩
theorem packetHead_bytes {a b c d e f : Int} {m w : Bool} {l : List Int} (h : packetOk a b c d e f m w l = true) : Bytes (packetHead a b c d e f m w l) := by
  have hq := packetOk_parts h
  have hf := flagsOf_range m w
  exact ((be_bytes _ _).append (be_bytes _ _)).append (Bytes.cons (by omega) (Bytes.cons (by omega) (Bytes.cons (by omega) (Bytes.cons (by omega) (Bytes.cons (by omega) (Bytes.cons (by omega) Bytes.nil))))))
theorem packetTail_eq {a b c d e f : Int} {m w : Bool} {l : List Int} (h : packetOk a b c d e f m w l = true) : [c % 256, d % 256, e % 256, f % 256, flagsOf m w % 256, (l.length : Int) % 256] = [c, d, e, f, flagsOf m w, (l.length : Int)] := by
  have hq := packetOk_parts h
  have hf := flagsOf_range m w
  rw [show c % 256 = c by omega, show d % 256 = d by omega, show e % 256 = e by omega, show f % 256 = f by omega, show flagsOf m w % 256 = flagsOf m w by omega, show (l.length : Int) % 256 = (l.length : Int) by omega]
theorem packetBytes_len (a b c d e f : Int) (m w : Bool) (l : List Int) : (packetBytes a b c d e f m w l).length ≤ 60 := by
  unfold packetBytes
  cases h : packetOk a b c d e f m w l with
  | false => exact Nat.zero_le _
  | true =>
    have hq := packetOk_parts h
    rw [if_pos rfl, List.length_append, List.length_append, sum2_len, packetHead_len]; omega

/-- The number of n bytes at a place; -1 if there is none. -/
def numAt (l : List Int) (a n : Int) : Int := if (1 ≤ n ∧ n ≤ 4) ∧ 0 ≤ a ∧ a + n ≤ l.length then num ((l.drop a.toNat).take n.toNat) else -1
theorem num_take (l : List Int) (i : Nat) (h : i < l.length) : num (l.take (i + 1)) = num (l.take i) * 256 + rd l (i : Int) := by
  rw [take_succ_rd l i h, num_append]
theorem num_take_range {l : List Int} (h : Bytes l) (i : Nat) (hi : i ≤ 4) : 0 ≤ num (l.take i) ∧ num (l.take i) < 4294967296 := by
  have h1 := num_range _ (h.take i)
  refine ⟨h1.1, Int.lt_of_lt_of_le h1.2 ?_⟩
  have h2 : (l.take i).length ≤ 4 := by rw [List.length_take]; omega
  generalize (l.take i).length = n at h2
  obtain rfl | rfl | rfl | rfl | rfl : n = 0 ∨ n = 1 ∨ n = 2 ∨ n = 3 ∨ n = 4 := by omega
  all_goals decide
theorem rd_drop (l : List Int) (a i : Nat) : rd (l.drop a) (i : Int) = rd l ((a + i : Nat) : Int) := by
  unfold rd; rw [List.getD_eq_getElem?_getD, List.getD_eq_getElem?_getD, List.getElem?_drop]; rfl

/-- A number is the sum of bytes. -/
def sumFits (l : List Int) (s : Int) : Bool := decide ((0 ≤ s ∧ s ≤ 65535) ∧ s % 65535 = (65535 - sumP l 0) % 65535)
theorem implSumFits_eq {l : List Int} (hb : Bytes l) (hl : l.length ≤ 4611686018427387904) (s : Int) (k : Nat) : impl_SumFits.f k l s = some (sumFits l s) := by
  have hr := (sumP_mod l 0 hb (by omega)).1
  unfold impl_SumFits.f impl_sumOf.f sumFits
  rw [if_pos ⟨bytesB_of hb, hl⟩, word_eq]
  simp only [Option.bind_some]
  by_cases h1 : 0 ≤ s ∧ s ≤ 65535
  · rw [if_pos (decide_eq_true h1), Int.tmod_eq_emod_of_nonneg h1.1, Int.tmod_eq_emod_of_nonneg (by omega)]
    by_cases h2 : s = 65535 - sumP l 0
    · rw [if_pos h2, decide_eq_true ⟨h1, by rw [h2]⟩]
    · rw [if_neg h2]
      by_cases h3 : s % 65535 = 0
      · rw [if_pos h3]
        by_cases h4 : (65535 - sumP l 0) % 65535 = 0
        · rw [decide_eq_true ⟨h1, by omega⟩, h4]; rfl
        · rw [decide_eq_false (by omega), show ((65535 - sumP l 0) % 65535 == 0) = false from beq_eq_false_iff_ne.mpr h4]
      · rw [if_neg h3, decide_eq_false (by omega)]
  · rw [if_neg (by simpa using h1), decide_eq_false (by omega)]

def bitM (x : Int) : Bool := decide (x % 2 = 1)
def bitW (x : Int) : Bool := decide (x / 2 % 2 = 1)
/-- Bytes are a packet's. -/
def pfOk (l : List Int) : Bool := decide (12 ≤ l.length ∧ sumFits (l.take 10) (numAt l 10 2) = true ∧ (l.length : Int) = 12 + rd l 9 ∧ rd l 8 ≤ 3 ∧
  packetOk (numAt l 0 2) (numAt l 2 2) (rd l 4) (rd l 5) (rd l 6) (rd l 7) (bitM (rd l 8)) (bitW (rd l 8)) (l.drop 12) = true)
/-- The packet of bytes. -/
def packetFrom (l : List Int) : Int × Int × Int × Int × Int × Int × Bool × Bool × List Int × Bool :=
  if pfOk l = true then (numAt l 0 2, numAt l 2 2, rd l 4, rd l 5, rd l 6, rd l 7, bitM (rd l 8), bitW (rd l 8), l.drop 12, true) else (0, 0, 0, 0, 0, 0, false, false, [], false)
theorem four_of {x : Int} (h0 : 0 ≤ x) (h3 : x ≤ 3) : x = 0 ∨ x = 1 ∨ x = 2 ∨ x = 3 := by omega
theorem packetFrom_ok (l : List Int) : (packetFrom l).2.2.2.2.2.2.2.2.2 = pfOk l := by
  unfold packetFrom
  cases pfOk l <;> rfl

theorem sumP_set_mod {l : List Int} (hb : Bytes l) (i : Nat) (hi : i < l.length) {v : Int} (hv : 0 ≤ v ∧ v < 256) (hne : v ≠ rd l (i : Int)) : sumP (l.set i v) 0 % 65535 ≠ sumP l 0 % 65535 := by
  intro e
  have h1 := (sumP_mod l 0 hb (by omega)).2
  have h2 := (sumP_mod (l.set i v) 0 (hb.set i hv) (by omega)).2
  have h3 := tot_set l i v hi
  have hr := hb.at_ (i : Int)
  have hw : wt i = 256 ∨ wt i = 1 := by unfold wt; split <;> simp
  rw [e, h1, h3] at h2
  rcases hw with hw | hw <;> rw [hw] at h2 <;> omega
theorem rd_take' (l : List Int) (n i : Nat) (h : i < n) : rd (l.take n) (i : Int) = rd l (i : Int) := by
  unfold rd; rw [List.getD_eq_getElem?_getD, List.getD_eq_getElem?_getD, List.getElem?_take, if_pos (by omega)]
theorem numAt_two (l : List Int) (a : Nat) (h : a + 2 ≤ l.length) : numAt l (a : Int) 2 = rd l (a : Int) * 256 + rd l ((a + 1 : Nat) : Int) := by
  unfold numAt
  rw [if_pos ⟨by omega, by omega, by omega⟩, Int.toNat_natCast, show (2 : Int).toNat = 2 from rfl, drop_rd l a (by omega), drop_rd l (a + 1) (by omega)]
  unfold num
  simp
theorem pfOk_parts {l : List Int} (h : pfOk l = true) : 12 ≤ l.length ∧ sumFits (l.take 10) (numAt l 10 2) = true ∧ (l.length : Int) = 12 + rd l 9 ∧ rd l 8 ≤ 3 ∧
    packetOk (numAt l 0 2) (numAt l 2 2) (rd l 4) (rd l 5) (rd l 6) (rd l 7) (bitM (rd l 8)) (bitW (rd l 8)) (l.drop 12) = true := of_decide_eq_true h
/-- With a byte of the head turned there is no packet. -/
theorem pfOk_turned {l : List Int} (hb : Bytes l) (ho : pfOk l = true) (i : Nat) (hi : i < 12) {v : Int} (hv : 0 ≤ v ∧ v < 256) (hne : v ≠ rd l (i : Int)) : pfOk (l.set i v) = false := by
  cases hc : pfOk (l.set i v) with
  | false => rfl
  | true =>
    exfalso
    obtain ⟨h12, hs, _⟩ := pfOk_parts ho
    obtain ⟨_, hs', _⟩ := pfOk_parts hc
    have a := of_decide_eq_true hs
    have a' := of_decide_eq_true hs'
    have e : numAt l 10 2 = rd l 10 * 256 + rd l 11 := numAt_two l 10 (by omega)
    have e' : numAt (l.set i v) 10 2 = rd (l.set i v) 10 * 256 + rd (l.set i v) 11 := numAt_two (l.set i v) 10 (by rw [List.length_set]; omega)
    have b10 := hb.at_ 10
    have b11 := hb.at_ 11
    have hr := (sumP_mod (l.take 10) 0 (hb.take 10) (by omega)).1
    by_cases h10 : i < 10
    · have r10 : rd (l.set i v) 10 = rd l 10 := rd_set_ne l i 10 v (by omega)
      have r11 : rd (l.set i v) 11 = rd l 11 := rd_set_ne l i 11 v (by omega)
      have hr' := (sumP_mod ((l.take 10).set i v) 0 ((hb.take 10).set i hv) (by omega)).1
      have hd := sumP_set_mod (hb.take 10) i (by rw [List.length_take]; omega) hv (by rw [rd_take' _ _ _ h10]; exact hne)
      rw [List.take_set, e', r10, r11, ← e] at a'
      omega
    · rw [List.take_set_of_le (by omega)] at a'
      rcases (by omega : i = 10 ∨ i = 11) with rfl | rfl
      · have r10 : rd (l.set 10 v) 10 = v := rd_set_eq l 10 v (by omega)
        have r11 : rd (l.set 10 v) 11 = rd l 11 := rd_set_ne l 10 11 v (by omega)
        have hn : v ≠ rd l 10 := hne
        rw [e', r10, r11] at a'
        rw [e] at a
        omega
      · have r10 : rd (l.set 11 v) 10 = rd l 10 := rd_set_ne l 11 10 v (by omega)
        have r11 : rd (l.set 11 v) 11 = v := rd_set_eq l 11 v (by omega)
        have hn : v ≠ rd l 11 := hne
        rw [e', r10, r11] at a'
        rw [e] at a
        omega
theorem pfOk_less {l : List Int} (ho : pfOk l = true) : pfOk (l.take (l.length - 1)) = false := by
  cases hc : pfOk (l.take (l.length - 1)) with
  | false => rfl
  | true =>
    exfalso
    obtain ⟨h12, _, h9, _⟩ := pfOk_parts ho
    obtain ⟨h12', _, h9', _⟩ := pfOk_parts hc
    rw [List.length_take] at h12' h9'
    have r : rd (l.take (l.length - 1)) 9 = rd l 9 := rd_take' l (l.length - 1) 9 (by omega)
    omega
theorem pfOk_more {l : List Int} (ho : pfOk l = true) (x : Int) : pfOk (l ++ [x]) = false := by
  cases hc : pfOk (l ++ [x]) with
  | false => rfl
  | true =>
    exfalso
    obtain ⟨h12, _, h9, _⟩ := pfOk_parts ho
    obtain ⟨_, _, h9', _⟩ := pfOk_parts hc
    rw [List.length_append] at h9'
    simp only [List.length_cons, List.length_nil] at h9'
    have r : rd (l ++ [x]) 9 = rd l 9 := by
      show rd (l ++ [x]) ((9 : Nat) : Int) = rd l ((9 : Nat) : Int)
      unfold rd; rw [List.getD_eq_getElem?_getD, List.getD_eq_getElem?_getD, Int.toNat_natCast, List.getElem?_append_left (by omega)]
    omega

/-- Two numbers added up as 'added' does. -/
def add1 (a b : Int) : Int := if a + b > 65535 then a + b - 65535 else a + b
theorem add1_range {a b : Int} (ha : 0 ≤ a ∧ a ≤ 65535) (hb : 0 ≤ b ∧ b ≤ 65535) : 0 ≤ add1 a b ∧ add1 a b ≤ 65535 := by unfold add1; split <;> omega
theorem added_loop (l : List Int) (hl : ∀ x ∈ l, 0 ≤ x ∧ x ≤ 65535) (hlen : l.length < 4611686018427387904) : ∀ (d k i : Nat) (s : Int), l.length - i = d → i ≤ l.length → d < k → 0 ≤ s ∧ s ≤ 65535 →
    impl_added.l0 k s l (l.length : Int) (i : Int) = some ((l.drop i).foldl add1 s)
  | 0, k, i, s, hd, hi, hk, hs => by
    obtain ⟨k, rfl⟩ : ∃ m, k = m + 1 := ⟨k - 1, by omega⟩
    simp only [impl_added.l0]
    rw [if_neg (by omega), List.drop_of_length_le (by omega)]; rfl
  | d + 1, k, i, s, hd, hi, hk, hs => by
    obtain ⟨k, rfl⟩ : ∃ m, k = m + 1 := ⟨k - 1, by omega⟩
    have hm : 0 ≤ rd l (i : Int) ∧ rd l (i : Int) ≤ 65535 := by rw [rd_nat l i (by omega)]; exact hl _ (List.getElem_mem _)
    have e1 : wrap64 (s + rd l (i : Int)) = s + rd l (i : Int) := w64 (by omega) (by omega)
    have e2 : wrap64 ((i : Int) + 1) = ((i + 1 : Nat) : Int) := by rw [w64 (by omega) (by omega)]; rfl
    have ih := fun s' hs' => added_loop l hl hlen d k (i + 1) s' (by omega) (by omega) (by omega) hs'
    simp only [impl_added.l0]
    rw [if_pos (by omega), if_pos (by omega), if_pos (by omega), e1, e2, drop_rd l i (by omega), List.foldl_cons]
    by_cases h : s + rd l (i : Int) > 65535
    · rw [if_pos h, w64 (by omega) (by omega), ih _ (by omega)]
      unfold add1; rw [if_pos h]
    · rw [if_neg h, ih _ (by omega)]
      unfold add1; rw [if_neg h]
theorem added_eq (l : List Int) (hl : ∀ x ∈ l, 0 ≤ x ∧ x ≤ 65535) (hlen : l.length < 4611686018427387904) (k : Nat) (hk : l.length < k) :
    impl_added.f k l = some (l.foldl add1 0) := by
  unfold impl_added.f
  exact added_loop l hl hlen l.length k 0 0 (by omega) (by omega) hk (by omega)

/-- A sum turned. -/
def turn (a b c : Int) : Int := if (0 ≤ a ∧ a ≤ 65535) ∧ (0 ≤ b ∧ b ≤ 65535) ∧ (0 ≤ c ∧ c ≤ 65535) then add1 (add1 a b) (65535 - c) else -1
theorem implSumTurned_eq (a b c : Int) (k : Nat) (hk : 4 ≤ k) : impl_SumTurned.f k a b c = some (turn a b c) := by
  unfold impl_SumTurned.f turn
  rw [word_eq, word_eq, word_eq]
  simp only [Option.bind_some]
  by_cases h1 : 0 ≤ a ∧ a ≤ 65535
  · by_cases h2 : 0 ≤ b ∧ b ≤ 65535
    · by_cases h3 : 0 ≤ c ∧ c ≤ 65535
      · have e : wrap64 (65535 - c) = 65535 - c := w64 (by omega) (by omega)
        rw [e, added_eq [a, b, 65535 - c] (by intro x hx; simp at hx; omega) (by simp) k (by simp; omega)]
        simp only [h1, h2, h3, decide_true, if_true, Option.bind_some, and_self]
        have : add1 0 a = a := by unfold add1; rw [if_neg (by omega)]; omega
        simp only [List.foldl_cons, List.foldl_nil, this]
      · simp [h1, h2, h3]
    · simp [h1, h2]
  · simp [h1]
theorem specSumTurned_eq (a b c : Int) (k : Nat) (hk : 1 ≤ k) : spec_SumTurned.f k a b c = some (turn a b c) := by
  obtain ⟨k, rfl⟩ : ∃ m, k = m + 1 := ⟨k - 1, by omega⟩
  unfold spec_SumTurned.f turn
  rw [l1In_eq, l1In_eq, l1In_eq]
  simp only [Option.bind_some]
  by_cases h1 : 0 ≤ a ∧ a ≤ 65535
  · by_cases h2 : 0 ≤ b ∧ b ≤ 65535
    · by_cases h3 : 0 ≤ c ∧ c ≤ 65535
      · simp only [h1, h2, h3, decide_true, if_true, and_self, Bool.not_true, spec_SumTurned.j0]
        rw [if_neg (by decide), w64 (x := a + b) (by omega) (by omega)]
        unfold add1
        by_cases h4 : a + b > 65535
        · rw [if_pos h4, if_pos h4, w64 (x := a + b - 65535) (by omega) (by omega), w64 (x := a + b - 65535 + 65535) (by omega) (by omega), w64 (x := a + b - 65535 + 65535 - c) (by omega) (by omega)]
          by_cases h5 : a + b - 65535 + 65535 - c > 65535
          · rw [if_pos h5, if_pos (by omega), w64 (by omega) (by omega)]; congr 1; omega
          · rw [if_neg h5, if_neg (by omega)]; congr 1; omega
        · rw [if_neg h4, if_neg h4, w64 (x := a + b + 65535) (by omega) (by omega), w64 (x := a + b + 65535 - c) (by omega) (by omega)]
          by_cases h5 : a + b + 65535 - c > 65535
          · rw [if_pos h5, if_pos (by omega), w64 (by omega) (by omega)]; congr 1; omega
          · rw [if_neg h5, if_neg (by omega)]; congr 1; omega
      · simp [h1, h2, h3, spec_SumTurned.j0]
    · simp [h1, h2, spec_SumTurned.j0]
  · simp [h1, spec_SumTurned.j0]

/-- A number as n bytes, n in 1..4; none for others. -/
def bytesV (v n : Int) : List Int := if (1 ≤ n ∧ n ≤ 4) ∧ 0 ≤ v ∧ v < 256 ^ n.toNat then be n.toNat v else []
theorem four {n : Int} (h : 1 ≤ n ∧ n ≤ 4) : n = 1 ∨ n = 2 ∨ n = 3 ∨ n = 4 := by omega
theorem lim_of (n : Int) (h : 1 ≤ n ∧ n ≤ 4) : wrap64 (shl .i64 1 (wrap64 (8 * n)) - 1) = 256 ^ n.toNat - 1 ∧ 0 ≤ wrap64 (8 * n) := by
  rcases four h with rfl | rfl | rfl | rfl <;> decide +kernel
theorem bytesV_length (v n : Int) : (bytesV v n).length ≤ 4 := by
  unfold bytesV; split
  · rw [be_length]; omega
  · simp
theorem bytesV_bytes (v n : Int) : Bytes (bytesV v n) := by
  unfold bytesV; split
  · exact be_bytes _ _
  · exact Bytes.nil

/-- The bytes with one hop less. -/
def passedOut (l : List Int) : List Int := l.set 5 ((rd l 5 - 1) % 256)
def passedV (l : List Int) : Int := turn (numAt l 10 2) (numAt l 4 2) (numAt (passedOut l) 4 2)
/-- The bytes of a packet that was passed on. -/
def packetPassed (l : List Int) : List Int × Bool := if pfOk l = true ∧ 2 ≤ rd l 5 then ((passedOut l).take 10 ++ be 2 (passedV l) ++ l.drop 12, true) else ([], false)
theorem numAt_range2 {l : List Int} (hb : Bytes l) (a : Nat) (h : a + 2 ≤ l.length) : 0 ≤ numAt l (a : Int) 2 ∧ numAt l (a : Int) 2 ≤ 65535 := by
  have h1 := hb.at_ (a : Int)
  have h2 := hb.at_ ((a + 1 : Nat) : Int)
  rw [numAt_two l a h]
  omega
theorem passedOut_bytes {l : List Int} (hb : Bytes l) : Bytes (passedOut l) := hb.set 5 (Bytes.mod _)
theorem passedOut_len (l : List Int) : (passedOut l).length = l.length := List.length_set ..
theorem passedV_range {l : List Int} (hb : Bytes l) (h : 12 ≤ l.length) : 0 ≤ passedV l ∧ passedV l ≤ 65535 := by
  have h1 : 0 ≤ numAt l 10 2 ∧ numAt l 10 2 ≤ 65535 := numAt_range2 hb 10 (by omega)
  have h2 : 0 ≤ numAt l 4 2 ∧ numAt l 4 2 ≤ 65535 := numAt_range2 hb 4 (by omega)
  have h3 : 0 ≤ numAt (passedOut l) 4 2 ∧ numAt (passedOut l) 4 2 ≤ 65535 := numAt_range2 (passedOut_bytes hb) 4 (by rw [passedOut_len]; omega)
  unfold passedV turn
  rw [if_pos ⟨h1, h2, h3⟩]
  exact add1_range (add1_range h1 h2) (by omega)
theorem be_two (v : Int) : be 2 v = [v / 256 % 256, v % 256] := rfl
theorem set_two (L : List Int) (x y : Int) (h : 12 ≤ L.length) : (L.set 10 x).set 11 y = L.take 10 ++ [x, y] ++ L.drop 12 := by
  have e1 : L.set 10 x = L.take 10 ++ x :: L.drop 11 := by rw [List.set_eq_take_append_cons_drop, if_pos (by omega)]
  have e2 : (L.set 10 x).set 11 y = (L.set 10 x).take 11 ++ y :: (L.set 10 x).drop 12 := by rw [List.set_eq_take_append_cons_drop, if_pos (by rw [List.length_set]; omega)]
  have e3 : (L.set 10 x).take 11 = L.take 10 ++ [x] := by
    rw [e1, List.take_append, List.take_of_length_le (by rw [List.length_take]; omega), List.length_take, Nat.min_eq_left (by omega)]; rfl
  have e4 : (L.set 10 x).drop 12 = L.drop 12 := by rw [List.drop_set_of_lt (by omega)]
  rw [e2, e3, e4]
  simp
theorem passed_len {l : List Int} : (packetPassed l).1.length ≤ l.length := by
  unfold packetPassed
  split
  · rename_i h
    have h12 := (pfOk_parts h.1).1
    simp only [List.length_append, be_length, List.length_take, List.length_drop, passedOut_len]
    omega
  · exact Nat.zero_le _

theorem implNumberAt_loop (m : List Int) (hb : Bytes m) (hn : m.length ≤ 4) : ∀ (d k i : Nat), m.length - i = d → i ≤ m.length → d < k →
    impl_NumberAt.l0 k (num (m.take i)) m (m.length : Int) (i : Int) = some (num m)
  | 0, k, i, hd, hi, hk => by
    obtain ⟨k, rfl⟩ : ∃ m, k = m + 1 := ⟨k - 1, by omega⟩
    simp only [impl_NumberAt.l0]
    rw [if_neg (by omega), List.take_of_length_le (by omega)]
  | d + 1, k, i, hd, hi, hk => by
    obtain ⟨k, rfl⟩ : ∃ m, k = m + 1 := ⟨k - 1, by omega⟩
    have e2 : wrap64 ((i : Int) + 1) = ((i + 1 : Nat) : Int) := by rw [w64 (by omega) (by omega)]; rfl
    have hr := hb.at_ (i : Int)
    have hm := num_take_range hb i (by omega)
    simp only [impl_NumberAt.l0]
    rw [if_pos (by omega), if_pos (by omega), if_pos (by omega), e2, w64 (x := rd m _) (by omega) (by omega), w64 (x := _ * 256) (by omega) (by omega)]
    rw [or_byte (by omega) (by omega) (by omega) (by omega), ← num_take _ i (by omega)]
    exact implNumberAt_loop m hb hn d k (i + 1) (by omega) (by omega) (by omega)
theorem implNumberAt_eq (l : List Int) (hb : Bytes l) (hl : l.length < 4611686018427387904) (a n : Int) (k : Nat) (hk : 6 ≤ k) : impl_NumberAt.f k l a n = some (numAt l a n) := by
  obtain ⟨k, rfl⟩ : ∃ m, k = m + 1 := ⟨k - 1, by omega⟩
  unfold impl_NumberAt.f numAt
  simp only [in_eq, Option.bind_some, impl_NumberAt.j0]
  by_cases h1 : 1 ≤ n ∧ n ≤ 4
  · rw [if_pos (decide_eq_true h1), w64 (x := (l.length : Int) - n) (by omega) (by omega)]
    by_cases h2 : a < 0
    · rw [if_pos h2, if_pos trivial, if_neg (by omega)]
    · rw [if_neg h2]
      by_cases h3 : a > (l.length : Int) - n
      · rw [if_pos (decide_eq_true h3), if_neg (by omega)]
      · rw [if_neg (by simpa using h3), if_pos (by omega), w64 (by omega) (by omega), if_pos (by omega), if_pos (by omega), if_pos (by omega)]
        have e : (l.take (a + n).toNat).drop a.toNat = (l.drop a.toNat).take n.toNat := by
          rw [List.drop_take]; congr 1; omega
        rw [e]
        have hlen : ((l.drop a.toNat).take n.toNat).length = n.toNat := by rw [List.length_take, List.length_drop]; omega
        exact implNumberAt_loop _ ((hb.drop _).take _) (by omega) _ k 0 (by rw [Nat.sub_zero]) (by omega) (by omega)
  · rw [if_neg (by simpa using h1), if_pos trivial, if_neg (by omega)]

theorem and_m {x : Int} (h0 : 0 ≤ x) (h3 : x ≤ 3) : (Go.bits .and .u8 x 1 != 0) = bitM x := by
  rcases four_of h0 h3 with rfl | rfl | rfl | rfl <;> decide +kernel
theorem and_w {x : Int} (h0 : 0 ≤ x) (h3 : x ≤ 3) : (Go.bits .and .u8 x 2 != 0) = bitW x := by
  rcases four_of h0 h3 with rfl | rfl | rfl | rfl <;> decide +kernel
theorem implPacketFrom_eq (l : List Int) (hb : Bytes l) (hl : l.length ≤ 1099511627776) (k : Nat) (hk : 20 ≤ k) : impl_PacketFrom.f k l = some (packetFrom l) := by
  obtain ⟨k, rfl⟩ : ∃ m, k = m + 1 + 1 := ⟨k - 2, by omega⟩
  unfold impl_PacketFrom.f packetFrom
  by_cases h : 12 ≤ l.length
  · have w4 : wrap64 (rd l 4) = rd l 4 := by have := hb.at_ 4; exact w64 (by omega) (by omega)
    have w5 : wrap64 (rd l 5) = rd l 5 := by have := hb.at_ 5; exact w64 (by omega) (by omega)
    have w6 : wrap64 (rd l 6) = rd l 6 := by have := hb.at_ 6; exact w64 (by omega) (by omega)
    have w7 : wrap64 (rd l 7) = rd l 7 := by have := hb.at_ 7; exact w64 (by omega) (by omega)
    have w9 : wrap64 (12 + wrap64 (rd l 9)) = 12 + rd l 9 := by have := hb.at_ 9; rw [w64 (x := rd l 9) (by omega) (by omega), w64 (by omega) (by omega)]
    have h8 := hb.at_ 8
    have nA : ∀ (a : Int) (k : Nat), 6 ≤ k → impl_NumberAt.f k l a 2 = some (numAt l a 2) := fun a k hk => implNumberAt_eq l hb (by omega) a 2 k hk
    have c4 : (4 : Int) < (l.length : Int) := by omega
    have c5 : (5 : Int) < (l.length : Int) := by omega
    have c6 : (6 : Int) < (l.length : Int) := by omega
    have c7 : (7 : Int) < (l.length : Int) := by omega
    have c8 : (8 : Int) < (l.length : Int) := by omega
    have c9 : (9 : Int) < (l.length : Int) := by omega
    have c12 : (12 : Int) ≤ (l.length : Int) := by omega
    have hcl : impl_clone_byte.f (l.drop 12) = some (l.drop 12) := by unfold impl_clone_byte.f; rw [if_pos (by rw [List.length_drop]; omega)]
    rw [if_neg (by omega), if_pos (by omega), nA 10 _ (by omega)]
    simp only [Option.bind_some]
    rw [implSumFits_eq (hb.take 10) (by rw [List.length_take]; omega) _ _]
    simp only [Option.bind_some, w9, if_pos c9, if_pos c8]
    by_cases hs : sumFits (l.take 10) (numAt l 10 2) = true
    · rw [if_pos hs]
      by_cases h9 : (l.length : Int) = 12 + rd l 9
      · rw [if_pos h9]
        simp only [impl_PacketFrom.j0, impl_PacketFrom.j1]
        by_cases h83 : rd l 8 ≤ 3
        · rw [if_neg (by simp; omega), nA 0 _ (by omega), nA 2 _ (by omega)]
          simp only [Option.bind_some, if_pos c4, if_pos c5, if_pos c6, if_pos c7, if_pos c8, if_pos c12, hcl, w4, w5, w6, w7, implPacketOk_eq, and_m h8.1 h83, and_w h8.1 h83]
          unfold pfOk
          cases hp : packetOk (numAt l 0 2) (numAt l 2 2) (rd l 4) (rd l 5) (rd l 6) (rd l 7) (bitM (rd l 8)) (bitW (rd l 8)) (l.drop 12) with
          | true => rw [if_neg (by decide), if_pos (decide_eq_true ⟨h, hs, h9, h83, rfl⟩)]
          | false => rw [if_pos (by decide), if_neg (by simp)]
        · rw [if_pos (by simp; omega), if_neg (by unfold pfOk; simp; intros; omega)]
      · rw [if_neg h9]
        simp only [impl_PacketFrom.j0, if_true]
        rw [if_neg (by unfold pfOk; simp; intros; omega)]
    · rw [if_neg hs]
      simp only [impl_PacketFrom.j0, if_true]
      rw [if_neg (by unfold pfOk; simp [hs])]
  · rw [if_pos (by omega)]
    simp only [impl_PacketFrom.j0, if_true]
    rw [if_neg (by unfold pfOk; simp; intros; omega)]

theorem implbytesOf_loop : ∀ (i k : Nat) (v : Int) (o : List Int), i < k → i ≤ o.length → o.length < 4611686018427387904 →
    impl_bytesOf.l0 k v o ((i : Int) - 1) = some (be i v ++ o.drop i)
  | 0, k, v, o, hk, hi, hl => by
    obtain ⟨k, rfl⟩ : ∃ m, k = m + 1 := ⟨k - 1, by omega⟩
    simp only [impl_bytesOf.l0]
    rw [if_neg (by omega)]; simp [be]
  | i + 1, k, v, o, hk, hi, hl => by
    obtain ⟨k, rfl⟩ : ∃ m, k = m + 1 := ⟨k - 1, by omega⟩
    have e1 : ((i + 1 : Nat) : Int) - 1 = (i : Int) := by omega
    have e2 : wrap64 ((i : Int) - 1) = (i : Int) - 1 := w64 (by omega) (by omega)
    have e3 : ((i : Int)).toNat = i := by omega
    rw [e1]
    simp only [impl_bytesOf.l0]
    rw [if_pos (by omega), if_pos (by omega), if_pos (by omega), e2, implbytesOf_loop i k _ _ (by omega) (by simp; omega) (by simpa using hl), e3, drop_rd _ i (by simp; omega), rd_set_eq _ _ _ (by omega), List.drop_set_of_lt (by omega)]
    simp [be]
theorem implbytesOf_eq (v n : Int) (h0 : 0 ≤ n) (h1 : n ≤ 1073741824) (k : Nat) (hk : n.toNat < k) : impl_bytesOf.f k v n = some (be n.toNat v) := by
  unfold impl_bytesOf.f
  rw [if_pos h0, if_pos (by omega), w64 (by omega) (by omega)]
  obtain ⟨n, rfl⟩ : ∃ m : Nat, n = m := ⟨n.toNat, by omega⟩
  rw [implbytesOf_loop n k v _ (by omega) (by simp) (by simp; omega)]
  simp

theorem implPacketPassed_eq (l : List Int) (hb : Bytes l) (hl : l.length ≤ 1048576) (k : Nat) (hk : 90 ≤ k) : impl_PacketPassed.f k l = some (packetPassed l) := by
  unfold impl_PacketPassed.f packetPassed
  rw [implPacketFrom_eq l hb (by omega) k (by omega)]
  simp only [Option.bind_some, packetFrom_ok]
  obtain ⟨k, rfl⟩ : ∃ m, k = m + 1 := ⟨k - 1, by omega⟩
  cases ho : pfOk l with
  | false => simp only [Bool.false_eq_true, if_false, false_and, impl_PacketPassed.j0, if_true]
  | true =>
    have eF : (packetFrom l).2.2.2.1 = rd l 5 := by unfold packetFrom; rw [if_pos ho]
    have h12 := (pfOk_parts ho).1
    rw [if_pos rfl, eF]
    by_cases h2 : rd l 5 < 2
    · rw [decide_eq_true h2, if_neg (by omega)]
      simp only [impl_PacketPassed.j0, if_true]
    · rw [decide_eq_false h2, if_pos ⟨rfl, by omega⟩]
      have n1 := implNumberAt_eq l hb (by omega) 10 2 k (by omega)
      have n2 := implNumberAt_eq l hb (by omega) 4 2 k (by omega)
      have n3 := implNumberAt_eq (passedOut l) (passedOut_bytes hb) (by rw [passedOut_len]; omega) 4 2 k (by omega)
      have ec : impl_clone_byte.f l = some l := by unfold impl_clone_byte.f; rw [if_pos (by omega)]
      have eb : impl_bytesOf.f k (passedV l) 2 = some (be 2 (passedV l)) := implbytesOf_eq (passedV l) 2 (by omega) (by omega) k (by show 2 < k; omega)
      have es : impl_SumTurned.f k (numAt l 10 2) (numAt l 4 2) (numAt (passedOut l) 4 2) = some (passedV l) := implSumTurned_eq _ _ _ k (by omega)
      have e5 : l.set (5 : Int).toNat ((rd l 5 - 1) % 256) = passedOut l := rfl
      have el : slices_Clip_byte_byte.f (passedOut l) (be 2 (passedV l)) = some (2, (passedOut l).take 10 ++ be 2 (passedV l) ++ l.drop 12) := by
        unfold slices_Clip_byte_byte.f
        rw [if_pos ⟨by rw [passedOut_len]; exact h12, be_length _ _⟩, set_two _ _ _ (by rw [passedOut_len]; exact h12)]
        have ed : (passedOut l).drop 12 = l.drop 12 := by unfold passedOut; rw [List.drop_set_of_lt (by omega)]
        rw [ed, be_two]
        rfl
      simp only [impl_PacketPassed.j0, Bool.false_eq_true, if_false, ec, Option.bind_some]
      rw [if_pos (by omega)]
      simp only [e5, n1, n2, n3, es, eb, el, Option.bind_some]

theorem specNumberAt_loop (l : List Int) (hb : Bytes l) (a n : Nat) (hn : n ≤ 4) (ha : a + n ≤ l.length) (hl : l.length < 4611686018427387904) : ∀ (d k i : Nat), n - i = d → i ≤ n → d < k →
    spec_NumberAt.l0 k l (a : Int) (n : Int) (num ((l.drop a).take i)) (i : Int) = some (num ((l.drop a).take n))
  | 0, k, i, hd, hi, hk => by
    obtain ⟨k, rfl⟩ : ∃ m, k = m + 1 := ⟨k - 1, by omega⟩
    simp only [spec_NumberAt.l0]
    rw [if_neg (by omega)]
    obtain rfl : i = n := by omega
    rfl
  | d + 1, k, i, hd, hi, hk => by
    obtain ⟨k, rfl⟩ : ∃ m, k = m + 1 := ⟨k - 1, by omega⟩
    have e2 : wrap64 ((i : Int) + 1) = ((i + 1 : Nat) : Int) := by rw [w64 (by omega) (by omega)]; rfl
    have e3 : wrap64 ((a : Int) + (i : Int)) = ((a + i : Nat) : Int) := by rw [w64 (by omega) (by omega)]; rfl
    have hr := hb.at_ ((a + i : Nat) : Int)
    have hm := num_take_range (hb.drop a) i (by omega)
    simp only [spec_NumberAt.l0]
    rw [if_pos (by omega), e3, if_pos (by omega), if_pos (by omega), e2, w64 (x := rd l _) (by omega) (by omega), w64 (x := _ * 256) (by omega) (by omega), w64 (by omega) (by omega)]
    rw [← rd_drop, ← num_take _ i (by rw [List.length_drop]; omega)]
    exact specNumberAt_loop l hb a n hn ha hl d k (i + 1) (by omega) (by omega) (by omega)
theorem specNumberAt_eq (l : List Int) (hb : Bytes l) (hl : l.length < 4611686018427387904) (a n : Int) (k : Nat) (hk : 6 ≤ k) : spec_NumberAt.f k l a n = some (numAt l a n) := by
  obtain ⟨k, rfl⟩ : ∃ m, k = m + 1 := ⟨k - 1, by omega⟩
  unfold spec_NumberAt.f numAt
  simp only [l1In_eq, Option.bind_some, spec_NumberAt.j0]
  by_cases h1 : 1 ≤ n ∧ n ≤ 4
  · rw [if_pos (decide_eq_true h1), w64 (by omega) (by omega)]
    by_cases h2 : 0 ≤ a ∧ a ≤ (l.length : Int) - n
    · rw [decide_eq_true h2, if_neg (by decide), if_pos (by omega)]
      obtain ⟨a, rfl⟩ : ∃ m : Nat, a = m := ⟨a.toNat, by omega⟩
      obtain ⟨n, rfl⟩ : ∃ m : Nat, n = m := ⟨n.toNat, by omega⟩
      exact specNumberAt_loop l hb a n (by omega) (by omega) hl n k 0 (by omega) (by omega) (by omega)
    · rw [decide_eq_false h2, if_pos (by decide), if_neg (by omega)]
  · rw [if_neg (by simpa using h1), if_pos trivial, if_neg (by omega)]

theorem sumAdd_two {s a b : Int} (hs : 0 ≤ s ∧ s ≤ 65535) (ha : 0 ≤ a ∧ a < 256) (hb : 0 ≤ b ∧ b < 256) : sumAdd (sumAdd s (a * 256)) b = sumAdd s (a * 256 + b) := by
  unfold sumAdd
  by_cases h1 : s + a * 256 > 65535
  · rw [if_pos h1, if_neg (by omega), if_pos (by omega)]; omega
  · rw [if_neg h1]
    by_cases h2 : s + a * 256 + b > 65535
    · rw [if_pos h2, if_pos (by omega)]; omega
    · rw [if_neg h2, if_neg (by omega)]; omega
theorem l1Sum_even (l : List Int) (hb : Bytes l) (hl : l.length < 4611686018427387904) (j k : Nat) (s : Int) (hs : 0 ≤ s ∧ s ≤ 65535) (h : 2 * j < l.length) :
    spec_l1Sum.l0 (k + 1) l s ((2 * j : Nat) : Int) = spec_l1Sum.l0 k l (sumAdd s (rd l ((2 * j : Nat) : Int) * 256)) ((2 * j + 1 : Nat) : Int) := by
  have hr := hb.at_ ((2 * j : Nat) : Int)
  have e1 : wrap64 (((2 * j : Nat) : Int) + 1) = ((2 * j + 1 : Nat) : Int) := by rw [w64 (by omega) (by omega)]; rfl
  simp only [spec_l1Sum.l0]
  rw [if_pos (by omega), if_pos (by rw [Int.tmod_eq_emod_of_nonneg (by omega)]; omega), if_pos (by omega), e1, w64 (x := rd l _) (by omega) (by omega), w64 (x := _ * 256) (by omega) (by omega), w64 (x := s + _) (by omega) (by omega)]
  unfold sumAdd
  by_cases h1 : s + rd l ((2 * j : Nat) : Int) * 256 > 65535
  · rw [if_pos h1, if_pos h1, w64 (by omega) (by omega)]
  · rw [if_neg h1, if_neg h1]
theorem l1Sum_odd (l : List Int) (hb : Bytes l) (hl : l.length < 4611686018427387904) (j k : Nat) (s : Int) (hs : 0 ≤ s ∧ s ≤ 65535) (h : 2 * j + 1 < l.length) :
    spec_l1Sum.l0 (k + 1) l s ((2 * j + 1 : Nat) : Int) = spec_l1Sum.l0 k l (sumAdd s (rd l ((2 * j + 1 : Nat) : Int))) ((2 * (j + 1) : Nat) : Int) := by
  have hr := hb.at_ ((2 * j + 1 : Nat) : Int)
  have e1 : wrap64 (((2 * j + 1 : Nat) : Int) + 1) = ((2 * (j + 1) : Nat) : Int) := by rw [w64 (by omega) (by omega)]; omega
  simp only [spec_l1Sum.l0]
  rw [if_pos (by omega), if_neg (by rw [Int.tmod_eq_emod_of_nonneg (by omega)]; omega), if_pos (by omega), e1, w64 (x := rd l _) (by omega) (by omega), w64 (x := s + _) (by omega) (by omega)]
  unfold sumAdd
  by_cases h1 : s + rd l ((2 * j + 1 : Nat) : Int) > 65535
  · rw [if_pos h1, if_pos h1, w64 (by omega) (by omega)]
  · rw [if_neg h1, if_neg h1]
theorem l1Sum_loop (l : List Int) (hb : Bytes l) (hl : l.length < 4611686018427387904) : ∀ (d k j : Nat) (s : Int), (l.length + 1) / 2 - j = d → j ≤ (l.length + 1) / 2 → 2 * d < k → 0 ≤ s ∧ s ≤ 65535 →
    spec_l1Sum.l0 k l s ((2 * j : Nat) : Int) = some (sumP (l.drop (2 * j)) s)
  | 0, k, j, s, hd, hj, hk, hs => by
    obtain ⟨k, rfl⟩ : ∃ m, k = m + 1 := ⟨k - 1, by omega⟩
    simp only [spec_l1Sum.l0]
    rw [if_neg (by omega), List.drop_of_length_le (by omega)]; rfl
  | d + 1, k, j, s, hd, hj, hk, hs => by
    obtain ⟨k, rfl⟩ : ∃ m, k = m + 1 + 1 := ⟨k - 2, by omega⟩
    have r0 := hb.at_ ((2 * j : Nat) : Int)
    rw [l1Sum_even l hb hl j (k + 1) s hs (by omega), drop_rd l (2 * j) (by omega)]
    by_cases h : 2 * j + 1 < l.length
    · have r1 := hb.at_ ((2 * j + 1 : Nat) : Int)
      rw [l1Sum_odd l hb hl j k _ (sumAdd_range hs (by omega)) h, drop_rd l (2 * j + 1) h, sumAdd_two hs r0 r1]
      rw [l1Sum_loop l hb hl d k (j + 1) _ (by omega) (by omega) (by omega) (sumAdd_range hs (by omega))]
      rfl
    · rw [List.drop_of_length_le (show l.length ≤ 2 * j + 1 by omega)]
      simp only [spec_l1Sum.l0]
      rw [if_neg (by omega)]; rfl
theorem specSumOf_eq {l : List Int} (hb : Bytes l) (hl : l.length < 4611686018427387904) (k : Nat) (hk : l.length + 1 < k) : spec_SumOf.f k l = some (65535 - sumP l 0) := by
  have hr := (sumP_mod l 0 hb (by omega)).1
  unfold spec_SumOf.f spec_l1Sum.f
  rw [show (0 : Int) = ((2 * 0 : Nat) : Int) from rfl]
  have := l1Sum_loop l hb hl ((l.length + 1) / 2) k 0 0 (by omega) (by omega) (by omega) (by omega)
  rw [show ((2 * 0 : Nat) : Int) = 0 from rfl] at this ⊢
  rw [this]
  simp only [Option.bind_some, Nat.mul_zero, List.drop_zero]
  rw [w64 (by omega) (by omega)]

theorem specSumFits_eq {l : List Int} (hb : Bytes l) (hl : l.length < 4611686018427387904) (s : Int) (k : Nat) (hk : l.length + 1 < k) : spec_SumFits.f k l s = some (sumFits l s) := by
  have hr := (sumP_mod l 0 hb (by omega)).1
  unfold spec_SumFits.f sumFits
  rw [l1In_eq, specSumOf_eq hb hl k hk]
  simp only [Option.bind_some]
  by_cases h1 : 0 ≤ s ∧ s ≤ 65535
  · rw [if_pos (decide_eq_true h1), Int.tmod_eq_emod_of_nonneg h1.1, Int.tmod_eq_emod_of_nonneg (by omega)]
    by_cases h2 : s % 65535 = (65535 - sumP l 0) % 65535
    · rw [decide_eq_true ⟨h1, h2⟩, h2]; simp
    · rw [decide_eq_false (fun h => h2 h.2), show (s % 65535 == (65535 - sumP l 0) % 65535) = false from beq_eq_false_iff_ne.mpr h2]
  · rw [if_neg (by simpa using h1), decide_eq_false (fun h => h1 h.1)]

theorem tmod_m {x : Int} (h0 : 0 ≤ x) (h3 : x ≤ 3) : (Int.tmod x 2 == 1) = bitM x := by
  rcases four_of h0 h3 with rfl | rfl | rfl | rfl <;> decide
theorem tdiv_w {x : Int} (h0 : 0 ≤ x) (h3 : x ≤ 3) : ((Int.tdiv x 2) % 256 == 1) = bitW x := by
  rcases four_of h0 h3 with rfl | rfl | rfl | rfl <;> decide
theorem specPacketFrom_eq (l : List Int) (hb : Bytes l) (hl : l.length ≤ 1099511627776) (k : Nat) (hk : 30 ≤ k) : spec_PacketFrom.f k l = some (packetFrom l) := by
  obtain ⟨k, rfl⟩ : ∃ m, k = m + 1 := ⟨k - 1, by omega⟩
  unfold spec_PacketFrom.f packetFrom
  by_cases h : 12 ≤ l.length
  · have w4 : wrap64 (rd l 4) = rd l 4 := by have := hb.at_ 4; exact w64 (by omega) (by omega)
    have w5 : wrap64 (rd l 5) = rd l 5 := by have := hb.at_ 5; exact w64 (by omega) (by omega)
    have w6 : wrap64 (rd l 6) = rd l 6 := by have := hb.at_ 6; exact w64 (by omega) (by omega)
    have w7 : wrap64 (rd l 7) = rd l 7 := by have := hb.at_ 7; exact w64 (by omega) (by omega)
    have w9 : wrap64 (rd l 9) = rd l 9 := by have := hb.at_ 9; exact w64 (by omega) (by omega)
    have h8 := hb.at_ 8
    have nA : ∀ (a : Int), spec_NumberAt.f (k + 1) l a 2 = some (numAt l a 2) := fun a => specNumberAt_eq l hb (by omega) a 2 (k + 1) (by omega)
    have c4 : (4 : Int) < (l.length : Int) := by omega
    have c5 : (5 : Int) < (l.length : Int) := by omega
    have c6 : (6 : Int) < (l.length : Int) := by omega
    have c7 : (7 : Int) < (l.length : Int) := by omega
    have c8 : (8 : Int) < (l.length : Int) := by omega
    have c9 : (9 : Int) < (l.length : Int) := by omega
    have c10 : (10 : Int) ≤ (l.length : Int) := by omega
    have c12 : (12 : Int) ≤ (l.length : Int) := by omega
    have cA : 0 + (l.drop 12).length < 140737488355328 := by rw [List.length_drop]; omega
    have hdl : ((l.drop 12).length : Int) = (l.length : Int) - 12 := by rw [List.length_drop]; omega
    rw [if_neg (by omega), nA 0]
    simp only [Option.bind_some, nA, if_pos c4, if_pos c5, if_pos c6, if_pos c7, if_pos c8, if_pos c9, if_pos c10, if_pos c12, List.nil_append, List.length_nil, if_pos cA, w4, w5, w6, w7, w9, spec_PacketFrom.j0, if_true, specPacketOk_eq,
      specSumFits_eq (hb.take 10) (by rw [List.length_take]; omega) (numAt l 10 2) (k + 1) (by rw [List.length_take]; omega)]
    by_cases h83 : rd l 8 ≤ 3
    · rw [if_neg (by omega)]
      by_cases h9 : (l.length : Int) = 12 + rd l 9
      · rw [if_pos (by omega), tmod_m h8.1 h83, tdiv_w h8.1 h83]
        unfold pfOk
        cases hp : packetOk (numAt l 0 2) (numAt l 2 2) (rd l 4) (rd l 5) (rd l 6) (rd l 7) (bitM (rd l 8)) (bitW (rd l 8)) (l.drop 12) with
        | true =>
          rw [if_pos rfl]
          cases hs : sumFits (l.take 10) (numAt l 10 2) with
          | true => rw [if_neg (by decide), if_pos (decide_eq_true ⟨h, rfl, h9, h83, rfl⟩)]
          | false => rw [if_pos (by decide), if_neg (by simp)]
        | false => rw [if_neg (by decide), if_neg (by simp)]
      · rw [if_neg (by omega), if_neg (by unfold pfOk; simp; intros; omega)]
    · rw [if_pos (by omega), if_neg (by unfold pfOk; simp; intros; omega)]
  · rw [if_pos (by omega), if_neg (by unfold pfOk; simp; intros; omega)]

theorem be_front (n : Nat) (v : Int) : be (n + 1) v = (v / 256 ^ n % 256) :: be n v := by
  induction n generalizing v with
  | zero => simp [be]
  | succ n ih =>
    rw [be, ih (v / 256)]
    show _ = v / 256 ^ (n + 1) % 256 :: (be n (v / 256) ++ [v % 256])
    have e : v / 256 / 256 ^ n = v / 256 ^ (n + 1) := by
      rw [Int.ediv_ediv_of_nonneg (by decide), Int.pow_succ, Int.mul_comm]
    rw [e]; rfl
theorem shr_byte (v : Int) (i : Nat) (hi : i ≤ 3) : 0 ≤ wrap64 (8 * (i : Int)) ∧ shr .i64 v (wrap64 (8 * (i : Int))) = v / 256 ^ i := by
  obtain rfl | rfl | rfl | rfl : i = 0 ∨ i = 1 ∨ i = 2 ∨ i = 3 := by omega
  all_goals exact ⟨by decide +kernel, by rw [show wrap64 (8 * ((_ : Nat) : Int)) = 8 * _ from w64 (by omega) (by omega)]; rfl⟩
theorem specBytesOf_loop (v : Int) (hv : 0 ≤ v) : ∀ (i k : Nat) (o : List Int), i < k → i ≤ 4 → o.length + i ≤ 4 →
    spec_BytesOf.l0 k v o ((i : Int) - 1) = some (o ++ be i v)
  | 0, k, o, hk, hi, hl => by
    obtain ⟨k, rfl⟩ : ∃ m, k = m + 1 := ⟨k - 1, by omega⟩
    simp only [spec_BytesOf.l0]
    rw [if_neg (by omega)]; simp [be]
  | i + 1, k, o, hk, hi, hl => by
    obtain ⟨k, rfl⟩ : ∃ m, k = m + 1 := ⟨k - 1, by omega⟩
    have e1 : ((i + 1 : Nat) : Int) - 1 = (i : Int) := by omega
    have e2 : wrap64 ((i : Int) - 1) = (i : Int) - 1 := w64 (by omega) (by omega)
    obtain ⟨e3, e4⟩ := shr_byte v i (by omega)
    have e5 : Int.tmod (v / 256 ^ i) 256 % 256 = v / 256 ^ i % 256 := by
      rw [Int.tmod_eq_emod_of_nonneg (Int.ediv_nonneg hv (Int.pow_nonneg (by decide)))]; omega
    rw [e1]
    simp only [spec_BytesOf.l0]
    rw [if_pos (by omega), if_pos e3, if_pos (by omega), e4, e5, e2, specBytesOf_loop v hv i k _ (by omega) (by omega) (by simp; omega), be_front]
    simp
theorem specBytesOf_eq (v n : Int) (k : Nat) (hk : 6 ≤ k) : spec_BytesOf.f k v n = some (bytesV v n) := by
  obtain ⟨k, rfl⟩ : ∃ m, k = m + 1 := ⟨k - 1, by omega⟩
  unfold spec_BytesOf.f bytesV
  simp only [l1In_eq, Option.bind_some, spec_BytesOf.j0]
  by_cases h1 : 1 ≤ n ∧ n ≤ 4
  · obtain ⟨e1, e2⟩ := lim_of n h1
    rw [if_pos (decide_eq_true h1), if_pos e2, e1]
    by_cases h2 : 0 ≤ v ∧ v ≤ 256 ^ n.toNat - 1
    · rw [decide_eq_true h2, if_neg (by decide), if_pos ⟨h1, h2.1, by omega⟩, w64 (by omega) (by omega)]
      obtain ⟨n, rfl⟩ : ∃ m : Nat, n = m := ⟨n.toNat, by omega⟩
      rw [specBytesOf_loop v h2.1 n k [] (by omega) (by omega) (by simp; omega)]; rfl
    · rw [decide_eq_false h2, if_pos (by decide), if_neg (by omega)]
  · rw [if_neg (by simpa using h1), if_pos trivial, if_neg (fun h => h1 h.1)]

theorem specPacketPassed_eq (l : List Int) (hb : Bytes l) (hl : l.length ≤ 1048576) (k : Nat) (hk : 90 ≤ k) : spec_PacketPassed.f k l = some (packetPassed l) := by
  unfold spec_PacketPassed.f packetPassed
  rw [specPacketFrom_eq l hb (by omega) k (by omega)]
  simp only [Option.bind_some, packetFrom_ok]
  obtain ⟨k, rfl⟩ : ∃ m, k = m + 1 := ⟨k - 1, by omega⟩
  cases ho : pfOk l with
  | false => simp only [Bool.false_eq_true, if_false, false_and, spec_PacketPassed.j0, if_true]
  | true =>
    have eF : (packetFrom l).2.2.2.1 = rd l 5 := by unfold packetFrom; rw [if_pos ho]
    have h12 := (pfOk_parts ho).1
    rw [if_pos rfl, eF]
    by_cases h2 : rd l 5 < 2
    · rw [decide_eq_true h2, if_neg (by omega)]
      simp only [spec_PacketPassed.j0, if_true]
    · rw [decide_eq_false h2, if_pos ⟨rfl, by omega⟩]
      have n1 := specNumberAt_eq l hb (by omega) 10 2 k (by omega)
      have n2 := specNumberAt_eq l hb (by omega) 4 2 k (by omega)
      have n3 := specNumberAt_eq (passedOut l) (passedOut_bytes hb) (by rw [passedOut_len]; omega) 4 2 k (by omega)
      have hv := passedV_range hb h12
      have eb : spec_BytesOf.f k (passedV l) 2 = some (be 2 (passedV l)) := by
        rw [specBytesOf_eq _ _ k (by omega)]
        unfold bytesV
        rw [if_pos ⟨by omega, hv.1, by show passedV l < 65536; omega⟩]
        rfl
      have es : spec_SumTurned.f k (numAt l 10 2) (numAt l 4 2) (numAt (passedOut l) 4 2) = some (passedV l) := specSumTurned_eq _ _ _ k (by omega)
      have e5 : l.set (5 : Int).toNat ((rd l 5 - 1) % 256) = passedOut l := rfl
      simp only [spec_PacketPassed.j0, Bool.false_eq_true, if_false, Option.bind_some, List.nil_append, List.length_nil]
      rw [if_pos (by omega), if_pos (by omega)]
      simp only [e5, n1, n2, n3, es, eb, Option.bind_some]
      rw [if_pos (by omega), if_pos (by rw [List.length_take, passedOut_len]; omega), if_pos (by rw [List.length_take, passedOut_len, be_length]; omega), if_pos (by omega), if_pos (by rw [List.length_append, List.length_take, passedOut_len, be_length, List.length_drop]; omega)]

theorem toByteS_loop (l : List Int) (hn : l.length < 4611686018427387904) : ∀ (d k i : Nat) (o : List Int), l.length - i = d → i ≤ l.length → d < k → o.length = l.length → o.take i = l.take i →
    laws_toByteS.l0 k l o (i : Int) = some l
  | 0, k, i, o, hd, hi, hk, hl, ho => by
    obtain ⟨k, rfl⟩ : ∃ m, k = m + 1 := ⟨k - 1, by omega⟩
    simp only [laws_toByteS.l0]
    rw [if_neg (by omega)]
    rw [List.take_of_length_le (by omega), List.take_of_length_le (by omega)] at ho
    rw [ho]
  | d + 1, k, i, o, hd, hi, hk, hl, ho => by
    obtain ⟨k, rfl⟩ : ∃ m, k = m + 1 := ⟨k - 1, by omega⟩
    have e2 : wrap64 ((i : Int) + 1) = ((i + 1 : Nat) : Int) := by rw [w64 (by omega) (by omega)]; rfl
    simp only [laws_toByteS.l0]
    rw [if_pos (by omega), if_pos (by omega), if_pos (by omega), e2]
    exact toByteS_loop l hn d k (i + 1) _ (by omega) (by omega) (by omega) (by simp [hl]) (by simpa using set_take l o i (by omega) hl ho)
theorem toByteS_eq (l : List Int) (hn : l.length ≤ 140737488351232) (k : Nat) (hk : l.length < k) : laws_toByteS.f k l = some l := by
  unfold laws_toByteS.f
  rw [if_pos (by omega), if_pos (by omega)]
  exact toByteS_loop l (by omega) l.length k 0 _ (by omega) (by omega) hk (by simp) (by simp)

theorem eqByteS_loop (a b : List Int) (hab : a.length = b.length) (hn : a.length < 4611686018427387904) : ∀ (d k i : Nat), a.length - i = d → i ≤ a.length → d < k → a.take i = b.take i →
    laws_eqByteS.l0 k a b (i : Int) = some (decide (a = b))
  | 0, k, i, hd, hi, hk, ho => by
    obtain ⟨k, rfl⟩ : ∃ m, k = m + 1 := ⟨k - 1, by omega⟩
    simp only [laws_eqByteS.l0]
    rw [if_neg (by omega)]
    rw [List.take_of_length_le (by omega), List.take_of_length_le (by omega)] at ho
    rw [decide_eq_true ho]
  | d + 1, k, i, hd, hi, hk, ho => by
    obtain ⟨k, rfl⟩ : ∃ m, k = m + 1 := ⟨k - 1, by omega⟩
    have e2 : wrap64 ((i : Int) + 1) = ((i + 1 : Nat) : Int) := by rw [w64 (by omega) (by omega)]; rfl
    simp only [laws_eqByteS.l0]
    rw [if_pos (by omega), if_pos (by omega), if_pos (by omega), e2]
    by_cases h : rd a (i : Int) = rd b (i : Int)
    · rw [if_pos h]
      exact eqByteS_loop a b hab hn d k (i + 1) (by omega) (by omega) (by omega) (by rw [take_succ_rd a i (by omega), take_succ_rd b i (by omega), ho, h])
    · rw [if_neg h, decide_eq_false (fun e => h (by rw [e]))]
theorem eqByteS_eq (a b : List Int) (hn : a.length < 4611686018427387904) (k : Nat) (hk : a.length < k) : laws_eqByteS.f k a b = some (decide (a = b)) := by
  unfold laws_eqByteS.f
  by_cases h : (a.length : Int) = (b.length : Int)
  · rw [if_pos h]; exact eqByteS_loop a b (by omega) hn a.length k 0 (by omega) (by omega) hk (by simp)
  · rw [if_neg h, decide_eq_false (fun e => h (by rw [e]))]

theorem markByteS_loop (n : Nat) (hn : n < 4611686018427387904) : ∀ (d k i : Nat) (o : List Int) (a : Int), n - i = d → i ≤ n → d < k → o.length = n → 0 ≤ a → a + d < 4611686018427387904 →
    laws_markByteS.l0 k o a (i : Int) = some (a + d, o.take i ++ marks a d)
  | 0, k, i, o, a, hd, hi, hk, hl, ha, hb => by
    obtain ⟨k, rfl⟩ : ∃ m, k = m + 1 := ⟨k - 1, by omega⟩
    simp only [laws_markByteS.l0]
    rw [if_neg (by omega), List.take_of_length_le (by omega)]
    simp [marks]
  | d + 1, k, i, o, a, hd, hi, hk, hl, ha, hb => by
    obtain ⟨k, rfl⟩ : ∃ m, k = m + 1 := ⟨k - 1, by omega⟩
    have e2 : wrap64 ((i : Int) + 1) = ((i + 1 : Nat) : Int) := by rw [w64 (by omega) (by omega)]; rfl
    simp only [laws_markByteS.l0]
    rw [if_pos (by omega), if_pos (by omega), e2, w64 (x := a + 1) (by omega) (by omega)]
    rw [markByteS_loop n hn d k (i + 1) _ (a + 1) (by omega) (by omega) (by omega) (by simp [hl]) (by omega) (by omega)]
    congr 1
    refine Prod.ext (by simp; omega) ?_
    show _ = o.take i ++ marks a (d + 1)
    have e : ((i : Int)).toNat = i := by omega
    rw [e, take_succ_rd _ i (by simp; omega), rd_set_eq _ _ _ (by omega), List.take_set_of_le (by omega)]
    simp [marks]
theorem markByteS_eq (l : List Int) (a : Int) (ha : 0 ≤ a) (hb : a + l.length < 4611686018427387904) (k : Nat) (hk : l.length < k) : laws_markByteS.f k l a = some (a + l.length, marks a l.length) := by
  unfold laws_markByteS.f
  rw [show (0 : Int) = ((0 : Nat) : Int) from rfl, markByteS_loop l.length (by omega) l.length k 0 l a (by omega) (by omega) hk rfl ha hb]
  simp

theorem heldByteS_loop (n : Nat) (b : Int) (hn : n < 4611686018427387904) : ∀ (d k i : Nat) (a : Int), n - i = d → i ≤ n → d < k → 0 ≤ a → a = b + i → a + d < 4611686018427387904 →
    laws_heldByteS.l0 k (marks b n) a (i : Int) = some (a + d)
  | 0, k, i, a, hd, hi, hk, ha, he, hb => by
    obtain ⟨k, rfl⟩ : ∃ m, k = m + 1 := ⟨k - 1, by omega⟩
    simp only [laws_heldByteS.l0]
    rw [if_neg (by rw [marks_length]; omega)]
    simp
  | d + 1, k, i, a, hd, hi, hk, ha, he, hb => by
    obtain ⟨k, rfl⟩ : ∃ m, k = m + 1 := ⟨k - 1, by omega⟩
    have e2 : wrap64 ((i : Int) + 1) = ((i + 1 : Nat) : Int) := by rw [w64 (by omega) (by omega)]; rfl
    simp only [laws_heldByteS.l0]
    rw [if_pos (by rw [marks_length]; omega), if_pos (by omega), marks_rd b n i (by omega), if_pos (by rw [he]), e2, w64 (x := a + 1) (by omega) (by omega)]
    rw [heldByteS_loop n b hn d k (i + 1) (a + 1) (by omega) (by omega) (by omega) (by omega) (by omega) (by omega)]
    congr 1; omega
theorem heldByteS_eq (n : Nat) (a : Int) (ha : 0 ≤ a) (hb : a + n < 4611686018427387904) (k : Nat) (hk : n < k) : laws_heldByteS.f k (marks a n) a = some (a + n) := by
  unfold laws_heldByteS.f
  rw [show (0 : Int) = ((0 : Nat) : Int) from rfl, heldByteS_loop n a (by omega) n k 0 a (by omega) (by omega) hk ha (by omega) (by omega)]

theorem FnExactPacketPassed : laws_FnExactPacketPassed.Pure := by
  intro l hm hl2 hw
  have hb := Bytes.of_wf hw
  refine ⟨l.length + 103, ?_⟩
  unfold laws_FnExactPacketPassed.f
  by_cases h : (l.length : Int) > 1048576
  · rw [if_pos h]
  rw [if_neg h]
  have hn : l.length ≤ 1048576 := by omega
  have hx := @passed_len l
  have ht : ∀ k, l.length < k → laws_toByteS.f k l = some l := fun k hk => toByteS_eq l (by omega) k hk
  have hi : ∀ k, 90 ≤ k → impl_PacketPassed.f k l = some (packetPassed l) := fun k hk => implPacketPassed_eq l hb (by omega) k (by omega)
  have hs := specPacketPassed_eq l hb (by omega) (l.length + 103) (by omega)
  have he : ∀ k, l.length < k → laws_eqByteS.f k l l = some true := fun k hk => by rw [eqByteS_eq _ _ (by omega) k hk]; simp
  obtain ⟨⟨r, o⟩, hF⟩ : ∃ z, packetPassed l = z := ⟨_, rfl⟩
  rw [hF] at hs hx
  simp only [hF] at hi
  dsimp only at hx
  have hq : ∀ k, l.length < k → laws_eqByteS.f k r r = some true := fun k hk => by rw [eqByteS_eq _ _ (by omega) k (by omega)]; simp
  have hg : ∀ k, l.length < k → laws_markByteS.f k r 1 = some (1 + (r.length : Int), marks 1 r.length) := fun k hk => markByteS_eq r 1 (by omega) (by omega) k (by omega)
  have hh : ∀ k, l.length < k → laws_heldByteS.f k (marks 1 r.length) 1 = some (1 + (r.length : Int)) := fun k hk => heldByteS_eq r.length 1 (by omega) (by omega) k (by omega)
  have hmk : ∀ k, l.length < k → laws_markByteS.f k l 1 = some (1 + (l.length : Int), marks 1 l.length) := fun k hk => markByteS_eq l 1 (by omega) (by omega) k hk
  have hq1 : ¬ (1 + (l.length : Int) < 0) := by omega
  have hq2 : ¬ (1 + (r.length : Int) < 0) := by omega
  have k0 : l.length < l.length + 103 := by omega
  have k1 : l.length < l.length + 102 := by omega
  have k2 : l.length < l.length + 101 := by omega
  have k3 : l.length < l.length + 100 := by omega
  have j0 : 90 ≤ l.length + 103 := by omega
  have j2 : 90 ≤ l.length + 101 := by omega
  have hself : (o != o) = false := by simp
  simp only [ht _ k0, hs, hi _ j0, hq _ k0, Option.bind_some, if_true, hself, laws_FnExactPacketPassed.j0, ht _ k1, he _ k1, hmk _ k1, if_neg hq1, hq _ k1, Bool.false_eq_true, if_false,
    laws_FnExactPacketPassed.j1, hg _ k2, hh _ k2, if_neg hq2, ht _ k2, hi _ j2, hq _ k2, laws_FnExactPacketPassed.j2, hh _ k3]

end Go.Proofs.Ytbjfnpjkldfeiaa.Pure

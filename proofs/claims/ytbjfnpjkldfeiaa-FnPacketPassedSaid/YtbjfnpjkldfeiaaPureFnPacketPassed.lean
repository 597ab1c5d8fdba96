/- A packet that is passed on has one hop less and all else as before, and is passed on so often as it has hops; the statement's own bounds alone. -/
import Derived.Test.YtbjfnpjkldfeiaaPFnPacketPassedx11
import Derived.Test.YtbjfnpjkldfeiaaUFnPacketPassedBase
namespace Go.Proofs.Ytbjfnpjkldfeiaa.Pure
set_option linter.unusedSimpArgs false
set_option linter.unusedVariables false
open Go Go.RowKit Go.Proofs.Ytbjfnpjkldfeiaa.PFnPacketPassed Go.Proofs.YtbjfnpjkldfeiaaUFnPacketPassed.PrintWords Go.Proofs.YtbjfnpjkldfeiaaUFnPacketPassed.PrintLast Go.Proofs.YtbjfnpjkldfeiaaUFnPacketPassed.PrintMore Go.Proofs.Ytbjfnpjkldfeiaa.Base

theorem l1In_eq (a b c : Int) : spec_l1In.f a b c = some (decide (b ≤ a ∧ a ≤ c)) := by
 unfold spec_l1In.f
 by_cases h : a ≥ b <;> simp [h]

theorem in_eq (a b c : Int) : impl_in.f a b c = some (decide (b ≤ a ∧ a ≤ c)) := by
 unfold impl_in.f
 by_cases h : a ≥ b <;> simp [h]

theorem word_eq (a : Int) : impl_word.f a = some (decide (0 ≤ a ∧ a ≤ 65535)) := by
 unfold impl_word.f
 rw [in_eq]; rfl

/-- A packet is ok. -/
def packetOk (a b c d e f : Int) (m w : Bool) (l : List Int) : Bool :=
 decide ((0 ≤ a ∧ a ≤ 65535) ∧ (0 ≤ b ∧ b ≤ 65535) ∧ (0 ≤ c ∧ c ≤ 255) ∧ (0 ≤ d ∧ d ≤ 255) ∧ (0 ≤ e ∧ e ≤ 255) ∧ (0 ≤ f ∧ f ≤ 255) ∧ (l.length : Int) ≤ 48 ∧ (m = true → (l.length : Int) > 0) ∧ (w = true → f = 0 ∧ m = false))
theorem packet_end (m w : Bool) (f n : Int) : (if n ≤ 48 then (if m = true then (if n > 0 then (if w = true then (if f = 0 then (some (!m)) else (some false)) else (some true)) else (some false)) else (if w = true then (if f = 0 then (some (!m)) else (some false)) else (some true))) else (some false)) =
  some (decide (n ≤ 48 ∧ (m = true → n > 0) ∧ (w = true → f = 0 ∧ m = false))) := by
 by_cases h1 : n ≤ 48 <;> by_cases h2 : n > 0 <;> by_cases h3 : f = 0 <;> cases m <;> cases w <;> simp [h1, h2, h3] <;> omega
theorem specPacketOk_eq (a b c d e f : Int) (m w : Bool) (l : List Int) : spec_PacketOk.f a b c d e f m w l = some (packetOk a b c d e f m w l) := by
 unfold spec_PacketOk.f packetOk
 simp only [l1In_eq, Option.bind_some, packet_end]
 by_cases h1 : 0 ≤ a ∧ a ≤ 65535
 ·by_cases h2 : 0 ≤ b ∧ b ≤ 65535
  ·by_cases h3 : 0 ≤ c ∧ c ≤ 255
   ·by_cases h4 : 0 ≤ d ∧ d ≤ 255
    ·by_cases h5 : 0 ≤ e ∧ e ≤ 255
     ·by_cases h6 : 0 ≤ f ∧ f ≤ 255
      ·simp only [h1, h2, h3, h4, h5, h6, true_and, and_self, decide_true, if_true]
      ·simp [h1, h2, h3, h4, h5, h6]
     ·simp [h1, h2, h3, h4, h5]
    ·simp [h1, h2, h3, h4]
   ·simp [h1, h2, h3]
  ·simp [h1, h2]
 ·simp [h1]
theorem implPacketOk_eq (a b c d e f : Int) (m w : Bool) (l : List Int) : impl_PacketOk.f a b c d e f m w l = some (packetOk a b c d e f m w l) := by
 unfold impl_PacketOk.f packetOk
 simp only [in_eq, word_eq, Option.bind_some, packet_end]
 by_cases h1 : 0 ≤ a ∧ a ≤ 65535
 ·by_cases h2 : 0 ≤ b ∧ b ≤ 65535
  ·by_cases h3 : 0 ≤ c ∧ c ≤ 255
   ·by_cases h4 : 0 ≤ d ∧ d ≤ 255
    ·by_cases h5 : 0 ≤ e ∧ e ≤ 255
     ·by_cases h6 : 0 ≤ f ∧ f ≤ 255
      ·simp only [h1, h2, h3, h4, h5, h6, true_and, and_self, decide_true, if_true]
      ·simp [h1, h2, h3, h4, h5, h6]
     ·simp [h1, h2, h3, h4, h5]
    ·simp [h1, h2, h3, h4]
   ·simp [h1, h2, h3]
  ·simp [h1, h2]
 ·simp [h1]

theorem bytesB_of {l : List Int} (h : Bytes l) : bytesB l = true := List.all_eq_true.mpr (fun x hx => decide_eq_true (h x hx))
/-- The pairs' numbers together. -/
def tot : List Int → Int
 | [] => 0
 | [a] => a * 256
 | a :: b :: l => a * 256 + b + tot l
theorem sumAdd_mod {a b : Int} : sumAdd a b % 65535 = (a + b) % 65535 := by unfold sumAdd; split <;> omega
theorem sumP_mod : ∀ (l : List Int) (s : Int), Bytes l → 0 ≤ s ∧ s ≤ 65535 → (0 ≤ sumP l s ∧ sumP l s ≤ 65535) ∧ sumP l s % 65535 = (s + tot l) % 65535
 | [], s, _, hs => ⟨hs, by simp [sumP, tot]⟩
 | [a], s, hb, hs => by
  have ha := hb a (by simp)
  exact ⟨sumAdd_range hs (by omega), sumAdd_mod⟩
 | a :: b :: l, s, hb, hs => by
  have ha := hb a (by simp)
  have hb' := hb b (by simp)
  have hr := sumAdd_range hs (b := a * 256 + b) (by omega)
  have hm := sumAdd_mod (a := s) (b := a * 256 + b)
  obtain ⟨h1, h2⟩ := sumP_mod l (sumAdd s (a * 256 + b)) (fun x hx => hb x (by simp [hx])) hr
  refine ⟨h1, ?_⟩
  show sumP l (sumAdd s (a * 256 + b)) % 65535 = (s + (a * 256 + b + tot l)) % 65535
  omega
theorem sumP_append : ∀ (l m : List Int) (s : Int), l.length % 2 = 0 → sumP (l ++ m) s = sumP m (sumP l s)
 | [], m, s, _ => rfl
 | [a], m, s, h => by simp at h
 | a :: b :: l, m, s, h => by
  have := sumP_append l m (sumAdd s (a * 256 + b)) (by simp at h; omega)
  exact this
/-- How much a byte at place k counts. -/
def wt (k : Nat) : Int := if k % 2 = 0 then 256 else 1
theorem tot_set : ∀ (l : List Int) (k : Nat) (v : Int), k < l.length → tot (l.set k v) = tot l + (v - rd l (k : Int)) * wt k
 | [], k, v, h => by simp at h
 | [a], k, v, h => by
  obtain rfl : k = 0 := by simp at h; omega
  show v * 256 = a * 256 + (v - a) * 256
  omega
 | a :: b :: l, 0, v, h => by
  show v * 256 + b + tot l = a * 256 + b + tot l + (v - a) * 256
  omega
 | a :: b :: l, 1, v, h => by
  show a * 256 + v + tot l = a * 256 + b + tot l + (v - b) * 1
  omega
 | a :: b :: l, k + 2, v, h => by
  have ih := tot_set l k v (by simpa using h)
  have hw : wt (k + 2) = wt k := by unfold wt; rw [show (k + 2) % 2 = k % 2 by omega]
  have hr : rd (a :: b :: l) ((k + 2 : Nat) : Int) = rd l (k : Int) := by unfold rd; rfl
  show a * 256 + b + tot (l.set k v) = a * 256 + b + tot l + (v - rd (a :: b :: l) ((k + 2 : Nat) : Int)) * wt (k + 2)
  rw [ih, hw, hr]; omega
theorem xor16_nat : ∀ a : Nat, a < 256 → (a ^^^ 16 = a + 16 ∨ (a ^^^ 16) + 16 = a) ∧ a ^^^ 16 < 256 := by decide +kernel
theorem xor16 {a : Int} (h : 0 ≤ a ∧ a < 256) : (Go.bits .xor .u8 a 16 = a + 16 ∨ Go.bits .xor .u8 a 16 = a - 16) ∧ 0 ≤ Go.bits .xor .u8 a 16 ∧ Go.bits .xor .u8 a 16 < 256 := by
 obtain ⟨n, rfl⟩ : ∃ n : Nat, a = n := ⟨a.toNat, by omega⟩
 have hn : n < 256 := by omega
 obtain ⟨h1, h2⟩ := xor16_nat n hn
 have e : Go.bits .xor .u8 (n : Int) 16 = ((n ^^^ 16 : Nat) : Int) := by
  have ha' : n % 2 ^ IntKind.u8.bits = n := Nat.mod_eq_of_lt (by simp [IntKind.bits]; omega)
  rw [show (16 : Int) = ((16 : Nat) : Int) from rfl]
  simp only [Go.bits, BitVec.ofInt_natCast, BitVec.toNat_xor, BitVec.toNat_ofNat, ha']
  rw [show 16 % 2 ^ IntKind.u8.bits = 16 by simp [IntKind.bits], IntKind.wrap_u8]; omega
 rw [e]; omega

/-- The sum's two bytes. -/
def sum2 (l : List Int) : List Int := be 2 (65535 - sumP l 0)
theorem sum2_len (l : List Int) : (sum2 l).length = 2 := by unfold sum2; rw [be_length]

/-- The flags' number. -/
def flagsOf (m w : Bool) : Int := (if m then 1 else 0) + (if w then 2 else 0)
theorem flagsOf_range (m w : Bool) : 0 ≤ flagsOf m w ∧ flagsOf m w ≤ 3 := by cases m <;> cases w <;> decide
/-- A packet's head ahead of the sum. -/
def packetHead (a b c d e f : Int) (m w : Bool) (l : List Int) : List Int := be 2 a ++ be 2 b ++ [c, d, e, f, flagsOf m w, (l.length : Int)]
/-- A packet as bytes. -/
def packetBytes (a b c d e f : Int) (m w : Bool) (l : List Int) : List Int :=
 if packetOk a b c d e f m w l = true then packetHead a b c d e f m w l ++ sum2 (packetHead a b c d e f m w l) ++ l else []
theorem packetHead_len (a b c d e f : Int) (m w : Bool) (l : List Int) : (packetHead a b c d e f m w l).length = 10 := by
 unfold packetHead; rw [List.length_append, List.length_append, be_length, be_length]; rfl
theorem packetOk_parts {a b c d e f : Int} {m w : Bool} {l : List Int} (h : packetOk a b c d e f m w l = true) : (0 ≤ a ∧ a ≤ 65535) ∧ (0 ≤ b ∧ b ≤ 65535) ∧ (0 ≤ c ∧ c ≤ 255) ∧ (0 ≤ d ∧ d ≤ 255) ∧ (0 ≤ e ∧ e ≤ 255) ∧ (0 ≤ f ∧ f ≤ 255) ∧ (l.length : Int) ≤ 48 := by
 have := of_decide_eq_true h
 exact ⟨this.1, this.2.1, this.2.2.1, this.2.2.2.1, this.2.2.2.2.1, this.2.2.2.2.2.1, this.2.2.2.2.2.2.1⟩
theorem packetHead_bytes {a b c d e f : Int} {m w : Bool} {l : List Int} (h : packetOk a b c d e f m w l = true) : Bytes (packetHead a b c d e f m w l) := by
 have hq := packetOk_parts h
 have hf := flagsOf_range m w
 exact ((be_bytes _ _).append (be_bytes _ _)).append (Bytes.cons (by omega) (Bytes.cons (by omega) (Bytes.cons (by omega) (Bytes.cons (by omega) (Bytes.cons (by omega) (Bytes.cons (by omega) Bytes.nil))))))
theorem packetTail_eq {a b c d e f : Int} {m w : Bool} {l : List Int} (h : packetOk a b c d e f m w l = true) : [c % 256, d % 256, e % 256, f % 256, flagsOf m w % 256, (l.length : Int) % 256] = [c, d, e, f, flagsOf m w, (l.length : Int)] := by
 have hq := packetOk_parts h
 have hf := flagsOf_range m w
 rw [show c % 256 = c by omega, show d % 256 = d by omega, show e % 256 = e by omega, show f % 256 = f by omega, show flagsOf m w % 256 = flagsOf m w by omega, show (l.length : Int) % 256 = (l.length : Int) by omega]
theorem packetBytes_len (a b c d e f : Int) (m w : Bool) (l : List Int) : (packetBytes a b c d e f m w l).length ≤ 60 := by
 unfold packetBytes
 cases h : packetOk a b c d e f m w l with
 | false => exact Nat.zero_le _
 | true =>
  have hq := packetOk_parts h
  rw [if_pos rfl, List.length_append, List.length_append, sum2_len, packetHead_len]; omega

/-- The number of n bytes at a place; -1 if there is none. -/
def numAt (l : List Int) (a n : Int) : Int := if (1 ≤ n ∧ n ≤ 4) ∧ 0 ≤ a ∧ a + n ≤ l.length then num ((l.drop a.toNat).take n.toNat) else -1
theorem num_take (l : List Int) (i : Nat) (h : i < l.length) : num (l.take (i + 1)) = num (l.take i) * 256 + rd l (i : Int) := by
 rw [take_succ_rd l i h, num_append]
theorem num_take_range {l : List Int} (h : Bytes l) (i : Nat) (hi : i ≤ 4) : 0 ≤ num (l.take i) ∧ num (l.take i) < 4294967296 := by
 have h1 := num_range _ (h.take i)
 refine ⟨h1.1, Int.lt_of_lt_of_le h1.2 ?_⟩
 have h2 : (l.take i).length ≤ 4 := by rw [List.length_take]; omega
 generalize (l.take i).length = n at h2
 obtain rfl | rfl | rfl | rfl | rfl : n = 0 ∨ n = 1 ∨ n = 2 ∨ n = 3 ∨ n = 4 := by omega
 all_goals decide
theorem rd_drop (l : List Int) (a i : Nat) : rd (l.drop a) (i : Int) = rd l ((a + i : Nat) : Int) := by
 unfold rd; rw [List.getD_eq_getElem?_getD, List.getD_eq_getElem?_getD, List.getElem?_drop]; rfl

/-- A number is the sum of bytes. -/
def sumFits (l : List Int) (s : Int) : Bool := decide ((0 ≤ s ∧ s ≤ 65535) ∧ s % 65535 = (65535 - sumP l 0) % 65535)
theorem implSumFits_eq {l : List Int} (hb : Bytes l) (hl : l.length ≤ 4611686018427387904) (s : Int) (k : Nat) : impl_SumFits.f k l s = some (sumFits l s) := by
 have hr := (sumP_mod l 0 hb (by omega)).1
 unfold impl_SumFits.f impl_sumOf.f sumFits
 rw [if_pos ⟨bytesB_of hb, hl⟩, word_eq]
 simp only [Option.bind_some]
 by_cases h1 : 0 ≤ s ∧ s ≤ 65535
 ·rw [if_pos (decide_eq_true h1), Int.tmod_eq_emod_of_nonneg h1.1, Int.tmod_eq_emod_of_nonneg (by omega)]
  by_cases h2 : s = 65535 - sumP l 0
  ·rw [if_pos h2, decide_eq_true ⟨h1, by rw [h2]⟩]
  ·rw [if_neg h2]
   by_cases h3 : s % 65535 = 0
   ·rw [if_pos h3]
    by_cases h4 : (65535 - sumP l 0) % 65535 = 0
    ·rw [decide_eq_true ⟨h1, by omega⟩, h4]; rfl
    ·rw [decide_eq_false (by omega), show ((65535 - sumP l 0) % 65535 == 0) = false from beq_eq_false_iff_ne.mpr h4]
   ·rw [if_neg h3, decide_eq_false (by omega)]
 ·rw [if_neg (by simpa using h1), decide_eq_false (by omega)]

def bitM (x : Int) : Bool := decide (x % 2 = 1)
def bitW (x : Int) : Bool := decide (x / 2 % 2 = 1)
/-- Bytes are a packet's. -/
def pfOk (l : List Int) : Bool := decide (12 ≤ l.length ∧ sumFits (l.take 10) (numAt l 10 2) = true ∧ (l.length : Int) = 12 + rd l 9 ∧ rd l 8 ≤ 3 ∧
 packetOk (numAt l 0 2) (numAt l 2 2) (rd l 4) (rd l 5) (rd l 6) (rd l 7) (bitM (rd l 8)) (bitW (rd l 8)) (l.drop 12) = true)
/-- The packet of bytes. -/
def packetFrom (l : List Int) : Int × Int × Int × Int × Int × Int × Bool × Bool × List Int × Bool :=
 if pfOk l = true then (numAt l 0 2, numAt l 2 2, rd l 4, rd l 5, rd l 6, rd l 7, bitM (rd l 8), bitW (rd l 8), l.drop 12, true) else (0, 0, 0, 0, 0, 0, false, false, [], false)
theorem four_of {x : Int} (h0 : 0 ≤ x) (h3 : x ≤ 3) : x = 0 ∨ x = 1 ∨ x = 2 ∨ x = 3 := by omega
theorem packetFrom_ok (l : List Int) : (packetFrom l).2.2.2.2.2.2.2.2.2 = pfOk l := by
 unfold packetFrom
 cases pfOk l <;> rfl

theorem sumP_set_mod {l : List Int} (hb : Bytes l) (i : Nat) (hi : i < l.length) {v : Int} (hv : 0 ≤ v ∧ v < 256) (hne : v ≠ rd l (i : Int)) : sumP (l.set i v) 0 % 65535 ≠ sumP l 0 % 65535 := by
 intro e
 have h1 := (sumP_mod l 0 hb (by omega)).2
 have h2 := (sumP_mod (l.set i v) 0 (hb.set i hv) (by omega)).2
 have h3 := tot_set l i v hi
 have hr := hb.at_ (i : Int)
 have hw : wt i = 256 ∨ wt i = 1 := by unfold wt; split <;> simp
 rw [e, h1, h3] at h2
 rcases hw with hw | hw <;> rw [hw] at h2 <;> omega
theorem rd_take' (l : List Int) (n i : Nat) (h : i < n) : rd (l.take n) (i : Int) = rd l (i : Int) := by
 unfold rd; rw [List.getD_eq_getElem?_getD, List.getD_eq_getElem?_getD, List.getElem?_take, if_pos (by omega)]
theorem numAt_two (l : List Int) (a : Nat) (h : a + 2 ≤ l.length) : numAt l (a : Int) 2 = rd l (a : Int) * 256 + rd l ((a + 1 : Nat) : Int) := by
 unfold numAt
 rw [if_pos ⟨by omega, by omega, by omega⟩, Int.toNat_natCast, show (2 : Int).toNat = 2 from rfl, drop_rd l a (by omega), drop_rd l (a + 1) (by omega)]
 unfold num
 simp
theorem pfOk_parts {l : List Int} (h : pfOk l = true) : 12 ≤ l.length ∧ sumFits (l.take 10) (numAt l 10 2) = true ∧ (l.length : Int) = 12 + rd l 9 ∧ rd l 8 ≤ 3 ∧
  packetOk (numAt l 0 2) (numAt l 2 2) (rd l 4) (rd l 5) (rd l 6) (rd l 7) (bitM (rd l 8)) (bitW (rd l 8)) (l.drop 12) = true := of_decide_eq_true h
/-- With a byte of the head turned there is no packet. -/
theorem pfOk_turned {l : List Int} (hb : Bytes l) (ho : pfOk l = true) (i : Nat) (hi : i < 12) {v : Int} (hv : 0 ≤ v ∧ v < 256) (hne : v ≠ rd l (i : Int)) : pfOk (l.set i v) = false := by
 cases hc : pfOk (l.set i v) with
 | false => rfl
 | true =>
  exfalso
  obtain ⟨h12, hs, _⟩ := pfOk_parts ho
  obtain ⟨_, hs', _⟩ := pfOk_parts hc
  have a := of_decide_eq_true hs
  have a' := of_decide_eq_true hs'
  have e : numAt l 10 2 = rd l 10 * 256 + rd l 11 := numAt_two l 10 (by omega)
  have e' : numAt (l.set i v) 10 2 = rd (l.set i v) 10 * 256 + rd (l.set i v) 11 := numAt_two (l.set i v) 10 (by rw [List.length_set]; omega)
  have b10 := hb.at_ 10
  have b11 := hb.at_ 11
  have hr := (sumP_mod (l.take 10) 0 (hb.take 10) (by omega)).1
  by_cases h10 : i < 10
  ·have r10 : rd (l.set i v) 10 = rd l 10 := rd_set_ne l i 10 v (by omega)
   have r11 : rd (l.set i v) 11 = rd l 11 := rd_set_ne l i 11 v (by omega)
   have hr' := (sumP_mod ((l.take 10).set i v) 0 ((hb.take 10).set i hv) (by omega)).1
   have hd := sumP_set_mod (hb.take 10) i (by rw [List.length_take]; omega) hv (by rw [rd_take' _ _ _ h10]; exact hne)
   rw [List.take_set, e', r10, r11, ← e] at a'
   omega
  ·rw [List.take_set_of_le (by omega)] at a'
   rcases (by omega : i = 10 ∨ i = 11) with rfl | rfl
   ·have r10 : rd (l.set 10 v) 10 = v := rd_set_eq l 10 v (by omega)
    have r11 : rd (l.set 10 v) 11 = rd l 11 := rd_set_ne l 10 11 v (by omega)
    have hn : v ≠ rd l 10 := hne
    rw [e', r10, r11] at a'
    rw [e] at a
    omega
   ·have r10 : rd (l.set 11 v) 10 = rd l 10 := rd_set_ne l 11 10 v (by omega)
    have r11 : rd (l.set 11 v) 11 = v := rd_set_eq l 11 v (by omega)
    have hn : v ≠ rd l 11 := hne
    rw [e', r10, r11] at a'
    rw [e] at a
    omega
theorem pfOk_less {l : List Int} (ho : pfOk l = true) : pfOk (l.take (l.length - 1)) = false := by
 cases hc : pfOk (l.take (l.length - 1)) with
 | false => rfl
 | true =>
  exfalso
  obtain ⟨h12, _, h9, _⟩ := pfOk_parts ho
  obtain ⟨h12', _, h9', _⟩ := pfOk_parts hc
  rw [List.length_take] at h12' h9'
  have r : rd (l.take (l.length - 1)) 9 = rd l 9 := rd_take' l (l.length - 1) 9 (by omega)
  omega
theorem pfOk_more {l : List Int} (ho : pfOk l = true) (x : Int) : pfOk (l ++ [x]) = false := by
 cases hc : pfOk (l ++ [x]) with
 | false => rfl
 | true =>
  exfalso
  obtain ⟨h12, _, h9, _⟩ := pfOk_parts ho
  obtain ⟨_, _, h9', _⟩ := pfOk_parts hc
  rw [List.length_append] at h9'
  simp only [List.length_cons, List.length_nil] at h9'
  have r : rd (l ++ [x]) 9 = rd l 9 := by
   show rd (l ++ [x]) ((9 : Nat) : Int) = rd l ((9 : Nat) : Int)
   unfold rd; rw [List.getD_eq_getElem?_getD, List.getD_eq_getElem?_getD, Int.toNat_natCast, List.getElem?_append_left (by omega)]
  omega

/-- Two numbers added up as 'added' does. -/
def add1 (a b : Int) : Int := if a + b > 65535 then a + b - 65535 else a + b
theorem add1_range {a b : Int} (ha : 0 ≤ a ∧ a ≤ 65535) (hb : 0 ≤ b ∧ b ≤ 65535) : 0 ≤ add1 a b ∧ add1 a b ≤ 65535 := by unfold add1; split <;> omega
theorem added_loop (l : List Int) (hl : ∀ x ∈ l, 0 ≤ x ∧ x ≤ 65535) (hlen : l.length < 4611686018427387904) : ∀ (d k i : Nat) (s : Int), l.length - i = d → i ≤ l.length → d < k → 0 ≤ s ∧ s ≤ 65535 →
  impl_added.l0 k s l (l.length : Int) (i : Int) = some ((l.drop i).foldl add1 s)
 | 0, k, i, s, hd, hi, hk, hs => by
  obtain ⟨k, rfl⟩ : ∃ m, k = m + 1 := ⟨k - 1, by omega⟩
  simp only [impl_added.l0]
  rw [if_neg (by omega), List.drop_of_length_le (by omega)]; rfl
 | d + 1, k, i, s, hd, hi, hk, hs => by
  obtain ⟨k, rfl⟩ : ∃ m, k = m + 1 := ⟨k - 1, by omega⟩
  have hm : 0 ≤ rd l (i : Int) ∧ rd l (i : Int) ≤ 65535 := by rw [rd_nat l i (by omega)]; exact hl _ (List.getElem_mem _)
  have e1 : wrap64 (s + rd l (i : Int)) = s + rd l (i : Int) := w64 (by omega) (by omega)
  have e2 : wrap64 ((i : Int) + 1) = ((i + 1 : Nat) : Int) := by rw [w64 (by omega) (by omega)]; rfl
  have ih := fun s' hs' => added_loop l hl hlen d k (i + 1) s' (by omega) (by omega) (by omega) hs'
  simp only [impl_added.l0]
  rw [if_pos (by omega), if_pos (by omega), if_pos (by omega), e1, e2, drop_rd l i (by omega), List.foldl_cons]
  by_cases h : s + rd l (i : Int) > 65535
  ·rw [if_pos h, w64 (by omega) (by omega), ih _ (by omega)]
   unfold add1; rw [if_pos h]
  ·rw [if_neg h, ih _ (by omega)]
   unfold add1; rw [if_neg h]
theorem added_eq (l : List Int) (hl : ∀ x ∈ l, 0 ≤ x ∧ x ≤ 65535) (hlen : l.length < 4611686018427387904) (k : Nat) (hk : l.length < k) :
  impl_added.f k l = some (l.foldl add1 0) := by
 unfold impl_added.f
 exact added_loop l hl hlen l.length k 0 0 (by omega) (by omega) hk (by omega)

/-- A sum turned. -/
def turn (a b c : Int) : Int := if (0 ≤ a ∧ a ≤ 65535) ∧ (0 ≤ b ∧ b ≤ 65535) ∧ (0 ≤ c ∧ c ≤ 65535) then add1 (add1 a b) (65535 - c) else -1
theorem implSumTurned_eq (a b c : Int) (k : Nat) (hk : 4 ≤ k) : impl_SumTurned.f k a b c = some (turn a b c) := by
 unfold impl_SumTurned.f turn
 rw [word_eq, word_eq, word_eq]
 simp only [Option.bind_some]
 by_cases h1 : 0 ≤ a ∧ a ≤ 65535
 ·by_cases h2 : 0 ≤ b ∧ b ≤ 65535
  ·by_cases h3 : 0 ≤ c ∧ c ≤ 65535
   ·have e : wrap64 (65535 - c) = 65535 - c := w64 (by omega) (by omega)
    rw [e, added_eq [a, b, 65535 - c] (by intro x hx; simp at hx; omega) (by simp) k (by simp; omega)]
    simp only [h1, h2, h3, decide_true, if_true, Option.bind_some, and_self]
    have : add1 0 a = a := by unfold add1; rw [if_neg (by omega)]; omega
    simp only [List.foldl_cons, List.foldl_nil, this]
   ·simp [h1, h2, h3]
  ·simp [h1, h2]
 ·simp [h1]
theorem specSumTurned_eq (a b c : Int) (k : Nat) (hk : 1 ≤ k) : spec_SumTurned.f k a b c = some (turn a b c) := by
 obtain ⟨k, rfl⟩ : ∃ m, k = m + 1 := ⟨k - 1, by omega⟩
 unfold spec_SumTurned.f turn
 rw [l1In_eq, l1In_eq, l1In_eq]
 simp only [Option.bind_some]
 by_cases h1 : 0 ≤ a ∧ a ≤ 65535
 ·by_cases h2 : 0 ≤ b ∧ b ≤ 65535
  ·by_cases h3 : 0 ≤ c ∧ c ≤ 65535
   ·simp only [h1, h2, h3, decide_true, if_true, and_self, Bool.not_true, spec_SumTurned.j0]
    rw [if_neg (by decide), w64 (x := a + b) (by omega) (by omega)]
    unfold add1
    by_cases h4 : a + b > 65535
    ·rw [if_pos h4, if_pos h4, w64 (x := a + b - 65535) (by omega) (by omega), w64 (x := a + b - 65535 + 65535) (by omega) (by omega), w64 (x := a + b - 65535 + 65535 - c) (by omega) (by omega)]
     by_cases h5 : a + b - 65535 + 65535 - c > 65535
     ·rw [if_pos h5, if_pos (by omega), w64 (by omega) (by omega)]; congr 1; omega
     ·rw [if_neg h5, if_neg (by omega)]; congr 1; omega
    ·rw [if_neg h4, if_neg h4, w64 (x := a + b + 65535) (by omega) (by omega), w64 (x := a + b + 65535 - c) (by omega) (by omega)]
     by_cases h5 : a + b + 65535 - c > 65535
     ·rw [if_pos h5, if_pos (by omega), w64 (by omega) (by omega)]; congr 1; omega
     ·rw [if_neg h5, if_neg (by omega)]; congr 1; omega
   ·simp [h1, h2, h3, spec_SumTurned.j0]
  ·simp [h1, h2, spec_SumTurned.j0]
 ·simp [h1, spec_SumTurned.j0]

/-- A number as n bytes, n in 1..4; none for others. -/
def bytesV (v n : Int) : List Int := if (1 ≤ n ∧ n ≤ 4) ∧ 0 ≤ v ∧ v < 256 ^ n.toNat then be n.toNat v else []
theorem four {n : Int} (h : 1 ≤ n ∧ n ≤ 4) : n = 1 ∨ n = 2 ∨ n = 3 ∨ n = 4 := by omega
theorem lim_of (n : Int) (h : 1 ≤ n ∧ n ≤ 4) : wrap64 (shl .i64 1 (wrap64 (8 * n)) - 1) = 256 ^ n.toNat - 1 ∧ 0 ≤ wrap64 (8 * n) := by
 rcases four h with rfl | rfl | rfl | rfl <;> decide +kernel
theorem bytesV_length (v n : Int) : (bytesV v n).length ≤ 4 := by
 unfold bytesV; split
 ·rw [be_length]; omega
 ·simp
theorem bytesV_bytes (v n : Int) : Bytes (bytesV v n) := by
 unfold bytesV; split
 ·exact be_bytes _ _
 ·exact Bytes.nil

/-- The bytes with one hop less. -/
def passedOut (l : List Int) : List Int := l.set 5 ((rd l 5 - 1) % 256)
def passedV (l : List Int) : Int := turn (numAt l 10 2) (numAt l 4 2) (numAt (passedOut l) 4 2)
/-- The bytes of a packet that was passed on. -/
def packetPassed (l : List Int) : List Int × Bool := if pfOk l = true ∧ 2 ≤ rd l 5 then ((passedOut l).take 10 ++ be 2 (passedV l) ++ l.drop 12, true) else ([], false)
theorem numAt_range2 {l : List Int} (hb : Bytes l) (a : Nat) (h : a + 2 ≤ l.length) : 0 ≤ numAt l (a : Int) 2 ∧ numAt l (a : Int) 2 ≤ 65535 := by
 have h1 := hb.at_ (a : Int)
 have h2 := hb.at_ ((a + 1 : Nat) : Int)
 rw [numAt_two l a h]
 omega
theorem passedOut_bytes {l : List Int} (hb : Bytes l) : Bytes (passedOut l) := hb.set 5 (Bytes.mod _)
theorem passedOut_len (l : List Int) : (passedOut l).length = l.length := List.length_set ..
theorem passedV_range {l : List Int} (hb : Bytes l) (h : 12 ≤ l.length) : 0 ≤ passedV l ∧ passedV l ≤ 65535 := by
 have h1 : 0 ≤ numAt l 10 2 ∧ numAt l 10 2 ≤ 65535 := numAt_range2 hb 10 (by omega)
 have h2 : 0 ≤ numAt l 4 2 ∧ numAt l 4 2 ≤ 65535 := numAt_range2 hb 4 (by omega)
 have h3 : 0 ≤ numAt (passedOut l) 4 2 ∧ numAt (passedOut l) 4 2 ≤ 65535 := numAt_range2 (passedOut_bytes hb) 4 (by rw [passedOut_len]; omega)
 unfold passedV turn
 rw [if_pos ⟨h1, h2, h3⟩]
 exact add1_range (add1_range h1 h2) (by omega)
theorem be_two (v : Int) : be 2 v = [v / 256 % 256, v % 256] := rfl
theorem set_two (L : List Int) (x y : Int) (h : 12 ≤ L.length) : (L.set 10 x).set 11 y = L.take 10 ++ [x, y] ++ L.drop 12 := by
 have e1 : L.set 10 x = L.take 10 ++ x :: L.drop 11 := by rw [List.set_eq_take_append_cons_drop, if_pos (by omega)]
 have e2 : (L.set 10 x).set 11 y = (L.set 10 x).take 11 ++ y :: (L.set 10 x).drop 12 := by rw [List.set_eq_take_append_cons_drop, if_pos (by rw [List.length_set]; omega)]
 have e3 : (L.set 10 x).take 11 = L.take 10 ++ [x] := by
  rw [e1, List.take_append, List.take_of_length_le (by rw [List.length_take]; omega), List.length_take, Nat.min_eq_left (by omega)]; rfl
 have e4 : (L.set 10 x).drop 12 = L.drop 12 := by rw [List.drop_set_of_lt (by omega)]
 rw [e2, e3, e4]
 simp
theorem passed_len {l : List Int} : (packetPassed l).1.length ≤ l.length := by
 unfold packetPassed
 split
 ·rename_i h
  have h12 := (pfOk_parts h.1).1
  simp only [List.length_append, be_length, List.length_take, List.length_drop, passedOut_len]
  omega
 ·exact Nat.zero_le _

theorem turn_mod {a b c : Int} (ha : 0 ≤ a ∧ a ≤ 65535) (hb : 0 ≤ b ∧ b ≤ 65535) (hc : 0 ≤ c ∧ c ≤ 65535) : turn a b c % 65535 = (a + b - c) % 65535 := by
 unfold turn
 rw [if_pos ⟨ha, hb, hc⟩]
 unfold add1
 split <;> split <;> omega
/-- A packet passed on is a packet with one hop less. -/
theorem passed_ok {l : List Int} (hb : Bytes l) (ho : pfOk l = true) (h2 : 2 ≤ rd l 5) : ∃ c, packetPassed l = (c, true) ∧ Bytes c ∧ c.length = l.length ∧ pfOk c = true ∧ rd c 5 = rd l 5 - 1 ∧
  packetFrom c = (numAt l 0 2, numAt l 2 2, rd l 4, rd l 5 - 1, rd l 6, rd l 7, bitM (rd l 8), bitW (rd l 8), l.drop 12, true) := by
 obtain ⟨h12, hf, hlen, h8, hp⟩ := pfOk_parts ho
 have hv := passedV_range hb h12
 have r5 := hb.at_ 5
 have e5 : (rd l 5 - 1) % 256 = rd l 5 - 1 := by omega
 have hol := passedOut_len l
 obtain ⟨c, hc⟩ : ∃ c, c = (passedOut l).take 10 ++ be 2 (passedV l) ++ l.drop 12 := ⟨_, rfl⟩
 have hcs : c = ((passedOut l).set 10 (passedV l / 256 % 256)).set 11 (passedV l % 256) := by
  rw [hc, set_two _ _ _ (by rw [hol]; exact h12), be_two]
  have ed : (passedOut l).drop 12 = l.drop 12 := by unfold passedOut; rw [List.drop_set_of_lt (by omega)]
  rw [ed]
 have hcb : Bytes c := by rw [hcs]; exact ((passedOut_bytes hb).set 10 (Bytes.mod _)).set 11 (Bytes.mod _)
 have hcl : c.length = l.length := by rw [hcs, List.length_set, List.length_set, hol]
 have hlow : ∀ i : Nat, i < 10 → i ≠ 5 → rd c (i : Int) = rd l (i : Int) := fun i h1 h3 => by
  rw [hcs, rd_set_ne _ 11 i _ (by omega), rd_set_ne _ 10 i _ (by omega)]
  exact rd_set_ne l 5 i _ (by omega)
 have hc5 : rd c 5 = rd l 5 - 1 := by
  rw [hcs]
  show rd (((passedOut l).set 10 (passedV l / 256 % 256)).set 11 (passedV l % 256)) ((5 : Nat) : Int) = _
  rw [rd_set_ne _ 11 5 _ (by omega), rd_set_ne _ 10 5 _ (by omega)]
  show rd (l.set 5 ((rd l 5 - 1) % 256)) ((5 : Nat) : Int) = _
  rw [rd_set_eq l 5 _ (by omega), e5]
 have hc10 : rd c ((10 : Nat) : Int) = passedV l / 256 % 256 := by
  rw [hcs, rd_set_ne _ 11 10 _ (by omega), rd_set_eq _ 10 _ (by rw [hol]; omega)]
 have hc11 : rd c ((10 + 1 : Nat) : Int) = passedV l % 256 := by
  rw [hcs]
  exact rd_set_eq _ 11 _ (by rw [List.length_set, hol]; omega)
 have hV : numAt c 10 2 = passedV l := by
  have h := numAt_two c 10 (by omega)
  rw [hc10, hc11] at h
  rw [show (10 : Int) = ((10 : Nat) : Int) from rfl, h]
  omega
 have hdrop : c.drop 12 = l.drop 12 := by
  rw [hc, List.append_assoc, List.drop_append, List.drop_of_length_le (by rw [List.length_take]; omega), List.nil_append, List.drop_append, List.drop_of_length_le (by rw [be_length, List.length_take, hol]; omega), List.nil_append, be_length, List.length_take, hol, List.drop_drop]
  congr 1
  omega
 have htake : c.take 10 = (l.take 10).set 5 (rd l 5 - 1) := by
  rw [hc, List.append_assoc, List.take_append_of_le_length (by rw [List.length_take, hol]; omega), List.take_take, Nat.min_self]
  unfold passedOut
  rw [e5, List.take_set]
 have n0 : numAt c 0 2 = numAt l 0 2 := by
  have a1 := numAt_two c 0 (by omega)
  have a2 := numAt_two l 0 (by omega)
  rw [hlow 0 (by omega) (by omega), hlow (0 + 1) (by omega) (by omega)] at a1
  exact a1.trans a2.symm
 have n2 : numAt c 2 2 = numAt l 2 2 := by
  have a1 := numAt_two c 2 (by omega)
  have a2 := numAt_two l 2 (by omega)
  rw [hlow 2 (by omega) (by omega), hlow (2 + 1) (by omega) (by omega)] at a1
  exact a1.trans a2.symm
 have hA : 0 ≤ numAt l 10 2 ∧ numAt l 10 2 ≤ 65535 := numAt_range2 hb 10 (by omega)
 have hB : 0 ≤ numAt l 4 2 ∧ numAt l 4 2 ≤ 65535 := numAt_range2 hb 4 (by omega)
 have hC : 0 ≤ numAt (passedOut l) 4 2 ∧ numAt (passedOut l) 4 2 ≤ 65535 := numAt_range2 (passedOut_bytes hb) 4 (by rw [hol]; omega)
 have hBC : numAt l 4 2 - numAt (passedOut l) 4 2 = 1 := by
  have a1 := numAt_two l 4 (by omega)
  have a2 := numAt_two (passedOut l) 4 (by rw [hol]; omega)
  have p4 : rd (passedOut l) ((4 : Nat) : Int) = rd l ((4 : Nat) : Int) := rd_set_ne l 5 4 _ (by omega)
  have p5 : rd (passedOut l) ((4 + 1 : Nat) : Int) = (rd l 5 - 1) % 256 := rd_set_eq l 5 _ (by omega)
  rw [p4, p5, e5] at a2
  have q5 : rd l ((4 + 1 : Nat) : Int) = rd l 5 := rfl
  rw [q5] at a1
  have a1' : numAt l 4 2 = rd l ((4 : Nat) : Int) * 256 + rd l 5 := a1
  have a2' : numAt (passedOut l) 4 2 = rd l ((4 : Nat) : Int) * 256 + (rd l 5 - 1) := a2
  omega
 have hm : passedV l % 65535 = (numAt l 10 2 + numAt l 4 2 - numAt (passedOut l) 4 2) % 65535 := turn_mod hA hB hC
 have hb10 : Bytes (l.take 10) := hb.take _
 have hs1 := (sumP_mod (l.take 10) 0 hb10 (by omega)).2
 have hs2 := (sumP_mod ((l.take 10).set 5 (rd l 5 - 1)) 0 (hb10.set 5 (by omega)) (by omega)).2
 have ht := tot_set (l.take 10) 5 (rd l 5 - 1) (by rw [List.length_take]; omega)
 have hr5 : rd (l.take 10) ((5 : Nat) : Int) = rd l 5 := rd_take' l 10 5 (by omega)
 have hw : wt 5 = 1 := rfl
 rw [hr5, hw] at ht
 have hfit : sumFits (c.take 10) (numAt c 10 2) = true := by
  have hf' := of_decide_eq_true hf
  rw [hV, htake]
  exact decide_eq_true ⟨hv, by omega⟩
 have i4 : rd c 4 = rd l 4 := hlow 4 (by omega) (by omega)
 have i6 : rd c 6 = rd l 6 := hlow 6 (by omega) (by omega)
 have i7 : rd c 7 = rd l 7 := hlow 7 (by omega) (by omega)
 have i8 : rd c 8 = rd l 8 := hlow 8 (by omega) (by omega)
 have i9 : rd c 9 = rd l 9 := hlow 9 (by omega) (by omega)
 have hq := of_decide_eq_true hp
 have hok : pfOk c = true := by
  unfold pfOk
  refine decide_eq_true ⟨by omega, hfit, by rw [hcl, i9]; exact hlen, by rw [i8]; exact h8, ?_⟩
  rw [n0, n2, i4, hc5, i6, i7, i8, hdrop]
  exact decide_eq_true ⟨hq.1, hq.2.1, hq.2.2.1, ⟨by omega, by omega⟩, hq.2.2.2.2.1, hq.2.2.2.2.2.1, hq.2.2.2.2.2.2.1, hq.2.2.2.2.2.2.2.1, hq.2.2.2.2.2.2.2.2⟩
 refine ⟨c, ?_, hcb, hcl, hok, hc5, ?_⟩
 ·unfold packetPassed; rw [if_pos ⟨ho, h2⟩, hc]
 ·unfold packetFrom; rw [if_pos hok, n0, n2, i4, hc5, i6, i7, i8, hdrop]

theorem implNumberAt_loop (m : List Int) (hb : Bytes m) (hn : m.length ≤ 4) : ∀ (d k i : Nat), m.length - i = d → i ≤ m.length → d < k →
  impl_NumberAt.l0 k (num (m.take i)) m (m.length : Int) (i : Int) = some (num m)
 | 0, k, i, hd, hi, hk => by
  obtain ⟨k, rfl⟩ : ∃ m, k = m + 1 := ⟨k - 1, by omega⟩
  simp only [impl_NumberAt.l0]
  rw [if_neg (by omega), List.take_of_length_le (by omega)]
 | d + 1, k, i, hd, hi, hk => by
  obtain ⟨k, rfl⟩ : ∃ m, k = m + 1 := ⟨k - 1, by omega⟩
  have e2 : wrap64 ((i : Int) + 1) = ((i + 1 : Nat) : Int) := by rw [w64 (by omega) (by omega)]; rfl
  have hr := hb.at_ (i : Int)
  have hm := num_take_range hb i (by omega)
  simp only [impl_NumberAt.l0]
  rw [if_pos (by omega), if_pos (by omega), if_pos (by omega), e2, w64 (x := rd m _) (by omega) (by omega), w64 (x := _ * 256) (by omega) (by omega)]
  rw [or_byte (by omega) (by omega) (by omega) (by omega), ← num_take _ i (by omega)]
  exact implNumberAt_loop m hb hn d k (i + 1) (by omega) (by omega) (by omega)
theorem implNumberAt_eq (l : List Int) (hb : Bytes l) (hl : l.length < 4611686018427387904) (a n : Int) (k : Nat) (hk : 6 ≤ k) : impl_NumberAt.f k l a n = some (numAt l a n) := by
 obtain ⟨k, rfl⟩ : ∃ m, k = m + 1 := ⟨k - 1, by omega⟩
 unfold impl_NumberAt.f numAt
 simp only [in_eq, Option.bind_some, impl_NumberAt.j0]
 by_cases h1 : 1 ≤ n ∧ n ≤ 4
 ·rw [if_pos (decide_eq_true h1), w64 (x := (l.length : Int) - n) (by omega) (by omega)]
  by_cases h2 : a < 0
  ·rw [if_pos h2, if_pos trivial, if_neg (by omega)]
  ·rw [if_neg h2]
   by_cases h3 : a > (l.length : Int) - n
   ·rw [if_pos (decide_eq_true h3), if_neg (by omega)]
   ·rw [if_neg (by simpa using h3), if_pos (by omega), w64 (by omega) (by omega), if_pos (by omega), if_pos (by omega), if_pos (by omega)]
    have e : (l.take (a + n).toNat).drop a.toNat = (l.drop a.toNat).take n.toNat := by
     rw [List.drop_take]; congr 1; omega
    rw [e]
    have hlen : ((l.drop a.toNat).take n.toNat).length = n.toNat := by rw [List.length_take, List.length_drop]; omega
    exact implNumberAt_loop _ ((hb.drop _).take _) (by omega) _ k 0 (by rw [Nat.sub_zero]) (by omega) (by omega)
 ·rw [if_neg (by simpa using h1), if_pos trivial, if_neg (by omega)]

theorem and_m {x : Int} (h0 : 0 ≤ x) (h3 : x ≤ 3) : (Go.bits .and .u8 x 1 != 0) = bitM x := by
 rcases four_of h0 h3 with rfl | rfl | rfl | rfl <;> decide +kernel
theorem and_w {x : Int} (h0 : 0 ≤ x) (h3 : x ≤ 3) : (Go.bits .and .u8 x 2 != 0) = bitW x := by
 rcases four_of h0 h3 with rfl | rfl | rfl | rfl <;> decide +kernel
theorem implPacketFrom_eq (l : List Int) (hb : Bytes l) (hl : l.length ≤ 1099511627776) (k : Nat) (hk : 20 ≤ k) : impl_PacketFrom.f k l = some (packetFrom l) := by
 obtain ⟨k, rfl⟩ : ∃ m, k = m + 1 + 1 := ⟨k - 2, by omega⟩
 unfold impl_PacketFrom.f packetFrom
 by_cases h : 12 ≤ l.length
 ·have w4 : wrap64 (rd l 4) = rd l 4 := by have := hb.at_ 4; exact w64 (by omega) (by omega)
  have w5 : wrap64 (rd l 5) = rd l 5 := by have := hb.at_ 5; exact w64 (by omega) (by omega)
  have w6 : wrap64 (rd l 6) = rd l 6 := by have := hb.at_ 6; exact w64 (by omega) (by omega)
  have w7 : wrap64 (rd l 7) = rd l 7 := by have := hb.at_ 7; exact w64 (by omega) (by omega)
  have w9 : wrap64 (12 + wrap64 (rd l 9)) = 12 + rd l 9 := by have := hb.at_ 9; rw [w64 (x := rd l 9) (by omega) (by omega), w64 (by omega) (by omega)]
  have h8 := hb.at_ 8
  have nA : ∀ (a : Int) (k : Nat), 6 ≤ k → impl_NumberAt.f k l a 2 = some (numAt l a 2) := fun a k hk => implNumberAt_eq l hb (by omega) a 2 k hk
  have c4 : (4 : Int) < (l.length : Int) := by omega
  have c5 : (5 : Int) < (l.length : Int) := by omega
  have c6 : (6 : Int) < (l.length : Int) := by omega
  have c7 : (7 : Int) < (l.length : Int) := by omega
  have c8 : (8 : Int) < (l.length : Int) := by omega
  have c9 : (9 : Int) < (l.length : Int) := by omega
  have c12 : (12 : Int) ≤ (l.length : Int) := by omega
  have hcl : impl_clone_byte.f (l.drop 12) = some (l.drop 12) := by unfold impl_clone_byte.f; rw [if_pos (by rw [List.length_drop]; omega)]
  rw [if_neg (by omega), if_pos (by omega), nA 10 _ (by omega)]
  simp only [Option.bind_some]
  rw [implSumFits_eq (hb.take 10) (by rw [List.length_take]; omega) _ _]
  simp only [Option.bind_some, w9, if_pos c9, if_pos c8]
  by_cases hs : sumFits (l.take 10) (numAt l 10 2) = true
  ·rw [if_pos hs]
   by_cases h9 : (l.length : Int) = 12 + rd l 9
   ·rw [if_pos h9]
    simp only [impl_PacketFrom.j0, impl_PacketFrom.j1]
    by_cases h83 : rd l 8 ≤ 3
    ·rw [if_neg (by simp; omega), nA 0 _ (by omega), nA 2 _ (by omega)]
     simp only [Option.bind_some, if_pos c4, if_pos c5, if_pos c6, if_pos c7, if_pos c8, if_pos c12, hcl, w4, w5, w6, w7, implPacketOk_eq, and_m h8.1 h83, and_w h8.1 h83]
     unfold pfOk
     cases hp : packetOk (numAt l 0 2) (numAt l 2 2) (rd l 4) (rd l 5) (rd l 6) (rd l 7) (bitM (rd l 8)) (bitW (rd l 8)) (l.drop 12) with
     | true => rw [if_neg (by decide), if_pos (decide_eq_true ⟨h, hs, h9, h83, rfl⟩)]
     | false => rw [if_pos (by decide), if_neg (by simp)]
    ·rw [if_pos (by simp; omega), if_neg (by unfold pfOk; simp; intros; omega)]
   ·rw [if_neg h9]
    simp only [impl_PacketFrom.j0, if_true]
    rw [if_neg (by unfold pfOk; simp; intros; omega)]
  ·rw [if_neg hs]
   simp only [impl_PacketFrom.j0, if_true]
   rw [if_neg (by unfold pfOk; simp [hs])]
 ·rw [if_pos (by omega)]
  simp only [impl_PacketFrom.j0, if_true]
  rw [if_neg (by unfold pfOk; simp; intros; omega)]

theorem implbytesOf_loop : ∀ (i k : Nat) (v : Int) (o : List Int), i < k → i ≤ o.length → o.length < 4611686018427387904 →
  impl_bytesOf.l0 k v o ((i : Int) - 1) = some (be i v ++ o.drop i)
 | 0, k, v, o, hk, hi, hl => by
  obtain ⟨k, rfl⟩ : ∃ m, k = m + 1 := ⟨k - 1, by omega⟩
  simp only [impl_bytesOf.l0]
  rw [if_neg (by omega)]; simp [be]
 | i + 1, k, v, o, hk, hi, hl => by
  obtain ⟨k, rfl⟩ : ∃ m, k = m + 1 := ⟨k - 1, by omega⟩
  have e1 : ((i + 1 : Nat) : Int) - 1 = (i : Int) := by omega
  have e2 : wrap64 ((i : Int) - 1) = (i : Int) - 1 := w64 (by omega) (by omega)
  have e3 : ((i : Int)).toNat = i := by omega
  rw [e1]
  simp only [impl_bytesOf.l0]
  rw [if_pos (by omega), if_pos (by omega), if_pos (by omega), e2, implbytesOf_loop i k _ _ (by omega) (by simp; omega) (by simpa using hl), e3, drop_rd _ i (by simp; omega), rd_set_eq _ _ _ (by omega), List.drop_set_of_lt (by omega)]
  simp [be]
theorem implbytesOf_eq (v n : Int) (h0 : 0 ≤ n) (h1 : n ≤ 1073741824) (k : Nat) (hk : n.toNat < k) : impl_bytesOf.f k v n = some (be n.toNat v) := by
 unfold impl_bytesOf.f
 rw [if_pos h0, if_pos (by omega), w64 (by omega) (by omega)]
 obtain ⟨n, rfl⟩ : ∃ m : Nat, n = m := ⟨n.toNat, by omega⟩
 rw [implbytesOf_loop n k v _ (by omega) (by simp) (by simp; omega)]
 simp

theorem implPacketPassed_eq (l : List Int) (hb : Bytes l) (hl : l.length ≤ 1048576) (k : Nat) (hk : 90 ≤ k) : impl_PacketPassed.f k l = some (packetPassed l) := by
 unfold impl_PacketPassed.f packetPassed
 rw [implPacketFrom_eq l hb (by omega) k (by omega)]
 simp only [Option.bind_some, packetFrom_ok]
 obtain ⟨k, rfl⟩ : ∃ m, k = m + 1 := ⟨k - 1, by omega⟩
 cases ho : pfOk l with
 | false => simp only [Bool.false_eq_true, if_false, false_and, impl_PacketPassed.j0, if_true]
 | true =>
  have eF : (packetFrom l).2.2.2.1 = rd l 5 := by unfold packetFrom; rw [if_pos ho]
  have h12 := (pfOk_parts ho).1
  rw [if_pos rfl, eF]
  by_cases h2 : rd l 5 < 2
  ·rw [decide_eq_true h2, if_neg (by omega)]
   simp only [impl_PacketPassed.j0, if_true]
  ·rw [decide_eq_false h2, if_pos ⟨rfl, by omega⟩]
   have n1 := implNumberAt_eq l hb (by omega) 10 2 k (by omega)
   have n2 := implNumberAt_eq l hb (by omega) 4 2 k (by omega)
   have n3 := implNumberAt_eq (passedOut l) (passedOut_bytes hb) (by rw [passedOut_len]; omega) 4 2 k (by omega)
   have ec : impl_clone_byte.f l = some l := by unfold impl_clone_byte.f; rw [if_pos (by omega)]
   have eb : impl_bytesOf.f k (passedV l) 2 = some (be 2 (passedV l)) := implbytesOf_eq (passedV l) 2 (by omega) (by omega) k (by show 2 < k; omega)
   have es : impl_SumTurned.f k (numAt l 10 2) (numAt l 4 2) (numAt (passedOut l) 4 2) = some (passedV l) := implSumTurned_eq _ _ _ k (by omega)
   have e5 : l.set (5 : Int).toNat ((rd l 5 - 1) % 256) = passedOut l := rfl
   have el : slices_Clip_byte_byte.f (passedOut l) (be 2 (passedV l)) = some (2, (passedOut l).take 10 ++ be 2 (passedV l) ++ l.drop 12) := by
    unfold slices_Clip_byte_byte.f
    rw [if_pos ⟨by rw [passedOut_len]; exact h12, be_length _ _⟩, set_two _ _ _ (by rw [passedOut_len]; exact h12)]
    have ed : (passedOut l).drop 12 = l.drop 12 := by unfold passedOut; rw [List.drop_set_of_lt (by omega)]
    rw [ed, be_two]
    rfl
   simp only [impl_PacketPassed.j0, Bool.false_eq_true, if_false, ec, Option.bind_some]
   rw [if_pos (by omega)]
   simp only [e5, n1, n2, n3, es, eb, el, Option.bind_some]

theorem specNumberAt_loop (l : List Int) (hb : Bytes l) (a n : Nat) (hn : n ≤ 4) (ha : a + n ≤ l.length) (hl : l.length < 4611686018427387904) : ∀ (d k i : Nat), n - i = d → i ≤ n → d < k →
  spec_NumberAt.l0 k l (a : Int) (n : Int) (num ((l.drop a).take i)) (i : Int) = some (num ((l.drop a).take n))
 | 0, k, i, hd, hi, hk => by
  obtain ⟨k, rfl⟩ : ∃ m, k = m + 1 := ⟨k - 1, by omega⟩
  simp only [spec_NumberAt.l0]
  rw [if_neg (by omega)]
  obtain rfl : i = n := by omega
  rfl
 | d + 1, k, i, hd, hi, hk => by
  obtain ⟨k, rfl⟩ : ∃ m, k = m + 1 := ⟨k - 1, by omega⟩
  have e2 : wrap64 ((i : Int) + 1) = ((i + 1 : Nat) : Int) := by rw [w64 (by omega) (by omega)]; rfl
  have e3 : wrap64 ((a : Int) + (i : Int)) = ((a + i : Nat) : Int) := by rw [w64 (by omega) (by omega)]; rfl
  have hr := hb.at_ ((a + i : Nat) : Int)
  have hm := num_take_range (hb.drop a) i (by omega)
  simp only [spec_NumberAt.l0]
  rw [if_pos (by omega), e3, if_pos (by omega), if_pos (by omega), e2, w64 (x := rd l _) (by omega) (by omega), w64 (x := _ * 256) (by omega) (by omega), w64 (by omega) (by omega)]
  rw [← rd_drop, ← num_take _ i (by rw [List.length_drop]; omega)]
  exact specNumberAt_loop l hb a n hn ha hl d k (i + 1) (by omega) (by omega) (by omega)
theorem specNumberAt_eq (l : List Int) (hb : Bytes l) (hl : l.length < 4611686018427387904) (a n : Int) (k : Nat) (hk : 6 ≤ k) : spec_NumberAt.f k l a n = some (numAt l a n) := by
 obtain ⟨k, rfl⟩ : ∃ m, k = m + 1 := ⟨k - 1, by omega⟩
 unfold spec_NumberAt.f numAt
 simp only [l1In_eq, Option.bind_some, spec_NumberAt.j0]
 by_cases h1 : 1 ≤ n ∧ n ≤ 4
 ·rw [if_pos (decide_eq_true h1), w64 (by omega) (by omega)]
  by_cases h2 : 0 ≤ a ∧ a ≤ (l.length : Int) - n
  ·rw [decide_eq_true h2, if_neg (by decide), if_pos (by omega)]
   obtain ⟨a, rfl⟩ : ∃ m : Nat, a = m := ⟨a.toNat, by omega⟩
   obtain ⟨n, rfl⟩ : ∃ m : Nat, n = m := ⟨n.toNat, by omega⟩
   exact specNumberAt_loop l hb a n (by omega) (by omega) hl n k 0 (by omega) (by omega) (by omega)
  ·rw [decide_eq_false h2, if_pos (by decide), if_neg (by omega)]
 ·rw [if_neg (by simpa using h1), if_pos trivial, if_neg (by omega)]

theorem sumAdd_two {s a b : Int} (hs : 0 ≤ s ∧ s ≤ 65535) (ha : 0 ≤ a ∧ a < 256) (hb : 0 ≤ b ∧ b < 256) : sumAdd (sumAdd s (a * 256)) b = sumAdd s (a * 256 + b) := by
 unfold sumAdd
 by_cases h1 : s + a * 256 > 65535
 ·rw [if_pos h1, if_neg (by omega), if_pos (by omega)]; omega
 ·rw [if_neg h1]
  by_cases h2 : s + a * 256 + b > 65535
  ·rw [if_pos h2, if_pos (by omega)]; omega
  ·rw [if_neg h2, if_neg (by omega)]; omega
theorem l1Sum_even (l : List Int) (hb : Bytes l) (hl : l.length < 4611686018427387904) (j k : Nat) (s : Int) (hs : 0 ≤ s ∧ s ≤ 65535) (h : 2 * j < l.length) :
  spec_l1Sum.l0 (k + 1) l s ((2 * j : Nat) : Int) = spec_l1Sum.l0 k l (sumAdd s (rd l ((2 * j : Nat) : Int) * 256)) ((2 * j + 1 : Nat) : Int) := by
 have hr := hb.at_ ((2 * j : Nat) : Int)
 have e1 : wrap64 (((2 * j : Nat) : Int) + 1) = ((2 * j + 1 : Nat) : Int) := by rw [w64 (by omega) (by omega)]; rfl
 simp only [spec_l1Sum.l0]
 rw [if_pos (by omega), if_pos (by rw [Int.tmod_eq_emod_of_nonneg (by omega)]; omega), if_pos (by omega), e1, w64 (x := rd l _) (by omega) (by omega), w64 (x := _ * 256) (by omega) (by omega), w64 (x := s + _) (by omega) (by omega)]
 unfold sumAdd
 by_cases h1 : s + rd l ((2 * j : Nat) : Int) * 256 > 65535
 ·rw [if_pos h1, if_pos h1, w64 (by omega) (by omega)]
 ·rw [if_neg h1, if_neg h1]
theorem l1Sum_odd (l : List Int) (hb : Bytes l) (hl : l.length < 4611686018427387904) (j k : Nat) (s : Int) (hs : 0 ≤ s ∧ s ≤ 65535) (h : 2 * j + 1 < l.length) :
  spec_l1Sum.l0 (k + 1) l s ((2 * j + 1 : Nat) : Int) = spec_l1Sum.l0 k l (sumAdd s (rd l ((2 * j + 1 : Nat) : Int))) ((2 * (j + 1) : Nat) : Int) := by
 have hr := hb.at_ ((2 * j + 1 : Nat) : Int)
 have e1 : wrap64 (((2 * j + 1 : Nat) : Int) + 1) = ((2 * (j + 1) : Nat) : Int) := by rw [w64 (by omega) (by omega)]; omega
 simp only [spec_l1Sum.l0]
 rw [if_pos (by omega), if_neg (by rw [Int.tmod_eq_emod_of_nonneg (by omega)]; omega), if_pos (by omega), e1, w64 (x := rd l _) (by omega) (by omega), w64 (x := s + _) (by omega) (by omega)]
 unfold sumAdd
 by_cases h1 : s + rd l ((2 * j + 1 : Nat) : Int) > 65535
 ·rw [if_pos h1, if_pos h1, w64 (by omega) (by omega)]
 ·rw [if_neg h1, if_neg h1]
theorem l1Sum_loop (l : List Int) (hb : Bytes l) (hl : l.length < 4611686018427387904) : ∀ (d k j : Nat) (s : Int), (l.length + 1) / 2 - j = d → j ≤ (l.length + 1) / 2 → 2 * d < k → 0 ≤ s ∧ s ≤ 65535 →
  spec_l1Sum.l0 k l s ((2 * j : Nat) : Int) = some (sumP (l.drop (2 * j)) s)
 | 0, k, j, s, hd, hj, hk, hs => by
  obtain ⟨k, rfl⟩ : ∃ m, k = m + 1 := ⟨k - 1, by omega⟩
  simp only [spec_l1Sum.l0]
  rw [if_neg (by omega), List.drop_of_length_le (by omega)]; rfl
 | d + 1, k, j, s, hd, hj, hk, hs => by
  obtain ⟨k, rfl⟩ : ∃ m, k = m + 1 + 1 := ⟨k - 2, by omega⟩
  have r0 := hb.at_ ((2 * j : Nat) : Int)
  rw [l1Sum_even l hb hl j (k + 1) s hs (by omega), drop_rd l (2 * j) (by omega)]
  by_cases h : 2 * j + 1 < l.length
  ·have r1 := hb.at_ ((2 * j + 1 : Nat) : Int)
   rw [l1Sum_odd l hb hl j k _ (sumAdd_range hs (by omega)) h, drop_rd l (2 * j + 1) h, sumAdd_two hs r0 r1]
   rw [l1Sum_loop l hb hl d k (j + 1) _ (by omega) (by omega) (by omega) (sumAdd_range hs (by omega))]
   rfl
  ·rw [List.drop_of_length_le (show l.length ≤ 2 * j + 1 by omega)]
   simp only [spec_l1Sum.l0]
   rw [if_neg (by omega)]; rfl
theorem specSumOf_eq {l : List Int} (hb : Bytes l) (hl : l.length < 4611686018427387904) (k : Nat) (hk : l.length + 1 < k) : spec_SumOf.f k l = some (65535 - sumP l 0) := by
 have hr := (sumP_mod l 0 hb (by omega)).1
 unfold spec_SumOf.f spec_l1Sum.f
 rw [show (0 : Int) = ((2 * 0 : Nat) : Int) from rfl]
 have := l1Sum_loop l hb hl ((l.length + 1) / 2) k 0 0 (by omega) (by omega) (by omega) (by omega)
 rw [show ((2 * 0 : Nat) : Int) = 0 from rfl] at this ⊢
 rw [this]
 simp only [Option.bind_some, Nat.mul_zero, List.drop_zero]
 rw [w64 (by omega) (by omega)]

theorem specSumFits_eq {l : List Int} (hb : Bytes l) (hl : l.length < 4611686018427387904) (s : Int) (k : Nat) (hk : l.length + 1 < k) : spec_SumFits.f k l s = some (sumFits l s) := by
 have hr := (sumP_mod l 0 hb (by omega)).1
 unfold spec_SumFits.f sumFits
 rw [l1In_eq, specSumOf_eq hb hl k hk]
 simp only [Option.bind_some]
 by_cases h1 : 0 ≤ s ∧ s ≤ 65535
 ·rw [if_pos (decide_eq_true h1), Int.tmod_eq_emod_of_nonneg h1.1, Int.tmod_eq_emod_of_nonneg (by omega)]
  by_cases h2 : s % 65535 = (65535 - sumP l 0) % 65535
  ·rw [decide_eq_true ⟨h1, h2⟩, h2]; simp
  ·rw [decide_eq_false (fun h => h2 h.2), show (s % 65535 == (65535 - sumP l 0) % 65535) = false from beq_eq_false_iff_ne.mpr h2]
 ·rw [if_neg (by simpa using h1), decide_eq_false (fun h => h1 h.1)]

theorem tmod_m {x : Int} (h0 : 0 ≤ x) (h3 : x ≤ 3) : (Int.tmod x 2 == 1) = bitM x := by
 rcases four_of h0 h3 with rfl | rfl | rfl | rfl <;> decide
theorem tdiv_w {x : Int} (h0 : 0 ≤ x) (h3 : x ≤ 3) : ((Int.tdiv x 2) % 256 == 1) = bitW x := by
 rcases four_of h0 h3 with rfl | rfl | rfl | rfl <;> decide
theorem specPacketFrom_eq (l : List Int) (hb : Bytes l) (hl : l.length ≤ 1099511627776) (k : Nat) (hk : 30 ≤ k) : spec_PacketFrom.f k l = some (packetFrom l) := by
 obtain ⟨k, rfl⟩ : ∃ m, k = m + 1 := ⟨k - 1, by omega⟩
 unfold spec_PacketFrom.f packetFrom
 by_cases h : 12 ≤ l.length
 ·have w4 : wrap64 (rd l 4) = rd l 4 := by have := hb.at_ 4; exact w64 (by omega) (by omega)
  have w5 : wrap64 (rd l 5) = rd l 5 := by have := hb.at_ 5; exact w64 (by omega) (by omega)
  have w6 : wrap64 (rd l 6) = rd l 6 := by have := hb.at_ 6; exact w64 (by omega) (by omega)
  have w7 : wrap64 (rd l 7) = rd l 7 := by have := hb.at_ 7; exact w64 (by omega) (by omega)
  have w9 : wrap64 (rd l 9) = rd l 9 := by have := hb.at_ 9; exact w64 (by omega) (by omega)
  have h8 := hb.at_ 8
  have nA : ∀ (a : Int), spec_NumberAt.f (k + 1) l a 2 = some (numAt l a 2) := fun a => specNumberAt_eq l hb (by omega) a 2 (k + 1) (by omega)
  have c4 : (4 : Int) < (l.length : Int) := by omega
  have c5 : (5 : Int) < (l.length : Int) := by omega
  have c6 : (6 : Int) < (l.length : Int) := by omega
  have c7 : (7 : Int) < (l.length : Int) := by omega
  have c8 : (8 : Int) < (l.length : Int) := by omega
  have c9 : (9 : Int) < (l.length : Int) := by omega
  have c10 : (10 : Int) ≤ (l.length : Int) := by omega
  have c12 : (12 : Int) ≤ (l.length : Int) := by omega
  have cA : 0 + (l.drop 12).length < 140737488355328 := by rw [List.length_drop]; omega
  have hdl : ((l.drop 12).length : Int) = (l.length : Int) - 12 := by rw [List.length_drop]; omega
  rw [if_neg (by omega), nA 0]
  simp only [Option.bind_some, nA, if_pos c4, if_pos c5, if_pos c6, if_pos c7, if_pos c8, if_pos c9, if_pos c10, if_pos c12, List.nil_append, List.length_nil, if_pos cA, w4, w5, w6, w7, w9, spec_PacketFrom.j0, if_true, specPacketOk_eq,
   specSumFits_eq (hb.take 10) (by rw [List.length_take]; omega) (numAt l 10 2) (k + 1) (by rw [List.length_take]; omega)]
  by_cases h83 : rd l 8 ≤ 3
  ·rw [if_neg (by omega)]
   by_cases h9 : (l.length : Int) = 12 + rd l 9
   ·rw [if_pos (by omega), tmod_m h8.1 h83, tdiv_w h8.1 h83]
    unfold pfOk
    cases hp : packetOk (numAt l 0 2) (numAt l 2 2) (rd l 4) (rd l 5) (rd l 6) (rd l 7) (bitM (rd l 8)) (bitW (rd l 8)) (l.drop 12) with
    | true =>
     rw [if_pos rfl]
     cases hs : sumFits (l.take 10) (numAt l 10 2) with
     | true => rw [if_neg (by decide), if_pos (decide_eq_true ⟨h, rfl, h9, h83, rfl⟩)]
     | false => rw [if_pos (by decide), if_neg (by simp)]
    | false => rw [if_neg (by decide), if_neg (by simp)]
   ·rw [if_neg (by omega), if_neg (by unfold pfOk; simp; intros; omega)]
  ·rw [if_pos (by omega), if_neg (by unfold pfOk; simp; intros; omega)]
 ·rw [if_pos (by omega), if_neg (by unfold pfOk; simp; intros; omega)]

theorem be_front (n : Nat) (v : Int) : be (n + 1) v = (v / 256 ^ n % 256) :: be n v := by
 induction n generalizing v with
 | zero => simp [be]
 | succ n ih =>
  rw [be, ih (v / 256)]
  show _ = v / 256 ^ (n + 1) % 256 :: (be n (v / 256) ++ [v % 256])
  have e : v / 256 / 256 ^ n = v / 256 ^ (n + 1) := by
   rw [Int.ediv_ediv_of_nonneg (by decide), Int.pow_succ, Int.mul_comm]
  rw [e]; rfl
theorem shr_byte (v : Int) (i : Nat) (hi : i ≤ 3) : 0 ≤ wrap64 (8 * (i : Int)) ∧ shr .i64 v (wrap64 (8 * (i : Int))) = v / 256 ^ i := by
 obtain rfl | rfl | rfl | rfl : i = 0 ∨ i = 1 ∨ i = 2 ∨ i = 3 := by omega
 all_goals exact ⟨by decide +kernel, by rw [show wrap64 (8 * ((_ : Nat) : Int)) = 8 * _ from w64 (by omega) (by omega)]; rfl⟩
theorem specBytesOf_loop (v : Int) (hv : 0 ≤ v) : ∀ (i k : Nat) (o : List Int), i < k → i ≤ 4 → o.length + i ≤ 4 →
  spec_BytesOf.l0 k v o ((i : Int) - 1) = some (o ++ be i v)
 | 0, k, o, hk, hi, hl => by
  obtain ⟨k, rfl⟩ : ∃ m, k = m + 1 := ⟨k - 1, by omega⟩
  simp only [spec_BytesOf.l0]
  rw [if_neg (by omega)]; simp [be]
 | i + 1, k, o, hk, hi, hl => by
  obtain ⟨k, rfl⟩ : ∃ m, k = m + 1 := ⟨k - 1, by omega⟩
  have e1 : ((i + 1 : Nat) : Int) - 1 = (i : Int) := by omega
  have e2 : wrap64 ((i : Int) - 1) = (i : Int) - 1 := w64 (by omega) (by omega)
  obtain ⟨e3, e4⟩ := shr_byte v i (by omega)
  have e5 : Int.tmod (v / 256 ^ i) 256 % 256 = v / 256 ^ i % 256 := by
   rw [Int.tmod_eq_emod_of_nonneg (Int.ediv_nonneg hv (Int.pow_nonneg (by decide)))]; omega
  rw [e1]
  simp only [spec_BytesOf.l0]
  rw [if_pos (by omega), if_pos e3, if_pos (by omega), e4, e5, e2, specBytesOf_loop v hv i k _ (by omega) (by omega) (by simp; omega), be_front]
  simp
theorem specBytesOf_eq (v n : Int) (k : Nat) (hk : 6 ≤ k) : spec_BytesOf.f k v n = some (bytesV v n) := by
 obtain ⟨k, rfl⟩ : ∃ m, k = m + 1 := ⟨k - 1, by omega⟩
 unfold spec_BytesOf.f bytesV
 simp only [l1In_eq, Option.bind_some, spec_BytesOf.j0]
 by_cases h1 : 1 ≤ n ∧ n ≤ 4
 ·obtain ⟨e1, e2⟩ := lim_of n h1
  rw [if_pos (decide_eq_true h1), if_pos e2, e1]
  by_cases h2 : 0 ≤ v ∧ v ≤ 256 ^ n.toNat - 1
  ·rw [decide_eq_true h2, if_neg (by decide), if_pos ⟨h1, h2.1, by omega⟩, w64 (by omega) (by omega)]
   obtain ⟨n, rfl⟩ : ∃ m : Nat, n = m := ⟨n.toNat, by omega⟩
   rw [specBytesOf_loop v h2.1 n k [] (by omega) (by omega) (by simp; omega)]; rfl
  ·rw [decide_eq_false h2, if_pos (by decide), if_neg (by omega)]
 ·rw [if_neg (by simpa using h1), if_pos trivial, if_neg (fun h => h1 h.1)]

theorem specPacketPassed_eq (l : List Int) (hb : Bytes l) (hl : l.length ≤ 1048576) (k : Nat) (hk : 90 ≤ k) : spec_PacketPassed.f k l = some (packetPassed l) := by
 unfold spec_PacketPassed.f packetPassed
 rw [specPacketFrom_eq l hb (by omega) k (by omega)]
 simp only [Option.bind_some, packetFrom_ok]
 obtain ⟨k, rfl⟩ : ∃ m, k = m + 1 := ⟨k - 1, by omega⟩
 cases ho : pfOk l with
 | false => simp only [Bool.false_eq_true, if_false, false_and, spec_PacketPassed.j0, if_true]
 | true =>
  have eF : (packetFrom l).2.2.2.1 = rd l 5 := by unfold packetFrom; rw [if_pos ho]
  have h12 := (pfOk_parts ho).1
  rw [if_pos rfl, eF]
  by_cases h2 : rd l 5 < 2
  ·rw [decide_eq_true h2, if_neg (by omega)]
   simp only [spec_PacketPassed.j0, if_true]
  ·rw [decide_eq_false h2, if_pos ⟨rfl, by omega⟩]
   have n1 := specNumberAt_eq l hb (by omega) 10 2 k (by omega)
   have n2 := specNumberAt_eq l hb (by omega) 4 2 k (by omega)
   have n3 := specNumberAt_eq (passedOut l) (passedOut_bytes hb) (by rw [passedOut_len]; omega) 4 2 k (by omega)
   have hv := passedV_range hb h12
   have eb : spec_BytesOf.f k (passedV l) 2 = some (be 2 (passedV l)) := by
    rw [specBytesOf_eq _ _ k (by omega)]
    unfold bytesV
    rw [if_pos ⟨by omega, hv.1, by show passedV l < 65536; omega⟩]
    rfl
   have es : spec_SumTurned.f k (numAt l 10 2) (numAt l 4 2) (numAt (passedOut l) 4 2) = some (passedV l) := specSumTurned_eq _ _ _ k (by omega)
   have e5 : l.set (5 : Int).toNat ((rd l 5 - 1) % 256) = passedOut l := rfl
   simp only [spec_PacketPassed.j0, Bool.false_eq_true, if_false, Option.bind_some, List.nil_append, List.length_nil]
   rw [if_pos (by omega), if_pos (by omega)]
   simp only [e5, n1, n2, n3, es, eb, Option.bind_some]
   rw [if_pos (by omega), if_pos (by rw [List.length_take, passedOut_len]; omega), if_pos (by rw [List.length_take, passedOut_len, be_length]; omega), if_pos (by omega), if_pos (by rw [List.length_append, List.length_take, passedOut_len, be_length, List.length_drop]; omega)]

/-- What pick draws. -/
def pk (b : List Int) (p n : Int) : Int := ((spec_l20Rd_pick.f 1 b p n).getD (0, 0)).1
theorem pick_f (b : List Int) (hb : Bytes b) (hl : b.length ≤ 2000) (p n : Int) (h0 : 0 ≤ p) (h1 : p ≤ 1073741824) (h2 : -2147483648 ≤ n) (h3 : n ≤ 65536) (k : Nat) :
  ∃ v, spec_l20Rd_pick.f (k + 1) b p n = some (v, p + 1) ∧ 0 ≤ v ∧ (1 ≤ n → v < n) ∧ (n < 1 → v = 0) := by
 have ep : wrap64 (p + 1) = p + 1 := w64 (by omega) (by omega)
 have ep' : wrap64 (p + 1 - 1) = p := by rw [w64 (by omega) (by omega)]; omega
 unfold spec_l20Rd_pick.f
 rw [ep]
 simp only [spec_l20Rd_pick.j0, ep']
 by_cases hn : n < 1
 ·rw [if_pos hn, if_pos trivial]
  exact ⟨0, rfl, by omega, fun h => by omega, fun _ => rfl⟩
 rw [if_neg hn]
 by_cases he : (b.length : Int) = 0
 ·rw [if_pos (by simpa using he)]
  exact ⟨0, rfl, by omega, fun h => by omega, fun _ => rfl⟩
 rw [if_neg (by simpa using he)]
 by_cases hp : p < (b.length : Int)
 ·rw [if_pos hp, if_pos h0, if_neg (by omega)]
  have hr := hb.at_ p
  rw [w64 (x := rd b p) (by omega) (by omega)]
  refine ⟨_, rfl, Int.tmod_nonneg _ hr.1, fun _ => ?_, fun h => by omega⟩
  rw [Int.tmod_eq_emod_of_nonneg hr.1]
  exact Int.emod_lt_of_pos _ (by omega)
 rw [if_neg hp]
 have m1 : 0 ≤ Int.tmod p (b.length : Int) ∧ Int.tmod p (b.length : Int) < (b.length : Int) := by
  rw [Int.tmod_eq_emod_of_nonneg h0]; exact ⟨Int.emod_nonneg _ he, Int.emod_lt_of_pos _ (by omega)⟩
 have e7 : wrap64 (wrap64 (p * 7) + 3) = p * 7 + 3 := by rw [w64 (x := p * 7) (by omega) (by omega), w64 (by omega) (by omega)]
 have m2 : 0 ≤ Int.tmod (p * 7 + 3) (b.length : Int) ∧ Int.tmod (p * 7 + 3) (b.length : Int) < (b.length : Int) := by
  rw [Int.tmod_eq_emod_of_nonneg (by omega)]; exact ⟨Int.emod_nonneg _ he, Int.emod_lt_of_pos _ (by omega)⟩
 rw [if_neg he, if_pos m1.1, if_pos m1.2, e7, if_pos m2.1, if_pos m2.2, if_neg (show ¬ n = 0 by omega)]
 have r1 := hb.at_ (Int.tmod p (b.length : Int))
 have r2 := hb.at_ (Int.tmod (p * 7 + 3) (b.length : Int))
 generalize rd b (Int.tmod p (b.length : Int)) = x1 at r1 ⊢
 generalize rd b (Int.tmod (p * 7 + 3) (b.length : Int)) = x2 at r2 ⊢
 have q0 : Int.tdiv p (b.length : Int) = p / (b.length : Int) := Int.tdiv_eq_ediv_of_nonneg h0
 have q1 : 0 ≤ p / (b.length : Int) := Int.ediv_nonneg h0 (by omega)
 have q2 : p / (b.length : Int) ≤ p := Int.ediv_le_self _ h0
 rw [q0]
 generalize p / (b.length : Int) = q at q1 q2 ⊢
 rw [w64 (x := x1) (by omega) (by omega), w64 (x := x2) (by omega) (by omega), w64 (x := x1 * 131) (by omega) (by omega), w64 (x := x2 * 1117) (by omega) (by omega), w64 (x := p * 29) (by omega) (by omega),
  w64 (x := q) (by omega) (by omega), w64 (x := q * 53) (by omega) (by omega), w64 (x := x1 * 131 + x2 * 1117) (by omega) (by omega), w64 (x := x1 * 131 + x2 * 1117 + p * 29) (by omega) (by omega), w64 (x := x1 * 131 + x2 * 1117 + p * 29 + q * 53) (by omega) (by omega)]
 obtain ⟨y, hy⟩ : ∃ y : Nat, x1 * 131 + x2 * 1117 + p * 29 + q * 53 = (y : Int) := ⟨(x1 * 131 + x2 * 1117 + p * 29 + q * 53).toNat, by omega⟩
 have hy2 : y < 1099511627776 := by omega
 rw [hy]
 have d0 : Int.tdiv (y : Int) 64 = ((y / 64 : Nat) : Int) := by rw [Int.tdiv_eq_ediv_of_nonneg (by omega)]; rfl
 have hz : y / 64 < 1099511627776 := by omega
 rw [d0, w64 (x := ((y / 64 : Nat) : Int)) (by omega) (by omega)]
 obtain ⟨ex, lx⟩ := xor_i64 y (y / 64) hy2 hz
 rw [ex]
 refine ⟨_, rfl, Int.tmod_nonneg _ (by omega), fun _ => ?_, fun h => by omega⟩
 rw [Int.tmod_eq_emod_of_nonneg (by omega)]
 exact Int.emod_lt_of_pos _ (by omega)
theorem pick_one (b : List Int) (p n : Int) (k : Nat) : spec_l20Rd_pick.f (k + 1) b p n = spec_l20Rd_pick.f 1 b p n := by
 unfold spec_l20Rd_pick.f
 simp only [spec_l20Rd_pick.j0]
theorem pick_eq {b : List Int} (hb : Bytes b) (hl : b.length ≤ 2000) {p n : Int} (h0 : 0 ≤ p) (h1 : p ≤ 1073741824) (h2 : -2147483648 ≤ n) (h3 : n ≤ 65536) {k : Nat} (hk : 1 ≤ k) : spec_l20Rd_pick.f k b p n = some (pk b p n, p + 1) := by
 obtain ⟨k, rfl⟩ : ∃ m, k = m + 1 := ⟨k - 1, by omega⟩
 rw [pick_one]
 obtain ⟨v, hv, _⟩ := pick_f b hb hl p n h0 h1 h2 h3 0
 unfold pk
 rw [hv]; rfl
theorem pk_range {b : List Int} (hb : Bytes b) (hl : b.length ≤ 2000) {p n : Int} (h0 : 0 ≤ p) (h1 : p ≤ 1073741824) (h2 : 1 ≤ n) (h3 : n ≤ 65536) : 0 ≤ pk b p n ∧ pk b p n < n := by
 obtain ⟨v, hv, g0, g1, _⟩ := pick_f b hb hl p n h0 h1 (by omega) h3 0
 unfold pk
 rw [hv]; exact ⟨g0, g1 h2⟩
/-- The bytes that are drawn from. -/
theorem open_eq (l : List Int) (hb : Bytes l) : ∃ b, spec_l20Open.f l = some (b, 0) ∧ Bytes b ∧ b.length ≤ 2000 := by
 unfold spec_l20Open.f
 by_cases h : (l.length : Int) > 2000
 ·rw [if_pos h, if_pos (by omega)]
  exact ⟨_, rfl, hb.take _, by simp; omega⟩
 ·rw [if_neg h]
  exact ⟨_, rfl, hb, by omega⟩

/-- odd tells just this. -/
theorem odd_eq {b : List Int} (hb : Bytes b) (hl : b.length ≤ 2000) {p n : Int} (h0 : 0 ≤ p) (h1 : p ≤ 1073741824) (h2 : 0 ≤ n) (h3 : n ≤ 65536) {k : Nat} (hk : 1 ≤ k) :
  ∃ o p', spec_l20Rd_odd.f k b p n = some (o, p') ∧ p ≤ p' ∧ p' ≤ p + 1 ∧ (n = 0 → o = false) := by
 unfold spec_l20Rd_odd.f
 by_cases h : n > 0
 ·rw [if_pos h, pick_eq hb hl h0 h1 (by omega) h3 hk]
  exact ⟨_, _, rfl, by omega, by omega, fun h => by omega⟩
 ·rw [if_neg h]
  exact ⟨_, _, rfl, by omega, by omega, fun _ => rfl⟩

theorem drawBytes_loop {b : List Int} (hb : Bytes b) (hl : b.length ≤ 2000) : ∀ (d k : Nat) (p : Int) (o : List Int), d < k → Bytes o → o.length + d ≤ 4096 → 0 ≤ p → p + 2 * d ≤ 1073741824 →
  ∃ r p', spec_l20Rd_bytes.l0 k (d : Int) o b p = some (r, p') ∧ Bytes r ∧ r.length = o.length + d ∧ p ≤ p' ∧ p' ≤ p + 2 * d
 | 0, k, p, o, hk, ho, hlo, h0, h1 => by
  obtain ⟨k, rfl⟩ : ∃ m, k = m + 1 := ⟨k - 1, by omega⟩
  simp only [spec_l20Rd_bytes.l0]
  rw [if_neg (by omega)]
  exact ⟨o, p, rfl, ho, by omega, by omega, by omega⟩
 | d + 1, k, p, o, hk, ho, hlo, h0, h1 => by
  obtain ⟨k, rfl⟩ : ∃ m, k = m + 1 := ⟨k - 1, by omega⟩
  have e1 : wrap64 (((d + 1 : Nat) : Int) - 1) = (d : Int) := by rw [w64 (by omega) (by omega)]; omega
  simp only [spec_l20Rd_bytes.l0]
  rw [if_pos (by omega), pick_eq hb hl h0 (by omega) (by omega) (by omega) (show 1 ≤ k by omega)]
  simp only [Option.bind_some]
  rw [pick_eq hb hl (p := p + 1) (n := 256) (by omega) (by omega) (by omega) (by omega) (show 1 ≤ k by omega), pick_eq hb hl (p := p + 1) (n := 3) (by omega) (by omega) (by omega) (by omega) (show 1 ≤ k by omega)]
  simp only [Option.bind_some]
  rw [if_pos (show o.length < 140737488355328 by omega), if_pos (show o.length < 140737488355328 by omega), e1]
  by_cases h : pk b p 3 = 0
  ·rw [if_pos h]
   obtain ⟨r, p', hr, g1, g2, g3, g4⟩ := drawBytes_loop hb hl d k (p + 1 + 1) (o ++ [pk b (p + 1) 256 % 256]) (by omega) (ho.append (Bytes.cons (Bytes.mod _) Bytes.nil)) (by simp; omega) (by omega) (by omega)
   exact ⟨r, p', hr, g1, by rw [g2]; simp; omega, by omega, by omega⟩
  ·rw [if_neg h]
   obtain ⟨r, p', hr, g1, g2, g3, g4⟩ := drawBytes_loop hb hl d k (p + 1 + 1) (o ++ [wrap64 (pk b (p + 1) 3 + 97) % 256]) (by omega) (ho.append (Bytes.cons (Bytes.mod _) Bytes.nil)) (by simp; omega) (by omega) (by omega)
   exact ⟨r, p', hr, g1, by rw [g2]; simp; omega, by omega, by omega⟩
theorem drawBytes_eq {b : List Int} (hb : Bytes b) (hl : b.length ≤ 2000) {p n : Int} (h0 : 0 ≤ p) (h1 : p ≤ 536870912) (h2 : 0 ≤ n) (h3 : n ≤ 4096) {k : Nat} (hk : n.toNat < k) :
  ∃ r p', spec_l20Rd_bytes.f k b p n = some (r, p') ∧ Bytes r ∧ (r.length : Int) = n ∧ p ≤ p' ∧ p' ≤ p + 2 * n := by
 obtain ⟨n, rfl⟩ : ∃ m : Nat, n = m := ⟨n.toNat, by omega⟩
 obtain ⟨r, p', hr, g1, g2, g3, g4⟩ := drawBytes_loop hb hl n k p [] (by omega) Bytes.nil (by simp; omega) h0 (by omega)
 exact ⟨r, p', hr, g1, by simp at g2; omega, g3, by omega⟩

theorem drawPacket0_end {b : List Int} {p : Int} (x0 x1 x2 x3 x4 x5 : Int) (x6 x7 : Bool) (d : List Int) {k : Nat} (hk : 2 ≤ k) : spec_l20Packet.j0 k 0 b p x0 x1 x2 x3 x4 x5 x6 x7 d = some (x0, x1, x2, x3, x4, x5, x6, x7, d, p) := by
 obtain ⟨k, rfl⟩ : ∃ j, k = j + 1 + 1 := ⟨k - 2, by omega⟩
 have e : spec_l20Rd_odd.f (k + 1) b p 0 = some (false, p) := by unfold spec_l20Rd_odd.f; rw [if_neg (by omega)]
 simp only [spec_l20Packet.j0, e, Option.bind_some, Bool.false_eq_true, if_false]
 rfl
/-- Drawn so a packet is ok. -/
theorem drawPacket0_eq {b : List Int} (hb : Bytes b) (hl : b.length ≤ 2000) {p : Int} (h0 : 0 ≤ p) (h1 : p ≤ 268435456) {k : Nat} (hk : 20 ≤ k) :
  ∃ a0 a1 a2 a3 a4 a5 a6 a7 r p', spec_l20Packet.f k b p 0 = some (a0, a1, a2, a3, a4, a5, a6, a7, r, p') ∧ packetOk a0 a1 a2 a3 a4 a5 a6 a7 r = true ∧ Bytes r ∧ p ≤ p' ∧ p' ≤ p + 60 := by
 have hk1 : 1 ≤ k := by omega
 unfold spec_l20Packet.f
 rw [pick_eq hb hl h0 (by omega) (by omega) (by omega) hk1]
 simp only [Option.bind_some]
 rw [pick_eq hb hl (p := p + 1) (n := 5) (by omega) (by omega) (by omega) (by omega) hk1]
 simp only [Option.bind_some]
 rw [pick_eq hb hl (p := p + 1 + 1) (n := 4) (by omega) (by omega) (by omega) (by omega) hk1]
 simp only [Option.bind_some]
 rw [pick_eq hb hl (p := p + 1 + 1 + 1) (n := 6) (by omega) (by omega) (by omega) (by omega) hk1]
 simp only [Option.bind_some]
 rw [pick_eq hb hl (p := p + 1 + 1 + 1 + 1) (n := 4) (by omega) (by omega) (by omega) (by omega) hk1]
 simp only [Option.bind_some]
 rw [pick_eq hb hl (p := p + 1 + 1 + 1 + 1 + 1) (n := 12) (by omega) (by omega) (by omega) (by omega) hk1]
 simp only [Option.bind_some]
 have r0 := pk_range hb hl (p := p) (n := 5) (by omega) (by omega) (by omega) (by omega)
 have r1 := pk_range hb hl (p := p + 1) (n := 5) (by omega) (by omega) (by omega) (by omega)
 have r2 := pk_range hb hl (p := p + 1 + 1) (n := 4) (by omega) (by omega) (by omega) (by omega)
 have r3 := pk_range hb hl (p := p + 1 + 1 + 1) (n := 6) (by omega) (by omega) (by omega) (by omega)
 have r4 := pk_range hb hl (p := p + 1 + 1 + 1 + 1) (n := 4) (by omega) (by omega) (by omega) (by omega)
 have r5 := pk_range hb hl (p := p + 1 + 1 + 1 + 1 + 1) (n := 12) (by omega) (by omega) (by omega) (by omega)
 generalize pk b p 5 = x0 at r0 ⊢
 generalize pk b (p + 1) 5 = x1 at r1 ⊢
 generalize pk b (p + 1 + 1) 4 = x2 at r2 ⊢
 generalize pk b (p + 1 + 1 + 1) 6 = x3 at r3 ⊢
 generalize pk b (p + 1 + 1 + 1 + 1) 4 = x4 at r4 ⊢
 generalize pk b (p + 1 + 1 + 1 + 1 + 1) 12 = c at r5 ⊢
 obtain ⟨d, p1, e1, g1, g2, g3, g4⟩ := drawBytes_eq hb hl (p := p + 1 + 1 + 1 + 1 + 1 + 1) (n := c) (by omega) (by omega) (by omega) (by omega) (k := k) (by omega)
 simp only [e1, Option.bind_some]
 rw [pick_eq hb hl (p := p1) (n := 4) (by omega) (by omega) (by omega) (by omega) hk1]
 simp only [Option.bind_some]
 have hend : ∀ (p3 x5 : Int) (x6 x7 : Bool), p ≤ p3 → p3 ≤ p + 40 → (0 ≤ x5 ∧ x5 ≤ 255) → (x6 = true → (d.length : Int) > 0) → (x7 = true → x5 = 0 ∧ x6 = false) →
   ∃ a0 a1 a2 a3 a4 a5 a6 a7 r p', spec_l20Packet.j0 k 0 b p3 x0 x1 x2 x3 x4 x5 x6 x7 d = some (a0, a1, a2, a3, a4, a5, a6, a7, r, p') ∧ packetOk a0 a1 a2 a3 a4 a5 a6 a7 r = true ∧ Bytes r ∧ p ≤ p' ∧ p' ≤ p + 60 := by
  intro p3 x5 x6 x7 q1 q2 q3 q4 q5
  exact ⟨x0, x1, x2, x3, x4, x5, x6, x7, d, p3, drawPacket0_end x0 x1 x2 x3 x4 x5 x6 x7 d (by omega), decide_eq_true ⟨by omega, by omega, by omega, by omega, by omega, q3, by omega, q4, q5⟩, g1, by omega, by omega⟩
 split
 ·exact hend _ _ _ _ (by omega) (by omega) (by omega) (fun h => by cases h) (fun _ => ⟨rfl, rfl⟩)
 ·split
  ·rw [pick_eq hb hl (p := p1 + 1) (n := 20) (by omega) (by omega) (by omega) (by omega) hk1]
   simp only [Option.bind_some]
   have r6 := pk_range hb hl (p := p1 + 1) (n := 20) (by omega) (by omega) (by omega) (by omega)
   split
   ·rename_i hd
    rw [pick_eq hb hl (p := p1 + 1 + 1) (n := 2) (by omega) (by omega) (by omega) (by omega) hk1]
    simp only [Option.bind_some]
    exact hend _ _ _ _ (by omega) (by omega) (by omega) (fun _ => hd) (fun h => by cases h)
   ·exact hend _ _ _ _ (by omega) (by omega) (by omega) (fun h => by cases h) (fun h => by cases h)
  ·exact hend _ _ _ _ (by omega) (by omega) (by omega) (fun h => by cases h) (fun h => by cases h)

theorem specSum2 {l : List Int} (hb : Bytes l) (hl : l.length ≤ 70) (k : Nat) (hk : 80 ≤ k) : ((spec_SumOf.f k l).bind fun t => spec_BytesOf.f k t 2) = some (sum2 l) := by
 have h := (sumP_mod l 0 hb (by omega)).1
 rw [specSumOf_eq hb (by omega) k (by omega)]
 simp only [Option.bind_some]
 rw [specBytesOf_eq _ 2 k (by omega)]
 unfold bytesV sum2
 rw [if_pos ⟨by omega, by omega, by show 65535 - sumP l 0 < 65536; omega⟩]; rfl

theorem bytesV_two' {v : Int} (h : 0 ≤ v ∧ v ≤ 65535) : bytesV v 2 = be 2 v := by unfold bytesV; rw [if_pos ⟨by omega, by omega, by show v < 65536; omega⟩]; rfl
theorem specFlags_eq (a b c d e f : Int) (m w : Bool) (l : List Int) : spec_l4Flags.f a b c d e f m w l = some (flagsOf m w) := by
 cases m <;> cases w <;> rfl
theorem specHead_eq {a b c d e f : Int} {m w : Bool} {l : List Int} (h : packetOk a b c d e f m w l = true) (k : Nat) (hk : 80 ≤ k) : spec_l4Head.f k a b c d e f m w l = some (packetHead a b c d e f m w l) := by
 have hq := packetOk_parts h
 unfold spec_l4Head.f packetHead
 rw [specBytesOf_eq a 2 k (by omega), specBytesOf_eq b 2 k (by omega), bytesV_two' hq.1, bytesV_two' hq.2.1, specFlags_eq]
 simp only [Option.bind_some]
 rw [if_pos (by rw [be_length, be_length]; omega), if_pos (by rw [List.length_append, be_length, be_length]; simp only [List.length_cons, List.length_nil]; omega), packetTail_eq h]
theorem specPacketBytes_eq (a b c d e f : Int) (m w : Bool) (l : List Int) (k : Nat) (hk : 80 ≤ k) : spec_PacketBytes.f k a b c d e f m w l = some (packetBytes a b c d e f m w l) := by
 unfold spec_PacketBytes.f packetBytes
 rw [specPacketOk_eq]
 simp only [Option.bind_some]
 cases h : packetOk a b c d e f m w l with
 | false => rfl
 | true =>
  have hq := packetOk_parts h
  have h2 := packetHead_len a b c d e f m w l
  have h3 := sum2_len (packetHead a b c d e f m w l)
  have h1 := specSum2 (packetHead_bytes h) (by omega) k hk
  obtain ⟨x, hx, hy⟩ := Option.bind_eq_some_iff.mp h1
  rw [if_pos rfl, if_pos rfl, specHead_eq h k hk]
  simp only [Option.bind_some]
  rw [hx]
  simp only [Option.bind_some]
  rw [hy]
  simp only [Option.bind_some]
  rw [if_pos (by omega), if_pos (by rw [List.length_append]; omega)]

theorem bit_flags (m w : Bool) : bitM (flagsOf m w) = m ∧ bitW (flagsOf m w) = w := by cases m <;> cases w <;> decide
/-- A packet's bytes read back. -/
theorem packetFrom_bytes {a b c d e f : Int} {m w : Bool} {l : List Int} (ho : packetOk a b c d e f m w l = true) : packetFrom (packetBytes a b c d e f m w l) = (a, b, c, d, e, f, m, w, l, true) := by
 have hq := packetOk_parts ho
 have hf := flagsOf_range m w
 have hfl := bit_flags m w
 have hhl := packetHead_len a b c d e f m w l
 have hsr := (sumP_mod (packetHead a b c d e f m w l) 0 (packetHead_bytes ho) (by omega)).1
 have hB : packetBytes a b c d e f m w l = packetHead a b c d e f m w l ++ (sum2 (packetHead a b c d e f m w l) ++ l) := by unfold packetBytes; rw [if_pos ho, List.append_assoc]
 have hl : (packetBytes a b c d e f m w l).length = 12 + l.length := by rw [hB, List.length_append, List.length_append, sum2_len, hhl]; omega
 have t10 : (packetBytes a b c d e f m w l).take 10 = packetHead a b c d e f m w l := by rw [hB]; exact List.take_left' hhl
 have d10 : (packetBytes a b c d e f m w l).drop 10 = sum2 (packetHead a b c d e f m w l) ++ l := by rw [hB]; exact List.drop_left' hhl
 have d12 : (packetBytes a b c d e f m w l).drop 12 = l := by
  rw [show 12 = 10 + 2 from rfl, ← List.drop_drop, d10]; exact List.drop_left' (sum2_len _)
 have n10 : numAt (packetBytes a b c d e f m w l) 10 2 = 65535 - sumP (packetHead a b c d e f m w l) 0 := by
  unfold numAt
  rw [if_pos ⟨by omega, by omega, by omega⟩, show (10 : Int).toNat = 10 from rfl, show (2 : Int).toNat = 2 from rfl, d10, List.take_left' (sum2_len _)]
  exact num_be 2 _ (by omega) (by show _ < 65536; omega)
 have n0 : numAt (packetBytes a b c d e f m w l) 0 2 = a := by
  unfold numAt
  rw [if_pos ⟨by omega, by omega, by omega⟩, hB]
  exact num_be 2 a (by omega) (by show _ < 65536; omega)
 have n2 : numAt (packetBytes a b c d e f m w l) 2 2 = b := by
  unfold numAt
  rw [if_pos ⟨by omega, by omega, by omega⟩, hB]
  exact num_be 2 b (by omega) (by show _ < 65536; omega)
 have r4 : rd (packetBytes a b c d e f m w l) 4 = c := by rw [hB]; rfl
 have r5 : rd (packetBytes a b c d e f m w l) 5 = d := by rw [hB]; rfl
 have r6 : rd (packetBytes a b c d e f m w l) 6 = e := by rw [hB]; rfl
 have r7 : rd (packetBytes a b c d e f m w l) 7 = f := by rw [hB]; rfl
 have r8 : rd (packetBytes a b c d e f m w l) 8 = flagsOf m w := by rw [hB]; rfl
 have r9 : rd (packetBytes a b c d e f m w l) 9 = (l.length : Int) := by rw [hB]; rfl
 have hp : pfOk (packetBytes a b c d e f m w l) = true := by
  unfold pfOk
  rw [t10, n10, n0, n2, r4, r5, r6, r7, r8, r9, d12, hl, hfl.1, hfl.2]
  exact decide_eq_true ⟨by omega, decide_eq_true ⟨by omega, rfl⟩, by omega, by omega, ho⟩
 unfold packetFrom
 rw [if_pos hp, n0, n2, r4, r5, r6, r7, r8, hfl.1, hfl.2, d12]
theorem packetBytes_bytes {a b c d e f : Int} {m w : Bool} {l : List Int} (hl : Bytes l) : Bytes (packetBytes a b c d e f m w l) := by
 unfold packetBytes
 cases ho : packetOk a b c d e f m w l with
 | false => exact Bytes.nil
 | true =>
  rw [if_pos rfl]
  exact ((packetHead_bytes ho).append (be_bytes _ _)).append hl

theorem drawPacketBytes_eq {b : List Int} (hb2 : Bytes b) (hb3 : b.length ≤ 2000) (k : Nat) (hk : 100 ≤ k) : ∃ r p', spec_l20PacketBytes.f k b 0 = some (r, p') ∧ Bytes r ∧ r.length ≤ 61 := by
 obtain ⟨t0, t1, t2, t3, t4, t5, t6, t7, d, p', e, ho, hd, g0, g1⟩ := drawPacket0_eq hb2 hb3 (p := 0) (by omega) (by omega) (k := k) (by omega)
 have hfb := packetBytes_bytes (a := t0) (b := t1) (c := t2) (d := t3) (e := t4) (f := t5) (m := t6) (w := t7) hd
 have hfl := packetBytes_len t0 t1 t2 t3 t4 t5 t6 t7 d
 have hf6 : 1 ≤ (packetBytes t0 t1 t2 t3 t4 t5 t6 t7 d).length := by
  unfold packetBytes; rw [if_pos ho, List.length_append, List.length_append, sum2_len]; omega
 unfold spec_l20PacketBytes.f
 simp only [e, Option.bind_some, specPacketBytes_eq t0 t1 t2 t3 t4 t5 t6 t7 d k (by omega)]
 generalize packetBytes t0 t1 t2 t3 t4 t5 t6 t7 d = B at hfb hfl hf6 ⊢
 rw [pick_eq hb2 hb3 (p := p') (n := 6) (by omega) (by omega) (by omega) (by omega) (by omega)]
 simp only [Option.bind_some]
 rw [pick_eq hb2 hb3 (p := p' + 1) (n := (B.length : Int)) (by omega) (by omega) (by omega) (by omega) (by omega)]
 simp only [Option.bind_some]
 rw [pick_eq hb2 hb3 (p := p' + 1 + 1) (n := 256) (by omega) (by omega) (by omega) (by omega) (by omega)]
 simp only [Option.bind_some]
 have r1 := pk_range hb2 hb3 (p := p' + 1) (n := (B.length : Int)) (by omega) (by omega) (by omega) (by omega)
 generalize pk b (p' + 1) (B.length : Int) = i at r1 ⊢
 split
 ·rw [if_pos r1.1, if_pos (by omega)]
  exact ⟨_, _, rfl, hfb.set _ (Bytes.mod _), by rw [List.length_set]; omega⟩
 ·split
  ·rw [if_pos r1.1, if_pos (by omega)]
   exact ⟨_, _, rfl, hfb.take _, by rw [List.length_take]; omega⟩
  ·split
   ·rw [if_pos (by omega)]
    exact ⟨_, _, rfl, hfb.append (Bytes.cons (by omega) Bytes.nil), by rw [List.length_append]; simp only [List.length_cons, List.length_nil]; omega⟩
   ·exact ⟨_, _, rfl, hfb, by omega⟩

theorem sameBytes_self (l : List Int) : laws_sameBytes.f l l = some true := by
 unfold laws_sameBytes.f
 simp

theorem implBytesOf_eq (v n : Int) (k : Nat) (hk : 6 ≤ k) : impl_BytesOf.f k v n = some (bytesV v n) := by
 unfold impl_BytesOf.f bytesV
 simp only [in_eq, Option.bind_some]
 by_cases h1 : 1 ≤ n ∧ n ≤ 4
 ·obtain ⟨e1, e2⟩ := lim_of n h1
  rw [if_pos (decide_eq_true h1), if_pos e2, e1]
  by_cases h2 : 0 ≤ v ∧ v ≤ 256 ^ n.toNat - 1
  ·rw [if_pos (decide_eq_true h2), implbytesOf_eq v n (by omega) (by omega) k (by omega), if_pos ⟨h1, h2.1, by omega⟩]; rfl
  ·rw [if_neg (by simpa using h2), if_neg (by omega)]
 ·rw [if_neg (by simpa using h1), if_neg (fun h => h1 h.1)]

theorem alive_eq (k : Nat) (hk : 6 ≤ k) : laws_alive.f k = some true := by
 unfold laws_alive.f
 simp only [implBytesOf_eq _ _ k hk, Option.bind_some]
 rfl

theorem FnPacketPassed_loop (h0 : Int) (hh : h0 ≤ 255) (a b c d e f : Int) (m w : Bool) (D : List Int) : ∀ (j k : Nat) (l : List Int) (n : Int), Bytes l → l.length ≤ 61 → pfOk l = true → rd l 5 = (j : Int) + 1 → 0 ≤ n → n = h0 - (j + 1) → 2 * j + 200 ≤ k →
  laws_FnPacketPassed.l0 k true true l n true a b c (h0 - 1) d e m w D a b c (h0 - 1) d e m w D = some true
 | 0, k, l, n, hb, hl, ho, hr, hn0, hn, hk => by
  obtain ⟨k, rfl⟩ : ∃ m, k = m + 4 := ⟨k - 4, by omega⟩
  have e1 : packetPassed l = ([], false) := by unfold packetPassed; rw [if_neg (fun h => by omega)]
  simp only [laws_FnPacketPassed.l0, if_true, decide_eq_true (show n < 300 by omega), laws_FnPacketPassed.j2, implPacketPassed_eq l hb (by omega) (k + 2) (by omega), e1, Option.bind_some, Bool.false_eq_true, if_false]
  unfold laws_samePacket.f
  simp only [if_true, beq_self_eq_true, sameBytes_self, Option.bind_some]
  rw [show n = h0 - 1 by omega]
  simp
 | j + 1, k, l, n, hb, hl, ho, hr, hn0, hn, hk => by
  obtain ⟨k, rfl⟩ : ∃ m, k = m + 2 := ⟨k - 2, by omega⟩
  obtain ⟨l', e1, hb', hl', ho', hr', _⟩ := passed_ok hb ho (by omega)
  have e2 : wrap64 (n + 1) = n + 1 := w64 (by omega) (by omega)
  simp only [laws_FnPacketPassed.l0, if_true, decide_eq_true (show n < 300 by omega), laws_FnPacketPassed.j2, implPacketPassed_eq l hb (by omega) k (by omega), e1, e2, Option.bind_some]
  exact FnPacketPassed_loop h0 hh a b c d e f m w D j k l' (n + 1) hb' (by omega) ho' (by omega) (by omega) (by omega) (by omega)
theorem FnPacketPassed : laws_FnPacketPassed.Pure := by
 intro l hm hl hw
 obtain ⟨b, hb1, hb2, hb3⟩ := open_eq l (Bytes.of_wf hw)
 obtain ⟨K, hK⟩ : ∃ K : Nat, K = 999 := ⟨_, rfl⟩
 refine ⟨K + 1, ?_⟩
 obtain ⟨r, p', e, hr, hrl⟩ := drawPacketBytes_eq hb2 hb3 (K + 1) (by omega)
 unfold laws_FnPacketPassed.f spec_DrawPacketPassed.f
 by_cases h : (l.length : Int) > 1048576
 ·rw [if_pos h]
 rw [if_neg h]
 rw [hb1]
 simp only [Option.bind_some]
 rw [e]
 simp only [Option.bind_some]
 rw [implPacketPassed_eq r hr (by omega) (K + 1) (by omega)]
 simp only [Option.bind_some]
 rw [specPacketPassed_eq r hr (by omega) (K + 1) (by omega)]
 simp only [Option.bind_some]
 obtain ⟨W, o, hW⟩ : ∃ W o, packetPassed r = (W, o) := ⟨_, _, rfl⟩
 rw [hW]
 have hself : (o != o) = false := by simp
 simp only [hself, Bool.false_eq_true, if_false, sameBytes_self, Bool.not_true, Option.bind_some]
 simp only [laws_FnPacketPassed.j0, Bool.false_eq_true, if_false]
 rw [implPacketFrom_eq r hr (by omega) K (by omega)]
 simp only [Option.bind_some]
 by_cases hq : pfOk r = true ∧ 2 ≤ rd r 5
 ·obtain ⟨c, e1, hb', hl', ho', hr', hF⟩ := passed_ok hr hq.1 hq.2
  obtain ⟨rfl, rfl⟩ := Prod.mk.inj (hW.symm.trans e1)
  have eF : packetFrom r = (numAt r 0 2, numAt r 2 2, rd r 4, rd r 5, rd r 6, rd r 7, bitM (rd r 8), bitW (rd r 8), r.drop 12, true) := by unfold packetFrom; rw [if_pos hq.1]
  have h5 := hr.at_ 5
  have e3 : wrap64 (rd r 5 - 1) = rd r 5 - 1 := w64 (by omega) (by omega)
  rw [eF]
  simp only [if_true]
  rw [implPacketFrom_eq _ hb' (by omega) K (by omega), hF]
  simp only [Option.bind_some, e3]
  exact FnPacketPassed_loop (rd r 5) (by omega) (numAt r 0 2) (numAt r 2 2) (rd r 4) (rd r 6) (rd r 7) 0 (bitM (rd r 8)) (bitW (rd r 8)) (r.drop 12) (rd r 5 - 1).toNat K r 0 hr (by omega) hq.1 (by omega) (by omega) (by omega) (by omega)
 ·have e1 : packetPassed r = ([], false) := by unfold packetPassed; rw [if_neg hq]
  obtain ⟨rfl, rfl⟩ := Prod.mk.inj (hW.symm.trans e1)
  cases ho : pfOk r with
  | false =>
   have eF : packetFrom r = (0, 0, 0, 0, 0, 0, false, false, [], false) := by unfold packetFrom; rw [if_neg (by rw [ho]; decide)]
   rw [eF]
   trace_state
   simp only [Bool.false_eq_true, if_false, List.length_nil, alive_eq K (by omega), Option.bind_some]
   trace_state
   simp
  | true =>
   have eF : packetFrom r = (numAt r 0 2, numAt r 2 2, rd r 4, rd r 5, rd r 6, rd r 7, bitM (rd r 8), bitW (rd r 8), r.drop 12, true) := by unfold packetFrom; rw [if_pos ho]
   rw [eF]
   have h5 : rd r 5 < 2 := by
    rcases Int.lt_or_le (rd r 5) 2 with h | h
    ·exact h
    ·exact absurd ⟨ho, h⟩ hq
   simp only [Bool.false_eq_true, if_false, List.length_nil, if_true, alive_eq K (by omega), Option.bind_some]
   trace_state
   simp [h5]

end Go.Proofs.Ytbjfnpjkldfeiaa.Pure

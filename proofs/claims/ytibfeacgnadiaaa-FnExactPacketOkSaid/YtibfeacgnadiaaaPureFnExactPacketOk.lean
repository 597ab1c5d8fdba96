/- PacketOk of the program is the reference's at all packets; the statement's own bounds alone. -/
import Derived.Test.YtibfeacgnadiaaaPFnExactPacketOkx2
import Derived.Test.YtibfeacgnadiaaaBase
namespace Go.Proofs.Ytibfeacgnadiaaa.Pure
set_option linter.unusedSimpArgs false
set_option linter.unusedVariables false
open Go Go.RowKit Go.Proofs.Ytibfeacgnadiaaa.PFnExactPacketOk Go.Proofs.YtibfeacgnadiaaaW.PrintWords Go.Proofs.YtibfeacgnadiaaaW.PrintLast Go.Proofs.YtibfeacgnadiaaaW.PrintMore Go.Proofs.Ytibfeacgnadiaaa.Base

theorem l1In_eq (a b c : Int) : spec_l1In.f a b c = some (decide (b ≤ a ∧ a ≤ c)) := by
  unfold spec_l1In.f
  by_cases h : a ≥ b <;> simp [h]

theorem in_eq (a b c : Int) : impl_in.f a b c = some (decide (b ≤ a ∧ a ≤ c)) := by
  unfold impl_in.f
  by_cases h : a ≥ b <;> simp [h]

theorem word_eq (a : Int) : impl_word.f a = some (decide (0 ≤ a ∧ a ≤ 65535)) := by
  unfold impl_word.f
  rw [in_eq]; rfl

/-- A packet is ok. -/
def packetOk (a b c d e f : Int) (m w : Bool) (l : List Int) : Bool :=
  decide ((0 ≤ a ∧ a ≤ 65535) ∧ (0 ≤ b ∧ b ≤ 65535) ∧ (0 ≤ c ∧ c ≤ 255) ∧ (0 ≤ d ∧ d ≤ 255) ∧ (0 ≤ e ∧ e ≤ 255) ∧ (0 ≤ f ∧ f ≤ 255) ∧ (l.length : Int) ≤ 48 ∧ (m = true → (l.length : Int) > 0) ∧ (w = true → f = 0 ∧ m = false))
theorem packet_end (m w : Bool) (f n : Int) : (if n ≤ 48 then (if m = true then (if n > 0 then (if w = true then (if f = 0 then (some (!m)) else (some false)) else (some true)) else (some false)) else (if w = true then (if f = 0 then (some (!m)) else (some false)) else (some true))) else (some false)) =
    some (decide (n ≤ 48 ∧ (m = true → n > 0) ∧ (w = true → f = 0 ∧ m = false))) := by
  by_cases h1 : n ≤ 48 <;> by_cases h2 : n > 0 <;> by_cases h3 : f = 0 <;> cases m <;> cases w <;> simp [h1, h2, h3] <;> omega
theorem specPacketOk_eq (a b c d e f : Int) (m w : Bool) (l : List Int) : spec_PacketOk.f a b c d e f m w l = some (packetOk a b c d e f m w l) := by
  unfold spec_PacketOk.f packetOk
  simp only [l1In_eq, Option.bind_some, packet_end]
  by_cases h1 : 0 ≤ a ∧ a ≤ 65535
  · by_cases h2 : 0 ≤ b ∧ b ≤ 65535
    · by_cases h3 : 0 ≤ c ∧ c ≤ 255
      · by_cases h4 : 0 ≤ d ∧ d ≤ 255
        · by_cases h5 : 0 ≤ e ∧ e ≤ 255
          · by_cases h6 : 0 ≤ f ∧ f ≤ 255
            · simp only [h1, h2, h3, h4, h5, h6, true_and, and_self, decide_true, if_true]
            · simp [h1, h2, h3, h4, h5, h6]
          · simp [h1, h2, h3, h4, h5]
        · simp [h1, h2, h3, h4]
      · simp [h1, h2, h3]
    · simp [h1, h2]
  · simp [h1]
theorem implPacketOk_eq (a b c d e f : Int) (m w : Bool) (l : List Int) : impl_PacketOk.f a b c d e f m w l = some (packetOk a b c d e f m w l) := by
  unfold impl_PacketOk.f packetOk
  simp only [in_eq, word_eq, Option.bind_some, packet_end]
  by_cases h1 : 0 ≤ a ∧ a ≤ 65535
  · by_cases h2 : 0 ≤ b ∧ b ≤ 65535
    · by_cases h3 : 0 ≤ c ∧ c ≤ 255
      · by_cases h4 : 0 ≤ d ∧ d ≤ 255
        · by_cases h5 : 0 ≤ e ∧ e ≤ 255
          · by_cases h6 : 0 ≤ f ∧ f ≤ 255
            · simp only [h1, h2, h3, h4, h5, h6, true_and, and_self, decide_true, if_true]
            · simp [h1, h2, h3, h4, h5, h6]
          · simp [h1, h2, h3, h4, h5]
        · simp [h1, h2, h3, h4]
      · simp [h1, h2, h3]
    · simp [h1, h2]
  · simp [h1]

theorem toByteS_loop (l : List Int) (hn : l.length < 4611686018427387904) : ∀ (d k i : Nat) (o : List Int), l.length - i = d → i ≤ l.length → d < k → o.length = l.length → o.take i = l.take i →
    laws_toByteS.l0 k l o (i : Int) = some l
  | 0, k, i, o, hd, hi, hk, hl, ho => by
    obtain ⟨k, rfl⟩ : ∃ m, k = m + 1 := ⟨k - 1, by omega⟩
    simp only [laws_toByteS.l0]
    rw [if_neg (by omega)]
    rw [List.take_of_length_le (by omega), List.take_of_length_le (by omega)] at ho
    rw [ho]
  | d + 1, k, i, o, hd, hi, hk, hl, ho => by
    obtain ⟨k, rfl⟩ : ∃ m, k = m + 1 := ⟨k - 1, by omega⟩
    have e2 : wrap64 ((i : Int) + 1) = ((i + 1 : Nat) : Int) := by rw [w64 (by omega) (by omega)]; rfl
    simp only [laws_toByteS.l0]
    rw [if_pos (by omega), if_pos (by omega), if_pos (by omega), e2]
    exact toByteS_loop l hn d k (i + 1) _ (by omega) (by omega) (by omega) (by simp [hl]) (by simpa using set_take l o i (by omega) hl ho)
theorem toByteS_eq (l : List Int) (hn : l.length ≤ 140737488351232) (k : Nat) (hk : l.length < k) : laws_toByteS.f k l = some l := by
  unfold laws_toByteS.f
  rw [if_pos (by omega), if_pos (by omega)]
  exact toByteS_loop l (by omega) l.length k 0 _ (by omega) (by omega) hk (by simp) (by simp)

theorem eqByteS_loop (a b : List Int) (hab : a.length = b.length) (hn : a.length < 4611686018427387904) : ∀ (d k i : Nat), a.length - i = d → i ≤ a.length → d < k → a.take i = b.take i →
    laws_eqByteS.l0 k a b (i : Int) = some (decide (a = b))
  | 0, k, i, hd, hi, hk, ho => by
    obtain ⟨k, rfl⟩ : ∃ m, k = m + 1 := ⟨k - 1, by omega⟩
    simp only [laws_eqByteS.l0]
    rw [if_neg (by omega)]
    rw [List.take_of_length_le (by omega), List.take_of_length_le (by omega)] at ho
    rw [decide_eq_true ho]
  | d + 1, k, i, hd, hi, hk, ho => by
    obtain ⟨k, rfl⟩ : ∃ m, k = m + 1 := ⟨k - 1, by omega⟩
    have e2 : wrap64 ((i : Int) + 1) = ((i + 1 : Nat) : Int) := by rw [w64 (by omega) (by omega)]; rfl
    simp only [laws_eqByteS.l0]
    rw [if_pos (by omega), if_pos (by omega), if_pos (by omega), e2]
    by_cases h : rd a (i : Int) = rd b (i : Int)
    · rw [if_pos h]
      exact eqByteS_loop a b hab hn d k (i + 1) (by omega) (by omega) (by omega) (by rw [take_succ_rd a i (by omega), take_succ_rd b i (by omega), ho, h])
    · rw [if_neg h, decide_eq_false (fun e => h (by rw [e]))]
theorem eqByteS_eq (a b : List Int) (hn : a.length < 4611686018427387904) (k : Nat) (hk : a.length < k) : laws_eqByteS.f k a b = some (decide (a = b)) := by
  unfold laws_eqByteS.f
  by_cases h : (a.length : Int) = (b.length : Int)
  · rw [if_pos h]; exact eqByteS_loop a b (by omega) hn a.length k 0 (by omega) (by omega) hk (by simp)
  · rw [if_neg h, decide_eq_false (fun e => h (by rw [e]))]

theorem szPacket_eq (a b c d e f : Int) (m w : Bool) (l : List Int) (n : Int) (h : l.length ≤ 9223372036854775807) (hn0 : 0 ≤ n) (hn : n ≤ 1048576) : laws_szPacket.f a b c d e f m w l n = some (if (l.length : Int) > n then (-1 : Int) else n - (l.length : Int)) := by
  unfold laws_szPacket.f laws_szByteS.f
  rw [w64 (by omega) (by omega)]
  by_cases h1 : (l.length : Int) > n
  · rw [if_pos (by omega), if_pos h1]; rfl
  · rw [if_neg (by omega), if_neg h1]
    simp only [Option.bind_some]
    rw [if_neg (by omega)]
theorem toPacket_eq (a b c d e f : Int) (m w : Bool) (l : List Int) (h : l.length ≤ 1048576) (k : Nat) (hk : l.length < k) : laws_toPacket.f k a b c d e f m w l = some (a, b, c, d, e, f, m, w, l) := by
  unfold laws_toPacket.f
  simp only [toByteS_eq l (by omega) k hk, Option.bind_some]
theorem eqPacket_eq (a b c d e f : Int) (m w : Bool) (l : List Int) (h : l.length ≤ 1048576) (k : Nat) (hk : l.length < k) : laws_eqPacket.f k a b c d e f m w l a b c d e f m w l = some true := by
  unfold laws_eqPacket.f
  simp only [eqByteS_eq l l (by omega) k hk, Option.bind_some, if_true, decide_true, bne_self_eq_false, Bool.false_eq_true, if_false]

theorem FnExactPacketOk (a0_0 : Int) (a0_1 : Int) (a0_2 : Int) (a0_3 : Int) (a0_4 : Int) (a0_5 : Int) (a0_6 : Bool) (a0_7 : Bool) (l0_8 : (List Int)) (_ : (Lit.int .i64 a0_0).wf = true) (_ : (Lit.int .i64 a0_1).wf = true) (_ : (Lit.int .i64 a0_2).wf = true) (_ : (Lit.int .i64 a0_3).wf = true) (_ : (Lit.int .i64 a0_4).wf = true) (_ : (Lit.int .i64 a0_5).wf = true) (g0_8 : (l0_8.length ≤ maxLen ∧ ∀ x ∈ l0_8, (Lit.int .u8 x).wf = true)) : ∃ k, laws_FnExactPacketOk.f k a0_0 a0_1 a0_2 a0_3 a0_4 a0_5 a0_6 a0_7 l0_8 = some true := by
  have hm : l0_8.length ≤ 9223372036854775807 := g0_8.1
  refine ⟨l0_8.length + 1, ?_⟩
  unfold laws_FnExactPacketOk.f
  rw [szPacket_eq _ _ _ _ _ _ _ _ _ _ hm (by omega) (by omega)]
  simp only [Option.bind_some]
  by_cases h1 : (l0_8.length : Int) > 1048576
  · rw [if_pos h1]; rfl
  · rw [if_neg h1, if_neg (by omega)]
    simp only [toPacket_eq a0_0 a0_1 a0_2 a0_3 a0_4 a0_5 a0_6 a0_7 l0_8 (by omega) (l0_8.length + 1) (by omega), specPacketOk_eq, implPacketOk_eq, eqPacket_eq a0_0 a0_1 a0_2 a0_3 a0_4 a0_5 a0_6 a0_7 l0_8 (by omega) (l0_8.length + 1) (by omega), Option.bind_some, bne_self_eq_false, Bool.false_eq_true, if_false, if_true]

end Go.Proofs.Ytibfeacgnadiaaa.Pure

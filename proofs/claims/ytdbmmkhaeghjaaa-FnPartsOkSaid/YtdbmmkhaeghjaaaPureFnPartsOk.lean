/- Fewer parts are parts: it holds of each beginning of parts of which it holds, and of none; the statement's own bounds alone. -/
import Derived.Test.YtdbmmkhaeghjaaaPFnPartsOkx17
import Derived.Test.YtdbmmkhaeghjaaaUFnPartsOkBase
namespace Go.Proofs.Ytdbmmkhaeghjaaa.Pure
set_option linter.unusedSimpArgs false
set_option linter.unusedVariables false
open Go Go.RowKit Go.Proofs.Ytdbmmkhaeghjaaa.PFnPartsOk Go.Proofs.YtdbmmkhaeghjaaaUFnPartsOk.PrintWords Go.Proofs.YtdbmmkhaeghjaaaUFnPartsOk.PrintLast Go.Proofs.YtdbmmkhaeghjaaaUFnPartsOk.PrintMore Go.Proofs.Ytdbmmkhaeghjaaa.Base

theorem l1In_eq (a b c : Int) : spec_l1In.f a b c = some (decide (b ≤ a ∧ a ≤ c)) := by
 unfold spec_l1In.f
 by_cases h : a ≥ b <;> simp [h]

theorem in_eq (a b c : Int) : impl_in.f a b c = some (decide (b ≤ a ∧ a ≤ c)) := by
 unfold impl_in.f
 by_cases h : a ≥ b <;> simp [h]

theorem word_eq (a : Int) : impl_word.f a = some (decide (0 ≤ a ∧ a ≤ 65535)) := by
 unfold impl_word.f
 rw [in_eq]; rfl

/-- A packet is ok. -/
def packetOk (a b c d e f : Int) (m w : Bool) (l : List Int) : Bool :=
 decide ((0 ≤ a ∧ a ≤ 65535) ∧ (0 ≤ b ∧ b ≤ 65535) ∧ (0 ≤ c ∧ c ≤ 255) ∧ (0 ≤ d ∧ d ≤ 255) ∧ (0 ≤ e ∧ e ≤ 255) ∧ (0 ≤ f ∧ f ≤ 255) ∧ (l.length : Int) ≤ 48 ∧ (m = true → (l.length : Int) > 0) ∧ (w = true → f = 0 ∧ m = false))
theorem packet_end (m w : Bool) (f n : Int) : (if n ≤ 48 then (if m = true then (if n > 0 then (if w = true then (if f = 0 then (some (!m)) else (some false)) else (some true)) else (some false)) else (if w = true then (if f = 0 then (some (!m)) else (some false)) else (some true))) else (some false)) =
  some (decide (n ≤ 48 ∧ (m = true → n > 0) ∧ (w = true → f = 0 ∧ m = false))) := by
 by_cases h1 : n ≤ 48 <;> by_cases h2 : n > 0 <;> by_cases h3 : f = 0 <;> cases m <;> cases w <;> simp [h1, h2, h3] <;> omega
theorem specPacketOk_eq (a b c d e f : Int) (m w : Bool) (l : List Int) : spec_PacketOk.f a b c d e f m w l = some (packetOk a b c d e f m w l) := by
 unfold spec_PacketOk.f packetOk
 simp only [l1In_eq, Option.bind_some, packet_end]
 by_cases h1 : 0 ≤ a ∧ a ≤ 65535
 ·by_cases h2 : 0 ≤ b ∧ b ≤ 65535
  ·by_cases h3 : 0 ≤ c ∧ c ≤ 255
   ·by_cases h4 : 0 ≤ d ∧ d ≤ 255
    ·by_cases h5 : 0 ≤ e ∧ e ≤ 255
     ·by_cases h6 : 0 ≤ f ∧ f ≤ 255
      ·simp only [h1, h2, h3, h4, h5, h6, true_and, and_self, decide_true, if_true]
      ·simp [h1, h2, h3, h4, h5, h6]
     ·simp [h1, h2, h3, h4, h5]
    ·simp [h1, h2, h3, h4]
   ·simp [h1, h2, h3]
  ·simp [h1, h2]
 ·simp [h1]
theorem implPacketOk_eq (a b c d e f : Int) (m w : Bool) (l : List Int) : impl_PacketOk.f a b c d e f m w l = some (packetOk a b c d e f m w l) := by
 unfold impl_PacketOk.f packetOk
 simp only [in_eq, word_eq, Option.bind_some, packet_end]
 by_cases h1 : 0 ≤ a ∧ a ≤ 65535
 ·by_cases h2 : 0 ≤ b ∧ b ≤ 65535
  ·by_cases h3 : 0 ≤ c ∧ c ≤ 255
   ·by_cases h4 : 0 ≤ d ∧ d ≤ 255
    ·by_cases h5 : 0 ≤ e ∧ e ≤ 255
     ·by_cases h6 : 0 ≤ f ∧ f ≤ 255
      ·simp only [h1, h2, h3, h4, h5, h6, true_and, and_self, decide_true, if_true]
      ·simp [h1, h2, h3, h4, h5, h6]
     ·simp [h1, h2, h3, h4, h5]
    ·simp [h1, h2, h3, h4]
   ·simp [h1, h2, h3]
  ·simp [h1, h2]
 ·simp [h1]

/-- A piece is ok for itself. -/
def pieceOk (x : S29) : Bool := packetOk x.f0 x.f1 x.f2 x.f3 x.f4 x.f5 x.f6 x.f7 x.f8
/-- Two pieces are of the same packet. -/
def pieceSame (x y : S29) : Prop := x.f0 = y.f0 ∧ x.f1 = y.f1 ∧ x.f2 = y.f2 ∧ x.f4 = y.f4
/-- The piece at i stands well after the one ahead of it. -/
def pieceStep (p : List S29) (i : Nat) : Prop :=
 pieceOk (rd_T29 p (i : Int)) = true ∧ pieceSame (rd_T29 p (i : Int)) (rd_T29 p 0) ∧
 (0 < i → ¬ (rd_T29 p (i : Int)).f5 < wrap64 ((rd_T29 p ((i - 1 : Nat) : Int)).f5 + ((rd_T29 p ((i - 1 : Nat) : Int)).f8.length : Int)) ∧ (rd_T29 p ((i - 1 : Nat) : Int)).f6 = true)
/-- The bytes of the first i pieces. -/
def pieceSum (p : List S29) : Nat → Int
 | 0 => 0
 | i + 1 => pieceSum p i + ((rd_T29 p (i : Int)).f8.length : Int)
/-- The pieces make a part. -/
def partP (p : List S29) (o : Int) : Prop := 0 < p.length ∧ (∀ i, i < p.length → pieceStep p i) ∧ pieceSum p p.length ≤ 48 ∧ (0 ≤ o ∧ o ≤ 1000000)
/-- No piece is long. -/
def Short (p : List S29) : Prop := ∀ x ∈ p, x.f8.length ≤ 1048576
theorem Short.rd {p : List S29} (h : Short p) (i : Int) : (rd_T29 p i).f8.length ≤ 1048576 := by
 unfold rd_T29
 rw [List.getD_eq_getElem?_getD]
 by_cases hi : i.toNat < p.length
 ·rw [List.getElem?_eq_getElem hi]; exact h _ (List.getElem_mem hi)
 ·rw [List.getElem?_eq_none (by omega)]; exact Nat.zero_le _
theorem Short.nil : Short [] := fun x hx => by cases hx
theorem Short.append {p q : List S29} (h : Short p) (h' : Short q) : Short (p ++ q) := fun x hx => (List.mem_append.mp hx).elim (h x) (h' x)
theorem Short.one {x : S29} (h : x.f8.length ≤ 1048576) : Short [x] := fun y hy => by rw [List.mem_singleton.mp hy]; exact h
theorem Short.drop {p : List S29} (h : Short p) (n : Nat) : Short (p.drop n) := fun x hx => h x (List.mem_of_mem_drop hx)
theorem Short.take {p : List S29} (h : Short p) (n : Nat) : Short (p.take n) := fun x hx => h x (List.mem_of_mem_take hx)
theorem Short.set {p : List S29} (h : Short p) (n : Nat) {x : S29} (hx : x.f8.length ≤ 1048576) : Short (p.set n x) := fun y hy => by
 rcases List.mem_or_eq_of_mem_set hy with h1 | h1
 ·exact h y h1
 ·rw [h1]; exact hx
theorem pieceSum_range {p : List S29} (h : Short p) : ∀ i : Nat, 0 ≤ pieceSum p i ∧ pieceSum p i ≤ 1048576 * (i : Int)
 | 0 => by unfold pieceSum; omega
 | i + 1 => by have := pieceSum_range h i; have h2 := h.rd (i : Int); unfold pieceSum; omega
theorem rdP_drop (p : List S29) (i : Nat) : rd_T29 (p.drop 1) (i : Int) = rd_T29 p ((i + 1 : Nat) : Int) := by
 unfold rd_T29
 rw [List.getD_eq_getElem?_getD, List.getD_eq_getElem?_getD, List.getElem?_drop, Int.toNat_natCast, Int.toNat_natCast, Nat.add_comm]
theorem rdP_take (p : List S29) (n i : Nat) (h : i < n) : rd_T29 (p.take n) (i : Int) = rd_T29 p (i : Int) := by
 unfold rd_T29
 rw [List.getD_eq_getElem?_getD, List.getD_eq_getElem?_getD, Int.toNat_natCast, List.getElem?_take_of_lt h]
theorem pieceSum_drop (p : List S29) : ∀ i : Nat, pieceSum (p.drop 1) i + ((rd_T29 p 0).f8.length : Int) = pieceSum p (i + 1)
 | 0 => by simp [pieceSum]
 | i + 1 => by
  have := pieceSum_drop p i
  rw [show pieceSum (p.drop 1) (i + 1) = pieceSum (p.drop 1) i + ((rd_T29 (p.drop 1) (i : Int)).f8.length : Int) from rfl, rdP_drop,
   show pieceSum p (i + 1 + 1) = pieceSum p (i + 1) + ((rd_T29 p ((i + 1 : Nat) : Int)).f8.length : Int) from rfl]
  omega
theorem pieceSum_take (p : List S29) (n : Nat) : ∀ i : Nat, i ≤ n → pieceSum (p.take n) i = pieceSum p i
 | 0, _ => rfl
 | i + 1, h => by
  have := pieceSum_take p n i (by omega)
  rw [show pieceSum (p.take n) (i + 1) = pieceSum (p.take n) i + ((rd_T29 (p.take n) (i : Int)).f8.length : Int) from rfl, rdP_take p n i (by omega), this]
  rfl
theorem partP_drop {p : List S29} {o : Int} (h : partP p o) (h2 : 2 ≤ p.length) : partP (p.drop 1) o := by
 obtain ⟨_, hs, ht, ho⟩ := h
 have hl : (p.drop 1).length = p.length - 1 := by rw [List.length_drop]
 have z : ∀ l : List S29, rd_T29 l 0 = rd_T29 l ((0 : Nat) : Int) := fun _ => rfl
 refine ⟨by omega, fun i hi => ?_, ?_, ho⟩
 ·obtain ⟨a, b, c⟩ := hs (i + 1) (by omega)
  obtain ⟨_, b1, _⟩ := hs (0 + 1) (by omega)
  refine ⟨by rw [rdP_drop]; exact a, ?_, fun hi0 => ?_⟩
  ·rw [rdP_drop, z (p.drop 1), rdP_drop]
   exact ⟨b.1.trans b1.1.symm, b.2.1.trans b1.2.1.symm, b.2.2.1.trans b1.2.2.1.symm, b.2.2.2.trans b1.2.2.2.symm⟩
  ·have e : i - 1 + 1 = i + 1 - 1 := by omega
   rw [rdP_drop, rdP_drop, e]
   exact c (by omega)
 ·have := pieceSum_drop p (p.length - 1)
  rw [show p.length - 1 + 1 = p.length by omega] at this
  rw [hl]; omega
theorem partP_take {p : List S29} (hp : Short p) {o : Int} (h : partP p o) (h2 : 2 ≤ p.length) : partP (p.take (p.length - 1)) o := by
 obtain ⟨_, hs, ht, ho⟩ := h
 have hl : (p.take (p.length - 1)).length = p.length - 1 := by rw [List.length_take]; omega
 have z : ∀ l : List S29, rd_T29 l 0 = rd_T29 l ((0 : Nat) : Int) := fun _ => rfl
 refine ⟨by omega, fun i hi => ?_, ?_, ho⟩
 ·obtain ⟨a, b, c⟩ := hs i (by omega)
  refine ⟨by rw [rdP_take p _ i (by omega)]; exact a, ?_, fun hi0 => ?_⟩
  ·rw [rdP_take p _ i (by omega), z (p.take _), rdP_take p _ 0 (by omega)]
   exact b
  ·rw [rdP_take p _ i (by omega), rdP_take p _ (i - 1) (by omega)]
   exact c hi0
 ·rw [hl, pieceSum_take p _ _ (Nat.le_refl _)]
  have e : pieceSum p (p.length - 1 + 1) = pieceSum p (p.length - 1) + ((rd_T29 p ((p.length - 1 : Nat) : Int)).f8.length : Int) := rfl
  rw [show p.length - 1 + 1 = p.length by omega] at e
  omega
/-- What is left from piece i on. -/
def restP (p : List S29) (o : Int) (i : Nat) : Prop := (∀ j, i ≤ j → j < p.length → pieceStep p j) ∧ 0 < p.length ∧ pieceSum p p.length ≤ 48 ∧ (0 ≤ o ∧ o ≤ 1000000)
theorem restP_zero (p : List S29) (o : Int) : restP p o 0 ↔ partP p o :=
 ⟨fun h => ⟨h.2.1, fun i hi => h.1 i (Nat.zero_le _) hi, h.2.2⟩, fun h => ⟨fun i _ hi => h.2.1 i hi, h.1, h.2.2⟩⟩
theorem restP_succ {p : List S29} {o : Int} {i : Nat} (hi : i < p.length) : restP p o i ↔ pieceStep p i ∧ restP p o (i + 1) :=
 ⟨fun h => ⟨h.1 i (Nat.le_refl _) hi, fun j h1 h2 => h.1 j (by omega) h2, h.2⟩, fun h => ⟨fun j h1 h2 => by
  rcases Nat.eq_or_lt_of_le h1 with e | h3
  ·exact e ▸ h.1
  ·exact h.2.1 j h3 h2, h.2.2⟩⟩
theorem pieceOk_false {p : List S29} {o : Int} {i : Nat} (hi : i < p.length) (h : ¬ pieceStep p i) : (false = true ↔ restP p o i) :=
 ⟨fun h => (by cases h), fun q => absurd ((restP_succ hi).mp q).1 h⟩
theorem partEnd {p : List S29} {o : Int} (n : Nat) (hn : n = p.length) : ∃ r, (if (p.length : Int) > 0 then (if pieceSum p n ≤ 48 then (some (decide (0 ≤ o ∧ o ≤ 1000000))) else (some false)) else (some false)) = some r ∧ (r = true ↔ restP p o n) := by
 subst hn
 have q : ∀ j, p.length ≤ j → j < p.length → pieceStep p j := fun j h1 h2 => by omega
 by_cases h1 : (p.length : Int) > 0
 ·rw [if_pos h1]
  by_cases h2 : pieceSum p p.length ≤ 48
  ·rw [if_pos h2]
   exact ⟨_, rfl, fun h => ⟨q, by omega, h2, of_decide_eq_true h⟩, fun h => decide_eq_true h.2.2.2⟩
  ·rw [if_neg h2]
   exact ⟨_, rfl, fun h => (by cases h), fun h => absurd h.2.2.1 h2⟩
 ·rw [if_neg h1]
  exact ⟨_, rfl, fun h => (by cases h), fun h => absurd h.2.1 (by omega)⟩
theorem sameIf (a0 a1 a2 a4 b0 b1 b2 b4 : Int) : (if a0 = b0 then (if a1 = b1 then (if a2 = b2 then (some (a4 == b4)) else (some false)) else (some false)) else (some false)) = some (decide (a0 = b0 ∧ a1 = b1 ∧ a2 = b2 ∧ a4 = b4)) := by
 by_cases h0 : a0 = b0 <;> by_cases h1 : a1 = b1 <;> by_cases h2 : a2 = b2 <;> by_cases h4 : a4 = b4 <;> simp [h0, h1, h2, h4]

theorem implPartOk_loop (p : List S29) (hp : Short p) (hl : p.length ≤ 1048576) (o : Int) : ∀ (d i k : Nat), i + d = p.length → 2 * d < k →
  ∃ r, impl_PartOk.l0 k (pieceSum p i) p (p.length : Int) (i : Int) p o = some r ∧ (r = true ↔ restP p o i)
 | 0, i, k, hi, hk => by
  obtain ⟨k, rfl⟩ : ∃ m, k = m + 1 := ⟨k - 1, by omega⟩
  obtain ⟨r, e, h⟩ := partEnd (p := p) (o := o) i (by omega)
  simp only [impl_PartOk.l0]
  rw [if_neg (by omega)]
  simp only [in_eq, Option.bind_some, e]
  exact ⟨r, rfl, h⟩
 | d + 1, i, k, hi, hk => by
  obtain ⟨k, rfl⟩ : ∃ m, k = m + 1 + 1 := ⟨k - 2, by omega⟩
  have hil : i < p.length := by omega
  have e1 : wrap64 ((i : Int) + 1) = ((i + 1 : Nat) : Int) := by rw [w64 (by omega) (by omega)]; rfl
  have r1 := pieceSum_range hp i
  have r2 := hp.rd (i : Int)
  have e2 : wrap64 (pieceSum p i + ((rd_T29 p (i : Int)).f8.length : Int)) = pieceSum p (i + 1) := by rw [w64 (by omega) (by omega)]; rfl
  obtain ⟨r, er, hr⟩ := implPartOk_loop p hp hl o d (i + 1) k (by omega) (by omega)
  simp only [impl_PartOk.l0]
  rw [if_pos (by omega), if_pos (by omega), if_pos (by omega)]
  simp only [implPacketOk_eq, Option.bind_some]
  unfold impl_Packet_same.f
  simp only [sameIf, Option.bind_some, impl_PartOk.j1]
  by_cases h1 : pieceOk (rd_T29 p (i : Int)) = true
  ·have h1' := h1
   unfold pieceOk at h1'
   rw [if_pos h1', if_pos (by omega)]
   by_cases h2 : pieceSame (rd_T29 p (i : Int)) (rd_T29 p 0)
   ·have h2' := h2
    unfold pieceSame at h2'
    rw [decide_eq_true h2']
    simp only [Bool.not_true, Bool.false_eq_true, if_false, e1, e2, er]
    by_cases h3 : (i : Int) > 0
    ·have e3 : wrap64 ((i : Int) - 1) = ((i - 1 : Nat) : Int) := by rw [w64 (by omega) (by omega)]; omega
     rw [if_pos h3, e3, if_pos (by omega), if_pos (by omega)]
     by_cases h4 : (rd_T29 p (i : Int)).f5 < wrap64 ((rd_T29 p ((i - 1 : Nat) : Int)).f5 + ((rd_T29 p ((i - 1 : Nat) : Int)).f8.length : Int))
     ·rw [if_pos h4]
      exact ⟨_, rfl, pieceOk_false hil (fun q => (q.2.2 (by omega)).1 h4)⟩
     ·rw [if_neg h4]
      by_cases h5 : (rd_T29 p ((i - 1 : Nat) : Int)).f6 = true
      ·rw [if_pos h5]
       exact ⟨_, rfl, hr.trans ⟨fun q => (restP_succ hil).mpr ⟨⟨h1, h2, fun _ => ⟨h4, h5⟩⟩, q⟩, fun q => ((restP_succ hil).mp q).2⟩⟩
      ·rw [if_neg h5]
       exact ⟨_, rfl, pieceOk_false hil (fun q => h5 (q.2.2 (by omega)).2)⟩
    ·rw [if_neg h3]
     exact ⟨_, rfl, hr.trans ⟨fun q => (restP_succ hil).mpr ⟨⟨h1, h2, fun h0 => absurd h0 (by omega)⟩, q⟩, fun q => ((restP_succ hil).mp q).2⟩⟩
   ·have h2' := h2
    unfold pieceSame at h2'
    rw [decide_eq_false h2']
    simp only [Bool.not_false, if_true]
    exact ⟨_, rfl, pieceOk_false hil (fun q => h2 q.2.1)⟩
  ·have h1' := h1
   unfold pieceOk at h1'
   rw [if_neg h1']
   simp only [if_true]
   exact ⟨_, rfl, pieceOk_false hil (fun q => h1 q.1)⟩
theorem implPartOk_eq (p : List S29) (hp : Short p) (hl : p.length ≤ 1048576) (o : Int) (k : Nat) (hk : 2 * p.length < k) : ∃ r, impl_PartOk.f k p o = some r ∧ (r = true ↔ partP p o) := by
 obtain ⟨r, e, h⟩ := implPartOk_loop p hp hl o p.length 0 k (by omega) hk
 exact ⟨r, e, h.trans (restP_zero p o)⟩
theorem implPartOk_true {p : List S29} (hp : Short p) (hl : p.length ≤ 1048576) {o : Int} {k : Nat} (hk : 2 * p.length < k) (h : partP p o) : impl_PartOk.f k p o = some true := by
 obtain ⟨r, e, q⟩ := implPartOk_eq p hp hl o k hk
 rw [e, q.mpr h]

theorem specPartOk_loop (p : List S29) (hp : Short p) (hl : p.length ≤ 1048576) (o : Int) : ∀ (d i k : Nat), i + d = p.length → 2 * d < k →
  ∃ r, spec_PartOk.l0 k (pieceSum p i) (i : Int) p o = some r ∧ (r = true ↔ restP p o i)
 | 0, i, k, hi, hk => by
  obtain ⟨k, rfl⟩ : ∃ m, k = m + 1 := ⟨k - 1, by omega⟩
  obtain ⟨r, e, h⟩ := partEnd (p := p) (o := o) i (by omega)
  simp only [spec_PartOk.l0]
  rw [if_neg (by omega)]
  simp only [l1In_eq, Option.bind_some, e]
  exact ⟨r, rfl, h⟩
 | d + 1, i, k, hi, hk => by
  obtain ⟨k, rfl⟩ : ∃ m, k = m + 1 + 1 := ⟨k - 2, by omega⟩
  have hil : i < p.length := by omega
  have e1 : wrap64 ((i : Int) + 1) = ((i + 1 : Nat) : Int) := by rw [w64 (by omega) (by omega)]; rfl
  have r1 := pieceSum_range hp i
  have r2 := hp.rd (i : Int)
  have e2 : wrap64 (pieceSum p i + ((rd_T29 p (i : Int)).f8.length : Int)) = pieceSum p (i + 1) := by rw [w64 (by omega) (by omega)]; rfl
  obtain ⟨r, er, hr⟩ := specPartOk_loop p hp hl o d (i + 1) k (by omega) (by omega)
  simp only [spec_PartOk.l0]
  rw [if_pos (by omega), if_pos (by omega)]
  simp only [specPacketOk_eq, Option.bind_some]
  unfold spec_l5Same.f
  simp only [sameIf, Option.bind_some, spec_PartOk.j1]
  by_cases h1 : pieceOk (rd_T29 p (i : Int)) = true
  ·have h1' := h1
   unfold pieceOk at h1'
   rw [if_pos h1', if_pos (by omega)]
   by_cases h2 : pieceSame (rd_T29 p (i : Int)) (rd_T29 p 0)
   ·have h2' := h2
    unfold pieceSame at h2'
    rw [decide_eq_true h2']
    simp only [if_true, Bool.false_eq_true, if_false, e1, e2, er]
    by_cases h3 : (i : Int) > 0
    ·have e3 : wrap64 ((i : Int) - 1) = ((i - 1 : Nat) : Int) := by rw [w64 (by omega) (by omega)]; omega
     rw [if_pos h3, e3, if_pos (by omega), if_pos (by omega)]
     by_cases h4 : (rd_T29 p (i : Int)).f5 < wrap64 ((rd_T29 p ((i - 1 : Nat) : Int)).f5 + ((rd_T29 p ((i - 1 : Nat) : Int)).f8.length : Int))
     ·rw [if_pos h4]
      exact ⟨_, rfl, pieceOk_false hil (fun q => (q.2.2 (by omega)).1 h4)⟩
     ·rw [if_neg h4]
      cases h5 : (rd_T29 p ((i - 1 : Nat) : Int)).f6 with
      | true =>
       simp only [Bool.not_true, Bool.false_eq_true, if_false]
       exact ⟨_, rfl, hr.trans ⟨fun q => (restP_succ hil).mpr ⟨⟨h1, h2, fun _ => ⟨h4, h5⟩⟩, q⟩, fun q => ((restP_succ hil).mp q).2⟩⟩
      | false =>
       simp only [Bool.not_false, if_true]
       exact ⟨_, rfl, pieceOk_false hil (fun q => by have := (q.2.2 (by omega)).2; rw [h5] at this; cases this)⟩
    ·rw [if_neg h3]
     exact ⟨_, rfl, hr.trans ⟨fun q => (restP_succ hil).mpr ⟨⟨h1, h2, fun h0 => absurd h0 (by omega)⟩, q⟩, fun q => ((restP_succ hil).mp q).2⟩⟩
   ·have h2' := h2
    unfold pieceSame at h2'
    rw [decide_eq_false h2']
    simp only [Bool.false_eq_true, if_false, if_true]
    exact ⟨_, rfl, pieceOk_false hil (fun q => h2 q.2.1)⟩
  ·have h1' := h1
   unfold pieceOk at h1'
   rw [if_neg h1']
   simp only [if_true]
   exact ⟨_, rfl, pieceOk_false hil (fun q => h1 q.1)⟩
theorem specPartOk_eq (p : List S29) (hp : Short p) (hl : p.length ≤ 1048576) (o : Int) (k : Nat) (hk : 2 * p.length < k) : ∃ r, spec_PartOk.f k p o = some r ∧ (r = true ↔ partP p o) := by
 obtain ⟨r, e, h⟩ := specPartOk_loop p hp hl o p.length 0 k (by omega) hk
 exact ⟨r, e, h.trans (restP_zero p o)⟩

theorem noFalse {p : Prop} (h : ¬ p) : (false = true ↔ p) := ⟨fun q => (by cases q), fun q => absurd q h⟩
/-- The first piece of the part at i. -/
def firstP (l : List S36) (i : Nat) : S29 := rd_T29 (rd_T36 l (i : Int)).f0 0
/-- The part at i is ok, and no part ahead of it is of the same packet. -/
def partAt (l : List S36) (i : Nat) : Prop := partP (rd_T36 l (i : Int)).f0 (rd_T36 l (i : Int)).f1 ∧ ∀ j : Nat, j < i → ¬ pieceSame (firstP l j) (firstP l i)
/-- From i on all parts are ok. -/
def partsR (l : List S36) (i : Nat) : Prop := (∀ j, i ≤ j → j < l.length → partAt l j) ∧ l.length ≤ 3
/-- No part is long. -/
def Wide (l : List S36) : Prop := ∀ x ∈ l, Short x.f0 ∧ x.f0.length ≤ 1048576
theorem Wide.rd {l : List S36} (h : Wide l) {i : Nat} (hi : i < l.length) : Short (rd_T36 l (i : Int)).f0 ∧ (rd_T36 l (i : Int)).f0.length ≤ 1048576 := by
 rw [likeRd l i hi]; exact h _ (List.getElem_mem hi)
theorem partsR_step {l : List S36} {i : Nat} (hi : i < l.length) : partsR l i ↔ partAt l i ∧ partsR l (i + 1) :=
 ⟨fun q => ⟨q.1 i (Nat.le_refl _) hi, fun j h1 h2 => q.1 j (by omega) h2, q.2⟩, fun q => ⟨fun j h1 h2 => by
  rcases Nat.eq_or_lt_of_le h1 with e | e
  ·subst e; exact q.1
  ·exact q.2.1 j e h2, q.2.2⟩⟩
theorem partsR_no {l : List S36} {i : Nat} (hi : i < l.length) (no : ¬ partAt l i) : (false = true ↔ partsR l i) := noFalse fun q => no ((partsR_step hi).mp q).1
theorem partsR_yes {l : List S36} {i : Nat} {r : Bool} (hi : i < l.length) (yes : partAt l i) (q : r = true ↔ partsR l (i + 1)) : (r = true ↔ partsR l i) := q.trans ⟨fun z => (partsR_step hi).mpr ⟨yes, z⟩, fun z => ((partsR_step hi).mp z).2⟩
theorem partsR_end {l : List S36} {i : Nat} (hi : l.length ≤ i) : (decide ((l.length : Int) ≤ 3) = true ↔ partsR l i) := by
 rw [decide_eq_true_eq]
 exact ⟨fun q => ⟨fun j a b => absurd b (by omega), by omega⟩, fun q => by have := q.2; omega⟩
theorem likeAny (l : List S36) (i : Nat) (hi : i ≤ l.length) (y : List S29) : (l.take i).any (likeB y) = true ↔ ∃ j : Nat, j < i ∧ pieceSame (firstP l j) (rd_T29 y 0) := by
 rw [List.any_eq_true]
 refine ⟨fun ⟨x, hx, hp⟩ => ?_, fun ⟨j, hj, hp⟩ => ⟨l[j], ?_, ?_⟩⟩
 ·obtain ⟨j, hj, rfl⟩ := List.getElem_of_mem hx
  have hj' : j < i := by rw [List.length_take] at hj; omega
  rw [List.getElem_take, ← likeRd l j (by omega)] at hp
  unfold likeB sameB at hp
  have hp2 := of_decide_eq_true hp
  exact ⟨j, hj', hp2⟩
 ·rw [List.mem_iff_getElem]
  exact ⟨j, by rw [List.length_take]; omega, by rw [List.getElem_take]⟩
 ·rw [← likeRd l j (by omega)]
  unfold likeB sameB
  refine decide_eq_true ?_
  exact hp
theorem implPartsOk_loop (l : List S36) (hl : l.length ≤ 1048576) (hw : Wide l) : ∀ (d i k : Nat), i + d = l.length → d + 2097154 < k → (∀ j : Nat, j < i → 0 < (rd_T36 l (j : Int)).f0.length) →
  ∃ r, impl_PartsOk.l0 k l l (l.length : Int) (i : Int) = some r ∧ (r = true ↔ partsR l i) := by
 intro d
 induction d with
 | zero =>
  intro i k hi hk pre
  obtain ⟨k, rfl⟩ : ∃ m, k = m + 1 := ⟨k - 1, by omega⟩
  simp only [impl_PartsOk.l0]
  rw [if_neg (by omega)]
  exact ⟨_, rfl, partsR_end (by omega)⟩
 | succ d ih =>
  intro i k hi hk pre
  obtain ⟨k, rfl⟩ : ∃ m, k = m + 1 := ⟨k - 1, by omega⟩
  have hil : i < l.length := by omega
  have e1 : wrap64 ((i : Int) + 1) = ((i + 1 : Nat) : Int) := by rw [w64 (by omega) (by omega)]; rfl
  have hp := hw.rd hil
  obtain ⟨r1, er1, q1⟩ := implPartOk_eq _ hp.1 hp.2 (rd_T36 l (i : Int)).f1 k (by omega)
  simp only [impl_PartsOk.l0]
  rw [if_pos (by omega), if_pos (by omega), if_pos (by omega), er1, e1]
  simp only [Option.bind_some]
  cases r1 with
  | false =>
   rw [if_neg (by decide)]
   exact ⟨_, rfl, partsR_no hil (fun q => by cases q1.mpr q.1)⟩
  | true =>
   have hpp := q1.mp rfl
   rw [if_pos rfl, if_pos (by omega)]
   unfold impl_Part_11.f
   have htk : ∀ x ∈ l.take ((i : Int)).toNat, 0 < x.f0.length := fun x hx => by
    obtain ⟨j, hj, rfl⟩ := List.getElem_of_mem hx
    have hj' : j < i := by rw [List.length_take] at hj; omega
    have := pre j hj'
    rw [likeRd l j (by omega)] at this
    rw [List.getElem_take]
    exact this
   rw [if_pos ⟨by rw [List.length_take]; omega, htk, hpp.1⟩]
   simp only [Option.bind_some, Int.toNat_natCast]
   have ha := likeAny l i (by omega) (rd_T36 l (i : Int)).f0
   cases hc : (l.take i).any (likeB (rd_T36 l (i : Int)).f0) with
   | true =>
    obtain ⟨j, hj, hs⟩ := ha.mp hc
    rw [if_pos rfl]
    exact ⟨_, rfl, partsR_no hil (fun q => q.2 j hj hs)⟩
   | false =>
    rw [if_neg (by decide)]
    obtain ⟨r, er, hr⟩ := ih (i + 1) k (by omega) (by omega) (fun j hj => by
     rcases Nat.lt_or_ge j i with z | z
     ·exact pre j z
     ·have : j = i := by omega
      subst this; exact hpp.1)
    refine ⟨r, er, partsR_yes hil ⟨hpp, fun j hj hs => ?_⟩ hr⟩
    have := ha.mpr ⟨j, hj, hs⟩
    rw [hc] at this
    cases this
theorem implPartsOk_eq (l : List S36) (hl : l.length ≤ 1048576) (hw : Wide l) (k : Nat) (hk : l.length + 2097154 < k) : ∃ r, impl_PartsOk.f k l = some r ∧ (r = true ↔ partsR l 0) :=
 implPartsOk_loop l hl hw l.length 0 k (by omega) hk (fun j hj => absurd hj (Nat.not_lt_zero _))
theorem l5Same_eq (u v : S29) : spec_l5Same.f u.f0 u.f1 u.f2 u.f3 u.f4 u.f5 u.f6 u.f7 u.f8 v.f0 v.f1 v.f2 v.f3 v.f4 v.f5 v.f6 v.f7 v.f8 = some (sameB u v) := by
 unfold spec_l5Same.f sameB
 by_cases h0 : u.f0 = v.f0 <;> by_cases h1 : u.f1 = v.f1 <;> by_cases h2 : u.f2 = v.f2 <;> by_cases h4 : u.f4 = v.f4 <;> simp [h0, h1, h2, h4]
/-- The inner loop: it goes on to the next part, or one ahead is of the same packet. -/
theorem specParts_inner (l : List S36) (hl : l.length ≤ 1048576) (i : Nat) (hi : i < l.length) (pre : ∀ j : Nat, j ≤ i → 0 < (rd_T36 l (j : Int)).f0.length) : ∀ (d j k : Nat), j + d = i → d < k → (∀ m : Nat, m < j → ¬ pieceSame (firstP l m) (firstP l i)) →
  (∃ m : Nat, m < i ∧ pieceSame (firstP l m) (firstP l i) ∧ spec_PartsOk.l1 k l (i : Int) (j : Int) = some false) ∨ ((∀ m : Nat, m < i → ¬ pieceSame (firstP l m) (firstP l i)) ∧ spec_PartsOk.l1 k l (i : Int) (j : Int) = spec_PartsOk.l0 (k - d - 1) l ((i + 1 : Nat) : Int)) := by
 intro d
 induction d with
 | zero =>
  intro j k hj hk no
  obtain ⟨k, rfl⟩ : ∃ m, k = m + 1 := ⟨k - 1, by omega⟩
  have e1 : wrap64 ((i : Int) + 1) = ((i + 1 : Nat) : Int) := by rw [w64 (by omega) (by omega)]; rfl
  simp only [spec_PartsOk.l1]
  rw [if_neg (by omega), e1]
  exact .inr ⟨fun m hm => no m (by omega), rfl⟩
 | succ d ih =>
  intro j k hj hk no
  obtain ⟨k, rfl⟩ : ∃ m, k = m + 1 := ⟨k - 1, by omega⟩
  have e1 : wrap64 ((j : Int) + 1) = ((j + 1 : Nat) : Int) := by rw [w64 (by omega) (by omega)]; rfl
  have p1 := pre j (by omega)
  have p2 := pre i (Nat.le_refl _)
  simp only [spec_PartsOk.l1]
  rw [if_pos (by omega), if_pos (by omega), if_pos (by omega), if_pos (by omega), if_pos (by omega), if_pos (by omega), if_pos (by omega), e1, l5Same_eq]
  simp only [Option.bind_some]
  by_cases c0 : pieceSame (firstP l j) (firstP l i)
  ·rw [show sameB (rd_T29 (rd_T36 l (j : Int)).f0 0) (rd_T29 (rd_T36 l (i : Int)).f0 0) = true from (by unfold sameB; refine decide_eq_true ?_; exact c0), if_pos rfl]
   exact .inl ⟨j, by omega, c0, rfl⟩
  ·rw [show sameB (rd_T29 (rd_T36 l (j : Int)).f0 0) (rd_T29 (rd_T36 l (i : Int)).f0 0) = false from (by unfold sameB; refine decide_eq_false ?_; exact c0), if_neg (by decide), show k + 1 - (d + 1) - 1 = k - d - 1 by omega]
   exact ih (j + 1) k (by omega) (by omega) (fun m hm => by
    rcases Nat.lt_or_ge m j with z | z
    ·exact no m z
    ·have : m = j := by omega
     subst this; exact c0)
theorem specPartsOk_loop (l : List S36) (hl : l.length ≤ 1048576) (hw : Wide l) : ∀ (d i k : Nat), i + d = l.length → d * (l.length + 3) + 2097154 < k → (∀ j : Nat, j < i → 0 < (rd_T36 l (j : Int)).f0.length) →
  ∃ r, spec_PartsOk.l0 k l (i : Int) = some r ∧ (r = true ↔ partsR l i) := by
 intro d
 induction d with
 | zero =>
  intro i k hi hk pre
  obtain ⟨k, rfl⟩ : ∃ m, k = m + 1 := ⟨k - 1, by omega⟩
  simp only [spec_PartsOk.l0]
  rw [if_neg (by omega)]
  exact ⟨_, rfl, partsR_end (by omega)⟩
 | succ d ih =>
  intro i k hi hk pre
  have hmul : (d + 1) * (l.length + 3) = d * (l.length + 3) + (l.length + 3) := Nat.succ_mul _ _
  obtain ⟨k, rfl⟩ : ∃ m, k = m + 1 := ⟨k - 1, by omega⟩
  have hil : i < l.length := by omega
  have hp := hw.rd hil
  obtain ⟨r1, er1, q1⟩ := specPartOk_eq _ hp.1 hp.2 (rd_T36 l (i : Int)).f1 k (by omega)
  simp only [spec_PartsOk.l0]
  rw [if_pos (by omega), if_pos (by omega), er1]
  simp only [Option.bind_some]
  cases r1 with
  | false =>
   rw [if_neg (by decide)]
   exact ⟨_, rfl, partsR_no hil (fun q => by cases q1.mpr q.1)⟩
  | true =>
   have hpp := q1.mp rfl
   have pre' : ∀ j : Nat, j ≤ i → 0 < (rd_T36 l (j : Int)).f0.length := fun j hj => by
    rcases Nat.lt_or_ge j i with z | z
    ·exact pre j z
    ·have : j = i := by omega
     subst this; exact hpp.1
   rw [if_pos rfl]
   rcases specParts_inner l hl i hil pre' i 0 k (by omega) (by omega) (fun m hm => absurd hm (Nat.not_lt_zero _)) with ⟨m, hm, e, z⟩ | ⟨no, z⟩
   ·exact ⟨false, z, partsR_no hil (fun q => q.2 m hm e)⟩
   ·obtain ⟨r, er, hr⟩ := ih (i + 1) (k - i - 1) (by omega) (by omega) (fun j hj => pre' j (by omega))
    exact ⟨r, z.trans er, partsR_yes hil ⟨hpp, no⟩ hr⟩
theorem specPartsOk_eq (l : List S36) (hl : l.length ≤ 1048576) (hw : Wide l) (k : Nat) (hk : l.length * (l.length + 3) + 2097154 < k) : ∃ r, spec_PartsOk.f k l = some r ∧ (r = true ↔ partsR l 0) :=
 specPartsOk_loop l hl hw l.length 0 k (by omega) hk (fun j hj => absurd hj (Nat.not_lt_zero _))

/-- What pick draws. -/
def pk (b : List Int) (p n : Int) : Int := ((spec_l20Rd_pick.f 1 b p n).getD (0, 0)).1
theorem pick_f (b : List Int) (hb : Bytes b) (hl : b.length ≤ 2000) (p n : Int) (h0 : 0 ≤ p) (h1 : p ≤ 1073741824) (h2 : -2147483648 ≤ n) (h3 : n ≤ 65536) (k : Nat) :
  ∃ v, spec_l20Rd_pick.f (k + 1) b p n = some (v, p + 1) ∧ 0 ≤ v ∧ (1 ≤ n → v < n) ∧ (n < 1 → v = 0) := by
 have ep : wrap64 (p + 1) = p + 1 := w64 (by omega) (by omega)
 have ep' : wrap64 (p + 1 - 1) = p := by rw [w64 (by omega) (by omega)]; omega
 unfold spec_l20Rd_pick.f
 rw [ep]
 simp only [spec_l20Rd_pick.j0, ep']
 by_cases hn : n < 1
 ·rw [if_pos hn, if_pos trivial]
  exact ⟨0, rfl, by omega, fun h => by omega, fun _ => rfl⟩
 rw [if_neg hn]
 by_cases he : (b.length : Int) = 0
 ·rw [if_pos (by simpa using he)]
  exact ⟨0, rfl, by omega, fun h => by omega, fun _ => rfl⟩
 rw [if_neg (by simpa using he)]
 by_cases hp : p < (b.length : Int)
 ·rw [if_pos hp, if_pos h0, if_neg (by omega)]
  have hr := hb.at_ p
  rw [w64 (x := rd b p) (by omega) (by omega)]
  refine ⟨_, rfl, Int.tmod_nonneg _ hr.1, fun _ => ?_, fun h => by omega⟩
  rw [Int.tmod_eq_emod_of_nonneg hr.1]
  exact Int.emod_lt_of_pos _ (by omega)
 rw [if_neg hp]
 have m1 : 0 ≤ Int.tmod p (b.length : Int) ∧ Int.tmod p (b.length : Int) < (b.length : Int) := by
  rw [Int.tmod_eq_emod_of_nonneg h0]; exact ⟨Int.emod_nonneg _ he, Int.emod_lt_of_pos _ (by omega)⟩
 have e7 : wrap64 (wrap64 (p * 7) + 3) = p * 7 + 3 := by rw [w64 (x := p * 7) (by omega) (by omega), w64 (by omega) (by omega)]
 have m2 : 0 ≤ Int.tmod (p * 7 + 3) (b.length : Int) ∧ Int.tmod (p * 7 + 3) (b.length : Int) < (b.length : Int) := by
  rw [Int.tmod_eq_emod_of_nonneg (by omega)]; exact ⟨Int.emod_nonneg _ he, Int.emod_lt_of_pos _ (by omega)⟩
 rw [if_neg he, if_pos m1.1, if_pos m1.2, e7, if_pos m2.1, if_pos m2.2, if_neg (show ¬ n = 0 by omega)]
 have r1 := hb.at_ (Int.tmod p (b.length : Int))
 have r2 := hb.at_ (Int.tmod (p * 7 + 3) (b.length : Int))
 generalize rd b (Int.tmod p (b.length : Int)) = x1 at r1 ⊢
 generalize rd b (Int.tmod (p * 7 + 3) (b.length : Int)) = x2 at r2 ⊢
 have q0 : Int.tdiv p (b.length : Int) = p / (b.length : Int) := Int.tdiv_eq_ediv_of_nonneg h0
 have q1 : 0 ≤ p / (b.length : Int) := Int.ediv_nonneg h0 (by omega)
 have q2 : p / (b.length : Int) ≤ p := Int.ediv_le_self _ h0
 rw [q0]
 generalize p / (b.length : Int) = q at q1 q2 ⊢
 rw [w64 (x := x1) (by omega) (by omega), w64 (x := x2) (by omega) (by omega), w64 (x := x1 * 131) (by omega) (by omega), w64 (x := x2 * 1117) (by omega) (by omega), w64 (x := p * 29) (by omega) (by omega),
  w64 (x := q) (by omega) (by omega), w64 (x := q * 53) (by omega) (by omega), w64 (x := x1 * 131 + x2 * 1117) (by omega) (by omega), w64 (x := x1 * 131 + x2 * 1117 + p * 29) (by omega) (by omega), w64 (x := x1 * 131 + x2 * 1117 + p * 29 + q * 53) (by omega) (by omega)]
 obtain ⟨y, hy⟩ : ∃ y : Nat, x1 * 131 + x2 * 1117 + p * 29 + q * 53 = (y : Int) := ⟨(x1 * 131 + x2 * 1117 + p * 29 + q * 53).toNat, by omega⟩
 have hy2 : y < 1099511627776 := by omega
 rw [hy]
 have d0 : Int.tdiv (y : Int) 64 = ((y / 64 : Nat) : Int) := by rw [Int.tdiv_eq_ediv_of_nonneg (by omega)]; rfl
 have hz : y / 64 < 1099511627776 := by omega
 rw [d0, w64 (x := ((y / 64 : Nat) : Int)) (by omega) (by omega)]
 obtain ⟨ex, lx⟩ := xor_i64 y (y / 64) hy2 hz
 rw [ex]
 refine ⟨_, rfl, Int.tmod_nonneg _ (by omega), fun _ => ?_, fun h => by omega⟩
 rw [Int.tmod_eq_emod_of_nonneg (by omega)]
 exact Int.emod_lt_of_pos _ (by omega)
theorem pick_one (b : List Int) (p n : Int) (k : Nat) : spec_l20Rd_pick.f (k + 1) b p n = spec_l20Rd_pick.f 1 b p n := by
 unfold spec_l20Rd_pick.f
 simp only [spec_l20Rd_pick.j0]
theorem pick_eq {b : List Int} (hb : Bytes b) (hl : b.length ≤ 2000) {p n : Int} (h0 : 0 ≤ p) (h1 : p ≤ 1073741824) (h2 : -2147483648 ≤ n) (h3 : n ≤ 65536) {k : Nat} (hk : 1 ≤ k) : spec_l20Rd_pick.f k b p n = some (pk b p n, p + 1) := by
 obtain ⟨k, rfl⟩ : ∃ m, k = m + 1 := ⟨k - 1, by omega⟩
 rw [pick_one]
 obtain ⟨v, hv, _⟩ := pick_f b hb hl p n h0 h1 h2 h3 0
 unfold pk
 rw [hv]; rfl
theorem pk_range {b : List Int} (hb : Bytes b) (hl : b.length ≤ 2000) {p n : Int} (h0 : 0 ≤ p) (h1 : p ≤ 1073741824) (h2 : 1 ≤ n) (h3 : n ≤ 65536) : 0 ≤ pk b p n ∧ pk b p n < n := by
 obtain ⟨v, hv, g0, g1, _⟩ := pick_f b hb hl p n h0 h1 (by omega) h3 0
 unfold pk
 rw [hv]; exact ⟨g0, g1 h2⟩
/-- The bytes that are drawn from. -/
theorem open_eq (l : List Int) (hb : Bytes l) : ∃ b, spec_l20Open.f l = some (b, 0) ∧ Bytes b ∧ b.length ≤ 2000 := by
 unfold spec_l20Open.f
 by_cases h : (l.length : Int) > 2000
 ·rw [if_pos h, if_pos (by omega)]
  exact ⟨_, rfl, hb.take _, by simp; omega⟩
 ·rw [if_neg h]
  exact ⟨_, rfl, hb, by omega⟩

/-- odd tells just this. -/
theorem odd_eq {b : List Int} (hb : Bytes b) (hl : b.length ≤ 2000) {p n : Int} (h0 : 0 ≤ p) (h1 : p ≤ 1073741824) (h2 : 0 ≤ n) (h3 : n ≤ 65536) {k : Nat} (hk : 1 ≤ k) :
  ∃ o p', spec_l20Rd_odd.f k b p n = some (o, p') ∧ p ≤ p' ∧ p' ≤ p + 1 ∧ (n = 0 → o = false) := by
 unfold spec_l20Rd_odd.f
 by_cases h : n > 0
 ·rw [if_pos h, pick_eq hb hl h0 h1 (by omega) h3 hk]
  exact ⟨_, _, rfl, by omega, by omega, fun h => by omega⟩
 ·rw [if_neg h]
  exact ⟨_, _, rfl, by omega, by omega, fun _ => rfl⟩

theorem drawBytes_loop {b : List Int} (hb : Bytes b) (hl : b.length ≤ 2000) : ∀ (d k : Nat) (p : Int) (o : List Int), d < k → Bytes o → o.length + d ≤ 4096 → 0 ≤ p → p + 2 * d ≤ 1073741824 →
  ∃ r p', spec_l20Rd_bytes.l0 k (d : Int) o b p = some (r, p') ∧ Bytes r ∧ r.length = o.length + d ∧ p ≤ p' ∧ p' ≤ p + 2 * d
 | 0, k, p, o, hk, ho, hlo, h0, h1 => by
  obtain ⟨k, rfl⟩ : ∃ m, k = m + 1 := ⟨k - 1, by omega⟩
  simp only [spec_l20Rd_bytes.l0]
  rw [if_neg (by omega)]
  exact ⟨o, p, rfl, ho, by omega, by omega, by omega⟩
 | d + 1, k, p, o, hk, ho, hlo, h0, h1 => by
  obtain ⟨k, rfl⟩ : ∃ m, k = m + 1 := ⟨k - 1, by omega⟩
  have e1 : wrap64 (((d + 1 : Nat) : Int) - 1) = (d : Int) := by rw [w64 (by omega) (by omega)]; omega
  simp only [spec_l20Rd_bytes.l0]
  rw [if_pos (by omega), pick_eq hb hl h0 (by omega) (by omega) (by omega) (show 1 ≤ k by omega)]
  simp only [Option.bind_some]
  rw [pick_eq hb hl (p := p + 1) (n := 256) (by omega) (by omega) (by omega) (by omega) (show 1 ≤ k by omega), pick_eq hb hl (p := p + 1) (n := 3) (by omega) (by omega) (by omega) (by omega) (show 1 ≤ k by omega)]
  simp only [Option.bind_some]
  rw [if_pos (show o.length < 140737488355328 by omega), if_pos (show o.length < 140737488355328 by omega), e1]
  by_cases h : pk b p 3 = 0
  ·rw [if_pos h]
   obtain ⟨r, p', hr, g1, g2, g3, g4⟩ := drawBytes_loop hb hl d k (p + 1 + 1) (o ++ [pk b (p + 1) 256 % 256]) (by omega) (ho.append (Bytes.cons (Bytes.mod _) Bytes.nil)) (by simp; omega) (by omega) (by omega)
   exact ⟨r, p', hr, g1, by rw [g2]; simp; omega, by omega, by omega⟩
  ·rw [if_neg h]
   obtain ⟨r, p', hr, g1, g2, g3, g4⟩ := drawBytes_loop hb hl d k (p + 1 + 1) (o ++ [wrap64 (pk b (p + 1) 3 + 97) % 256]) (by omega) (ho.append (Bytes.cons (Bytes.mod _) Bytes.nil)) (by simp; omega) (by omega) (by omega)
   exact ⟨r, p', hr, g1, by rw [g2]; simp; omega, by omega, by omega⟩
theorem drawBytes_eq {b : List Int} (hb : Bytes b) (hl : b.length ≤ 2000) {p n : Int} (h0 : 0 ≤ p) (h1 : p ≤ 536870912) (h2 : 0 ≤ n) (h3 : n ≤ 4096) {k : Nat} (hk : n.toNat < k) :
  ∃ r p', spec_l20Rd_bytes.f k b p n = some (r, p') ∧ Bytes r ∧ (r.length : Int) = n ∧ p ≤ p' ∧ p' ≤ p + 2 * n := by
 obtain ⟨n, rfl⟩ : ∃ m : Nat, n = m := ⟨n.toNat, by omega⟩
 obtain ⟨r, p', hr, g1, g2, g3, g4⟩ := drawBytes_loop hb hl n k p [] (by omega) Bytes.nil (by simp; omega) h0 (by omega)
 exact ⟨r, p', hr, g1, by simp at g2; omega, g3, by omega⟩

theorem drawPacket0_end {b : List Int} {p : Int} (x0 x1 x2 x3 x4 x5 : Int) (x6 x7 : Bool) (d : List Int) {k : Nat} (hk : 2 ≤ k) : spec_l20Packet.j0 k 0 b p x0 x1 x2 x3 x4 x5 x6 x7 d = some (x0, x1, x2, x3, x4, x5, x6, x7, d, p) := by
 obtain ⟨k, rfl⟩ : ∃ j, k = j + 1 + 1 := ⟨k - 2, by omega⟩
 have e : spec_l20Rd_odd.f (k + 1) b p 0 = some (false, p) := by unfold spec_l20Rd_odd.f; rw [if_neg (by omega)]
 simp only [spec_l20Packet.j0, e, Option.bind_some, Bool.false_eq_true, if_false]
 rfl
/-- Drawn so a packet is ok. -/
theorem drawPacket0_eq {b : List Int} (hb : Bytes b) (hl : b.length ≤ 2000) {p : Int} (h0 : 0 ≤ p) (h1 : p ≤ 268435456) {k : Nat} (hk : 20 ≤ k) :
  ∃ a0 a1 a2 a3 a4 a5 a6 a7 r p', spec_l20Packet.f k b p 0 = some (a0, a1, a2, a3, a4, a5, a6, a7, r, p') ∧ packetOk a0 a1 a2 a3 a4 a5 a6 a7 r = true ∧ Bytes r ∧ p ≤ p' ∧ p' ≤ p + 60 := by
 have hk1 : 1 ≤ k := by omega
 unfold spec_l20Packet.f
 rw [pick_eq hb hl h0 (by omega) (by omega) (by omega) hk1]
 simp only [Option.bind_some]
 rw [pick_eq hb hl (p := p + 1) (n := 5) (by omega) (by omega) (by omega) (by omega) hk1]
 simp only [Option.bind_some]
 rw [pick_eq hb hl (p := p + 1 + 1) (n := 4) (by omega) (by omega) (by omega) (by omega) hk1]
 simp only [Option.bind_some]
 rw [pick_eq hb hl (p := p + 1 + 1 + 1) (n := 6) (by omega) (by omega) (by omega) (by omega) hk1]
 simp only [Option.bind_some]
 rw [pick_eq hb hl (p := p + 1 + 1 + 1 + 1) (n := 4) (by omega) (by omega) (by omega) (by omega) hk1]
 simp only [Option.bind_some]
 rw [pick_eq hb hl (p := p + 1 + 1 + 1 + 1 + 1) (n := 12) (by omega) (by omega) (by omega) (by omega) hk1]
 simp only [Option.bind_some]
 have r0 := pk_range hb hl (p := p) (n := 5) (by omega) (by omega) (by omega) (by omega)
 have r1 := pk_range hb hl (p := p + 1) (n := 5) (by omega) (by omega) (by omega) (by omega)
 have r2 := pk_range hb hl (p := p + 1 + 1) (n := 4) (by omega) (by omega) (by omega) (by omega)
 have r3 := pk_range hb hl (p := p + 1 + 1 + 1) (n := 6) (by omega) (by omega) (by omega) (by omega)
 have r4 := pk_range hb hl (p := p + 1 + 1 + 1 + 1) (n := 4) (by omega) (by omega) (by omega) (by omega)
 have r5 := pk_range hb hl (p := p + 1 + 1 + 1 + 1 + 1) (n := 12) (by omega) (by omega) (by omega) (by omega)
 generalize pk b p 5 = x0 at r0 ⊢
 generalize pk b (p + 1) 5 = x1 at r1 ⊢
 generalize pk b (p + 1 + 1) 4 = x2 at r2 ⊢
 generalize pk b (p + 1 + 1 + 1) 6 = x3 at r3 ⊢
 generalize pk b (p + 1 + 1 + 1 + 1) 4 = x4 at r4 ⊢
 generalize pk b (p + 1 + 1 + 1 + 1 + 1) 12 = c at r5 ⊢
 obtain ⟨d, p1, e1, g1, g2, g3, g4⟩ := drawBytes_eq hb hl (p := p + 1 + 1 + 1 + 1 + 1 + 1) (n := c) (by omega) (by omega) (by omega) (by omega) (k := k) (by omega)
 simp only [e1, Option.bind_some]
 rw [pick_eq hb hl (p := p1) (n := 4) (by omega) (by omega) (by omega) (by omega) hk1]
 simp only [Option.bind_some]
 have hend : ∀ (p3 x5 : Int) (x6 x7 : Bool), p ≤ p3 → p3 ≤ p + 40 → (0 ≤ x5 ∧ x5 ≤ 255) → (x6 = true → (d.length : Int) > 0) → (x7 = true → x5 = 0 ∧ x6 = false) →
   ∃ a0 a1 a2 a3 a4 a5 a6 a7 r p', spec_l20Packet.j0 k 0 b p3 x0 x1 x2 x3 x4 x5 x6 x7 d = some (a0, a1, a2, a3, a4, a5, a6, a7, r, p') ∧ packetOk a0 a1 a2 a3 a4 a5 a6 a7 r = true ∧ Bytes r ∧ p ≤ p' ∧ p' ≤ p + 60 := by
  intro p3 x5 x6 x7 q1 q2 q3 q4 q5
  exact ⟨x0, x1, x2, x3, x4, x5, x6, x7, d, p3, drawPacket0_end x0 x1 x2 x3 x4 x5 x6 x7 d (by omega), decide_eq_true ⟨by omega, by omega, by omega, by omega, by omega, q3, by omega, q4, q5⟩, g1, by omega, by omega⟩
 split
 ·exact hend _ _ _ _ (by omega) (by omega) (by omega) (fun h => by cases h) (fun _ => ⟨rfl, rfl⟩)
 ·split
  ·rw [pick_eq hb hl (p := p1 + 1) (n := 20) (by omega) (by omega) (by omega) (by omega) hk1]
   simp only [Option.bind_some]
   have r6 := pk_range hb hl (p := p1 + 1) (n := 20) (by omega) (by omega) (by omega) (by omega)
   split
   ·rename_i hd
    rw [pick_eq hb hl (p := p1 + 1 + 1) (n := 2) (by omega) (by omega) (by omega) (by omega) hk1]
    simp only [Option.bind_some]
    exact hend _ _ _ _ (by omega) (by omega) (by omega) (fun _ => hd) (fun h => by cases h)
   ·exact hend _ _ _ _ (by omega) (by omega) (by omega) (fun h => by cases h) (fun h => by cases h)
  ·exact hend _ _ _ _ (by omega) (by omega) (by omega) (fun h => by cases h) (fun h => by cases h)

theorem drawLong_eq {b : List Int} (hb : Bytes b) (hl : b.length ≤ 2000) {p : Int} (h0 : 0 ≤ p) (h1 : p ≤ 10000) {k : Nat} (hk : 40 ≤ k) :
  ∃ a0 a1 a2 a3 a4 d p', spec_l20Long.f k b p = some (a0, a1, a2, a3, a4, 0, false, false, d, p') ∧ packetOk a0 a1 a2 a3 a4 0 false false d = true ∧ (2 ≤ d.length ∧ d.length ≤ 21) ∧ p ≤ p' ∧ p' ≤ p + 200 := by
 obtain ⟨a0, a1, a2, a3, a4, a5, a6, a7, r, p1, e, ho, _, g0, g1⟩ := drawPacket0_eq hb hl (p := p) h0 (by omega) (k := k) (by omega)
 unfold spec_l20Long.f
 simp only [e, Option.bind_some]
 rw [pick_eq hb hl (p := p1) (n := 20) (by omega) (by omega) (by omega) (by omega) (by omega)]
 have r0 := pk_range hb hl (p := p1) (n := 20) (by omega) (by omega) (by omega) (by omega)
 generalize pk b p1 20 = c at r0 ⊢
 simp only [Option.bind_some]
 rw [w64 (x := 2 + c) (by omega) (by omega)]
 obtain ⟨d, p2, e2, q1, q2, q3, q4⟩ := drawBytes_eq hb hl (p := p1 + 1) (n := 2 + c) (by omega) (by omega) (by omega) (by omega) (k := k) (by omega)
 simp only [e2, Option.bind_some]
 have h := of_decide_eq_true ho
 exact ⟨_, _, _, _, _, _, _, rfl, decide_eq_true ⟨h.1, h.2.1, h.2.2.1, h.2.2.2.1, h.2.2.2.2.1, by omega, by omega, fun h => (by cases h), fun h => (by cases h)⟩, ⟨by omega, by omega⟩, by omega, by omega⟩
theorem cut_step (c i a0 a1 a2 a3 a4 : Int) (x6 : List S29) (d : List Int) (hc0 : 1 ≤ c) (hc1 : c ≤ 6) (hi0 : 0 ≤ i) (hi1 : i ≤ (d.length : Int)) (hd : d.length ≤ 48) (hx : x6.length < 1000) (k : Nat) :
  ∃ row : S29, row.f8.length ≤ 1048576 ∧ spec_PacketCut.j2 (k + 1) c x6 i true a0 a1 a2 a3 a4 0 false false d = spec_PacketCut.l0 k c (x6 ++ [row]) (i + c) a0 a1 a2 a3 a4 0 false false d := by
 have e1 : wrap64 (i + c) = i + c := w64 (by omega) (by omega)
 have e2 : wrap64 (0 + i) = i := by rw [w64 (by omega) (by omega)]; omega
 have m1 : i ≤ mn (i + c) (d.length : Int) := by unfold mn; split <;> omega
 have m2 : mn (i + c) (d.length : Int) ≤ (d.length : Int) := by unfold mn; split <;> omega
 simp only [spec_PacketCut.j2, if_true, Bool.false_eq_true, if_false, Option.bind_some, e1, e2]
 generalize mn (i + c) (d.length : Int) = m at m1 m2 ⊢
 have l1 : ((d.take m.toNat).drop i.toNat).length ≤ 1048576 := by rw [List.length_drop, List.length_take]; omega
 rw [if_pos hi0, if_pos m1, if_pos m2, if_pos (by simp only [List.length_nil]; omega), if_neg (by omega), if_pos (by omega)]
 exact ⟨_, by simpa using l1, rfl⟩
theorem cut_loop (c a0 a1 a2 a3 a4 : Int) (d : List Int) (hc0 : 1 ≤ c) (hc1 : c ≤ 6) (hd : d.length ≤ 48) : ∀ (j k : Nat) (i : Int) (x6 : List S29), (d.length : Int) - i < j → 2 * j + 2 ≤ k → 0 ≤ i → (i = 0 ∨ 0 < x6.length) → Short x6 → x6.length + j ≤ 100 →
  ∃ q ok, spec_PacketCut.l0 k c x6 i a0 a1 a2 a3 a4 0 false false d = some (q, ok) ∧ 0 < q.length ∧ q.length ≤ 100 ∧ Short q := by
 intro j
 induction j with
 | zero =>
  intro k i x6 hj hk hi hx hs hlx
  obtain ⟨k, rfl⟩ : ∃ m, k = m + 1 + 1 := ⟨k - 2, by omega⟩
  simp only [spec_PacketCut.l0]
  rw [if_neg (by omega), decide_eq_false (by omega)]
  simp only [spec_PacketCut.j2, Bool.false_eq_true, if_false]
  exact ⟨x6, true, rfl, by omega, by omega, hs⟩
 | succ j ih =>
  intro k i x6 hj hk hi hx hs hlx
  obtain ⟨k, rfl⟩ : ∃ m, k = m + 1 + 1 := ⟨k - 2, by omega⟩
  simp only [spec_PacketCut.l0]
  by_cases h : i = 0 ∨ i < (d.length : Int)
  ·obtain ⟨row, hr, e⟩ := cut_step c i a0 a1 a2 a3 a4 x6 d hc0 hc1 hi (by omega) hd (by omega) k
   obtain ⟨q, ok, e2, q1, q2, q3⟩ := ih k (i + c) (x6 ++ [row]) (by omega) (by omega) (by omega) (.inr (by rw [List.length_append]; simp only [List.length_cons, List.length_nil]; omega)) (hs.append (Short.one hr)) (by rw [List.length_append]; simp only [List.length_cons, List.length_nil]; omega)
   refine ⟨q, ok, ?_, q1, q2, q3⟩
   by_cases hi0 : i = 0
   ·rw [if_pos hi0, e, e2]
   ·rw [if_neg hi0, decide_eq_true (show i < (d.length : Int) by omega), e, e2]
  ·rw [if_neg (by omega), decide_eq_false (by omega)]
   simp only [spec_PacketCut.j2, Bool.false_eq_true, if_false]
   exact ⟨x6, true, rfl, by omega, by omega, hs⟩
theorem cut_eq (c a0 a1 a2 a3 a4 : Int) (d : List Int) (hc0 : 1 ≤ c) (hc1 : c ≤ 6) (hd : d.length ≤ 48) (ho : packetOk a0 a1 a2 a3 a4 0 false false d = true) (k : Nat) (hk : 200 ≤ k) :
  ∃ q ok, spec_PacketCut.f k a0 a1 a2 a3 a4 0 false false d c = some (q, ok) ∧ 0 < q.length ∧ q.length ≤ 100 ∧ Short q := by
 obtain ⟨k, rfl⟩ : ∃ m, k = m + 1 := ⟨k - 1, by omega⟩
 obtain ⟨q, ok, e, h⟩ := cut_loop c a0 a1 a2 a3 a4 d hc0 hc1 hd 49 k 0 [] (by omega) (by omega) (by omega) (.inl rfl) Short.nil (by simp)
 unfold spec_PacketCut.f
 simp only [specPacketOk_eq, ho, l1In_eq, Option.bind_some, if_true]
 rw [decide_eq_true (show 1 ≤ c ∧ c ≤ 48 by omega)]
 simp only [spec_PacketCut.j0, if_true, Bool.false_eq_true, if_false, e, ite_self]
 exact ⟨q, ok, rfl, h⟩
theorem drawPart_loop {b : List Int} (hb : Bytes b) (hl : b.length ≤ 2000) (m : Int) (hm0 : 0 ≤ m) (hm1 : m ≤ 65536) (x5 : List S29) (h5 : Short x5) (hn : x5.length ≤ 100) (off : Int) : ∀ (d i k : Nat) (o : List S29) (p : Int), i + d = x5.length → o.length ≤ i → (d = 0 → 0 < o.length) → Short o → 0 ≤ p → p ≤ 100000 - (d : Int) → d + 10 ≤ k →
  ∃ q p', spec_l20Part.l0 k m x5 (i : Int) b p o off = some (q, off, p') ∧ Short q ∧ q.length ≤ 101 ∧ p ≤ p' ∧ p' ≤ p + (d : Int) + 3 := by
 intro d
 induction d with
 | zero =>
  intro i k o p hd ho h1 hs hp0 hp1 hk
  obtain ⟨k, rfl⟩ : ∃ m, k = m + 1 := ⟨k - 1, by omega⟩
  obtain ⟨z, p2, e5, g5, g6, g7⟩ := odd_eq hb hl (p := p) (n := m) (by omega) (by omega) hm0 hm1 (k := k) (by omega)
  have ho0 := h1 rfl
  simp only [spec_l20Part.l0]
  rw [if_neg (by omega)]
  simp only [e5, Option.bind_some]
  rw [pick_eq hb hl (p := p2) (n := 4) (by omega) (by omega) (by omega) (by omega) (by omega)]
  simp only [Option.bind_some]
  rw [pick_eq hb hl (p := p2 + 1) (n := 9) (by omega) (by omega) (by omega) (by omega) (by omega)]
  simp only [Option.bind_some]
  have r0 := hs.rd 0
  split
  ·split
   ·rw [if_pos (by omega)]
    exact ⟨_, _, rfl, hs.set _ r0, by rw [List.length_set]; omega, by omega, by omega⟩
   ·split
    ·rw [if_pos (by omega)]
     exact ⟨_, _, rfl, hs.set _ r0, by rw [List.length_set]; omega, by omega, by omega⟩
    ·split
     ·rw [if_pos (by omega), if_pos (by omega)]
      exact ⟨_, _, rfl, hs.append (Short.one r0), by rw [List.length_append]; simp only [List.length_cons, List.length_nil]; omega, by omega, by omega⟩
     ·exact ⟨_, _, rfl, Short.nil, by simp, by omega, by omega⟩
  ·exact ⟨_, _, rfl, hs, by omega, by omega, by omega⟩
 | succ d ih =>
  intro i k o p hd ho h1 hs hp0 hp1 hk
  obtain ⟨k, rfl⟩ : ∃ m, k = m + 1 := ⟨k - 1, by omega⟩
  have e1 : wrap64 ((i : Int) + 1) = ((i + 1 : Nat) : Int) := by rw [w64 (by omega) (by omega)]; rfl
  have e2 : wrap64 ((x5.length : Int) - 1) = (x5.length : Int) - 1 := w64 (by omega) (by omega)
  have r0 := h5.rd (i : Int)
  simp only [spec_l20Part.l0]
  rw [if_pos (by omega), pick_eq hb hl (p := p) (n := 3) (by omega) (by omega) (by omega) (by omega) (by omega)]
  simp only [Option.bind_some, e1, e2]
  have next : ∀ {o' : List S29}, (∃ q p', spec_l20Part.l0 k m x5 ((i + 1 : Nat) : Int) b (p + 1) o' off = some (q, off, p') ∧ Short q ∧ q.length ≤ 101 ∧ p + 1 ≤ p' ∧ p' ≤ p + 1 + (d : Int) + 3) → ∃ q p', spec_l20Part.l0 k m x5 ((i + 1 : Nat) : Int) b (p + 1) o' off = some (q, off, p') ∧ Short q ∧ q.length ≤ 101 ∧ p ≤ p' ∧ p' ≤ p + ((d + 1 : Nat) : Int) + 3 := fun ⟨q, p', e, h1, h2, h3, h4⟩ => ⟨q, p', e, h1, h2, by omega, by omega⟩
  have hadd : ∀ row : S29, row.f8.length ≤ 1048576 → ∃ q p', spec_l20Part.l0 k m x5 ((i + 1 : Nat) : Int) b (p + 1) (o ++ [row]) off = some (q, off, p') ∧ Short q ∧ q.length ≤ 101 ∧ p ≤ p' ∧ p' ≤ p + ((d + 1 : Nat) : Int) + 3 := fun row hr => next <|
   ih (i + 1) k (o ++ [row]) (p + 1) (by omega) (by rw [List.length_append]; simp only [List.length_cons, List.length_nil]; omega) (fun _ => by rw [List.length_append]; simp only [List.length_cons, List.length_nil]; omega) (hs.append (Short.one hr)) (by omega) (by omega) (by omega)
  by_cases c1 : pk b p 3 > 0
  ·rw [if_pos c1, if_pos (by omega), if_pos (by omega)]
   exact hadd _ r0
  ·rw [if_neg c1]
   by_cases c2 : (o.length : Int) = 0
   ·rw [if_pos c2]
    by_cases c3 : (i : Int) = (x5.length : Int) - 1
    ·rw [if_pos c3, if_pos (by omega), if_pos (by omega)]
     exact hadd _ r0
    ·rw [if_neg c3]
     exact next <| ih (i + 1) k o (p + 1) (by omega) (by omega) (fun h => absurd h (by omega)) hs (by omega) (by omega) (by omega)
   ·rw [if_neg c2]
    exact next <| ih (i + 1) k o (p + 1) (by omega) (by omega) (fun h => by omega) hs (by omega) (by omega) (by omega)
theorem drawPart_eq {b : List Int} (hb : Bytes b) (hl : b.length ≤ 2000) {m p : Int} (hm0 : 0 ≤ m) (hm1 : m ≤ 65536) (hp : 0 ≤ p) (hp1 : p ≤ 10000) (k : Nat) (hk : 300 ≤ k) :
  ∃ q off p', spec_l20Part.f k b p m = some (q, off, p') ∧ Short q ∧ q.length ≤ 101 ∧ p ≤ p' ∧ p' ≤ p + 500 := by
 obtain ⟨a0, a1, a2, a3, a4, d, p1, e, ho, hd, g0, g1⟩ := drawLong_eq hb hl (p := p) hp hp1 (k := k) (by omega)
 unfold spec_l20Part.f
 simp only [e, Option.bind_some]
 rw [pick_eq hb hl (p := p1) (n := 6) (by omega) (by omega) (by omega) (by omega) (by omega)]
 have r0 := pk_range hb hl (p := p1) (n := 6) (by omega) (by omega) (by omega) (by omega)
 generalize pk b p1 6 = c at r0 ⊢
 simp only [Option.bind_some]
 rw [w64 (x := 1 + c) (by omega) (by omega)]
 obtain ⟨q, ok, e2, q1, q2, q3⟩ := cut_eq (1 + c) a0 a1 a2 a3 a4 d (by omega) (by omega) (by omega) ho k (by omega)
 simp only [e2, Option.bind_some]
 rw [pick_eq hb hl (p := p1 + 1) (n := 40) (by omega) (by omega) (by omega) (by omega) (by omega)]
 simp only [Option.bind_some]
 obtain ⟨z, p2, e3, h1, h2, h3, h4⟩ := drawPart_loop hb hl m hm0 hm1 q q3 q2 (pk b (p1 + 1) 40) q.length 0 k [] (p1 + 1 + 1) (by omega) (by simp) (fun h => by omega) Short.nil (by omega) (by omega) (by omega)
 exact ⟨z, _, p2, e3, h1, h2, by omega, by omega⟩

theorem drawPacket_end {b : List Int} (hb : Bytes b) (hl : b.length ≤ 2000) {m p : Int} (h0 : 0 ≤ p) (h1 : p ≤ 536870912) (hm0 : 0 ≤ m) (hm1 : m ≤ 65536) (x0 x1 x2 x3 x4 x5 : Int) (x6 x7 : Bool) (d : List Int) (hd : Bytes d) (hdl : d.length ≤ 60)
  (hx : (0 ≤ x0 ∧ x0 ≤ 70000) ∧ (0 ≤ x1 ∧ x1 ≤ 70000) ∧ (0 ≤ x2 ∧ x2 ≤ 70000) ∧ (0 ≤ x3 ∧ x3 ≤ 70000) ∧ (0 ≤ x4 ∧ x4 ≤ 70000) ∧ (0 ≤ x5 ∧ x5 ≤ 70000)) {k : Nat} (hk : 2 ≤ k) :
  ∃ a0 a1 a2 a3 a4 a5 a6 a7 r p', spec_l20Packet.j0 k m b p x0 x1 x2 x3 x4 x5 x6 x7 d = some (a0, a1, a2, a3, a4, a5, a6, a7, r, p') ∧ Bytes r ∧ r.length ≤ 60 ∧ p ≤ p' ∧ p' ≤ p + 3 ∧
   ((-70000 ≤ a0 ∧ a0 ≤ 70000) ∧ (-70000 ≤ a1 ∧ a1 ≤ 70000) ∧ (-70000 ≤ a2 ∧ a2 ≤ 70000) ∧ (-70000 ≤ a3 ∧ a3 ≤ 70000) ∧ (-70000 ≤ a4 ∧ a4 ≤ 70000) ∧ (-70000 ≤ a5 ∧ a5 ≤ 70000)) := by
 obtain ⟨k, rfl⟩ : ∃ j, k = j + 1 + 1 := ⟨k - 2, by omega⟩
 have hk1 : 1 ≤ k + 1 := by omega
 obtain ⟨o, p2, e2, g5, g6, g7⟩ := odd_eq hb hl (p := p) (n := m) (by omega) (by omega) hm0 hm1 hk1
 simp only [spec_l20Packet.j0, e2, Option.bind_some]
 rw [pick_eq hb hl (p := p2) (n := 5) (by omega) (by omega) (by omega) (by omega) hk1]
 simp only [Option.bind_some]
 rw [pick_eq hb hl (p := p2 + 1) (n := 2) (by omega) (by omega) (by omega) (by omega) hk1]
 have r5 := pk_range hb hl (p := p2 + 1) (n := 2) (by omega) (by omega) (by omega) (by omega)
 simp only [Option.bind_some]
 rw [w64 (x := pk b (p2 + 1) 2 * 65540) (by omega) (by omega), w64 (x := 65536 - pk b (p2 + 1) 2 * 65540) (by omega) (by omega), w64 (x := pk b (p2 + 1) 2 * 300) (by omega) (by omega), w64 (x := 256 - pk b (p2 + 1) 2 * 300) (by omega) (by omega), if_pos (show (49 : Nat) ≤ 281474976710656 by omega)]
 have z49 : Bytes (List.replicate 49 0) := fun x hx => by rw [(List.mem_replicate.mp hx).2]; decide
 split
 ·split
  ·exact ⟨_, _, _, _, _, _, _, _, _, _, rfl, hd, hdl, by omega, by omega, by omega⟩
  ·split
   ·exact ⟨_, _, _, _, _, _, _, _, _, _, rfl, hd, hdl, by omega, by omega, by omega⟩
   ·split
    ·exact ⟨_, _, _, _, _, _, _, _, _, _, rfl, z49, by simp, by omega, by omega, by omega⟩
    ·split
     ·exact ⟨_, _, _, _, _, _, _, _, _, _, rfl, Bytes.nil, by simp, by omega, by omega, by omega⟩
     ·exact ⟨_, _, _, _, _, _, _, _, _, _, rfl, hd, hdl, by omega, by omega, by omega⟩
 ·exact ⟨_, _, _, _, _, _, _, _, _, _, rfl, hd, hdl, by omega, by omega, by omega⟩
theorem drawPacket_eq {b : List Int} (hb : Bytes b) (hl : b.length ≤ 2000) {m p : Int} (h0 : 0 ≤ p) (h1 : p ≤ 268435456) (hm0 : 0 ≤ m) (hm1 : m ≤ 65536) {k : Nat} (hk : 20 ≤ k) :
  ∃ a0 a1 a2 a3 a4 a5 a6 a7 r p', spec_l20Packet.f k b p m = some (a0, a1, a2, a3, a4, a5, a6, a7, r, p') ∧ Bytes r ∧ r.length ≤ 60 ∧ p ≤ p' ∧ p' ≤ p + 60 ∧
   ((-70000 ≤ a0 ∧ a0 ≤ 70000) ∧ (-70000 ≤ a1 ∧ a1 ≤ 70000) ∧ (-70000 ≤ a2 ∧ a2 ≤ 70000) ∧ (-70000 ≤ a3 ∧ a3 ≤ 70000) ∧ (-70000 ≤ a4 ∧ a4 ≤ 70000) ∧ (-70000 ≤ a5 ∧ a5 ≤ 70000)) := by
 have hk1 : 1 ≤ k := by omega
 unfold spec_l20Packet.f
 rw [pick_eq hb hl h0 (by omega) (by omega) (by omega) hk1]
 simp only [Option.bind_some]
 rw [pick_eq hb hl (p := p + 1) (n := 5) (by omega) (by omega) (by omega) (by omega) hk1]
 simp only [Option.bind_some]
 rw [pick_eq hb hl (p := p + 1 + 1) (n := 4) (by omega) (by omega) (by omega) (by omega) hk1]
 simp only [Option.bind_some]
 rw [pick_eq hb hl (p := p + 1 + 1 + 1) (n := 6) (by omega) (by omega) (by omega) (by omega) hk1]
 simp only [Option.bind_some]
 rw [pick_eq hb hl (p := p + 1 + 1 + 1 + 1) (n := 4) (by omega) (by omega) (by omega) (by omega) hk1]
 simp only [Option.bind_some]
 rw [pick_eq hb hl (p := p + 1 + 1 + 1 + 1 + 1) (n := 12) (by omega) (by omega) (by omega) (by omega) hk1]
 simp only [Option.bind_some]
 have r0 := pk_range hb hl (p := p) (n := 5) (by omega) (by omega) (by omega) (by omega)
 have r1 := pk_range hb hl (p := p + 1) (n := 5) (by omega) (by omega) (by omega) (by omega)
 have r2 := pk_range hb hl (p := p + 1 + 1) (n := 4) (by omega) (by omega) (by omega) (by omega)
 have r3 := pk_range hb hl (p := p + 1 + 1 + 1) (n := 6) (by omega) (by omega) (by omega) (by omega)
 have r4 := pk_range hb hl (p := p + 1 + 1 + 1 + 1) (n := 4) (by omega) (by omega) (by omega) (by omega)
 have r5 := pk_range hb hl (p := p + 1 + 1 + 1 + 1 + 1) (n := 12) (by omega) (by omega) (by omega) (by omega)
 generalize pk b p 5 = x0 at r0 ⊢
 generalize pk b (p + 1) 5 = x1 at r1 ⊢
 generalize pk b (p + 1 + 1) 4 = x2 at r2 ⊢
 generalize pk b (p + 1 + 1 + 1) 6 = x3 at r3 ⊢
 generalize pk b (p + 1 + 1 + 1 + 1) 4 = x4 at r4 ⊢
 generalize pk b (p + 1 + 1 + 1 + 1 + 1) 12 = c at r5 ⊢
 obtain ⟨d, p1, e1, g1, g2, g3, g4⟩ := drawBytes_eq hb hl (p := p + 1 + 1 + 1 + 1 + 1 + 1) (n := c) (by omega) (by omega) (by omega) (by omega) (k := k) (by omega)
 simp only [e1, Option.bind_some]
 rw [pick_eq hb hl (p := p1) (n := 4) (by omega) (by omega) (by omega) (by omega) hk1]
 simp only [Option.bind_some]
 have hend : ∀ (p3 x5 : Int) (x6 x7 : Bool), p ≤ p3 → p3 ≤ p + 40 → 0 ≤ x5 ∧ x5 ≤ 70000 → ∃ a0 a1 a2 a3 a4 a5 a6 a7 r p', spec_l20Packet.j0 k m b p3 x0 x1 x2 x3 x4 x5 x6 x7 d = some (a0, a1, a2, a3, a4, a5, a6, a7, r, p') ∧ Bytes r ∧ r.length ≤ 60 ∧ p ≤ p' ∧ p' ≤ p + 60 ∧
   ((-70000 ≤ a0 ∧ a0 ≤ 70000) ∧ (-70000 ≤ a1 ∧ a1 ≤ 70000) ∧ (-70000 ≤ a2 ∧ a2 ≤ 70000) ∧ (-70000 ≤ a3 ∧ a3 ≤ 70000) ∧ (-70000 ≤ a4 ∧ a4 ≤ 70000) ∧ (-70000 ≤ a5 ∧ a5 ≤ 70000)) := by
  intro p3 x5 x6 x7 q1 q2 q3
  obtain ⟨a0, a1, a2, a3, a4, a5, a6, a7, r, p', e, h2, h3, h4, h5, h6⟩ := drawPacket_end hb hl (p := p3) (m := m) (by omega) (by omega) hm0 hm1 x0 x1 x2 x3 x4 x5 x6 x7 d g1 (by omega) ⟨by omega, by omega, by omega, by omega, by omega, q3⟩ (k := k) (by omega)
  exact ⟨a0, a1, a2, a3, a4, a5, a6, a7, r, p', e, h2, h3, by omega, by omega, h6⟩
 split
 ·exact hend _ _ _ _ (by omega) (by omega) (by omega)
 ·split
  ·rw [pick_eq hb hl (p := p1 + 1) (n := 20) (by omega) (by omega) (by omega) (by omega) hk1]
   simp only [Option.bind_some]
   have r6 := pk_range hb hl (p := p1 + 1) (n := 20) (by omega) (by omega) (by omega) (by omega)
   split
   ·rw [pick_eq hb hl (p := p1 + 1 + 1) (n := 2) (by omega) (by omega) (by omega) (by omega) hk1]
    simp only [Option.bind_some]
    exact hend _ _ _ _ (by omega) (by omega) (by omega)
   ·exact hend _ _ _ _ (by omega) (by omega) (by omega)
  ·exact hend _ _ _ _ (by omega) (by omega) (by omega)

theorem l5Copy_eq (a0 a1 a2 a3 a4 a5 : Int) (a6 a7 : Bool) (l : List Int) (h : l.length ≤ 1048576) : spec_l5Copy.f a0 a1 a2 a3 a4 a5 a6 a7 l = some (a0, a1, a2, a3, a4, a5, a6, a7, l) := by
 unfold spec_l5Copy.f
 simp only [Option.bind_some, List.nil_append, List.length_nil]
 rw [if_pos (by omega)]
theorem Short.snoc {p : List S29} (h : Short p) {x : S29} (hx : x.f8.length ≤ 1048576) : Short (p ++ [x]) := h.append (Short.one hx)
theorem put_end {k : Nat} {o : List S29} {u : Int} (ho : Short o) (hn : o.length ≤ 1048576) (hk : 2 * o.length < k) {m : Nat} (hm : o.length ≤ m) :
  ∃ r1 r2 r3, ((spec_PartOk.f k o u).bind fun t => (if t = true then (some (o, u, true)) else (some (([] : List S29), 0, false)))) = some (r1, r2, r3) ∧ Short r1 ∧ r1.length ≤ m := by
 obtain ⟨r, e, _⟩ := specPartOk_eq o ho hn u k hk
 rw [e]
 simp only [Option.bind_some]
 cases r with
 | true => exact ⟨o, u, true, by rw [if_pos rfl], ho, hm⟩
 | false => exact ⟨[], 0, false, by rw [if_neg (by decide)], Short.nil, Nat.zero_le _⟩
theorem putCopy_loop (p : List S29) (hp : Short p) (hn : p.length ≤ 1000) (q : S29) (hq : q.f8.length ≤ 1048576) (u v : Int) : ∀ (d i k : Nat) (x7 : Bool) (o : List S29), i + d = p.length → 2 * d + 2 * p.length + 20 < k → Short o → o.length ≤ i + 1 → (x7 = false → o.length ≤ i) →
  ∃ r1 r2 r3, spec_PartPut.l1 k x7 (i : Int) p v q.f0 q.f1 q.f2 q.f3 q.f4 q.f5 q.f6 q.f7 q.f8 o u = some (r1, r2, r3) ∧ Short r1 ∧ r1.length ≤ p.length + 1 := by
 intro d
 induction d with
 | zero =>
  intro i k x7 o hd hk ho h1 h2
  obtain ⟨k, rfl⟩ : ∃ m, k = m + 1 := ⟨k - 1, by omega⟩
  simp only [spec_PartPut.l1]
  rw [if_neg (by omega)]
  cases x7 with
  | true => rw [if_pos rfl]; exact put_end ho (by omega) (by omega) (by omega)
  | false =>
   have h3 := h2 rfl
   rw [if_neg (by decide), l5Copy_eq _ _ _ _ _ _ _ _ _ hq]
   simp only [Option.bind_some]
   rw [if_pos (by omega)]
   have hl : (o ++ [(⟨q.f0, q.f1, q.f2, q.f3, q.f4, q.f5, q.f6, q.f7, q.f8⟩ : S29)]).length = o.length + 1 := by rw [List.length_append]; rfl
   exact put_end (ho.snoc (by exact hq)) (by omega) (by omega) (by omega)
 | succ d ih =>
  intro i k x7 o hd hk ho h1 h2
  obtain ⟨k, rfl⟩ : ∃ m, k = m + 1 + 1 := ⟨k - 2, by omega⟩
  have e1 : wrap64 ((i : Int) + 1) = ((i + 1 : Nat) : Int) := by rw [w64 (by omega) (by omega)]; rfl
  have r0 := hp.rd (i : Int)
  have one : ∀ (x : S29) (o : List S29), (o ++ [x]).length = o.length + 1 := fun x o => by rw [List.length_append]; rfl
  have keep : ∀ b : Bool, (b = false → o.length ≤ i) → ∃ r1 r2 r3, spec_PartPut.j3 (k + 1) b (i : Int) false p v q.f0 q.f1 q.f2 q.f3 q.f4 q.f5 q.f6 q.f7 q.f8 o u = some (r1, r2, r3) ∧ Short r1 ∧ r1.length ≤ p.length + 1 := fun b hb => by
   simp only [spec_PartPut.j3]
   rw [if_neg (by decide), if_pos (by omega), if_pos (by omega), l5Copy_eq _ _ _ _ _ _ _ _ _ r0]
   simp only [Option.bind_some]
   rw [if_pos (by omega), e1]
   exact ih (i + 1) k b _ (by omega) (by omega) (ho.snoc (by exact r0)) (by rw [one]; omega) (fun h => by rw [one]; have := hb h; omega)
  simp only [spec_PartPut.l1]
  rw [if_pos (by omega)]
  cases x7 with
  | true => rw [if_pos rfl]; exact keep true (fun h => by cases h)
  | false =>
   have h3 := h2 rfl
   rw [if_neg (by decide), if_pos (by omega)]
   by_cases c : q.f5 < (rd_T29 p (i : Int)).f5
   ·rw [decide_eq_true c]
    simp only [spec_PartPut.j3, if_true]
    rw [l5Copy_eq _ _ _ _ _ _ _ _ _ hq]
    simp only [Option.bind_some]
    rw [if_pos (by omega), if_pos (by omega), if_pos (by omega), l5Copy_eq _ _ _ _ _ _ _ _ _ r0]
    simp only [Option.bind_some]
    rw [if_pos (by rw [one]; omega), e1]
    exact ih (i + 1) k true _ (by omega) (by omega) ((ho.snoc (by exact hq)).snoc (by exact r0)) (by rw [one, one]; omega) (fun h => by cases h)
   ·rw [decide_eq_false c]
    exact keep false (fun _ => h3)
theorem putHave_loop (p : List S29) (hp : Short p) (hn : p.length ≤ 1000) (q : S29) (hq : q.f8.length ≤ 1048576) (u v : Int) : ∀ (d i k : Nat) (x7 : Bool), i + d = p.length → d + 4 * p.length + 30 < k →
  ∃ r1 r2 r3, spec_PartPut.l0 k x7 (i : Int) p v q.f0 q.f1 q.f2 q.f3 q.f4 q.f5 q.f6 q.f7 q.f8 u = some (r1, r2, r3) ∧ Short r1 ∧ r1.length ≤ p.length + 1 := by
 intro d
 induction d with
 | zero =>
  intro i k x7 hd hk
  obtain ⟨k, rfl⟩ : ∃ m, k = m + 1 := ⟨k - 1, by omega⟩
  simp only [spec_PartPut.l0]
  rw [if_neg (by omega)]
  exact putCopy_loop p hp hn q hq u v p.length 0 k x7 [] (by omega) (by omega) Short.nil (by simp) (fun _ => by simp)
 | succ d ih =>
  intro i k x7 hd hk
  obtain ⟨k, rfl⟩ : ∃ m, k = m + 1 := ⟨k - 1, by omega⟩
  have e1 : wrap64 ((i : Int) + 1) = ((i + 1 : Nat) : Int) := by rw [w64 (by omega) (by omega)]; rfl
  simp only [spec_PartPut.l0]
  rw [if_pos (by omega), if_pos (by omega), e1]
  have next := fun b => ih (i + 1) k b (by omega) (by omega)
  split
  ·split
   ·split
    ·exact next _
    ·exact next _
   ·exact next _
  ·exact next _
theorem partPut_eq (p : List S29) (hp : Short p) (hn : p.length ≤ 1000) (v a0 a1 a2 a3 a4 a5 : Int) (a6 a7 : Bool) (l : List Int) (hq : l.length ≤ 1048576) (k : Nat) (hk : 7000 ≤ k) :
  ∃ r1 r2 r3, spec_PartPut.f k p v a0 a1 a2 a3 a4 a5 a6 a7 l = some (r1, r2, r3) ∧ Short r1 ∧ r1.length ≤ p.length + 1 := by
 obtain ⟨k, rfl⟩ : ∃ m, k = m + 1 := ⟨k - 1, by omega⟩
 obtain ⟨r, e, h⟩ := specPartOk_eq p hp (by omega) v (k + 1) (by omega)
 have no : ∃ r1 r2 r3, spec_PartPut.j0 (k + 1) true p v a0 a1 a2 a3 a4 a5 a6 a7 l = some (r1, r2, r3) ∧ Short r1 ∧ r1.length ≤ p.length + 1 := by
  simp only [spec_PartPut.j0, if_true]
  exact ⟨[], 0, false, rfl, Short.nil, Nat.zero_le _⟩
 unfold spec_PartPut.f
 simp only [e, specPacketOk_eq, Option.bind_some]
 cases r with
 | false => rw [if_neg (by decide)]; exact no
 | true =>
  have hp0 := (h.mp rfl).1
  rw [if_pos rfl]
  split
  ·rw [if_pos (by omega)]
   have hs := l5Same_eq (rd_T29 p 0) ⟨a0, a1, a2, a3, a4, a5, a6, a7, l⟩
   simp only at hs
   rw [hs]
   simp only [Option.bind_some]
   cases sameB (rd_T29 p 0) ⟨a0, a1, a2, a3, a4, a5, a6, a7, l⟩ with
   | false => exact no
   | true =>
    simp only [spec_PartPut.j0, Bool.not_true]
    rw [if_neg (by decide)]
    exact putHave_loop p hp hn ⟨a0, a1, a2, a3, a4, a5, a6, a7, l⟩ hq v v p.length 0 k false (by omega) (by omega)
  ·exact no
theorem partWhole_loop (p : List S29) (hp : Short p) (hn : p.length ≤ 1001) (v a0 a1 a2 a3 a4 a5 : Int) (a6 a7 : Bool) : ∀ (d i k : Nat) (o : List Int), i + d = p.length → d < k → o.length ≤ 1048576 * i →
  ∃ t, spec_PartWhole.l0 k (i : Int) p v a0 a1 a2 a3 a4 a5 a6 a7 o = some t := by
 intro d
 induction d with
 | zero =>
  intro i k o hd hk ho
  obtain ⟨k, rfl⟩ : ∃ m, k = m + 1 := ⟨k - 1, by omega⟩
  simp only [spec_PartWhole.l0]
  rw [if_neg (by omega)]
  exact ⟨_, rfl⟩
 | succ d ih =>
  intro i k o hd hk ho
  obtain ⟨k, rfl⟩ : ∃ m, k = m + 1 := ⟨k - 1, by omega⟩
  have e1 : wrap64 ((i : Int) + 1) = ((i + 1 : Nat) : Int) := by rw [w64 (by omega) (by omega)]; rfl
  have r0 := hp.rd (i : Int)
  simp only [spec_PartWhole.l0]
  rw [if_pos (by omega), if_pos (by omega), e1]
  split
  ·rw [if_pos (by omega)]
   exact ih (i + 1) k _ (by omega) (by omega) (by rw [List.length_append]; omega)
  ·exact ⟨_, rfl⟩
theorem partWhole_eq (p : List S29) (hp : Short p) (hn : p.length ≤ 1001) (v : Int) (k : Nat) (hk : 7000 ≤ k) : ∃ t, spec_PartWhole.f k p v = some t := by
 obtain ⟨k, rfl⟩ : ∃ m, k = m + 1 := ⟨k - 1, by omega⟩
 obtain ⟨r, e, h⟩ := specPartOk_eq p hp (by omega) v (k + 1) (by omega)
 unfold spec_PartWhole.f
 simp only [e, Option.bind_some]
 cases r with
 | false => rw [if_neg (by decide)]; simp only [spec_PartWhole.j0, if_true]; exact ⟨_, rfl⟩
 | true =>
  have hp0 := (h.mp rfl).1
  have w1 : wrap64 ((p.length : Int) - 1) = (p.length : Int) - 1 := w64 (by omega) (by omega)
  rw [if_pos rfl, w1, if_pos (by omega), if_pos (by omega)]
  simp only [spec_PartWhole.j0]
  split
  ·exact ⟨_, rfl⟩
  ·rw [if_pos (by omega)]
   exact partWhole_loop p hp hn v _ _ _ _ _ _ _ _ p.length 0 k [] (by omega) (by omega) (by simp)
theorem l5Part_loop (p : List S29) (hp : Short p) (hn : p.length ≤ 1000) (v u : Int) : ∀ (d i k : Nat) (o : List S29), i + d = p.length → d < k → o.length ≤ i → Short o →
  ∃ r, spec_l5Part.l0 k (i : Int) p v o u = some (r, u) ∧ Short r ∧ r.length ≤ p.length := by
 intro d
 induction d with
 | zero =>
  intro i k o hd hk hl ho
  obtain ⟨k, rfl⟩ : ∃ m, k = m + 1 := ⟨k - 1, by omega⟩
  simp only [spec_l5Part.l0]
  rw [if_neg (by omega)]
  exact ⟨_, rfl, ho, by omega⟩
 | succ d ih =>
  intro i k o hd hk hl ho
  obtain ⟨k, rfl⟩ : ∃ m, k = m + 1 := ⟨k - 1, by omega⟩
  have e1 : wrap64 ((i : Int) + 1) = ((i + 1 : Nat) : Int) := by rw [w64 (by omega) (by omega)]; rfl
  have r0 := hp.rd (i : Int)
  simp only [spec_l5Part.l0]
  rw [if_pos (by omega), if_pos (by omega), l5Copy_eq _ _ _ _ _ _ _ _ _ r0]
  simp only [Option.bind_some]
  rw [if_pos (by omega), e1]
  exact ih (i + 1) k _ (by omega) (by omega) (by rw [List.length_append]; simp only [List.length_cons, List.length_nil]; omega) (ho.snoc (by exact r0))
theorem l5Part_eq (p : List S29) (hp : Short p) (hn : p.length ≤ 1000) (v : Int) (k : Nat) (hk : 7000 ≤ k) : ∃ r, spec_l5Part.f k p v = some (r, v) ∧ Short r ∧ r.length ≤ p.length :=
 l5Part_loop p hp hn v v p.length 0 k [] (by omega) (by omega) (by simp) Short.nil
/-- Parts of bounded size. -/
def Narrow (n : Nat) (l : List S36) : Prop := ∀ x ∈ l, Short x.f0 ∧ x.f0.length ≤ n
theorem Narrow.nil (n : Nat) : Narrow n [] := fun x hx => by cases hx
theorem Narrow.mono {n m : Nat} {l : List S36} (h : Narrow n l) (hn : n ≤ m) : Narrow m l := fun x hx => ⟨(h x hx).1, Nat.le_trans (h x hx).2 hn⟩
theorem Narrow.snoc {n : Nat} {l : List S36} (h : Narrow n l) {x : S36} (hx : Short x.f0) (hl : x.f0.length ≤ n) : Narrow n (l ++ [x]) := fun y hy => by
 rcases List.mem_append.mp hy with hy | hy
 ·exact h y hy
 ·rw [List.mem_singleton.mp hy]; exact ⟨hx, hl⟩
theorem Narrow.append {n : Nat} {l m : List S36} (h : Narrow n l) (h' : Narrow n m) : Narrow n (l ++ m) := fun y hy => (List.mem_append.mp hy).elim (h y) (h' y)
theorem Narrow.drop {n : Nat} {l : List S36} (h : Narrow n l) (k : Nat) : Narrow n (l.drop k) := fun y hy => h y (List.mem_of_mem_drop hy)
theorem Narrow.take {n : Nat} {l : List S36} (h : Narrow n l) (k : Nat) : Narrow n (l.take k) := fun y hy => h y (List.mem_of_mem_take hy)
theorem Narrow.rd {n : Nat} {l : List S36} (h : Narrow n l) {i : Nat} (hi : i < l.length) : Short (rd_T36 l (i : Int)).f0 ∧ (rd_T36 l (i : Int)).f0.length ≤ n := by
 rw [likeRd l i hi]; exact h _ (List.getElem_mem hi)
theorem Narrow.wide {n : Nat} {l : List S36} (h : Narrow n l) (hn : n ≤ 1048576) : Wide l := fun x hx => ⟨(h x hx).1, Nat.le_trans (h x hx).2 hn⟩
theorem hear_end (x9 : List S36) (b : Bool) {n m : Nat} (h : Narrow n x9) (hl : x9.length ≤ m) :
  ∃ r1 t, (if (x9.length : Int) > 3 then (some (x9.drop 1, (0 : Int), (0 : Int), (0 : Int), (0 : Int), (0 : Int), (0 : Int), false, false, ([] : List Int), b)) else (some (x9, 0, 0, 0, 0, 0, 0, false, false, ([] : List Int), b))) = some (r1, t) ∧ Narrow n r1 ∧ r1.length ≤ m := by
 split
 ·exact ⟨_, _, rfl, h.drop 1, by rw [List.length_drop]; omega⟩
 ·exact ⟨_, _, rfl, h, hl⟩
theorem hear_loop (l : List S36) (n : Nat) (hn : n ≤ 900) (hl : l.length ≤ 100) (hw : Narrow n l) (hp : ∀ i : Nat, i < l.length → 0 < (rd_T36 l (i : Int)).f0.length) (x2 : Int) (x10 : Bool) (a0 a1 a2 a3 a4 a5 : Int) (a6 a7 : Bool) (q : List Int) (hq : q.length ≤ 1048576) : ∀ (d i k : Nat) (x9 : List S36) (x11 x13 : Bool), i + d = l.length → 2 * d + 7010 ≤ k → Narrow (n + 1) x9 → x9.length ≤ i →
  ∃ r1 t, spec_PartsHear.l0 k l x2 x9 x10 x11 x13 (i : Int) a0 a1 a2 a3 a4 a5 a6 a7 q = some (r1, t) ∧ Narrow (n + 1) r1 ∧ r1.length ≤ l.length + 1 := by
 intro d
 induction d with
 | zero =>
  intro i k x9 x11 x13 hd hk h9 hi
  obtain ⟨k, rfl⟩ : ∃ m, k = m + 1 := ⟨k - 1, by omega⟩
  simp only [spec_PartsHear.l0]
  rw [if_neg (by omega), l5Copy_eq _ _ _ _ _ _ _ _ _ hq]
  simp only [Option.bind_some]
  cases x10 with
  | true => rw [if_pos rfl]; exact ⟨_, _, rfl, h9, by omega⟩
  | false =>
   rw [if_neg (by decide)]
   cases x11 with
   | true => rw [if_pos rfl]; exact hear_end x9 x13 h9 (by omega)
   | false =>
    rw [if_neg (by decide), if_pos (by omega)]
    exact hear_end _ x13 (h9.snoc (Short.one (by exact hq)) (by simp)) (by rw [List.length_append]; simp only [List.length_cons, List.length_nil]; omega)
 | succ d ih =>
  intro i k x9 x11 x13 hd hk h9 hi
  obtain ⟨k, rfl⟩ : ∃ m, k = m + 1 + 1 := ⟨k - 2, by omega⟩
  have e1 : wrap64 ((i : Int) + 1) = ((i + 1 : Nat) : Int) := by rw [w64 (by omega) (by omega)]; rfl
  have hil : i < l.length := by omega
  obtain ⟨hs, hm⟩ := hw.rd hil
  have h0 := hp i hil
  have one : ∀ x : S36, (x9 ++ [x]).length = x9.length + 1 := fun x => by rw [List.length_append]; rfl
  have other : ∃ r1 t, spec_PartsHear.j3 (k + 1) l x2 x9 x10 x11 x13 (i : Int) false a0 a1 a2 a3 a4 a5 a6 a7 q (rd_T36 l (i : Int)).f0 (rd_T36 l (i : Int)).f1 = some (r1, t) ∧ Narrow (n + 1) r1 ∧ r1.length ≤ l.length + 1 := by
   simp only [spec_PartsHear.j3]
   obtain ⟨r, e, hr, hr2⟩ := l5Part_eq _ hs (by omega) (rd_T36 l (i : Int)).f1 k (by omega)
   rw [if_neg (by decide), e]
   simp only [Option.bind_some]
   rw [if_pos (by omega), e1]
   exact ih (i + 1) k _ x11 x13 (by omega) (by omega) (h9.snoc (by exact hr) (by show r.length ≤ n + 1; omega)) (by rw [one]; omega)
  simp only [spec_PartsHear.l0]
  rw [if_pos (by omega), if_pos (by omega)]
  split
  ·rw [e1]; exact ih (i + 1) (k + 1) x9 x11 x13 (by omega) (by omega) h9 (by omega)
  ·cases x10 with
   | true => rw [if_pos rfl]; exact other
   | false =>
    rw [if_neg (by decide), if_pos (by omega)]
    have hss := l5Same_eq (rd_T29 (rd_T36 l (i : Int)).f0 0) ⟨a0, a1, a2, a3, a4, a5, a6, a7, q⟩
    simp only at hss
    rw [hss]
    simp only [Option.bind_some]
    cases sameB (rd_T29 (rd_T36 l (i : Int)).f0 0) ⟨a0, a1, a2, a3, a4, a5, a6, a7, q⟩ with
    | false => exact other
    | true =>
     simp only [spec_PartsHear.j3, if_true]
     obtain ⟨p1, p2, p3, e, hr, hr2⟩ := partPut_eq _ hs (by omega) (rd_T36 l (i : Int)).f1 a0 a1 a2 a3 a4 a5 a6 a7 q hq k (by omega)
     rw [e]
     simp only [Option.bind_some]
     obtain ⟨u, e2⟩ := partWhole_eq p1 hr (by omega) p2 k (by omega)
     rw [e2]
     simp only [Option.bind_some]
     have next := fun b => ih (i + 1) k x9 true b (by omega) (by omega) h9 (by omega)
     rw [e1]
     cases p3 with
     | false => rw [if_neg (by decide)]; exact next _
     | true =>
      rw [if_pos rfl]
      split
      ·exact next _
      ·rw [if_pos (by omega)]
       exact ih (i + 1) k _ true _ (by omega) (by omega) (h9.snoc (by exact hr) (by show p1.length ≤ n + 1; omega)) (by rw [one]; omega)
theorem hear_eq (l : List S36) (n : Nat) (hn : n ≤ 900) (hl : l.length ≤ 100) (hw : Narrow n l) (a0 a1 a2 a3 a4 a5 : Int) (a6 a7 : Bool) (q : List Int) (hq : q.length ≤ 1048576) (x2 : Int) (k : Nat) (hk : 2200000 ≤ k) :
  ∃ r1 t, spec_PartsHear.f k l a0 a1 a2 a3 a4 a5 a6 a7 q x2 = some (r1, t) ∧ Narrow (n + 1) r1 ∧ r1.length ≤ l.length + 1 := by
 obtain ⟨k, rfl⟩ : ∃ m, k = m + 1 + 1 + 1 := ⟨k - 3, by omega⟩
 have hlm : l.length * (l.length + 3) ≤ 100 * 103 := Nat.mul_le_mul hl (by omega)
 obtain ⟨r, e, h⟩ := specPartsOk_eq l (by omega) (hw.wide (by omega)) (k + 1 + 1 + 1) (by omega)
 have no : ∃ r1 t, spec_PartsHear.j0 (k + 1 + 1 + 1) l x2 [] true a0 a1 a2 a3 a4 a5 a6 a7 q = some (r1, t) ∧ Narrow (n + 1) r1 ∧ r1.length ≤ l.length + 1 := by
  simp only [spec_PartsHear.j0, if_true]
  exact ⟨_, _, rfl, Narrow.nil _, Nat.zero_le _⟩
 unfold spec_PartsHear.f
 simp only [e, specPacketOk_eq, l1In_eq, Option.bind_some]
 cases r with
 | false => rw [if_neg (by decide)]; exact no
 | true =>
  have hp : ∀ i : Nat, i < l.length → 0 < (rd_T36 l (i : Int)).f0.length := fun i hi => ((h.mp rfl).1 i (Nat.zero_le _) hi).1.1
  rw [if_pos rfl]
  split
  ·cases (decide (0 ≤ x2 ∧ x2 ≤ 999985)) with
   | false => exact no
   | true =>
    simp only [spec_PartsHear.j0, spec_PartsHear.j1, Bool.not_true, Bool.false_eq_true, if_false]
    have go := fun b => hear_loop l n hn hl hw hp x2 b a0 a1 a2 a3 a4 a5 a6 a7 q hq l.length 0 (k + 1) [] false false (by omega) (by omega) (Narrow.nil _) (by simp)
    split
    ·exact go _
    ·exact go _
  ·exact no
theorem parts_end {b : List Int} (hb : Bytes b) (hl : b.length ≤ 2000) (x6 : List S36) (x8 : List S29) (h8 : 0 < x8.length) (h8b : x8.length ≤ 100) (p : Int) (hp : 0 ≤ p) (hp1 : p ≤ 100000) (k : Nat) (hk : 100 ≤ k) :
  ∃ t, spec_l20Parts.j1 k x6 x8 b p = some (x6, t) := by
 obtain ⟨k, rfl⟩ : ∃ m, k = m + 1 := ⟨k - 1, by omega⟩
 simp only [spec_l20Parts.j1]
 rw [pick_eq hb hl (p := p) (n := 4) (by omega) (by omega) (by omega) (by omega) (by omega)]
 simp only [Option.bind_some]
 split
 ·obtain ⟨a0, a1, a2, a3, a4, a5, a6, a7, r, p1, e, _⟩ := drawPacket_eq hb hl (m := 6) (p := p + 1) (by omega) (by omega) (by omega) (by omega) (k := k) (by omega)
  simp only [e, Option.bind_some]
  exact ⟨_, rfl⟩
 ·rw [pick_eq hb hl (p := p + 1) (n := (x8.length : Int)) (by omega) (by omega) (by omega) (by omega) (by omega)]
  have r0 := pk_range hb hl (p := p + 1) (n := (x8.length : Int)) (by omega) (by omega) (by omega) (by omega)
  simp only [Option.bind_some]
  rw [if_pos r0.1, if_pos r0.2]
  exact ⟨_, rfl⟩
theorem parts_loop {b : List Int} (hb : Bytes b) (hl : b.length ≤ 2000) (x8 : List S29) (h8 : 0 < x8.length) (h8b : x8.length ≤ 100) (h8s : Short x8) : ∀ (d k : Nat) (n : Nat) (x6 : List S36) (p : Int), n + d ≤ 10 → d + 2300000 ≤ k → Narrow n x6 → x6.length ≤ n → 0 ≤ p → p ≤ 9000 - 100 * (d : Int) →
  ∃ r1 t, spec_l20Parts.l0 k 2 x6 x8 (d : Int) b p = some (r1, t) ∧ Narrow 101 r1 ∧ r1.length ≤ 21 := by
 intro d
 induction d with
 | zero =>
  intro k n x6 p hn hk h6 h6l hp hp1
  obtain ⟨k, rfl⟩ : ∃ m, k = m + 1 := ⟨k - 1, by omega⟩
  simp only [spec_l20Parts.l0]
  rw [if_neg (by omega)]
  obtain ⟨o, p1, e, g0, g1, _⟩ := odd_eq hb hl (p := p) (n := 2) (by omega) (by omega) (by omega) (by omega) (k := k) (by omega)
  simp only [e, Option.bind_some]
  cases o with
  | false =>
   rw [if_neg (by decide)]
   obtain ⟨t, et⟩ := parts_end hb hl x6 x8 h8 h8b p1 (by omega) (by omega) k (by omega)
   exact ⟨_, t, et, h6.mono (by omega), by omega⟩
  | true =>
   obtain ⟨q, off, p2, e2, hq, hql, g2, g3⟩ := drawPart_eq hb hl (m := 1) (p := p1) (by omega) (by omega) (by omega) (by omega) k (by omega)
   have e6 : (x6 ++ x6).length = x6.length + x6.length := List.length_append ..
   rw [if_pos rfl, if_pos (by omega)]
   simp only [e2, Option.bind_some]
   rw [if_pos (by omega)]
   obtain ⟨t, et⟩ := parts_end hb hl (x6 ++ x6 ++ [(⟨q, off⟩ : S36)]) x8 h8 h8b p2 (by omega) (by omega) k (by omega)
   exact ⟨_, t, et, ((h6.append h6).mono (by omega)).snoc hq hql, by rw [List.length_append, e6]; simp only [List.length_cons, List.length_nil]; omega⟩
 | succ d ih =>
  intro k n x6 p hn hk h6 h6l hp hp1
  obtain ⟨k, rfl⟩ : ∃ m, k = m + 1 := ⟨k - 1, by omega⟩
  have e1 : wrap64 (((d + 1 : Nat) : Int) - 1) = (d : Int) := by rw [w64 (by omega) (by omega)]; omega
  simp only [spec_l20Parts.l0]
  rw [if_pos (by omega), pick_eq hb hl (p := p) (n := (x8.length : Int)) (by omega) (by omega) (by omega) (by omega) (by omega)]
  have r0 := pk_range hb hl (p := p) (n := (x8.length : Int)) (by omega) (by omega) (by omega) (by omega)
  simp only [Option.bind_some]
  rw [if_pos r0.1, if_pos r0.2, pick_eq hb hl (p := p + 1) (n := 3) (by omega) (by omega) (by omega) (by omega) (by omega)]
  simp only [Option.bind_some, e1]
  split
  ·obtain ⟨a0, a1, a2, a3, a4, a5, a6, a7, r, p1, e, _, hr, g0, g1, _⟩ := drawPacket_eq hb hl (m := 0) (p := p + 1 + 1) (by omega) (by omega) (by omega) (by omega) (k := k) (by omega)
   simp only [e, Option.bind_some]
   rw [pick_eq hb hl (p := p1) (n := 12) (by omega) (by omega) (by omega) (by omega) (by omega)]
   simp only [Option.bind_some]
   obtain ⟨r1, t, e2, hr1, hr2⟩ := hear_eq x6 n (by omega) (by omega) h6 a0 a1 a2 a3 a4 a5 a6 a7 r (by omega) (pk b p1 12) k (by omega)
   simp only [e2, Option.bind_some]
   exact ih k (n + 1) r1 (p1 + 1) (by omega) (by omega) hr1 (by omega) (by omega) (by omega)
  ·rw [pick_eq hb hl (p := p + 1 + 1) (n := 12) (by omega) (by omega) (by omega) (by omega) (by omega)]
   simp only [Option.bind_some]
   obtain ⟨r1, t, e2, hr1, hr2⟩ := hear_eq x6 n (by omega) (by omega) h6 (rd_T29 x8 (pk b p x8.length)).f0 (rd_T29 x8 (pk b p x8.length)).f1 (rd_T29 x8 (pk b p x8.length)).f2 (rd_T29 x8 (pk b p x8.length)).f3 (rd_T29 x8 (pk b p x8.length)).f4 (rd_T29 x8 (pk b p x8.length)).f5 (rd_T29 x8 (pk b p x8.length)).f6 (rd_T29 x8 (pk b p x8.length)).f7 (rd_T29 x8 (pk b p x8.length)).f8 (h8s.rd _) (pk b (p + 1 + 1) 12) k (by omega)
   simp only [e2, Option.bind_some]
   exact ih k (n + 1) r1 (p + 1 + 1 + 1) (by omega) (by omega) hr1 (by omega) (by omega) (by omega)
theorem drawParts_eq {b : List Int} (hb : Bytes b) (hl : b.length ≤ 2000) (k : Nat) (hk : 2400000 ≤ k) :
  ∃ r1 t, spec_l20Parts.f k b 0 2 = some (r1, t) ∧ Narrow 101 r1 ∧ r1.length ≤ 21 := by
 obtain ⟨a0, a1, a2, a3, a4, d, p1, e, ho, hd, g0, g1⟩ := drawLong_eq hb hl (p := 0) (by omega) (by omega) (k := k) (by omega)
 unfold spec_l20Parts.f
 simp only [e, Option.bind_some]
 rw [pick_eq hb hl (p := p1) (n := 6) (by omega) (by omega) (by omega) (by omega) (by omega)]
 have r0 := pk_range hb hl (p := p1) (n := 6) (by omega) (by omega) (by omega) (by omega)
 generalize pk b p1 6 = c at r0 ⊢
 simp only [Option.bind_some]
 rw [w64 (x := 1 + c) (by omega) (by omega)]
 obtain ⟨q, ok, e2, q1, q2, q3⟩ := cut_eq (1 + c) a0 a1 a2 a3 a4 d (by omega) (by omega) (by omega) ho k (by omega)
 simp only [e2, Option.bind_some]
 rw [pick_eq hb hl (p := p1 + 1) (n := 7) (by omega) (by omega) (by omega) (by omega) (by omega)]
 have r1 := pk_range hb hl (p := p1 + 1) (n := 7) (by omega) (by omega) (by omega) (by omega)
 simp only [Option.bind_some]
 obtain ⟨m, hm⟩ : ∃ m : Nat, pk b (p1 + 1) 7 = (m : Int) := ⟨(pk b (p1 + 1) 7).toNat, by omega⟩
 rw [hm]
 exact parts_loop hb hl q q1 q2 q3 m k 0 [] (p1 + 1 + 1) (by omega) (by omega) (Narrow.nil _) (by simp) (by omega) (by omega)

theorem implbytesOf_loop : ∀ (i k : Nat) (v : Int) (o : List Int), i < k → i ≤ o.length → o.length < 4611686018427387904 →
  impl_bytesOf.l0 k v o ((i : Int) - 1) = some (be i v ++ o.drop i)
 | 0, k, v, o, hk, hi, hl => by
  obtain ⟨k, rfl⟩ : ∃ m, k = m + 1 := ⟨k - 1, by omega⟩
  simp only [impl_bytesOf.l0]
  rw [if_neg (by omega)]; simp [be]
 | i + 1, k, v, o, hk, hi, hl => by
  obtain ⟨k, rfl⟩ : ∃ m, k = m + 1 := ⟨k - 1, by omega⟩
  have e1 : ((i + 1 : Nat) : Int) - 1 = (i : Int) := by omega
  have e2 : wrap64 ((i : Int) - 1) = (i : Int) - 1 := w64 (by omega) (by omega)
  have e3 : ((i : Int)).toNat = i := by omega
  rw [e1]
  simp only [impl_bytesOf.l0]
  rw [if_pos (by omega), if_pos (by omega), if_pos (by omega), e2, implbytesOf_loop i k _ _ (by omega) (by simp; omega) (by simpa using hl), e3, drop_rd _ i (by simp; omega), rd_set_eq _ _ _ (by omega), List.drop_set_of_lt (by omega)]
  simp [be]
theorem implbytesOf_eq (v n : Int) (h0 : 0 ≤ n) (h1 : n ≤ 1073741824) (k : Nat) (hk : n.toNat < k) : impl_bytesOf.f k v n = some (be n.toNat v) := by
 unfold impl_bytesOf.f
 rw [if_pos h0, if_pos (by omega), w64 (by omega) (by omega)]
 obtain ⟨n, rfl⟩ : ∃ m : Nat, n = m := ⟨n.toNat, by omega⟩
 rw [implbytesOf_loop n k v _ (by omega) (by simp) (by simp; omega)]
 simp

/-- A number as n bytes, n in 1..4; none for others. -/
def bytesV (v n : Int) : List Int := if (1 ≤ n ∧ n ≤ 4) ∧ 0 ≤ v ∧ v < 256 ^ n.toNat then be n.toNat v else []
theorem four {n : Int} (h : 1 ≤ n ∧ n ≤ 4) : n = 1 ∨ n = 2 ∨ n = 3 ∨ n = 4 := by omega
theorem lim_of (n : Int) (h : 1 ≤ n ∧ n ≤ 4) : wrap64 (shl .i64 1 (wrap64 (8 * n)) - 1) = 256 ^ n.toNat - 1 ∧ 0 ≤ wrap64 (8 * n) := by
 rcases four h with rfl | rfl | rfl | rfl <;> decide +kernel
theorem bytesV_length (v n : Int) : (bytesV v n).length ≤ 4 := by
 unfold bytesV; split
 ·rw [be_length]; omega
 ·simp
theorem bytesV_bytes (v n : Int) : Bytes (bytesV v n) := by
 unfold bytesV; split
 ·exact be_bytes _ _
 ·exact Bytes.nil

theorem implBytesOf_eq (v n : Int) (k : Nat) (hk : 6 ≤ k) : impl_BytesOf.f k v n = some (bytesV v n) := by
 unfold impl_BytesOf.f bytesV
 simp only [in_eq, Option.bind_some]
 by_cases h1 : 1 ≤ n ∧ n ≤ 4
 ·obtain ⟨e1, e2⟩ := lim_of n h1
  rw [if_pos (decide_eq_true h1), if_pos e2, e1]
  by_cases h2 : 0 ≤ v ∧ v ≤ 256 ^ n.toNat - 1
  ·rw [if_pos (decide_eq_true h2), implbytesOf_eq v n (by omega) (by omega) k (by omega), if_pos ⟨h1, h2.1, by omega⟩]; rfl
  ·rw [if_neg (by simpa using h2), if_neg (by omega)]
 ·rw [if_neg (by simpa using h1), if_neg (fun h => h1 h.1)]

theorem alive_eq (k : Nat) (hk : 6 ≤ k) : laws_alive.f k = some true := by
 unfold laws_alive.f
 simp only [implBytesOf_eq _ _ k hk, Option.bind_some]
 rfl

theorem partsR_take {l : List S36} (h : partsR l 0) {i : Nat} (hi : i ≤ l.length) : partsR (l.take i) 0 := by
 have hr : ∀ j : Nat, j < i → rd_T36 (l.take i) (j : Int) = rd_T36 l (j : Int) := fun j hj => by
  rw [likeRd _ j (by rw [List.length_take]; omega), likeRd l j (by omega), List.getElem_take]
 refine ⟨fun j _ hj => ?_, by rw [List.length_take]; have := h.2; omega⟩
 have hji : j < i := by rw [List.length_take] at hj; omega
 have hp := h.1 j (Nat.zero_le _) (by omega)
 refine ⟨by rw [hr j hji]; exact hp.1, fun m hm => ?_⟩
 have hq := hp.2 m hm
 unfold firstP at hq ⊢
 rw [hr m (by omega), hr j hji]
 exact hq
theorem impl_true {l : List S36} (hl : l.length ≤ 21) (hn : Narrow 101 l) (h : partsR l 0) (k : Nat) (hk : 2200000 ≤ k) : impl_PartsOk.f k l = some true := by
 obtain ⟨r, e, q⟩ := implPartsOk_eq l (by omega) (hn.wide (by omega)) k (by omega)
 rw [e, q.mpr h]
theorem law_end (l : List S36) (ok : Bool) (i : Int) (k : Nat) (hk : 2200001 ≤ k) : laws_FnPartsOk.j1 k l ok i false = some true := by
 obtain ⟨k, rfl⟩ : ∃ m, k = m + 1 := ⟨k - 1, by omega⟩
 have h0 : partsR [] 0 := ⟨fun j _ hj => absurd hj (Nat.not_lt_zero _), Nat.zero_le _⟩
 simp only [laws_FnPartsOk.j1, Bool.false_eq_true, if_false]
 rw [impl_true (by simp) (Narrow.nil _) h0 k (by omega)]
 simp only [Option.bind_some, if_true]
 rw [alive_eq k (by omega)]
 rfl
theorem law_loop (l : List S36) (hl : l.length ≤ 21) (hn : Narrow 101 l) (ok : Bool) (h : ok = true → partsR l 0) : ∀ (d i k : Nat), i + d = l.length → 2 * d + 2300000 ≤ k → laws_FnPartsOk.l0 k l ok (i : Int) = some true := by
 intro d
 induction d with
 | zero =>
  intro i k hd hk
  obtain ⟨k, rfl⟩ : ∃ m, k = m + 1 := ⟨k - 1, by omega⟩
  simp only [laws_FnPartsOk.l0]
  rw [if_neg (by omega)]
  exact law_end l ok _ k (by omega)
 | succ d ih =>
  intro i k hd hk
  obtain ⟨k, rfl⟩ : ∃ m, k = m + 1 + 1 := ⟨k - 2, by omega⟩
  have e1 : wrap64 ((i : Int) + 1) = ((i + 1 : Nat) : Int) := by rw [w64 (by omega) (by omega)]; rfl
  simp only [laws_FnPartsOk.l0]
  rw [if_pos (by omega)]
  cases ok with
  | false => exact law_end l false _ (k + 1) (by omega)
  | true =>
   simp only [laws_FnPartsOk.j1, if_true]
   rw [if_pos (by omega), if_pos (by omega), if_pos (by omega), Int.toNat_natCast, impl_true (by rw [List.length_take]; omega) (hn.take i) (partsR_take (h rfl) (by omega)) k (by omega)]
   simp only [Option.bind_some, if_true]
   rw [e1]
   exact ih (i + 1) k (by omega) (by omega)
theorem FnPartsOk : laws_FnPartsOk.Pure := by
 intro l hm hl hw
 obtain ⟨b, hb1, hb2, hb3⟩ := open_eq l (Bytes.of_wf hw)
 obtain ⟨K, hK⟩ : ∃ K : Nat, K = 2500000 := ⟨_, rfl⟩
 refine ⟨K, ?_⟩
 obtain ⟨p, t, e, hn, hp⟩ := drawParts_eq hb2 hb3 K (by omega)
 have hlm : p.length * (p.length + 3) ≤ 21 * 24 := Nat.mul_le_mul hp (by omega)
 obtain ⟨r1, e1, q1⟩ := implPartsOk_eq p (by omega) (hn.wide (by omega)) K (by omega)
 obtain ⟨r2, e2, q2⟩ := specPartsOk_eq p (by omega) (hn.wide (by omega)) K (by omega)
 obtain rfl : r1 = r2 := Bool.eq_iff_iff.mpr (q1.trans q2.symm)
 unfold laws_FnPartsOk.f spec_DrawPartsOk.f
 by_cases h : (l.length : Int) > 1048576
 ·rw [if_pos h]
 rw [if_neg h]
 simp only [hb1, e, e1, e2, Option.bind_some, bne_self_eq_false, Bool.false_eq_true, if_false]
 exact law_loop p hp hn r1 (fun h => q1.mp h) p.length 0 K (by omega) (by omega)

end Go.Proofs.Ytdbmmkhaeghjaaa.Pure

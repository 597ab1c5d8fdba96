/- PartsOk of the program is the reference's at all lists of parts; the statement's own bounds alone. -/
import Derived.Test.YtbjfnpjkldfeiaaPFnExactPartsOkx8
import Derived.Test.YtbjfnpjkldfeiaaUFnExactPartsOkBase
import Derived.Test.YtbjfnpjkldfeiaaArgFnExactPartsOk
namespace Go.Proofs.Ytbjfnpjkldfeiaa.Pure
set_option linter.unusedSimpArgs false
set_option linter.unusedVariables false
open Go Go.RowKit Go.Proofs.Ytbjfnpjkldfeiaa.PFnExactPartsOk Go.Proofs.YtbjfnpjkldfeiaaUFnExactPartsOk.PrintWords Go.Proofs.YtbjfnpjkldfeiaaUFnExactPartsOk.PrintLast Go.Proofs.YtbjfnpjkldfeiaaUFnExactPartsOk.PrintMore Go.Proofs.Ytbjfnpjkldfeiaa.Base

theorem l1In_eq (a b c : Int) : spec_l1In.f a b c = some (decide (b ≤ a ∧ a ≤ c)) := by
 unfold spec_l1In.f
 by_cases h : a ≥ b <;> simp [h]

theorem in_eq (a b c : Int) : impl_in.f a b c = some (decide (b ≤ a ∧ a ≤ c)) := by
 unfold impl_in.f
 by_cases h : a ≥ b <;> simp [h]

theorem word_eq (a : Int) : impl_word.f a = some (decide (0 ≤ a ∧ a ≤ 65535)) := by
 unfold impl_word.f
 rw [in_eq]; rfl

/-- A packet is ok. -/
def packetOk (a b c d e f : Int) (m w : Bool) (l : List Int) : Bool :=
 decide ((0 ≤ a ∧ a ≤ 65535) ∧ (0 ≤ b ∧ b ≤ 65535) ∧ (0 ≤ c ∧ c ≤ 255) ∧ (0 ≤ d ∧ d ≤ 255) ∧ (0 ≤ e ∧ e ≤ 255) ∧ (0 ≤ f ∧ f ≤ 255) ∧ (l.length : Int) ≤ 48 ∧ (m = true → (l.length : Int) > 0) ∧ (w = true → f = 0 ∧ m = false))
theorem packet_end (m w : Bool) (f n : Int) : (if n ≤ 48 then (if m = true then (if n > 0 then (if w = true then (if f = 0 then (some (!m)) else (some false)) else (some true)) else (some false)) else (if w = true then (if f = 0 then (some (!m)) else (some false)) else (some true))) else (some false)) =
  some (decide (n ≤ 48 ∧ (m = true → n > 0) ∧ (w = true → f = 0 ∧ m = false))) := by
 by_cases h1 : n ≤ 48 <;> by_cases h2 : n > 0 <;> by_cases h3 : f = 0 <;> cases m <;> cases w <;> simp [h1, h2, h3] <;> omega
theorem specPacketOk_eq (a b c d e f : Int) (m w : Bool) (l : List Int) : spec_PacketOk.f a b c d e f m w l = some (packetOk a b c d e f m w l) := by
 unfold spec_PacketOk.f packetOk
 simp only [l1In_eq, Option.bind_some, packet_end]
 by_cases h1 : 0 ≤ a ∧ a ≤ 65535
 ·by_cases h2 : 0 ≤ b ∧ b ≤ 65535
  ·by_cases h3 : 0 ≤ c ∧ c ≤ 255
   ·by_cases h4 : 0 ≤ d ∧ d ≤ 255
    ·by_cases h5 : 0 ≤ e ∧ e ≤ 255
     ·by_cases h6 : 0 ≤ f ∧ f ≤ 255
      ·simp only [h1, h2, h3, h4, h5, h6, true_and, and_self, decide_true, if_true]
      ·simp [h1, h2, h3, h4, h5, h6]
     ·simp [h1, h2, h3, h4, h5]
    ·simp [h1, h2, h3, h4]
   ·simp [h1, h2, h3]
  ·simp [h1, h2]
 ·simp [h1]
theorem implPacketOk_eq (a b c d e f : Int) (m w : Bool) (l : List Int) : impl_PacketOk.f a b c d e f m w l = some (packetOk a b c d e f m w l) := by
 unfold impl_PacketOk.f packetOk
 simp only [in_eq, word_eq, Option.bind_some, packet_end]
 by_cases h1 : 0 ≤ a ∧ a ≤ 65535
 ·by_cases h2 : 0 ≤ b ∧ b ≤ 65535
  ·by_cases h3 : 0 ≤ c ∧ c ≤ 255
   ·by_cases h4 : 0 ≤ d ∧ d ≤ 255
    ·by_cases h5 : 0 ≤ e ∧ e ≤ 255
     ·by_cases h6 : 0 ≤ f ∧ f ≤ 255
      ·simp only [h1, h2, h3, h4, h5, h6, true_and, and_self, decide_true, if_true]
      ·simp [h1, h2, h3, h4, h5, h6]
     ·simp [h1, h2, h3, h4, h5]
    ·simp [h1, h2, h3, h4]
   ·simp [h1, h2, h3]
  ·simp [h1, h2]
 ·simp [h1]

/-- A piece is ok for itself. -/
def pieceOk (x : S61) : Bool := packetOk x.f0 x.f1 x.f2 x.f3 x.f4 x.f5 x.f6 x.f7 x.f8
/-- Two pieces are of the same packet. -/
def pieceSame (x y : S61) : Prop := x.f0 = y.f0 ∧ x.f1 = y.f1 ∧ x.f2 = y.f2 ∧ x.f4 = y.f4
/-- The piece at i stands well after the one ahead of it. -/
def pieceStep (p : List S61) (i : Nat) : Prop :=
 pieceOk (rd_T61 p (i : Int)) = true ∧ pieceSame (rd_T61 p (i : Int)) (rd_T61 p 0) ∧
 (0 < i → ¬ (rd_T61 p (i : Int)).f5 < wrap64 ((rd_T61 p ((i - 1 : Nat) : Int)).f5 + ((rd_T61 p ((i - 1 : Nat) : Int)).f8.length : Int)) ∧ (rd_T61 p ((i - 1 : Nat) : Int)).f6 = true)
/-- The bytes of the first i pieces. -/
def pieceSum (p : List S61) : Nat → Int
 | 0 => 0
 | i + 1 => pieceSum p i + ((rd_T61 p (i : Int)).f8.length : Int)
/-- The pieces make a part. -/
def partP (p : List S61) (o : Int) : Prop := 0 < p.length ∧ (∀ i, i < p.length → pieceStep p i) ∧ pieceSum p p.length ≤ 48 ∧ (0 ≤ o ∧ o ≤ 1000000)
/-- No piece is long. -/
def Short (p : List S61) : Prop := ∀ x ∈ p, x.f8.length ≤ 1048576
theorem Short.rd {p : List S61} (h : Short p) (i : Int) : (rd_T61 p i).f8.length ≤ 1048576 := by
 unfold rd_T61
 rw [List.getD_eq_getElem?_getD]
 by_cases hi : i.toNat < p.length
 ·rw [List.getElem?_eq_getElem hi]; exact h _ (List.getElem_mem hi)
 ·rw [List.getElem?_eq_none (by omega)]; exact Nat.zero_le _
theorem Short.nil : Short [] := fun x hx => by cases hx
theorem Short.append {p q : List S61} (h : Short p) (h' : Short q) : Short (p ++ q) := fun x hx => (List.mem_append.mp hx).elim (h x) (h' x)
theorem Short.one {x : S61} (h : x.f8.length ≤ 1048576) : Short [x] := fun y hy => by rw [List.mem_singleton.mp hy]; exact h
theorem Short.drop {p : List S61} (h : Short p) (n : Nat) : Short (p.drop n) := fun x hx => h x (List.mem_of_mem_drop hx)
theorem Short.take {p : List S61} (h : Short p) (n : Nat) : Short (p.take n) := fun x hx => h x (List.mem_of_mem_take hx)
theorem Short.set {p : List S61} (h : Short p) (n : Nat) {x : S61} (hx : x.f8.length ≤ 1048576) : Short (p.set n x) := fun y hy => by
 rcases List.mem_or_eq_of_mem_set hy with h1 | h1
 ·exact h y h1
 ·rw [h1]; exact hx
theorem pieceSum_range {p : List S61} (h : Short p) : ∀ i : Nat, 0 ≤ pieceSum p i ∧ pieceSum p i ≤ 1048576 * (i : Int)
 | 0 => by unfold pieceSum; omega
 | i + 1 => by have := pieceSum_range h i; have h2 := h.rd (i : Int); unfold pieceSum; omega
theorem rdP_drop (p : List S61) (i : Nat) : rd_T61 (p.drop 1) (i : Int) = rd_T61 p ((i + 1 : Nat) : Int) := by
 unfold rd_T61
 rw [List.getD_eq_getElem?_getD, List.getD_eq_getElem?_getD, List.getElem?_drop, Int.toNat_natCast, Int.toNat_natCast, Nat.add_comm]
theorem rdP_take (p : List S61) (n i : Nat) (h : i < n) : rd_T61 (p.take n) (i : Int) = rd_T61 p (i : Int) := by
 unfold rd_T61
 rw [List.getD_eq_getElem?_getD, List.getD_eq_getElem?_getD, Int.toNat_natCast, List.getElem?_take_of_lt h]
theorem pieceSum_drop (p : List S61) : ∀ i : Nat, pieceSum (p.drop 1) i + ((rd_T61 p 0).f8.length : Int) = pieceSum p (i + 1)
 | 0 => by simp [pieceSum]
 | i + 1 => by
  have := pieceSum_drop p i
  rw [show pieceSum (p.drop 1) (i + 1) = pieceSum (p.drop 1) i + ((rd_T61 (p.drop 1) (i : Int)).f8.length : Int) from rfl, rdP_drop,
   show pieceSum p (i + 1 + 1) = pieceSum p (i + 1) + ((rd_T61 p ((i + 1 : Nat) : Int)).f8.length : Int) from rfl]
  omega
theorem pieceSum_take (p : List S61) (n : Nat) : ∀ i : Nat, i ≤ n → pieceSum (p.take n) i = pieceSum p i
 | 0, _ => rfl
 | i + 1, h => by
  have := pieceSum_take p n i (by omega)
  rw [show pieceSum (p.take n) (i + 1) = pieceSum (p.take n) i + ((rd_T61 (p.take n) (i : Int)).f8.length : Int) from rfl, rdP_take p n i (by omega), this]
  rfl
theorem partP_drop {p : List S61} {o : Int} (h : partP p o) (h2 : 2 ≤ p.length) : partP (p.drop 1) o := by
 obtain ⟨_, hs, ht, ho⟩ := h
 have hl : (p.drop 1).length = p.length - 1 := by rw [List.length_drop]
 have z : ∀ l : List S61, rd_T61 l 0 = rd_T61 l ((0 : Nat) : Int) := fun _ => rfl
 refine ⟨by omega, fun i hi => ?_, ?_, ho⟩
 ·obtain ⟨a, b, c⟩ := hs (i + 1) (by omega)
  obtain ⟨_, b1, _⟩ := hs (0 + 1) (by omega)
  refine ⟨by rw [rdP_drop]; exact a, ?_, fun hi0 => ?_⟩
  ·rw [rdP_drop, z (p.drop 1), rdP_drop]
   exact ⟨b.1.trans b1.1.symm, b.2.1.trans b1.2.1.symm, b.2.2.1.trans b1.2.2.1.symm, b.2.2.2.trans b1.2.2.2.symm⟩
  ·have e : i - 1 + 1 = i + 1 - 1 := by omega
   rw [rdP_drop, rdP_drop, e]
   exact c (by omega)
 ·have := pieceSum_drop p (p.length - 1)
  rw [show p.length - 1 + 1 = p.length by omega] at this
  rw [hl]; omega
theorem partP_take {p : List S61} (hp : Short p) {o : Int} (h : partP p o) (h2 : 2 ≤ p.length) : partP (p.take (p.length - 1)) o := by
 obtain ⟨_, hs, ht, ho⟩ := h
 have hl : (p.take (p.length - 1)).length = p.length - 1 := by rw [List.length_take]; omega
 have z : ∀ l : List S61, rd_T61 l 0 = rd_T61 l ((0 : Nat) : Int) := fun _ => rfl
 refine ⟨by omega, fun i hi => ?_, ?_, ho⟩
 ·obtain ⟨a, b, c⟩ := hs i (by omega)
  refine ⟨by rw [rdP_take p _ i (by omega)]; exact a, ?_, fun hi0 => ?_⟩
  ·rw [rdP_take p _ i (by omega), z (p.take _), rdP_take p _ 0 (by omega)]
   exact b
  ·rw [rdP_take p _ i (by omega), rdP_take p _ (i - 1) (by omega)]
   exact c hi0
 ·rw [hl, pieceSum_take p _ _ (Nat.le_refl _)]
  have e : pieceSum p (p.length - 1 + 1) = pieceSum p (p.length - 1) + ((rd_T61 p ((p.length - 1 : Nat) : Int)).f8.length : Int) := rfl
  rw [show p.length - 1 + 1 = p.length by omega] at e
  omega
/-- What is left from piece i on. -/
def restP (p : List S61) (o : Int) (i : Nat) : Prop := (∀ j, i ≤ j → j < p.length → pieceStep p j) ∧ 0 < p.length ∧ pieceSum p p.length ≤ 48 ∧ (0 ≤ o ∧ o ≤ 1000000)
theorem restP_zero (p : List S61) (o : Int) : restP p o 0 ↔ partP p o :=
 ⟨fun h => ⟨h.2.1, fun i hi => h.1 i (Nat.zero_le _) hi, h.2.2⟩, fun h => ⟨fun i _ hi => h.2.1 i hi, h.1, h.2.2⟩⟩
theorem restP_succ {p : List S61} {o : Int} {i : Nat} (hi : i < p.length) : restP p o i ↔ pieceStep p i ∧ restP p o (i + 1) :=
 ⟨fun h => ⟨h.1 i (Nat.le_refl _) hi, fun j h1 h2 => h.1 j (by omega) h2, h.2⟩, fun h => ⟨fun j h1 h2 => by
  rcases Nat.eq_or_lt_of_le h1 with e | h3
  ·exact e ▸ h.1
  ·exact h.2.1 j h3 h2, h.2.2⟩⟩
theorem pieceOk_false {p : List S61} {o : Int} {i : Nat} (hi : i < p.length) (h : ¬ pieceStep p i) : (false = true ↔ restP p o i) :=
 ⟨fun h => (by cases h), fun q => absurd ((restP_succ hi).mp q).1 h⟩
theorem partEnd {p : List S61} {o : Int} (n : Nat) (hn : n = p.length) : ∃ r, (if (p.length : Int) > 0 then (if pieceSum p n ≤ 48 then (some (decide (0 ≤ o ∧ o ≤ 1000000))) else (some false)) else (some false)) = some r ∧ (r = true ↔ restP p o n) := by
 subst hn
 have q : ∀ j, p.length ≤ j → j < p.length → pieceStep p j := fun j h1 h2 => by omega
 by_cases h1 : (p.length : Int) > 0
 ·rw [if_pos h1]
  by_cases h2 : pieceSum p p.length ≤ 48
  ·rw [if_pos h2]
   exact ⟨_, rfl, fun h => ⟨q, by omega, h2, of_decide_eq_true h⟩, fun h => decide_eq_true h.2.2.2⟩
  ·rw [if_neg h2]
   exact ⟨_, rfl, fun h => (by cases h), fun h => absurd h.2.2.1 h2⟩
 ·rw [if_neg h1]
  exact ⟨_, rfl, fun h => (by cases h), fun h => absurd h.2.1 (by omega)⟩
theorem sameIf (a0 a1 a2 a4 b0 b1 b2 b4 : Int) : (if a0 = b0 then (if a1 = b1 then (if a2 = b2 then (some (a4 == b4)) else (some false)) else (some false)) else (some false)) = some (decide (a0 = b0 ∧ a1 = b1 ∧ a2 = b2 ∧ a4 = b4)) := by
 by_cases h0 : a0 = b0 <;> by_cases h1 : a1 = b1 <;> by_cases h2 : a2 = b2 <;> by_cases h4 : a4 = b4 <;> simp [h0, h1, h2, h4]

theorem implPartOk_loop (p : List S61) (hp : Short p) (hl : p.length ≤ 1048576) (o : Int) : ∀ (d i k : Nat), i + d = p.length → 2 * d < k →
  ∃ r, impl_PartOk.l0 k (pieceSum p i) p (p.length : Int) (i : Int) p o = some r ∧ (r = true ↔ restP p o i)
 | 0, i, k, hi, hk => by
  obtain ⟨k, rfl⟩ : ∃ m, k = m + 1 := ⟨k - 1, by omega⟩
  obtain ⟨r, e, h⟩ := partEnd (p := p) (o := o) i (by omega)
  simp only [impl_PartOk.l0]
  rw [if_neg (by omega)]
  simp only [in_eq, Option.bind_some, e]
  exact ⟨r, rfl, h⟩
 | d + 1, i, k, hi, hk => by
  obtain ⟨k, rfl⟩ : ∃ m, k = m + 1 + 1 := ⟨k - 2, by omega⟩
  have hil : i < p.length := by omega
  have e1 : wrap64 ((i : Int) + 1) = ((i + 1 : Nat) : Int) := by rw [w64 (by omega) (by omega)]; rfl
  have r1 := pieceSum_range hp i
  have r2 := hp.rd (i : Int)
  have e2 : wrap64 (pieceSum p i + ((rd_T61 p (i : Int)).f8.length : Int)) = pieceSum p (i + 1) := by rw [w64 (by omega) (by omega)]; rfl
  obtain ⟨r, er, hr⟩ := implPartOk_loop p hp hl o d (i + 1) k (by omega) (by omega)
  simp only [impl_PartOk.l0]
  rw [if_pos (by omega), if_pos (by omega), if_pos (by omega)]
  simp only [implPacketOk_eq, Option.bind_some]
  unfold impl_Packet_same.f
  simp only [sameIf, Option.bind_some, impl_PartOk.j1]
  by_cases h1 : pieceOk (rd_T61 p (i : Int)) = true
  ·have h1' := h1
   unfold pieceOk at h1'
   rw [if_pos h1', if_pos (by omega)]
   by_cases h2 : pieceSame (rd_T61 p (i : Int)) (rd_T61 p 0)
   ·have h2' := h2
    unfold pieceSame at h2'
    rw [decide_eq_true h2']
    simp only [Bool.not_true, Bool.false_eq_true, if_false, e1, e2, er]
    by_cases h3 : (i : Int) > 0
    ·have e3 : wrap64 ((i : Int) - 1) = ((i - 1 : Nat) : Int) := by rw [w64 (by omega) (by omega)]; omega
     rw [if_pos h3, e3, if_pos (by omega), if_pos (by omega)]
     by_cases h4 : (rd_T61 p (i : Int)).f5 < wrap64 ((rd_T61 p ((i - 1 : Nat) : Int)).f5 + ((rd_T61 p ((i - 1 : Nat) : Int)).f8.length : Int))
     ·rw [if_pos h4]
      exact ⟨_, rfl, pieceOk_false hil (fun q => (q.2.2 (by omega)).1 h4)⟩
     ·rw [if_neg h4]
      by_cases h5 : (rd_T61 p ((i - 1 : Nat) : Int)).f6 = true
      ·rw [if_pos h5]
       exact ⟨_, rfl, hr.trans ⟨fun q => (restP_succ hil).mpr ⟨⟨h1, h2, fun _ => ⟨h4, h5⟩⟩, q⟩, fun q => ((restP_succ hil).mp q).2⟩⟩
      ·rw [if_neg h5]
       exact ⟨_, rfl, pieceOk_false hil (fun q => h5 (q.2.2 (by omega)).2)⟩
    ·rw [if_neg h3]
     exact ⟨_, rfl, hr.trans ⟨fun q => (restP_succ hil).mpr ⟨⟨h1, h2, fun h0 => absurd h0 (by omega)⟩, q⟩, fun q => ((restP_succ hil).mp q).2⟩⟩
   ·have h2' := h2
    unfold pieceSame at h2'
    rw [decide_eq_false h2']
    simp only [Bool.not_false, if_true]
    exact ⟨_, rfl, pieceOk_false hil (fun q => h2 q.2.1)⟩
  ·have h1' := h1
   unfold pieceOk at h1'
   rw [if_neg h1']
   simp only [if_true]
   exact ⟨_, rfl, pieceOk_false hil (fun q => h1 q.1)⟩
theorem implPartOk_eq (p : List S61) (hp : Short p) (hl : p.length ≤ 1048576) (o : Int) (k : Nat) (hk : 2 * p.length < k) : ∃ r, impl_PartOk.f k p o = some r ∧ (r = true ↔ partP p o) := by
 obtain ⟨r, e, h⟩ := implPartOk_loop p hp hl o p.length 0 k (by omega) hk
 exact ⟨r, e, h.trans (restP_zero p o)⟩
theorem implPartOk_true {p : List S61} (hp : Short p) (hl : p.length ≤ 1048576) {o : Int} {k : Nat} (hk : 2 * p.length < k) (h : partP p o) : impl_PartOk.f k p o = some true := by
 obtain ⟨r, e, q⟩ := implPartOk_eq p hp hl o k hk
 rw [e, q.mpr h]

theorem specPartOk_loop (p : List S61) (hp : Short p) (hl : p.length ≤ 1048576) (o : Int) : ∀ (d i k : Nat), i + d = p.length → 2 * d < k →
  ∃ r, spec_PartOk.l0 k (pieceSum p i) (i : Int) p o = some r ∧ (r = true ↔ restP p o i)
 | 0, i, k, hi, hk => by
  obtain ⟨k, rfl⟩ : ∃ m, k = m + 1 := ⟨k - 1, by omega⟩
  obtain ⟨r, e, h⟩ := partEnd (p := p) (o := o) i (by omega)
  simp only [spec_PartOk.l0]
  rw [if_neg (by omega)]
  simp only [l1In_eq, Option.bind_some, e]
  exact ⟨r, rfl, h⟩
 | d + 1, i, k, hi, hk => by
  obtain ⟨k, rfl⟩ : ∃ m, k = m + 1 + 1 := ⟨k - 2, by omega⟩
  have hil : i < p.length := by omega
  have e1 : wrap64 ((i : Int) + 1) = ((i + 1 : Nat) : Int) := by rw [w64 (by omega) (by omega)]; rfl
  have r1 := pieceSum_range hp i
  have r2 := hp.rd (i : Int)
  have e2 : wrap64 (pieceSum p i + ((rd_T61 p (i : Int)).f8.length : Int)) = pieceSum p (i + 1) := by rw [w64 (by omega) (by omega)]; rfl
  obtain ⟨r, er, hr⟩ := specPartOk_loop p hp hl o d (i + 1) k (by omega) (by omega)
  simp only [spec_PartOk.l0]
  rw [if_pos (by omega), if_pos (by omega)]
  simp only [specPacketOk_eq, Option.bind_some]
  unfold spec_l5Same.f
  simp only [sameIf, Option.bind_some, spec_PartOk.j1]
  by_cases h1 : pieceOk (rd_T61 p (i : Int)) = true
  ·have h1' := h1
   unfold pieceOk at h1'
   rw [if_pos h1', if_pos (by omega)]
   by_cases h2 : pieceSame (rd_T61 p (i : Int)) (rd_T61 p 0)
   ·have h2' := h2
    unfold pieceSame at h2'
    rw [decide_eq_true h2']
    simp only [if_true, Bool.false_eq_true, if_false, e1, e2, er]
    by_cases h3 : (i : Int) > 0
    ·have e3 : wrap64 ((i : Int) - 1) = ((i - 1 : Nat) : Int) := by rw [w64 (by omega) (by omega)]; omega
     rw [if_pos h3, e3, if_pos (by omega), if_pos (by omega)]
     by_cases h4 : (rd_T61 p (i : Int)).f5 < wrap64 ((rd_T61 p ((i - 1 : Nat) : Int)).f5 + ((rd_T61 p ((i - 1 : Nat) : Int)).f8.length : Int))
     ·rw [if_pos h4]
      exact ⟨_, rfl, pieceOk_false hil (fun q => (q.2.2 (by omega)).1 h4)⟩
     ·rw [if_neg h4]
      cases h5 : (rd_T61 p ((i - 1 : Nat) : Int)).f6 with
      | true =>
       simp only [Bool.not_true, Bool.false_eq_true, if_false]
       exact ⟨_, rfl, hr.trans ⟨fun q => (restP_succ hil).mpr ⟨⟨h1, h2, fun _ => ⟨h4, h5⟩⟩, q⟩, fun q => ((restP_succ hil).mp q).2⟩⟩
      | false =>
       simp only [Bool.not_false, if_true]
       exact ⟨_, rfl, pieceOk_false hil (fun q => by have := (q.2.2 (by omega)).2; rw [h5] at this; cases this)⟩
    ·rw [if_neg h3]
     exact ⟨_, rfl, hr.trans ⟨fun q => (restP_succ hil).mpr ⟨⟨h1, h2, fun h0 => absurd h0 (by omega)⟩, q⟩, fun q => ((restP_succ hil).mp q).2⟩⟩
   ·have h2' := h2
    unfold pieceSame at h2'
    rw [decide_eq_false h2']
    simp only [Bool.false_eq_true, if_false, if_true]
    exact ⟨_, rfl, pieceOk_false hil (fun q => h2 q.2.1)⟩
  ·have h1' := h1
   unfold pieceOk at h1'
   rw [if_neg h1']
   simp only [if_true]
   exact ⟨_, rfl, pieceOk_false hil (fun q => h1 q.1)⟩
theorem specPartOk_eq (p : List S61) (hp : Short p) (hl : p.length ≤ 1048576) (o : Int) (k : Nat) (hk : 2 * p.length < k) : ∃ r, spec_PartOk.f k p o = some r ∧ (r = true ↔ partP p o) := by
 obtain ⟨r, e, h⟩ := specPartOk_loop p hp hl o p.length 0 k (by omega) hk
 exact ⟨r, e, h.trans (restP_zero p o)⟩

theorem noFalse {p : Prop} (h : ¬ p) : (false = true ↔ p) := ⟨fun q => (by cases q), fun q => absurd q h⟩
/-- The first piece of the part at i. -/
def firstP (l : List S92) (i : Nat) : S61 := rd_T61 (rd_T92 l (i : Int)).f0 0
/-- The part at i is ok, and no part ahead of it is of the same packet. -/
def partAt (l : List S92) (i : Nat) : Prop := partP (rd_T92 l (i : Int)).f0 (rd_T92 l (i : Int)).f1 ∧ ∀ j : Nat, j < i → ¬ pieceSame (firstP l j) (firstP l i)
/-- From i on all parts are ok. -/
def partsR (l : List S92) (i : Nat) : Prop := (∀ j, i ≤ j → j < l.length → partAt l j) ∧ l.length ≤ 3
/-- No part is long. -/
def Wide (l : List S92) : Prop := ∀ x ∈ l, Short x.f0 ∧ x.f0.length ≤ 1048576
theorem Wide.rd {l : List S92} (h : Wide l) {i : Nat} (hi : i < l.length) : Short (rd_T92 l (i : Int)).f0 ∧ (rd_T92 l (i : Int)).f0.length ≤ 1048576 := by
 rw [likeRd l i hi]; exact h _ (List.getElem_mem hi)
theorem partsR_step {l : List S92} {i : Nat} (hi : i < l.length) : partsR l i ↔ partAt l i ∧ partsR l (i + 1) :=
 ⟨fun q => ⟨q.1 i (Nat.le_refl _) hi, fun j h1 h2 => q.1 j (by omega) h2, q.2⟩, fun q => ⟨fun j h1 h2 => by
  rcases Nat.eq_or_lt_of_le h1 with e | e
  ·subst e; exact q.1
  ·exact q.2.1 j e h2, q.2.2⟩⟩
theorem partsR_no {l : List S92} {i : Nat} (hi : i < l.length) (no : ¬ partAt l i) : (false = true ↔ partsR l i) := noFalse fun q => no ((partsR_step hi).mp q).1
theorem partsR_yes {l : List S92} {i : Nat} {r : Bool} (hi : i < l.length) (yes : partAt l i) (q : r = true ↔ partsR l (i + 1)) : (r = true ↔ partsR l i) := q.trans ⟨fun z => (partsR_step hi).mpr ⟨yes, z⟩, fun z => ((partsR_step hi).mp z).2⟩
theorem partsR_end {l : List S92} {i : Nat} (hi : l.length ≤ i) : (decide ((l.length : Int) ≤ 3) = true ↔ partsR l i) := by
 rw [decide_eq_true_eq]
 exact ⟨fun q => ⟨fun j a b => absurd b (by omega), by omega⟩, fun q => by have := q.2; omega⟩
theorem likeAny (l : List S92) (i : Nat) (hi : i ≤ l.length) (y : List S61) : (l.take i).any (likeB y) = true ↔ ∃ j : Nat, j < i ∧ pieceSame (firstP l j) (rd_T61 y 0) := by
 rw [List.any_eq_true]
 refine ⟨fun ⟨x, hx, hp⟩ => ?_, fun ⟨j, hj, hp⟩ => ⟨l[j], ?_, ?_⟩⟩
 ·obtain ⟨j, hj, rfl⟩ := List.getElem_of_mem hx
  have hj' : j < i := by rw [List.length_take] at hj; omega
  rw [List.getElem_take, ← likeRd l j (by omega)] at hp
  unfold likeB sameB at hp
  have hp2 := of_decide_eq_true hp
  exact ⟨j, hj', hp2⟩
 ·rw [List.mem_iff_getElem]
  exact ⟨j, by rw [List.length_take]; omega, by rw [List.getElem_take]⟩
 ·rw [← likeRd l j (by omega)]
  unfold likeB sameB
  refine decide_eq_true ?_
  exact hp
theorem implPartsOk_loop (l : List S92) (hl : l.length ≤ 1048576) (hw : Wide l) : ∀ (d i k : Nat), i + d = l.length → d + 2097154 < k → (∀ j : Nat, j < i → 0 < (rd_T92 l (j : Int)).f0.length) →
  ∃ r, impl_PartsOk.l0 k l l (l.length : Int) (i : Int) = some r ∧ (r = true ↔ partsR l i) := by
 intro d
 induction d with
 | zero =>
  intro i k hi hk pre
  obtain ⟨k, rfl⟩ : ∃ m, k = m + 1 := ⟨k - 1, by omega⟩
  simp only [impl_PartsOk.l0]
  rw [if_neg (by omega)]
  exact ⟨_, rfl, partsR_end (by omega)⟩
 | succ d ih =>
  intro i k hi hk pre
  obtain ⟨k, rfl⟩ : ∃ m, k = m + 1 := ⟨k - 1, by omega⟩
  have hil : i < l.length := by omega
  have e1 : wrap64 ((i : Int) + 1) = ((i + 1 : Nat) : Int) := by rw [w64 (by omega) (by omega)]; rfl
  have hp := hw.rd hil
  obtain ⟨r1, er1, q1⟩ := implPartOk_eq _ hp.1 hp.2 (rd_T92 l (i : Int)).f1 k (by omega)
  simp only [impl_PartsOk.l0]
  rw [if_pos (by omega), if_pos (by omega), if_pos (by omega), er1, e1]
  simp only [Option.bind_some]
  cases r1 with
  | false =>
   rw [if_neg (by decide)]
   exact ⟨_, rfl, partsR_no hil (fun q => by cases q1.mpr q.1)⟩
  | true =>
   have hpp := q1.mp rfl
   rw [if_pos rfl, if_pos (by omega)]
   unfold impl_Part_86.f
   have htk : ∀ x ∈ l.take ((i : Int)).toNat, 0 < x.f0.length := fun x hx => by
    obtain ⟨j, hj, rfl⟩ := List.getElem_of_mem hx
    have hj' : j < i := by rw [List.length_take] at hj; omega
    have := pre j hj'
    rw [likeRd l j (by omega)] at this
    rw [List.getElem_take]
    exact this
   rw [if_pos ⟨by rw [List.length_take]; omega, htk, hpp.1⟩]
   simp only [Option.bind_some, Int.toNat_natCast]
   have ha := likeAny l i (by omega) (rd_T92 l (i : Int)).f0
   cases hc : (l.take i).any (likeB (rd_T92 l (i : Int)).f0) with
   | true =>
    obtain ⟨j, hj, hs⟩ := ha.mp hc
    rw [if_pos rfl]
    exact ⟨_, rfl, partsR_no hil (fun q => q.2 j hj hs)⟩
   | false =>
    rw [if_neg (by decide)]
    obtain ⟨r, er, hr⟩ := ih (i + 1) k (by omega) (by omega) (fun j hj => by
     rcases Nat.lt_or_ge j i with z | z
     ·exact pre j z
     ·have : j = i := by omega
      subst this; exact hpp.1)
    refine ⟨r, er, partsR_yes hil ⟨hpp, fun j hj hs => ?_⟩ hr⟩
    have := ha.mpr ⟨j, hj, hs⟩
    rw [hc] at this
    cases this
theorem implPartsOk_eq (l : List S92) (hl : l.length ≤ 1048576) (hw : Wide l) (k : Nat) (hk : l.length + 2097154 < k) : ∃ r, impl_PartsOk.f k l = some r ∧ (r = true ↔ partsR l 0) :=
 implPartsOk_loop l hl hw l.length 0 k (by omega) hk (fun j hj => absurd hj (Nat.not_lt_zero _))
theorem l5Same_eq (u v : S61) : spec_l5Same.f u.f0 u.f1 u.f2 u.f3 u.f4 u.f5 u.f6 u.f7 u.f8 v.f0 v.f1 v.f2 v.f3 v.f4 v.f5 v.f6 v.f7 v.f8 = some (sameB u v) := by
 unfold spec_l5Same.f sameB
 by_cases h0 : u.f0 = v.f0 <;> by_cases h1 : u.f1 = v.f1 <;> by_cases h2 : u.f2 = v.f2 <;> by_cases h4 : u.f4 = v.f4 <;> simp [h0, h1, h2, h4]
/-- The inner loop: it goes on to the next part, or one ahead is of the same packet. -/
theorem specParts_inner (l : List S92) (hl : l.length ≤ 1048576) (i : Nat) (hi : i < l.length) (pre : ∀ j : Nat, j ≤ i → 0 < (rd_T92 l (j : Int)).f0.length) : ∀ (d j k : Nat), j + d = i → d < k → (∀ m : Nat, m < j → ¬ pieceSame (firstP l m) (firstP l i)) →
  (∃ m : Nat, m < i ∧ pieceSame (firstP l m) (firstP l i) ∧ spec_PartsOk.l1 k l (i : Int) (j : Int) = some false) ∨ ((∀ m : Nat, m < i → ¬ pieceSame (firstP l m) (firstP l i)) ∧ spec_PartsOk.l1 k l (i : Int) (j : Int) = spec_PartsOk.l0 (k - d - 1) l ((i + 1 : Nat) : Int)) := by
 intro d
 induction d with
 | zero =>
  intro j k hj hk no
  obtain ⟨k, rfl⟩ : ∃ m, k = m + 1 := ⟨k - 1, by omega⟩
  have e1 : wrap64 ((i : Int) + 1) = ((i + 1 : Nat) : Int) := by rw [w64 (by omega) (by omega)]; rfl
  simp only [spec_PartsOk.l1]
  rw [if_neg (by omega), e1]
  exact .inr ⟨fun m hm => no m (by omega), rfl⟩
 | succ d ih =>
  intro j k hj hk no
  obtain ⟨k, rfl⟩ : ∃ m, k = m + 1 := ⟨k - 1, by omega⟩
  have e1 : wrap64 ((j : Int) + 1) = ((j + 1 : Nat) : Int) := by rw [w64 (by omega) (by omega)]; rfl
  have p1 := pre j (by omega)
  have p2 := pre i (Nat.le_refl _)
  simp only [spec_PartsOk.l1]
  rw [if_pos (by omega), if_pos (by omega), if_pos (by omega), if_pos (by omega), if_pos (by omega), if_pos (by omega), if_pos (by omega), e1, l5Same_eq]
  simp only [Option.bind_some]
  by_cases c0 : pieceSame (firstP l j) (firstP l i)
  ·rw [show sameB (rd_T61 (rd_T92 l (j : Int)).f0 0) (rd_T61 (rd_T92 l (i : Int)).f0 0) = true from (by unfold sameB; refine decide_eq_true ?_; exact c0), if_pos rfl]
   exact .inl ⟨j, by omega, c0, rfl⟩
  ·rw [show sameB (rd_T61 (rd_T92 l (j : Int)).f0 0) (rd_T61 (rd_T92 l (i : Int)).f0 0) = false from (by unfold sameB; refine decide_eq_false ?_; exact c0), if_neg (by decide), show k + 1 - (d + 1) - 1 = k - d - 1 by omega]
   exact ih (j + 1) k (by omega) (by omega) (fun m hm => by
    rcases Nat.lt_or_ge m j with z | z
    ·exact no m z
    ·have : m = j := by omega
     subst this; exact c0)
theorem specPartsOk_loop (l : List S92) (hl : l.length ≤ 1048576) (hw : Wide l) : ∀ (d i k : Nat), i + d = l.length → d * (l.length + 3) + 2097154 < k → (∀ j : Nat, j < i → 0 < (rd_T92 l (j : Int)).f0.length) →
  ∃ r, spec_PartsOk.l0 k l (i : Int) = some r ∧ (r = true ↔ partsR l i) := by
 intro d
 induction d with
 | zero =>
  intro i k hi hk pre
  obtain ⟨k, rfl⟩ : ∃ m, k = m + 1 := ⟨k - 1, by omega⟩
  simp only [spec_PartsOk.l0]
  rw [if_neg (by omega)]
  exact ⟨_, rfl, partsR_end (by omega)⟩
 | succ d ih =>
  intro i k hi hk pre
  have hmul : (d + 1) * (l.length + 3) = d * (l.length + 3) + (l.length + 3) := Nat.succ_mul _ _
  obtain ⟨k, rfl⟩ : ∃ m, k = m + 1 := ⟨k - 1, by omega⟩
  have hil : i < l.length := by omega
  have hp := hw.rd hil
  obtain ⟨r1, er1, q1⟩ := specPartOk_eq _ hp.1 hp.2 (rd_T92 l (i : Int)).f1 k (by omega)
  simp only [spec_PartsOk.l0]
  rw [if_pos (by omega), if_pos (by omega), er1]
  simp only [Option.bind_some]
  cases r1 with
  | false =>
   rw [if_neg (by decide)]
   exact ⟨_, rfl, partsR_no hil (fun q => by cases q1.mpr q.1)⟩
  | true =>
   have hpp := q1.mp rfl
   have pre' : ∀ j : Nat, j ≤ i → 0 < (rd_T92 l (j : Int)).f0.length := fun j hj => by
    rcases Nat.lt_or_ge j i with z | z
    ·exact pre j z
    ·have : j = i := by omega
     subst this; exact hpp.1
   rw [if_pos rfl]
   rcases specParts_inner l hl i hil pre' i 0 k (by omega) (by omega) (fun m hm => absurd hm (Nat.not_lt_zero _)) with ⟨m, hm, e, z⟩ | ⟨no, z⟩
   ·exact ⟨false, z, partsR_no hil (fun q => q.2 m hm e)⟩
   ·obtain ⟨r, er, hr⟩ := ih (i + 1) (k - i - 1) (by omega) (by omega) (fun j hj => pre' j (by omega))
    exact ⟨r, z.trans er, partsR_yes hil ⟨hpp, no⟩ hr⟩
theorem specPartsOk_eq (l : List S92) (hl : l.length ≤ 1048576) (hw : Wide l) (k : Nat) (hk : l.length * (l.length + 3) + 2097154 < k) : ∃ r, spec_PartsOk.f k l = some r ∧ (r = true ↔ partsR l 0) :=
 specPartsOk_loop l hl hw l.length 0 k (by omega) hk (fun j hj => absurd hj (Nat.not_lt_zero _))

theorem toByteS_loop (l : List Int) (hn : l.length < 4611686018427387904) : ∀ (d k i : Nat) (o : List Int), l.length - i = d → i ≤ l.length → d < k → o.length = l.length → o.take i = l.take i →
  laws_toByteS.l0 k l o (i : Int) = some l
 | 0, k, i, o, hd, hi, hk, hl, ho => by
  obtain ⟨k, rfl⟩ : ∃ m, k = m + 1 := ⟨k - 1, by omega⟩
  simp only [laws_toByteS.l0]
  rw [if_neg (by omega)]
  rw [List.take_of_length_le (by omega), List.take_of_length_le (by omega)] at ho
  rw [ho]
 | d + 1, k, i, o, hd, hi, hk, hl, ho => by
  obtain ⟨k, rfl⟩ : ∃ m, k = m + 1 := ⟨k - 1, by omega⟩
  have e2 : wrap64 ((i : Int) + 1) = ((i + 1 : Nat) : Int) := by rw [w64 (by omega) (by omega)]; rfl
  simp only [laws_toByteS.l0]
  rw [if_pos (by omega), if_pos (by omega), if_pos (by omega), e2]
  exact toByteS_loop l hn d k (i + 1) _ (by omega) (by omega) (by omega) (by simp [hl]) (by simpa using set_take l o i (by omega) hl ho)
theorem toByteS_eq (l : List Int) (hn : l.length ≤ 140737488351232) (k : Nat) (hk : l.length < k) : laws_toByteS.f k l = some l := by
 unfold laws_toByteS.f
 rw [if_pos (by omega), if_pos (by omega)]
 exact toByteS_loop l (by omega) l.length k 0 _ (by omega) (by omega) hk (by simp) (by simp)

theorem eqByteS_loop (a b : List Int) (hab : a.length = b.length) (hn : a.length < 4611686018427387904) : ∀ (d k i : Nat), a.length - i = d → i ≤ a.length → d < k → a.take i = b.take i →
  laws_eqByteS.l0 k a b (i : Int) = some (decide (a = b))
 | 0, k, i, hd, hi, hk, ho => by
  obtain ⟨k, rfl⟩ : ∃ m, k = m + 1 := ⟨k - 1, by omega⟩
  simp only [laws_eqByteS.l0]
  rw [if_neg (by omega)]
  rw [List.take_of_length_le (by omega), List.take_of_length_le (by omega)] at ho
  rw [decide_eq_true ho]
 | d + 1, k, i, hd, hi, hk, ho => by
  obtain ⟨k, rfl⟩ : ∃ m, k = m + 1 := ⟨k - 1, by omega⟩
  have e2 : wrap64 ((i : Int) + 1) = ((i + 1 : Nat) : Int) := by rw [w64 (by omega) (by omega)]; rfl
  simp only [laws_eqByteS.l0]
  rw [if_pos (by omega), if_pos (by omega), if_pos (by omega), e2]
  by_cases h : rd a (i : Int) = rd b (i : Int)
  ·rw [if_pos h]
   exact eqByteS_loop a b hab hn d k (i + 1) (by omega) (by omega) (by omega) (by rw [take_succ_rd a i (by omega), take_succ_rd b i (by omega), ho, h])
  ·rw [if_neg h, decide_eq_false (fun e => h (by rw [e]))]
theorem eqByteS_eq (a b : List Int) (hn : a.length < 4611686018427387904) (k : Nat) (hk : a.length < k) : laws_eqByteS.f k a b = some (decide (a = b)) := by
 unfold laws_eqByteS.f
 by_cases h : (a.length : Int) = (b.length : Int)
 ·rw [if_pos h]; exact eqByteS_loop a b (by omega) hn a.length k 0 (by omega) (by omega) hk (by simp)
 ·rw [if_neg h, decide_eq_false (fun e => h (by rw [e]))]

/-- The same packet of the program's own type. -/
def asPacket (r : S58) : S61 := ⟨r.f0, r.f1, r.f2, r.f3, r.f4, r.f5, r.f6, r.f7, r.f8⟩
theorem rdL_nat (l : List S58) (i : Nat) (h : i < l.length) : rd_T58 l (i : Int) = l[i] := by
 unfold rd_T58; simp [List.getD_eq_getElem?_getD, List.getElem?_eq_getElem h]
theorem rdI_nat (l : List S61) (i : Nat) (h : i < l.length) : rd_T61 l (i : Int) = l[i] := by
 unfold rd_T61; simp [List.getD_eq_getElem?_getD, List.getElem?_eq_getElem h]
theorem szPacket_eq (a b c d e f : Int) (m w : Bool) (l : List Int) (hl : l.length ≤ 9223372036854775807) (x : Int) (h0 : 0 ≤ x) (h1 : x ≤ 1048576) :
  laws_szPacket.f a b c d e f m w l x = some (if x - (l.length : Int) < 0 then -1 else x - (l.length : Int)) := by
 unfold laws_szPacket.f laws_szByteS.f
 rw [w64 (x := x - (l.length : Int)) (by omega) (by omega)]
 by_cases h : x - (l.length : Int) < 0
 ·simp only [if_pos h, Option.bind_some]; rfl
 ·simp only [if_neg h, Option.bind_some]
/-- What is left of a bound tells that nothing is long. -/
theorem szPacketS_loop (l : List S58) (hn : l.length ≤ 1048576) (hs : ∀ x ∈ l, x.f8.length ≤ 9223372036854775807) : ∀ (d k i : Nat) (x : Int), l.length - i = d → i ≤ l.length → d < k → 0 ≤ x → x ≤ 1048576 →
  ∃ r, laws_szPacketS.l0 k l x (i : Int) = some r ∧ (r < 0 ∨ (0 ≤ r ∧ ∀ y ∈ l.drop i, y.f8.length ≤ 1048576))
 | 0, k, i, x, hd, hi, hk, h0, h1 => by
  obtain ⟨k, rfl⟩ : ∃ m, k = m + 1 := ⟨k - 1, by omega⟩
  simp only [laws_szPacketS.l0]
  rw [if_neg (by omega)]
  exact ⟨x, rfl, .inr ⟨h0, fun y hy => by rw [List.drop_of_length_le (by omega)] at hy; cases hy⟩⟩
 | d + 1, k, i, x, hd, hi, hk, h0, h1 => by
  obtain ⟨k, rfl⟩ : ∃ m, k = m + 1 := ⟨k - 1, by omega⟩
  have hlt : i < l.length := by omega
  have e1 : wrap64 ((i : Int) + 1) = ((i + 1 : Nat) : Int) := by rw [w64 (by omega) (by omega)]; rfl
  have hm : rd_T58 l (i : Int) ∈ l := by rw [rdL_nat l i hlt]; exact List.getElem_mem _
  have hq := hs _ hm
  simp only [laws_szPacketS.l0]
  rw [if_pos (by omega), if_pos (by omega), szPacket_eq _ _ _ _ _ _ _ _ _ hq x h0 h1, e1]
  simp only [Option.bind_some]
  by_cases h : x - ((rd_T58 l (i : Int)).f8.length : Int) < 0
  ·rw [if_pos h, if_pos (by decide)]
   exact ⟨-1, rfl, .inl (by decide)⟩
  ·rw [if_neg h, if_neg h]
   obtain ⟨r, e, hr⟩ := szPacketS_loop l hn hs d k (i + 1) _ (by omega) (by omega) (by omega) (show 0 ≤ x - ((rd_T58 l (i : Int)).f8.length : Int) by omega) (by omega)
   refine ⟨r, e, hr.imp id fun h2 => ⟨h2.1, fun y hy => ?_⟩⟩
   rw [List.drop_eq_getElem_cons hlt] at hy
   rcases List.mem_cons.1 hy with rfl | hy
   ·rw [← rdL_nat l i hlt]; omega
   ·exact h2.2 y hy
theorem szPacketS_eq (l : List S58) (hl : l.length ≤ 9223372036854775807) (hs : ∀ x ∈ l, x.f8.length ≤ 9223372036854775807) (k : Nat) (hk : l.length < k) :
  ∃ r, laws_szPacketS.f k l 1048576 = some r ∧ (r < 0 ∨ (0 ≤ r ∧ l.length ≤ 1048576 ∧ ∀ y ∈ l, y.f8.length ≤ 1048576)) := by
 unfold laws_szPacketS.f
 rw [w64 (x := 1048576 - (l.length : Int)) (by omega) (by omega)]
 by_cases h : 1048576 - (l.length : Int) < 0
 ·rw [if_pos h]; exact ⟨-1, rfl, .inl (by decide)⟩
 ·rw [if_neg h]
  obtain ⟨r, e, hr⟩ := szPacketS_loop l (by omega) hs l.length k 0 (1048576 - (l.length : Int)) (by omega) (by omega) hk (by omega) (by omega)
  exact ⟨r, e, hr.imp id fun h2 => ⟨h2.1, by omega, by simpa using h2.2⟩⟩
theorem toPacketS_loop (l : List S58) (hn : l.length ≤ 1048576) (hs : ∀ y ∈ l, y.f8.length ≤ 1048576) : ∀ (d k i : Nat) (o : List S61), l.length - i = d → i ≤ l.length → d + 1048577 < k → o.length = l.length → o.take i = (l.map asPacket).take i →
  laws_toPacketS.l0 k l o (i : Int) = some (l.map asPacket)
 | 0, k, i, o, hd, hi, hk, hl, ho => by
  obtain ⟨k, rfl⟩ : ∃ m, k = m + 1 := ⟨k - 1, by omega⟩
  simp only [laws_toPacketS.l0]
  rw [if_neg (by omega)]
  rw [List.take_of_length_le (by omega), List.take_of_length_le (by simp; omega)] at ho
  rw [ho]
 | d + 1, k, i, o, hd, hi, hk, hl, ho => by
  obtain ⟨k, rfl⟩ : ∃ m, k = m + 1 := ⟨k - 1, by omega⟩
  have e2 : wrap64 ((i : Int) + 1) = ((i + 1 : Nat) : Int) := by rw [w64 (by omega) (by omega)]; rfl
  have hi' : i < l.length := by omega
  have er := rdL_nat l i hi'
  have hq : (rd_T58 l (i : Int)).f8.length ≤ 1048576 := by rw [er]; exact hs _ (List.getElem_mem _)
  simp only [laws_toPacketS.l0, laws_toPacket.f]
  rw [if_pos (by omega), if_pos (by omega), toByteS_eq _ (by omega) k (by omega), e2]
  simp only [Option.bind_some]
  rw [if_pos (by omega)]
  have en : ((i : Nat) : Int).toNat = i := by omega
  refine toPacketS_loop l hn hs d k (i + 1) _ (by omega) (by omega) (by omega) (by simp [hl]) ?_
  rw [er, en, List.take_succ_eq_append_getElem (by simp; omega), List.take_succ_eq_append_getElem (by simp; omega), List.take_set_of_le (by omega), ho]
  simp [asPacket]
theorem toPacketS_eq (l : List S58) (hn : l.length ≤ 1048576) (hs : ∀ y ∈ l, y.f8.length ≤ 1048576) (k : Nat) (hk : l.length + 1048577 < k) : laws_toPacketS.f k l = some (l.map asPacket) := by
 unfold laws_toPacketS.f
 rw [if_pos (by omega), if_pos (by omega)]
 exact toPacketS_loop l (by omega) hs l.length k 0 _ (by omega) (by omega) hk (by simp) (by simp)
theorem eqPacket_same (a b c d e f : Int) (m w : Bool) (l : List Int) (hl : l.length ≤ 1048576) (k : Nat) (hk : 1048577 < k) : laws_eqPacket.f k a b c d e f m w l a b c d e f m w l = some true := by
 unfold laws_eqPacket.f
 rw [eqByteS_eq l l (by omega) k (by omega)]
 simp
theorem eqPacketS_loop (a : List S61) (hn : a.length ≤ 1048576) (hs : Short a) : ∀ (d k i : Nat), a.length - i = d → i ≤ a.length → d + 1048578 < k → laws_eqPacketS.l0 k a a (i : Int) = some true
 | 0, k, i, hd, hi, hk => by
  obtain ⟨k, rfl⟩ : ∃ m, k = m + 1 := ⟨k - 1, by omega⟩
  simp only [laws_eqPacketS.l0]
  rw [if_neg (by omega)]
 | d + 1, k, i, hd, hi, hk => by
  obtain ⟨k, rfl⟩ : ∃ m, k = m + 1 := ⟨k - 1, by omega⟩
  have e2 : wrap64 ((i : Int) + 1) = ((i + 1 : Nat) : Int) := by rw [w64 (by omega) (by omega)]; rfl
  simp only [laws_eqPacketS.l0]
  rw [if_pos (by omega), if_pos (by omega), if_pos (by omega), eqPacket_same _ _ _ _ _ _ _ _ _ (hs.rd _) k (by omega), e2, eqPacketS_loop a hn hs d k (i + 1) (by omega) (by omega) (by omega)]
  simp
theorem eqPacketS_self (a : List S61) (hn : a.length ≤ 1048576) (hs : Short a) (k : Nat) (hk : a.length + 1048578 < k) : laws_eqPacketS.f k a a = some true := by
 unfold laws_eqPacketS.f
 rw [if_pos rfl]
 exact eqPacketS_loop a hn hs a.length k 0 (by omega) (by omega) hk

/-- The same part of the program's own type. -/
def asPart (x : S88) : S92 := ⟨x.f0.map asPacket, x.f1⟩
theorem rdLP_nat (l : List S88) (i : Nat) (h : i < l.length) : rd_T88 l (i : Int) = l[i] := by
 unfold rd_T88; simp [List.getD_eq_getElem?_getD, List.getElem?_eq_getElem h]
/-- What is left of a bound, with its own bound. -/
theorem szPacketS_le (l : List S58) (hn : l.length ≤ 1048576) (hs : ∀ x ∈ l, x.f8.length ≤ 9223372036854775807) : ∀ (d k i : Nat) (x r : Int), l.length - i = d → i ≤ l.length → d < k → 0 ≤ x → x ≤ 1048576 → laws_szPacketS.l0 k l x (i : Int) = some r → r ≤ x
 | 0, k, i, x, r, hd, hi, hk, h0, h1, h => by
  obtain ⟨k, rfl⟩ : ∃ m, k = m + 1 := ⟨k - 1, by omega⟩
  simp only [laws_szPacketS.l0] at h
  rw [if_neg (by omega)] at h
  have := Option.some.inj h
  omega
 | d + 1, k, i, x, r, hd, hi, hk, h0, h1, h => by
  obtain ⟨k, rfl⟩ : ∃ m, k = m + 1 := ⟨k - 1, by omega⟩
  have hlt : i < l.length := by omega
  have e1 : wrap64 ((i : Int) + 1) = ((i + 1 : Nat) : Int) := by rw [w64 (by omega) (by omega)]; rfl
  have hm : rd_T58 l (i : Int) ∈ l := by rw [rdL_nat l i hlt]; exact List.getElem_mem _
  have hq := hs _ hm
  simp only [laws_szPacketS.l0] at h
  rw [if_pos (by omega), if_pos (by omega), szPacket_eq _ _ _ _ _ _ _ _ _ hq x h0 h1, e1] at h
  simp only [Option.bind_some] at h
  by_cases h2 : x - ((rd_T58 l (i : Int)).f8.length : Int) < 0
  ·rw [if_pos h2, if_pos (by decide)] at h
   have := Option.some.inj h
   omega
  ·rw [if_neg h2, if_neg h2] at h
   have := szPacketS_le l hn hs d k (i + 1) _ r (by omega) (by omega) (by omega) (by omega) (by omega) h
   omega
theorem szPart_eq (l : List S58) (o : Int) (hl : l.length ≤ 9223372036854775807) (hs : ∀ x ∈ l, x.f8.length ≤ 9223372036854775807) (x : Int) (h0 : 0 ≤ x) (h1 : x ≤ 1048576) (k : Nat) (hk : 1048577 < k) :
  ∃ r, laws_szPart.f k l o x = some r ∧ (r < 0 ∨ (0 ≤ r ∧ r ≤ 1048576 ∧ l.length ≤ 1048576 ∧ ∀ y ∈ l, y.f8.length ≤ 1048576)) := by
 unfold laws_szPart.f laws_szPacketS.f
 rw [w64 (x := x - (l.length : Int)) (by omega) (by omega)]
 by_cases h : x - (l.length : Int) < 0
 ·rw [if_pos h]; exact ⟨-1, rfl, .inl (by decide)⟩
 ·rw [if_neg h]
  obtain ⟨r, e, hr⟩ := szPacketS_loop l (by omega) hs l.length k 0 (x - (l.length : Int)) (by omega) (by omega) (by omega) (by omega) (by omega)
  have hle := szPacketS_le l (by omega) hs l.length k 0 (x - (l.length : Int)) r (by omega) (by omega) (by omega) (by omega) (by omega) e
  refine ⟨if r < 0 then -1 else r, ?_, ?_⟩
  ·rw [show (0 : Int) = ((0 : Nat) : Int) from rfl, e]
   simp only [Option.bind_some]
   split <;> rfl
  ·rcases hr with h3 | h3
   ·rw [if_pos h3]; exact .inl (by decide)
   ·rw [if_neg (by omega)]; exact .inr ⟨h3.1, by omega, by omega, by simpa using h3.2⟩
theorem szPartS_loop (l : List S88) (hn : l.length ≤ 1048576) (hs : ∀ x ∈ l, x.f0.length ≤ 9223372036854775807 ∧ ∀ y ∈ x.f0, y.f8.length ≤ 9223372036854775807) : ∀ (d k i : Nat) (x : Int), l.length - i = d → i ≤ l.length → d + 1048577 < k → 0 ≤ x → x ≤ 1048576 →
  ∃ r, laws_szPartS.l0 k l x (i : Int) = some r ∧ (r < 0 ∨ (0 ≤ r ∧ ∀ y ∈ l.drop i, y.f0.length ≤ 1048576 ∧ ∀ z ∈ y.f0, z.f8.length ≤ 1048576))
 | 0, k, i, x, hd, hi, hk, h0, h1 => by
  obtain ⟨k, rfl⟩ : ∃ m, k = m + 1 := ⟨k - 1, by omega⟩
  simp only [laws_szPartS.l0]
  rw [if_neg (by omega)]
  exact ⟨x, rfl, .inr ⟨h0, fun y hy => by rw [List.drop_of_length_le (by omega)] at hy; cases hy⟩⟩
 | d + 1, k, i, x, hd, hi, hk, h0, h1 => by
  obtain ⟨k, rfl⟩ : ∃ m, k = m + 1 := ⟨k - 1, by omega⟩
  have hlt : i < l.length := by omega
  have e1 : wrap64 ((i : Int) + 1) = ((i + 1 : Nat) : Int) := by rw [w64 (by omega) (by omega)]; rfl
  have hq : (rd_T88 l (i : Int)).f0.length ≤ 9223372036854775807 ∧ ∀ y ∈ (rd_T88 l (i : Int)).f0, y.f8.length ≤ 9223372036854775807 := by rw [rdLP_nat l i hlt]; exact hs _ (List.getElem_mem _)
  obtain ⟨r1, e2, h2⟩ := szPart_eq _ (rd_T88 l (i : Int)).f1 hq.1 hq.2 x h0 h1 k (by omega)
  simp only [laws_szPartS.l0]
  rw [if_pos (by omega), if_pos (by omega), e2, e1]
  simp only [Option.bind_some]
  rcases h2 with h2 | h2
  ·rw [if_pos h2]
   exact ⟨-1, rfl, .inl (by decide)⟩
  ·rw [if_neg (by omega)]
   obtain ⟨r, e, hr⟩ := szPartS_loop l hn hs d k (i + 1) r1 (by omega) (by omega) (by omega) h2.1 h2.2.1
   refine ⟨r, e, hr.imp id fun h3 => ⟨h3.1, fun y hy => ?_⟩⟩
   rw [List.drop_eq_getElem_cons hlt] at hy
   rcases List.mem_cons.1 hy with rfl | hy
   ·rw [← rdLP_nat l i hlt]; exact h2.2.2
   ·exact h3.2 y hy
theorem szPartS_eq (l : List S88) (hl : l.length ≤ 9223372036854775807) (hs : ∀ x ∈ l, x.f0.length ≤ 9223372036854775807 ∧ ∀ y ∈ x.f0, y.f8.length ≤ 9223372036854775807) (k : Nat) (hk : 2097153 < k) :
  ∃ r, laws_szPartS.f k l 1048576 = some r ∧ (r < 0 ∨ (0 ≤ r ∧ l.length ≤ 1048576 ∧ ∀ y ∈ l, y.f0.length ≤ 1048576 ∧ ∀ z ∈ y.f0, z.f8.length ≤ 1048576)) := by
 unfold laws_szPartS.f
 rw [w64 (x := 1048576 - (l.length : Int)) (by omega) (by omega)]
 by_cases h : 1048576 - (l.length : Int) < 0
 ·rw [if_pos h]; exact ⟨-1, rfl, .inl (by decide)⟩
 ·rw [if_neg h]
  obtain ⟨r, e, hr⟩ := szPartS_loop l (by omega) hs l.length k 0 (1048576 - (l.length : Int)) (by omega) (by omega) (by omega) (by omega) (by omega)
  exact ⟨r, e, hr.imp id fun h2 => ⟨h2.1, by omega, by simpa using h2.2⟩⟩
theorem toPartS_loop (l : List S88) (hn : l.length ≤ 1048576) (hs : ∀ y ∈ l, y.f0.length ≤ 1048576 ∧ ∀ z ∈ y.f0, z.f8.length ≤ 1048576) : ∀ (d k i : Nat) (o : List S92), l.length - i = d → i ≤ l.length → d + 2097155 < k → o.length = l.length → o.take i = (l.map asPart).take i →
  laws_toPartS.l0 k l o (i : Int) = some (l.map asPart)
 | 0, k, i, o, hd, hi, hk, hl, ho => by
  obtain ⟨k, rfl⟩ : ∃ m, k = m + 1 := ⟨k - 1, by omega⟩
  simp only [laws_toPartS.l0]
  rw [if_neg (by omega)]
  rw [List.take_of_length_le (by omega), List.take_of_length_le (by simp; omega)] at ho
  rw [ho]
 | d + 1, k, i, o, hd, hi, hk, hl, ho => by
  obtain ⟨k, rfl⟩ : ∃ m, k = m + 1 := ⟨k - 1, by omega⟩
  have hlt : i < l.length := by omega
  have e2 : wrap64 ((i : Int) + 1) = ((i + 1 : Nat) : Int) := by rw [w64 (by omega) (by omega)]; rfl
  have er := rdLP_nat l i hlt
  have hq : (rd_T88 l (i : Int)).f0.length ≤ 1048576 ∧ ∀ z ∈ (rd_T88 l (i : Int)).f0, z.f8.length ≤ 1048576 := by rw [er]; exact hs _ (List.getElem_mem _)
  simp only [laws_toPartS.l0, laws_toPart.f]
  rw [if_pos (by omega), if_pos (by omega), toPacketS_eq _ hq.1 hq.2 k (by omega), e2]
  simp only [Option.bind_some]
  rw [if_pos (by omega)]
  have en : ((i : Nat) : Int).toNat = i := by omega
  refine toPartS_loop l hn hs d k (i + 1) _ (by omega) (by omega) (by omega) (by simp [hl]) ?_
  rw [er, en, List.take_succ_eq_append_getElem (by simp; omega), List.take_succ_eq_append_getElem (by simp; omega), List.take_set_of_le (by omega), ho]
  simp [asPart]
theorem toPartS_eq (l : List S88) (hn : l.length ≤ 1048576) (hs : ∀ y ∈ l, y.f0.length ≤ 1048576 ∧ ∀ z ∈ y.f0, z.f8.length ≤ 1048576) (k : Nat) (hk : 3145732 < k) : laws_toPartS.f k l = some (l.map asPart) := by
 unfold laws_toPartS.f
 rw [if_pos (by omega), if_pos (by omega)]
 exact toPartS_loop l hn hs l.length k 0 _ (by omega) (by omega) (by omega) (by simp) (by simp)
theorem eqPartS_loop (a : List S92) (hn : a.length ≤ 1048576) (hs : Wide a) : ∀ (d k i : Nat), a.length - i = d → i ≤ a.length → d + 2097156 < k → laws_eqPartS.l0 k a a (i : Int) = some true
 | 0, k, i, hd, hi, hk => by
  obtain ⟨k, rfl⟩ : ∃ m, k = m + 1 := ⟨k - 1, by omega⟩
  simp only [laws_eqPartS.l0]
  rw [if_neg (by omega)]
 | d + 1, k, i, hd, hi, hk => by
  obtain ⟨k, rfl⟩ : ∃ m, k = m + 1 := ⟨k - 1, by omega⟩
  have e2 : wrap64 ((i : Int) + 1) = ((i + 1 : Nat) : Int) := by rw [w64 (by omega) (by omega)]; rfl
  have hq := hs.rd (i := i) (by omega)
  simp only [laws_eqPartS.l0]
  unfold laws_eqPart.f
  rw [if_pos (by omega), if_pos (by omega), if_pos (by omega), eqPacketS_self _ hq.2 hq.1 k (by omega), e2, eqPartS_loop a hn hs d k (i + 1) (by omega) (by omega) (by omega)]
  simp
theorem eqPartS_self (a : List S92) (hn : a.length ≤ 1048576) (hs : Wide a) (k : Nat) (hk : 3145733 < k) : laws_eqPartS.f k a a = some true := by
 unfold laws_eqPartS.f
 rw [if_pos rfl]
 exact eqPartS_loop a hn hs a.length k 0 (by omega) (by omega) (by omega)

theorem FnExactPartsOk (l0 : (List S88)) (g0 : (l0.length ≤ maxLen ∧ ∀ x ∈ l0, ArgFnExactPartsOk.G88 x)) : ∃ k, laws_FnExactPartsOk.f k l0 = some true := by
 have hm : l0.length ≤ 9223372036854775807 := g0.1
 have hg : ∀ x ∈ l0, x.f0.length ≤ 9223372036854775807 ∧ ∀ y ∈ x.f0, y.f8.length ≤ 9223372036854775807 := fun x hx => by
  have h := g0.2 x hx
  unfold ArgFnExactPartsOk.G88 at h
  refine ⟨h.1.1, fun y hy => ?_⟩
  have h2 := h.1.2 y hy
  unfold ArgFnExactPartsOk.G58 at h2
  simp only [maxLen] at h2
  omega
 obtain ⟨K, hK⟩ : ∃ K : Nat, K = l0.length * (l0.length + 3) + l0.length + 3145740 := ⟨_, rfl⟩
 refine ⟨K, ?_⟩
 obtain ⟨r, e, hr⟩ := szPartS_eq l0 hm hg K (by omega)
 unfold laws_FnExactPartsOk.f
 rw [e]
 simp only [Option.bind_some]
 rcases hr with h | ⟨h, hn, hs⟩
 ·rw [if_pos h]
 ·rw [if_neg (by omega)]
  have hl : (l0.map asPart).length = l0.length := List.length_map ..
  have hW : Wide (l0.map asPart) := fun y hy => by
   obtain ⟨z, hz, rfl⟩ := List.mem_map.1 hy
   refine ⟨fun u hu => ?_, ?_⟩
   ·obtain ⟨v, hv, rfl⟩ := List.mem_map.1 hu
    exact (hs z hz).2 v hv
   ·show (z.f0.map asPacket).length ≤ _
    rw [List.length_map]; exact (hs z hz).1
  obtain ⟨r1, e1, q1⟩ := implPartsOk_eq (l0.map asPart) (by omega) hW K (by omega)
  obtain ⟨r2, e2, q2⟩ := specPartsOk_eq (l0.map asPart) (by omega) hW K (by rw [hl]; omega)
  obtain rfl : r1 = r2 := Bool.eq_iff_iff.mpr (q1.trans q2.symm)
  simp only [toPartS_eq l0 hn hs K (by omega), e1, e2, eqPartS_self (l0.map asPart) (by omega) hW K (by omega), Option.bind_some, bne_self_eq_false, Bool.false_eq_true, if_false, if_true]

end Go.Proofs.Ytbjfnpjkldfeiaa.Pure

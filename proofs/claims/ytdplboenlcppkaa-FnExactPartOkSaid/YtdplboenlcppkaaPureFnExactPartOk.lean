/- PartOk of the program is the reference's at all parts; the statement's own bounds alone. -/
import Derived.Test.YtdplboenlcppkaaPFnExactPartOkx6
import Derived.Test.YtdplboenlcppkaaUFnExactPartOkBase
import Derived.Test.YtdplboenlcppkaaArgFnExactPartOk
namespace Go.Proofs.Ytdplboenlcppkaa.Pure
set_option linter.unusedSimpArgs false
set_option linter.unusedVariables false
open Go Go.RowKit Go.Proofs.Ytdplboenlcppkaa.PFnExactPartOk Go.Proofs.YtdplboenlcppkaaUFnExactPartOk.PrintWords Go.Proofs.YtdplboenlcppkaaUFnExactPartOk.PrintLast Go.Proofs.YtdplboenlcppkaaUFnExactPartOk.PrintMore Go.Proofs.Ytdplboenlcppkaa.Base

theorem l1In_eq (a b c : Int) : spec_l1In.f a b c = some (decide (b ≤ a ∧ a ≤ c)) := by
  unfold spec_l1In.f
  by_cases h : a ≥ b <;> simp [h]

theorem in_eq (a b c : Int) : impl_in.f a b c = some (decide (b ≤ a ∧ a ≤ c)) := by
  unfold impl_in.f
  by_cases h : a ≥ b <;> simp [h]

theorem word_eq (a : Int) : impl_word.f a = some (decide (0 ≤ a ∧ a ≤ 65535)) := by
  unfold impl_word.f
  rw [in_eq]; rfl

/-- A packet is ok. -/
def packetOk (a b c d e f : Int) (m w : Bool) (l : List Int) : Bool :=
  decide ((0 ≤ a ∧ a ≤ 65535) ∧ (0 ≤ b ∧ b ≤ 65535) ∧ (0 ≤ c ∧ c ≤ 255) ∧ (0 ≤ d ∧ d ≤ 255) ∧ (0 ≤ e ∧ e ≤ 255) ∧ (0 ≤ f ∧ f ≤ 255) ∧ (l.length : Int) ≤ 48 ∧ (m = true → (l.length : Int) > 0) ∧ (w = true → f = 0 ∧ m = false))
theorem packet_end (m w : Bool) (f n : Int) : (if n ≤ 48 then (if m = true then (if n > 0 then (if w = true then (if f = 0 then (some (!m)) else (some false)) else (some true)) else (some false)) else (if w = true then (if f = 0 then (some (!m)) else (some false)) else (some true))) else (some false)) =
    some (decide (n ≤ 48 ∧ (m = true → n > 0) ∧ (w = true → f = 0 ∧ m = false))) := by
  by_cases h1 : n ≤ 48 <;> by_cases h2 : n > 0 <;> by_cases h3 : f = 0 <;> cases m <;> cases w <;> simp [h1, h2, h3] <;> omega
theorem specPacketOk_eq (a b c d e f : Int) (m w : Bool) (l : List Int) : spec_PacketOk.f a b c d e f m w l = some (packetOk a b c d e f m w l) := by
  unfold spec_PacketOk.f packetOk
  simp only [l1In_eq, Option.bind_some, packet_end]
  by_cases h1 : 0 ≤ a ∧ a ≤ 65535
  · by_cases h2 : 0 ≤ b ∧ b ≤ 65535
    · by_cases h3 : 0 ≤ c ∧ c ≤ 255
      · by_cases h4 : 0 ≤ d ∧ d ≤ 255
        · by_cases h5 : 0 ≤ e ∧ e ≤ 255
          · by_cases h6 : 0 ≤ f ∧ f ≤ 255
            · simp only [h1, h2, h3, h4, h5, h6, true_and, and_self, decide_true, if_true]
            · simp [h1, h2, h3, h4, h5, h6]
          · simp [h1, h2, h3, h4, h5]
        · simp [h1, h2, h3, h4]
      · simp [h1, h2, h3]
    · simp [h1, h2]
  · simp [h1]
theorem implPacketOk_eq (a b c d e f : Int) (m w : Bool) (l : List Int) : impl_PacketOk.f a b c d e f m w l = some (packetOk a b c d e f m w l) := by
  unfold impl_PacketOk.f packetOk
  simp only [in_eq, word_eq, Option.bind_some, packet_end]
  by_cases h1 : 0 ≤ a ∧ a ≤ 65535
  · by_cases h2 : 0 ≤ b ∧ b ≤ 65535
    · by_cases h3 : 0 ≤ c ∧ c ≤ 255
      · by_cases h4 : 0 ≤ d ∧ d ≤ 255
        · by_cases h5 : 0 ≤ e ∧ e ≤ 255
          · by_cases h6 : 0 ≤ f ∧ f ≤ 255
            · simp only [h1, h2, h3, h4, h5, h6, true_and, and_self, decide_true, if_true]
            · simp [h1, h2, h3, h4, h5, h6]
          · simp [h1, h2, h3, h4, h5]
        · simp [h1, h2, h3, h4]
      · simp [h1, h2, h3]
    · simp [h1, h2]
  · simp [h1]

/-- A piece is ok for itself. -/
def pieceOk (x : S71) : Bool := packetOk x.f0 x.f1 x.f2 x.f3 x.f4 x.f5 x.f6 x.f7 x.f8
/-- Two pieces are of the same packet. -/
def pieceSame (x y : S71) : Prop := x.f0 = y.f0 ∧ x.f1 = y.f1 ∧ x.f2 = y.f2 ∧ x.f4 = y.f4
/-- The piece at i stands well after the one ahead of it. -/
def pieceStep (p : List S71) (i : Nat) : Prop :=
  pieceOk (rd_T71 p (i : Int)) = true ∧ pieceSame (rd_T71 p (i : Int)) (rd_T71 p 0) ∧
  (0 < i → ¬ (rd_T71 p (i : Int)).f5 < wrap64 ((rd_T71 p ((i - 1 : Nat) : Int)).f5 + ((rd_T71 p ((i - 1 : Nat) : Int)).f8.length : Int)) ∧ (rd_T71 p ((i - 1 : Nat) : Int)).f6 = true)
/-- The bytes of the first i pieces. -/
def pieceSum (p : List S71) : Nat → Int
  | 0 => 0
  | i + 1 => pieceSum p i + ((rd_T71 p (i : Int)).f8.length : Int)
/-- The pieces make a part. -/
def partP (p : List S71) (o : Int) : Prop := 0 < p.length ∧ (∀ i, i < p.length → pieceStep p i) ∧ pieceSum p p.length ≤ 48 ∧ (0 ≤ o ∧ o ≤ 1000000)
/-- No piece is long. -/
def Short (p : List S71) : Prop := ∀ x ∈ p, x.f8.length ≤ 1048576
theorem Short.rd {p : List S71} (h : Short p) (i : Int) : (rd_T71 p i).f8.length ≤ 1048576 := by
  unfold rd_T71
  rw [List.getD_eq_getElem?_getD]
  by_cases hi : i.toNat < p.length
  · rw [List.getElem?_eq_getElem hi]; exact h _ (List.getElem_mem hi)
  · rw [List.getElem?_eq_none (by omega)]; exact Nat.zero_le _
theorem Short.nil : Short [] := fun x hx => by cases hx
theorem Short.append {p q : List S71} (h : Short p) (h' : Short q) : Short (p ++ q) := fun x hx => (List.mem_append.mp hx).elim (h x) (h' x)
theorem Short.one {x : S71} (h : x.f8.length ≤ 1048576) : Short [x] := fun y hy => by rw [List.mem_singleton.mp hy]; exact h
theorem Short.drop {p : List S71} (h : Short p) (n : Nat) : Short (p.drop n) := fun x hx => h x (List.mem_of_mem_drop hx)
theorem Short.take {p : List S71} (h : Short p) (n : Nat) : Short (p.take n) := fun x hx => h x (List.mem_of_mem_take hx)
theorem Short.set {p : List S71} (h : Short p) (n : Nat) {x : S71} (hx : x.f8.length ≤ 1048576) : Short (p.set n x) := fun y hy => by
  rcases List.mem_or_eq_of_mem_set hy with h1 | h1
  · exact h y h1
  · rw [h1]; exact hx
theorem pieceSum_range {p : List S71} (h : Short p) : ∀ i : Nat, 0 ≤ pieceSum p i ∧ pieceSum p i ≤ 1048576 * (i : Int)
  | 0 => by unfold pieceSum; omega
  | i + 1 => by have := pieceSum_range h i; have h2 := h.rd (i : Int); unfold pieceSum; omega
theorem rdP_drop (p : List S71) (i : Nat) : rd_T71 (p.drop 1) (i : Int) = rd_T71 p ((i + 1 : Nat) : Int) := by
  unfold rd_T71
  rw [List.getD_eq_getElem?_getD, List.getD_eq_getElem?_getD, List.getElem?_drop, Int.toNat_natCast, Int.toNat_natCast, Nat.add_comm]
theorem rdP_take (p : List S71) (n i : Nat) (h : i < n) : rd_T71 (p.take n) (i : Int) = rd_T71 p (i : Int) := by
  unfold rd_T71
  rw [List.getD_eq_getElem?_getD, List.getD_eq_getElem?_getD, Int.toNat_natCast, List.getElem?_take_of_lt h]
theorem pieceSum_drop (p : List S71) : ∀ i : Nat, pieceSum (p.drop 1) i + ((rd_T71 p 0).f8.length : Int) = pieceSum p (i + 1)
  | 0 => by simp [pieceSum]
  | i + 1 => by
    have := pieceSum_drop p i
    rw [show pieceSum (p.drop 1) (i + 1) = pieceSum (p.drop 1) i + ((rd_T71 (p.drop 1) (i : Int)).f8.length : Int) from rfl, rdP_drop,
      show pieceSum p (i + 1 + 1) = pieceSum p (i + 1) + ((rd_T71 p ((i + 1 : Nat) : Int)).f8.length : Int) from rfl]
    omega
theorem pieceSum_take (p : List S71) (n : Nat) : ∀ i : Nat, i ≤ n → pieceSum (p.take n) i = pieceSum p i
  | 0, _ => rfl
  | i + 1, h => by
    have := pieceSum_take p n i (by omega)
    rw [show pieceSum (p.take n) (i + 1) = pieceSum (p.take n) i + ((rd_T71 (p.take n) (i : Int)).f8.length : Int) from rfl, rdP_take p n i (by omega), this]
    rfl
theorem partP_drop {p : List S71} {o : Int} (h : partP p o) (h2 : 2 ≤ p.length) : partP (p.drop 1) o := by
  obtain ⟨_, hs, ht, ho⟩ := h
  have hl : (p.drop 1).length = p.length - 1 := by rw [List.length_drop]
  have z : ∀ l : List S71, rd_T71 l 0 = rd_T71 l ((0 : Nat) : Int) := fun _ => rfl
  refine ⟨by omega, fun i hi => ?_, ?_, ho⟩
  · obtain ⟨a, b, c⟩ := hs (i + 1) (by omega)
    obtain ⟨_, b1, _⟩ := hs (0 + 1) (by omega)
    refine ⟨by rw [rdP_drop]; exact a, ?_, fun hi0 => ?_⟩
    · rw [rdP_drop, z (p.drop 1), rdP_drop]
      exact ⟨b.1.trans b1.1.symm, b.2.1.trans b1.2.1.symm, b.2.2.1.trans b1.2.2.1.symm, b.2.2.2.trans b1.2.2.2.symm⟩
    · have e : i - 1 + 1 = i + 1 - 1 := by omega
      rw [rdP_drop, rdP_drop, e]
      exact c (by omega)
  · have := pieceSum_drop p (p.length - 1)
    rw [show p.length - 1 + 1 = p.length by omega] at this
    rw [hl]; omega
theorem partP_take {p : List S71} (hp : Short p) {o : Int} (h : partP p o) (h2 : 2 ≤ p.length) : partP (p.take (p.length - 1)) o := by
  obtain ⟨_, hs, ht, ho⟩ := h
  have hl : (p.take (p.length - 1)).length = p.length - 1 := by rw [List.length_take]; omega
  have z : ∀ l : List S71, rd_T71 l 0 = rd_T71 l ((0 : Nat) : Int) := fun _ => rfl
  refine ⟨by omega, fun i hi => ?_, ?_, ho⟩
  · obtain ⟨a, b, c⟩ := hs i (by omega)
    refine ⟨by rw [rdP_take p _ i (by omega)]; exact a, ?_, fun hi0 => ?_⟩
    · rw [rdP_take p _ i (by omega), z (p.take _), rdP_take p _ 0 (by omega)]
      exact b
    · rw [rdP_take p _ i (by omega), rdP_take p _ (i - 1) (by omega)]
      exact c hi0
  · rw [hl, pieceSum_take p _ _ (Nat.le_refl _)]
    have e : pieceSum p (p.length - 1 + 1) = pieceSum p (p.length - 1) + ((rd_T71 p ((p.length - 1 : Nat) : Int)).f8.length : Int) := rfl
    rw [show p.length - 1 + 1 = p.length by omega] at e
    omega
/-- What is left from piece i on. -/
def restP (p : List S71) (o : Int) (i : Nat) : Prop := (∀ j, i ≤ j → j < p.length → pieceStep p j) ∧ 0 < p.length ∧ pieceSum p p.length ≤ 48 ∧ (0 ≤ o ∧ o ≤ 1000000)
theorem restP_zero (p : List S71) (o : Int) : restP p o 0 ↔ partP p o :=
  ⟨fun h => ⟨h.2.1, fun i hi => h.1 i (Nat.zero_le _) hi, h.2.2⟩, fun h => ⟨fun i _ hi => h.2.1 i hi, h.1, h.2.2⟩⟩
theorem restP_succ {p : List S71} {o : Int} {i : Nat} (hi : i < p.length) : restP p o i ↔ pieceStep p i ∧ restP p o (i + 1) :=
  ⟨fun h => ⟨h.1 i (Nat.le_refl _) hi, fun j h1 h2 => h.1 j (by omega) h2, h.2⟩, fun h => ⟨fun j h1 h2 => by
    rcases Nat.eq_or_lt_of_le h1 with e | h3
    · exact e ▸ h.1
    · exact h.2.1 j h3 h2, h.2.2⟩⟩
theorem pieceOk_false {p : List S71} {o : Int} {i : Nat} (hi : i < p.length) (h : ¬ pieceStep p i) : (false = true ↔ restP p o i) :=
  ⟨fun h => (by cases h), fun q => absurd ((restP_succ hi).mp q).1 h⟩
theorem partEnd {p : List S71} {o : Int} (n : Nat) (hn : n = p.length) : ∃ r, (if (p.length : Int) > 0 then (if pieceSum p n ≤ 48 then (some (decide (0 ≤ o ∧ o ≤ 1000000))) else (some false)) else (some false)) = some r ∧ (r = true ↔ restP p o n) := by
  subst hn
  have q : ∀ j, p.length ≤ j → j < p.length → pieceStep p j := fun j h1 h2 => by omega
  by_cases h1 : (p.length : Int) > 0
  · rw [if_pos h1]
    by_cases h2 : pieceSum p p.length ≤ 48
    · rw [if_pos h2]
      exact ⟨_, rfl, fun h => ⟨q, by omega, h2, of_decide_eq_true h⟩, fun h => decide_eq_true h.2.2.2⟩
    · rw [if_neg h2]
      exact ⟨_, rfl, fun h => (by cases h), fun h => absurd h.2.2.1 h2⟩
  · rw [if_neg h1]
    exact ⟨_, rfl, fun h => (by cases h), fun h => absurd h.2.1 (by omega)⟩
theorem sameIf (a0 a1 a2 a4 b0 b1 b2 b4 : Int) : (if a0 = b0 then (if a1 = b1 then (if a2 = b2 then (some (a4 == b4)) else (some false)) else (some false)) else (some false)) = some (decide (a0 = b0 ∧ a1 = b1 ∧ a2 = b2 ∧ a4 = b4)) := by
  by_cases h0 : a0 = b0 <;> by_cases h1 : a1 = b1 <;> by_cases h2 : a2 = b2 <;> by_cases h4 : a4 = b4 <;> simp [h0, h1, h2, h4]

theorem implPartOk_loop (p : List S71) (hp : Short p) (hl : p.length ≤ 1048576) (o : Int) : ∀ (d i k : Nat), i + d = p.length → 2 * d < k →
    ∃ r, impl_PartOk.l0 k (pieceSum p i) p (p.length : Int) (i : Int) p o = some r ∧ (r = true ↔ restP p o i)
  | 0, i, k, hi, hk => by
    obtain ⟨k, rfl⟩ : ∃ m, k = m + 1 := ⟨k - 1, by omega⟩
    obtain ⟨r, e, h⟩ := partEnd (p := p) (o := o) i (by omega)
    simp only [impl_PartOk.l0]
    rw [if_neg (by omega)]
    simp only [in_eq, Option.bind_some, e]
    exact ⟨r, rfl, h⟩
  | d + 1, i, k, hi, hk => by
    obtain ⟨k, rfl⟩ : ∃ m, k = m + 1 + 1 := ⟨k - 2, by omega⟩
    have hil : i < p.length := by omega
    have e1 : wrap64 ((i : Int) + 1) = ((i + 1 : Nat) : Int) := by rw [w64 (by omega) (by omega)]; rfl
    have r1 := pieceSum_range hp i
    have r2 := hp.rd (i : Int)
    have e2 : wrap64 (pieceSum p i + ((rd_T71 p (i : Int)).f8.length : Int)) = pieceSum p (i + 1) := by rw [w64 (by omega) (by omega)]; rfl
    obtain ⟨r, er, hr⟩ := implPartOk_loop p hp hl o d (i + 1) k (by omega) (by omega)
    simp only [impl_PartOk.l0]
    rw [if_pos (by omega), if_pos (by omega), if_pos (by omega)]
    simp only [implPacketOk_eq, Option.bind_some]
    unfold impl_Packet_same.f
    simp only [sameIf, Option.bind_some, impl_PartOk.j1]
    by_cases h1 : pieceOk (rd_T71 p (i : Int)) = true
    · have h1' := h1
      unfold pieceOk at h1'
      rw [if_pos h1', if_pos (by omega)]
      by_cases h2 : pieceSame (rd_T71 p (i : Int)) (rd_T71 p 0)
      · have h2' := h2
        unfold pieceSame at h2'
        rw [decide_eq_true h2']
        simp only [Bool.not_true, Bool.false_eq_true, if_false, e1, e2, er]
        by_cases h3 : (i : Int) > 0
        · have e3 : wrap64 ((i : Int) - 1) = ((i - 1 : Nat) : Int) := by rw [w64 (by omega) (by omega)]; omega
          rw [if_pos h3, e3, if_pos (by omega), if_pos (by omega)]
          by_cases h4 : (rd_T71 p (i : Int)).f5 < wrap64 ((rd_T71 p ((i - 1 : Nat) : Int)).f5 + ((rd_T71 p ((i - 1 : Nat) : Int)).f8.length : Int))
          · rw [if_pos h4]
            exact ⟨_, rfl, pieceOk_false hil (fun q => (q.2.2 (by omega)).1 h4)⟩
          · rw [if_neg h4]
            by_cases h5 : (rd_T71 p ((i - 1 : Nat) : Int)).f6 = true
            · rw [if_pos h5]
              exact ⟨_, rfl, hr.trans ⟨fun q => (restP_succ hil).mpr ⟨⟨h1, h2, fun _ => ⟨h4, h5⟩⟩, q⟩, fun q => ((restP_succ hil).mp q).2⟩⟩
            · rw [if_neg h5]
              exact ⟨_, rfl, pieceOk_false hil (fun q => h5 (q.2.2 (by omega)).2)⟩
        · rw [if_neg h3]
          exact ⟨_, rfl, hr.trans ⟨fun q => (restP_succ hil).mpr ⟨⟨h1, h2, fun h0 => absurd h0 (by omega)⟩, q⟩, fun q => ((restP_succ hil).mp q).2⟩⟩
      · have h2' := h2
        unfold pieceSame at h2'
        rw [decide_eq_false h2']
        simp only [Bool.not_false, if_true]
        exact ⟨_, rfl, pieceOk_false hil (fun q => h2 q.2.1)⟩
    · have h1' := h1
      unfold pieceOk at h1'
      rw [if_neg h1']
      simp only [if_true]
      exact ⟨_, rfl, pieceOk_false hil (fun q => h1 q.1)⟩
theorem implPartOk_eq (p : List S71) (hp : Short p) (hl : p.length ≤ 1048576) (o : Int) (k : Nat) (hk : 2 * p.length < k) : ∃ r, impl_PartOk.f k p o = some r ∧ (r = true ↔ partP p o) := by
  obtain ⟨r, e, h⟩ := implPartOk_loop p hp hl o p.length 0 k (by omega) hk
  exact ⟨r, e, h.trans (restP_zero p o)⟩
theorem implPartOk_true {p : List S71} (hp : Short p) (hl : p.length ≤ 1048576) {o : Int} {k : Nat} (hk : 2 * p.length < k) (h : partP p o) : impl_PartOk.f k p o = some true := by
  obtain ⟨r, e, q⟩ := implPartOk_eq p hp hl o k hk
  rw [e, q.mpr h]

theorem specPartOk_loop (p : List S71) (hp : Short p) (hl : p.length ≤ 1048576) (o : Int) : ∀ (d i k : Nat), i + d = p.length → 2 * d < k →
    ∃ r, spec_PartOk.l0 k (pieceSum p i) (i : Int) p o = some r ∧ (r = true ↔ restP p o i)
  | 0, i, k, hi, hk => by
    obtain ⟨k, rfl⟩ : ∃ m, k = m + 1 := ⟨k - 1, by omega⟩
    obtain ⟨r, e, h⟩ := partEnd (p := p) (o := o) i (by omega)
    simp only [spec_PartOk.l0]
    rw [if_neg (by omega)]
    simp only [l1In_eq, Option.bind_some, e]
    exact ⟨r, rfl, h⟩
  | d + 1, i, k, hi, hk => by
    obtain ⟨k, rfl⟩ : ∃ m, k = m + 1 + 1 := ⟨k - 2, by omega⟩
    have hil : i < p.length := by omega
    have e1 : wrap64 ((i : Int) + 1) = ((i + 1 : Nat) : Int) := by rw [w64 (by omega) (by omega)]; rfl
    have r1 := pieceSum_range hp i
    have r2 := hp.rd (i : Int)
    have e2 : wrap64 (pieceSum p i + ((rd_T71 p (i : Int)).f8.length : Int)) = pieceSum p (i + 1) := by rw [w64 (by omega) (by omega)]; rfl
    obtain ⟨r, er, hr⟩ := specPartOk_loop p hp hl o d (i + 1) k (by omega) (by omega)
    simp only [spec_PartOk.l0]
    rw [if_pos (by omega), if_pos (by omega)]
    simp only [specPacketOk_eq, Option.bind_some]
    unfold spec_l5Same.f
    simp only [sameIf, Option.bind_some, spec_PartOk.j1]
    by_cases h1 : pieceOk (rd_T71 p (i : Int)) = true
    · have h1' := h1
      unfold pieceOk at h1'
      rw [if_pos h1', if_pos (by omega)]
      by_cases h2 : pieceSame (rd_T71 p (i : Int)) (rd_T71 p 0)
      · have h2' := h2
        unfold pieceSame at h2'
        rw [decide_eq_true h2']
        simp only [if_true, Bool.false_eq_true, if_false, e1, e2, er]
        by_cases h3 : (i : Int) > 0
        · have e3 : wrap64 ((i : Int) - 1) = ((i - 1 : Nat) : Int) := by rw [w64 (by omega) (by omega)]; omega
          rw [if_pos h3, e3, if_pos (by omega), if_pos (by omega)]
          by_cases h4 : (rd_T71 p (i : Int)).f5 < wrap64 ((rd_T71 p ((i - 1 : Nat) : Int)).f5 + ((rd_T71 p ((i - 1 : Nat) : Int)).f8.length : Int))
          · rw [if_pos h4]
            exact ⟨_, rfl, pieceOk_false hil (fun q => (q.2.2 (by omega)).1 h4)⟩
          · rw [if_neg h4]
            cases h5 : (rd_T71 p ((i - 1 : Nat) : Int)).f6 with
            | true =>
              simp only [Bool.not_true, Bool.false_eq_true, if_false]
              exact ⟨_, rfl, hr.trans ⟨fun q => (restP_succ hil).mpr ⟨⟨h1, h2, fun _ => ⟨h4, h5⟩⟩, q⟩, fun q => ((restP_succ hil).mp q).2⟩⟩
            | false =>
              simp only [Bool.not_false, if_true]
              exact ⟨_, rfl, pieceOk_false hil (fun q => by have := (q.2.2 (by omega)).2; rw [h5] at this; cases this)⟩
        · rw [if_neg h3]
          exact ⟨_, rfl, hr.trans ⟨fun q => (restP_succ hil).mpr ⟨⟨h1, h2, fun h0 => absurd h0 (by omega)⟩, q⟩, fun q => ((restP_succ hil).mp q).2⟩⟩
      · have h2' := h2
        unfold pieceSame at h2'
        rw [decide_eq_false h2']
        simp only [Bool.false_eq_true, if_false, if_true]
        exact ⟨_, rfl, pieceOk_false hil (fun q => h2 q.2.1)⟩
    · have h1' := h1
      unfold pieceOk at h1'
      rw [if_neg h1']
      simp only [if_true]
      exact ⟨_, rfl, pieceOk_false hil (fun q => h1 q.1)⟩
theorem specPartOk_eq (p : List S71) (hp : Short p) (hl : p.length ≤ 1048576) (o : Int) (k : Nat) (hk : 2 * p.length < k) : ∃ r, spec_PartOk.f k p o = some r ∧ (r = true ↔ partP p o) := by
  obtain ⟨r, e, h⟩ := specPartOk_loop p hp hl o p.length 0 k (by omega) hk
  exact ⟨r, e, h.trans (restP_zero p o)⟩

theorem toByteS_loop (l : List Int) (hn : l.length < 4611686018427387904) : ∀ (d k i : Nat) (o : List Int), l.length - i = d → i ≤ l.length → d < k → o.length = l.length → o.take i = l.take i →
    laws_toByteS.l0 k l o (i : Int) = some l
  | 0, k, i, o, hd, hi, hk, hl, ho => by
    obtain ⟨k, rfl⟩ : ∃ m, k = m + 1 := ⟨k - 1, by omega⟩
    simp only [laws_toByteS.l0]
    rw [if_neg (by omega)]
    rw [List.take_of_length_le (by omega), List.take_of_length_le (by omega)] at ho
    rw [ho]
  | d + 1, k, i, o, hd, hi, hk, hl, ho => by
    obtain ⟨k, rfl⟩ : ∃ m, k = m + 1 := ⟨k - 1, by omega⟩
    have e2 : wrap64 ((i : Int) + 1) = ((i + 1 : Nat) : Int) := by rw [w64 (by omega) (by omega)]; rfl
    simp only [laws_toByteS.l0]
    rw [if_pos (by omega), if_pos (by omega), if_pos (by omega), e2]
    exact toByteS_loop l hn d k (i + 1) _ (by omega) (by omega) (by omega) (by simp [hl]) (by simpa using set_take l o i (by omega) hl ho)
theorem toByteS_eq (l : List Int) (hn : l.length ≤ 140737488351232) (k : Nat) (hk : l.length < k) : laws_toByteS.f k l = some l := by
  unfold laws_toByteS.f
  rw [if_pos (by omega), if_pos (by omega)]
  exact toByteS_loop l (by omega) l.length k 0 _ (by omega) (by omega) hk (by simp) (by simp)

theorem eqByteS_loop (a b : List Int) (hab : a.length = b.length) (hn : a.length < 4611686018427387904) : ∀ (d k i : Nat), a.length - i = d → i ≤ a.length → d < k → a.take i = b.take i →
    laws_eqByteS.l0 k a b (i : Int) = some (decide (a = b))
  | 0, k, i, hd, hi, hk, ho => by
    obtain ⟨k, rfl⟩ : ∃ m, k = m + 1 := ⟨k - 1, by omega⟩
    simp only [laws_eqByteS.l0]
    rw [if_neg (by omega)]
    rw [List.take_of_length_le (by omega), List.take_of_length_le (by omega)] at ho
    rw [decide_eq_true ho]
  | d + 1, k, i, hd, hi, hk, ho => by
    obtain ⟨k, rfl⟩ : ∃ m, k = m + 1 := ⟨k - 1, by omega⟩
    have e2 : wrap64 ((i : Int) + 1) = ((i + 1 : Nat) : Int) := by rw [w64 (by omega) (by omega)]; rfl
    simp only [laws_eqByteS.l0]
    rw [if_pos (by omega), if_pos (by omega), if_pos (by omega), e2]
    by_cases h : rd a (i : Int) = rd b (i : Int)
    · rw [if_pos h]
      exact eqByteS_loop a b hab hn d k (i + 1) (by omega) (by omega) (by omega) (by rw [take_succ_rd a i (by omega), take_succ_rd b i (by omega), ho, h])
    · rw [if_neg h, decide_eq_false (fun e => h (by rw [e]))]
theorem eqByteS_eq (a b : List Int) (hn : a.length < 4611686018427387904) (k : Nat) (hk : a.length < k) : laws_eqByteS.f k a b = some (decide (a = b)) := by
  unfold laws_eqByteS.f
  by_cases h : (a.length : Int) = (b.length : Int)
  · rw [if_pos h]; exact eqByteS_loop a b (by omega) hn a.length k 0 (by omega) (by omega) hk (by simp)
  · rw [if_neg h, decide_eq_false (fun e => h (by rw [e]))]

/-- The same packet of the program's own type. -/
def asPacket (r : S130) : S71 := ⟨r.f0, r.f1, r.f2, r.f3, r.f4, r.f5, r.f6, r.f7, r.f8⟩
theorem rdL_nat (l : List S130) (i : Nat) (h : i < l.length) : rd_T130 l (i : Int) = l[i] := by
  unfold rd_T130; simp [List.getD_eq_getElem?_getD, List.getElem?_eq_getElem h]
theorem rdI_nat (l : List S71) (i : Nat) (h : i < l.length) : rd_T71 l (i : Int) = l[i] := by
  unfold rd_T71; simp [List.getD_eq_getElem?_getD, List.getElem?_eq_getElem h]
theorem szPacket_eq (a b c d e f : Int) (m w : Bool) (l : List Int) (hl : l.length ≤ 9223372036854775807) (x : Int) (h0 : 0 ≤ x) (h1 : x ≤ 1048576) :
    laws_szPacket.f a b c d e f m w l x = some (if x - (l.length : Int) < 0 then -1 else x - (l.length : Int)) := by
  unfold laws_szPacket.f laws_szByteS.f
  rw [w64 (x := x - (l.length : Int)) (by omega) (by omega)]
  by_cases h : x - (l.length : Int) < 0
  · simp only [if_pos h, Option.bind_some]; rfl
  · simp only [if_neg h, Option.bind_some]
/-- What is left of a bound tells that nothing is long. -/
theorem szPacketS_loop (l : List S130) (hn : l.length ≤ 1048576) (hs : ∀ x ∈ l, x.f8.length ≤ 9223372036854775807) : ∀ (d k i : Nat) (x : Int), l.length - i = d → i ≤ l.length → d < k → 0 ≤ x → x ≤ 1048576 →
    ∃ r, laws_szPacketS.l0 k l x (i : Int) = some r ∧ (r < 0 ∨ (0 ≤ r ∧ ∀ y ∈ l.drop i, y.f8.length ≤ 1048576))
  | 0, k, i, x, hd, hi, hk, h0, h1 => by
    obtain ⟨k, rfl⟩ : ∃ m, k = m + 1 := ⟨k - 1, by omega⟩
    simp only [laws_szPacketS.l0]
    rw [if_neg (by omega)]
    exact ⟨x, rfl, .inr ⟨h0, fun y hy => by rw [List.drop_of_length_le (by omega)] at hy; cases hy⟩⟩
  | d + 1, k, i, x, hd, hi, hk, h0, h1 => by
    obtain ⟨k, rfl⟩ : ∃ m, k = m + 1 := ⟨k - 1, by omega⟩
    have hlt : i < l.length := by omega
    have e1 : wrap64 ((i : Int) + 1) = ((i + 1 : Nat) : Int) := by rw [w64 (by omega) (by omega)]; rfl
    have hm : rd_T130 l (i : Int) ∈ l := by rw [rdL_nat l i hlt]; exact List.getElem_mem _
    have hq := hs _ hm
    simp only [laws_szPacketS.l0]
    rw [if_pos (by omega), if_pos (by omega), szPacket_eq _ _ _ _ _ _ _ _ _ hq x h0 h1, e1]
    simp only [Option.bind_some]
    by_cases h : x - ((rd_T130 l (i : Int)).f8.length : Int) < 0
    · rw [if_pos h, if_pos (by decide)]
      exact ⟨-1, rfl, .inl (by decide)⟩
    · rw [if_neg h, if_neg h]
      obtain ⟨r, e, hr⟩ := szPacketS_loop l hn hs d k (i + 1) _ (by omega) (by omega) (by omega) (show 0 ≤ x - ((rd_T130 l (i : Int)).f8.length : Int) by omega) (by omega)
      refine ⟨r, e, hr.imp id fun h2 => ⟨h2.1, fun y hy => ?_⟩⟩
      rw [List.drop_eq_getElem_cons hlt] at hy
      rcases List.mem_cons.1 hy with rfl | hy
      · rw [← rdL_nat l i hlt]; omega
      · exact h2.2 y hy
theorem szPacketS_eq (l : List S130) (hl : l.length ≤ 9223372036854775807) (hs : ∀ x ∈ l, x.f8.length ≤ 9223372036854775807) (k : Nat) (hk : l.length < k) :
    ∃ r, laws_szPacketS.f k l 1048576 = some r ∧ (r < 0 ∨ (0 ≤ r ∧ l.length ≤ 1048576 ∧ ∀ y ∈ l, y.f8.length ≤ 1048576)) := by
  unfold laws_szPacketS.f
  rw [w64 (x := 1048576 - (l.length : Int)) (by omega) (by omega)]
  by_cases h : 1048576 - (l.length : Int) < 0
  · rw [if_pos h]; exact ⟨-1, rfl, .inl (by decide)⟩
  · rw [if_neg h]
    obtain ⟨r, e, hr⟩ := szPacketS_loop l (by omega) hs l.length k 0 (1048576 - (l.length : Int)) (by omega) (by omega) hk (by omega) (by omega)
    exact ⟨r, e, hr.imp id fun h2 => ⟨h2.1, by omega, by simpa using h2.2⟩⟩
theorem toPacketS_loop (l : List S130) (hn : l.length ≤ 1048576) (hs : ∀ y ∈ l, y.f8.length ≤ 1048576) : ∀ (d k i : Nat) (o : List S71), l.length - i = d → i ≤ l.length → d + 1048577 < k → o.length = l.length → o.take i = (l.map asPacket).take i →
    laws_toPacketS.l0 k l o (i : Int) = some (l.map asPacket)
  | 0, k, i, o, hd, hi, hk, hl, ho => by
    obtain ⟨k, rfl⟩ : ∃ m, k = m + 1 := ⟨k - 1, by omega⟩
    simp only [laws_toPacketS.l0]
    rw [if_neg (by omega)]
    rw [List.take_of_length_le (by omega), List.take_of_length_le (by simp; omega)] at ho
    rw [ho]
  | d + 1, k, i, o, hd, hi, hk, hl, ho => by
    obtain ⟨k, rfl⟩ : ∃ m, k = m + 1 := ⟨k - 1, by omega⟩
    have e2 : wrap64 ((i : Int) + 1) = ((i + 1 : Nat) : Int) := by rw [w64 (by omega) (by omega)]; rfl
    have hi' : i < l.length := by omega
    have er := rdL_nat l i hi'
    have hq : (rd_T130 l (i : Int)).f8.length ≤ 1048576 := by rw [er]; exact hs _ (List.getElem_mem _)
    simp only [laws_toPacketS.l0, laws_toPacket.f]
    rw [if_pos (by omega), if_pos (by omega), toByteS_eq _ (by omega) k (by omega), e2]
    simp only [Option.bind_some]
    rw [if_pos (by omega)]
    have en : ((i : Nat) : Int).toNat = i := by omega
    refine toPacketS_loop l hn hs d k (i + 1) _ (by omega) (by omega) (by omega) (by simp [hl]) ?_
    rw [er, en, List.take_succ_eq_append_getElem (by simp; omega), List.take_succ_eq_append_getElem (by simp; omega), List.take_set_of_le (by omega), ho]
    simp [asPacket]
theorem toPacketS_eq (l : List S130) (hn : l.length ≤ 1048576) (hs : ∀ y ∈ l, y.f8.length ≤ 1048576) (k : Nat) (hk : l.length + 1048577 < k) : laws_toPacketS.f k l = some (l.map asPacket) := by
  unfold laws_toPacketS.f
  rw [if_pos (by omega), if_pos (by omega)]
  exact toPacketS_loop l (by omega) hs l.length k 0 _ (by omega) (by omega) hk (by simp) (by simp)
theorem eqPacket_same (a b c d e f : Int) (m w : Bool) (l : List Int) (hl : l.length ≤ 1048576) (k : Nat) (hk : 1048577 < k) : laws_eqPacket.f k a b c d e f m w l a b c d e f m w l = some true := by
  unfold laws_eqPacket.f
  rw [eqByteS_eq l l (by omega) k (by omega)]
  simp
theorem eqPacketS_loop (a : List S71) (hn : a.length ≤ 1048576) (hs : Short a) : ∀ (d k i : Nat), a.length - i = d → i ≤ a.length → d + 1048578 < k → laws_eqPacketS.l0 k a a (i : Int) = some true
  | 0, k, i, hd, hi, hk => by
    obtain ⟨k, rfl⟩ : ∃ m, k = m + 1 := ⟨k - 1, by omega⟩
    simp only [laws_eqPacketS.l0]
    rw [if_neg (by omega)]
  | d + 1, k, i, hd, hi, hk => by
    obtain ⟨k, rfl⟩ : ∃ m, k = m + 1 := ⟨k - 1, by omega⟩
    have e2 : wrap64 ((i : Int) + 1) = ((i + 1 : Nat) : Int) := by rw [w64 (by omega) (by omega)]; rfl
    simp only [laws_eqPacketS.l0]
    rw [if_pos (by omega), if_pos (by omega), if_pos (by omega), eqPacket_same _ _ _ _ _ _ _ _ _ (hs.rd _) k (by omega), e2, eqPacketS_loop a hn hs d k (i + 1) (by omega) (by omega) (by omega)]
    simp
theorem eqPacketS_self (a : List S71) (hn : a.length ≤ 1048576) (hs : Short a) (k : Nat) (hk : a.length + 1048578 < k) : laws_eqPacketS.f k a a = some true := by
  unfold laws_eqPacketS.f
  rw [if_pos rfl]
  exact eqPacketS_loop a hn hs a.length k 0 (by omega) (by omega) hk

theorem FnExactPartOk (l0_0 : (List S130)) (a0_1 : Int) (g0_0 : (l0_0.length ≤ maxLen ∧ ∀ x ∈ l0_0, ArgFnExactPartOk.G130 x)) (g0_1 : (Lit.int .i64 a0_1).wf = true) : ∃ k, laws_FnExactPartOk.f k l0_0 a0_1 = some true := by
  have hm : l0_0.length ≤ 9223372036854775807 := g0_0.1
  have hg : ∀ x ∈ l0_0, x.f8.length ≤ 9223372036854775807 := fun x hx => by
    have h := g0_0.2 x hx
    unfold ArgFnExactPartOk.G130 at h
    simp only [maxLen] at h
    omega
  refine ⟨3 * l0_0.length + 1048600, ?_⟩
  obtain ⟨r, e, hr⟩ := szPacketS_eq l0_0 hm hg (3 * l0_0.length + 1048600) (by omega)
  unfold laws_FnExactPartOk.f laws_szPart.f
  rw [e]
  simp only [Option.bind_some]
  rcases hr with h | ⟨h, hn, hs⟩
  · rw [if_pos h]; simp
  · rw [if_neg (by omega)]
    have hS : Short (l0_0.map asPacket) := fun y hy => by
      obtain ⟨z, hz, rfl⟩ := List.mem_map.1 hy
      exact hs z hz
    have hl : (l0_0.map asPacket).length = l0_0.length := List.length_map ..
    have t := toPacketS_eq l0_0 hn hs (3 * l0_0.length + 1048600) (by omega)
    have q := eqPacketS_self (l0_0.map asPacket) (by omega) hS (3 * l0_0.length + 1048600) (by omega)
    obtain ⟨r1, e1, q1⟩ := implPartOk_eq (l0_0.map asPacket) hS (by omega) a0_1 (3 * l0_0.length + 1048600) (by omega)
    obtain ⟨r2, e2, q2⟩ := specPartOk_eq (l0_0.map asPacket) hS (by omega) a0_1 (3 * l0_0.length + 1048600) (by omega)
    obtain rfl : r1 = r2 := Bool.eq_iff_iff.mpr (q1.trans q2.symm)
    unfold laws_toPart.f laws_eqPart.f
    simp only [t, e1, e2, q, Option.bind_some, bne_self_eq_false, Bool.false_eq_true, if_false, if_true]
    rw [if_neg (by omega)]

end Go.Proofs.Ytdplboenlcppkaa.Pure

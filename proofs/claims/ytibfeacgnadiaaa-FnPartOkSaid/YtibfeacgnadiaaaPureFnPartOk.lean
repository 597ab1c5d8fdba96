/- Fewer pieces are a part: it holds of the pieces without the first one, if there are more, and without the last one; the statement's own bounds alone. -/
import Derived.Test.YtibfeacgnadiaaaPFnPartOkx10
import Derived.Test.YtibfeacgnadiaaaUFnPartOkBase
namespace Go.Proofs.Ytibfeacgnadiaaa.Pure
set_option linter.unusedSimpArgs false
set_option linter.unusedVariables false
open Go Go.RowKit Go.Proofs.Ytibfeacgnadiaaa.PFnPartOk Go.Proofs.YtibfeacgnadiaaaUFnPartOk.PrintWords Go.Proofs.YtibfeacgnadiaaaUFnPartOk.PrintLast Go.Proofs.YtibfeacgnadiaaaUFnPartOk.PrintMore Go.Proofs.Ytibfeacgnadiaaa.Base

/-- What pick draws. -/
def pk (b : List Int) (p n : Int) : Int := ((spec_l20Rd_pick.f 1 b p n).getD (0, 0)).1
theorem pick_f (b : List Int) (hb : Bytes b) (hl : b.length ≤ 2000) (p n : Int) (h0 : 0 ≤ p) (h1 : p ≤ 1073741824) (h2 : -2147483648 ≤ n) (h3 : n ≤ 65536) (k : Nat) :
    ∃ v, spec_l20Rd_pick.f (k + 1) b p n = some (v, p + 1) ∧ 0 ≤ v ∧ (1 ≤ n → v < n) ∧ (n < 1 → v = 0) := by
  have ep : wrap64 (p + 1) = p + 1 := w64 (by omega) (by omega)
  have ep' : wrap64 (p + 1 - 1) = p := by rw [w64 (by omega) (by omega)]; omega
  unfold spec_l20Rd_pick.f
  rw [ep]
  simp only [spec_l20Rd_pick.j0, ep']
  by_cases hn : n < 1
  · rw [if_pos hn, if_pos trivial]
    exact ⟨0, rfl, by omega, fun h => by omega, fun _ => rfl⟩
  rw [if_neg hn]
  by_cases he : (b.length : Int) = 0
  · rw [if_pos (by simpa using he)]
    exact ⟨0, rfl, by omega, fun h => by omega, fun _ => rfl⟩
  rw [if_neg (by simpa using he)]
  by_cases hp : p < (b.length : Int)
  · rw [if_pos hp, if_pos h0, if_neg (by omega)]
    have hr := hb.at_ p
    rw [w64 (x := rd b p) (by omega) (by omega)]
    refine ⟨_, rfl, Int.tmod_nonneg _ hr.1, fun _ => ?_, fun h => by omega⟩
    rw [Int.tmod_eq_emod_of_nonneg hr.1]
    exact Int.emod_lt_of_pos _ (by omega)
  rw [if_neg hp]
  have m1 : 0 ≤ Int.tmod p (b.length : Int) ∧ Int.tmod p (b.length : Int) < (b.length : Int) := by
    rw [Int.tmod_eq_emod_of_nonneg h0]; exact ⟨Int.emod_nonneg _ he, Int.emod_lt_of_pos _ (by omega)⟩
  have e7 : wrap64 (wrap64 (p * 7) + 3) = p * 7 + 3 := by rw [w64 (x := p * 7) (by omega) (by omega), w64 (by omega) (by omega)]
  have m2 : 0 ≤ Int.tmod (p * 7 + 3) (b.length : Int) ∧ Int.tmod (p * 7 + 3) (b.length : Int) < (b.length : Int) := by
    rw [Int.tmod_eq_emod_of_nonneg (by omega)]; exact ⟨Int.emod_nonneg _ he, Int.emod_lt_of_pos _ (by omega)⟩
  rw [if_neg he, if_pos m1.1, if_pos m1.2, e7, if_pos m2.1, if_pos m2.2, if_neg (show ¬ n = 0 by omega)]
  have r1 := hb.at_ (Int.tmod p (b.length : Int))
  have r2 := hb.at_ (Int.tmod (p * 7 + 3) (b.length : Int))
  generalize rd b (Int.tmod p (b.length : Int)) = x1 at r1 ⊢
  generalize rd b (Int.tmod (p * 7 + 3) (b.length : Int)) = x2 at r2 ⊢
  have q0 : Int.tdiv p (b.length : Int) = p / (b.length : Int) := Int.tdiv_eq_ediv_of_nonneg h0
  have q1 : 0 ≤ p / (b.length : Int) := Int.ediv_nonneg h0 (by omega)
  have q2 : p / (b.length : Int) ≤ p := Int.ediv_le_self _ h0
  rw [q0]
  generalize p / (b.length : Int) = q at q1 q2 ⊢
  rw [w64 (x := x1) (by omega) (by omega), w64 (x := x2) (by omega) (by omega), w64 (x := x1 * 131) (by omega) (by omega), w64 (x := x2 * 1117) (by omega) (by omega), w64 (x := p * 29) (by omega) (by omega),
    w64 (x := q) (by omega) (by omega), w64 (x := q * 53) (by omega) (by omega), w64 (x := x1 * 131 + x2 * 1117) (by omega) (by omega), w64 (x := x1 * 131 + x2 * 1117 + p * 29) (by omega) (by omega), w64 (x := x1 * 131 + x2 * 1117 + p * 29 + q * 53) (by omega) (by omega)]
  obtain ⟨y, hy⟩ : ∃ y : Nat, x1 * 131 + x2 * 1117 + p * 29 + q * 53 = (y : Int) := ⟨(x1 * 131 + x2 * 1117 + p * 29 + q * 53).toNat, by omega⟩
  have hy2 : y < 1099511627776 := by omega
  rw [hy]
  have d0 : Int.tdiv (y : Int) 64 = ((y / 64 : Nat) : Int) := by rw [Int.tdiv_eq_ediv_of_nonneg (by omega)]; rfl
  have hz : y / 64 < 1099511627776 := by omega
  rw [d0, w64 (x := ((y / 64 : Nat) : Int)) (by omega) (by omega)]
  obtain ⟨ex, lx⟩ := xor_i64 y (y / 64) hy2 hz
  rw [ex]
  refine ⟨_, rfl, Int.tmod_nonneg _ (by omega), fun _ => ?_, fun h => by omega⟩
  rw [Int.tmod_eq_emod_of_nonneg (by omega)]
  exact Int.emod_lt_of_pos _ (by omega)
theorem pick_one (b : List Int) (p n : Int) (k : Nat) : spec_l20Rd_pick.f (k + 1) b p n = spec_l20Rd_pick.f 1 b p n := by
  unfold spec_l20Rd_pick.f
  simp only [spec_l20Rd_pick.j0]
theorem pick_eq {b : List Int} (hb : Bytes b) (hl : b.length ≤ 2000) {p n : Int} (h0 : 0 ≤ p) (h1 : p ≤ 1073741824) (h2 : -2147483648 ≤ n) (h3 : n ≤ 65536) {k : Nat} (hk : 1 ≤ k) : spec_l20Rd_pick.f k b p n = some (pk b p n, p + 1) := by
  obtain ⟨k, rfl⟩ : ∃ m, k = m + 1 := ⟨k - 1, by omega⟩
  rw [pick_one]
  obtain ⟨v, hv, _⟩ := pick_f b hb hl p n h0 h1 h2 h3 0
  unfold pk
  rw [hv]; rfl
theorem pk_range {b : List Int} (hb : Bytes b) (hl : b.length ≤ 2000) {p n : Int} (h0 : 0 ≤ p) (h1 : p ≤ 1073741824) (h2 : 1 ≤ n) (h3 : n ≤ 65536) : 0 ≤ pk b p n ∧ pk b p n < n := by
  obtain ⟨v, hv, g0, g1, _⟩ := pick_f b hb hl p n h0 h1 (by omega) h3 0
  unfold pk
  rw [hv]; exact ⟨g0, g1 h2⟩
/-- The bytes that are drawn from. -/
theorem open_eq (l : List Int) (hb : Bytes l) : ∃ b, spec_l20Open.f l = some (b, 0) ∧ Bytes b ∧ b.length ≤ 2000 := by
  unfold spec_l20Open.f
  by_cases h : (l.length : Int) > 2000
  · rw [if_pos h, if_pos (by omega)]
    exact ⟨_, rfl, hb.take _, by simp; omega⟩
  · rw [if_neg h]
    exact ⟨_, rfl, hb, by omega⟩

/-- odd tells just this. -/
theorem odd_eq {b : List Int} (hb : Bytes b) (hl : b.length ≤ 2000) {p n : Int} (h0 : 0 ≤ p) (h1 : p ≤ 1073741824) (h2 : 0 ≤ n) (h3 : n ≤ 65536) {k : Nat} (hk : 1 ≤ k) :
    ∃ o p', spec_l20Rd_odd.f k b p n = some (o, p') ∧ p ≤ p' ∧ p' ≤ p + 1 ∧ (n = 0 → o = false) := by
  unfold spec_l20Rd_odd.f
  by_cases h : n > 0
  · rw [if_pos h, pick_eq hb hl h0 h1 (by omega) h3 hk]
    exact ⟨_, _, rfl, by omega, by omega, fun h => by omega⟩
  · rw [if_neg h]
    exact ⟨_, _, rfl, by omega, by omega, fun _ => rfl⟩

theorem drawBytes_loop {b : List Int} (hb : Bytes b) (hl : b.length ≤ 2000) : ∀ (d k : Nat) (p : Int) (o : List Int), d < k → Bytes o → o.length + d ≤ 4096 → 0 ≤ p → p + 2 * d ≤ 1073741824 →
    ∃ r p', spec_l20Rd_bytes.l0 k (d : Int) o b p = some (r, p') ∧ Bytes r ∧ r.length = o.length + d ∧ p ≤ p' ∧ p' ≤ p + 2 * d
  | 0, k, p, o, hk, ho, hlo, h0, h1 => by
    obtain ⟨k, rfl⟩ : ∃ m, k = m + 1 := ⟨k - 1, by omega⟩
    simp only [spec_l20Rd_bytes.l0]
    rw [if_neg (by omega)]
    exact ⟨o, p, rfl, ho, by omega, by omega, by omega⟩
  | d + 1, k, p, o, hk, ho, hlo, h0, h1 => by
    obtain ⟨k, rfl⟩ : ∃ m, k = m + 1 := ⟨k - 1, by omega⟩
    have e1 : wrap64 (((d + 1 : Nat) : Int) - 1) = (d : Int) := by rw [w64 (by omega) (by omega)]; omega
    simp only [spec_l20Rd_bytes.l0]
    rw [if_pos (by omega), pick_eq hb hl h0 (by omega) (by omega) (by omega) (show 1 ≤ k by omega)]
    simp only [Option.bind_some]
    rw [pick_eq hb hl (p := p + 1) (n := 256) (by omega) (by omega) (by omega) (by omega) (show 1 ≤ k by omega), pick_eq hb hl (p := p + 1) (n := 3) (by omega) (by omega) (by omega) (by omega) (show 1 ≤ k by omega)]
    simp only [Option.bind_some]
    rw [if_pos (show o.length < 140737488355328 by omega), if_pos (show o.length < 140737488355328 by omega), e1]
    by_cases h : pk b p 3 = 0
    · rw [if_pos h]
      obtain ⟨r, p', hr, g1, g2, g3, g4⟩ := drawBytes_loop hb hl d k (p + 1 + 1) (o ++ [pk b (p + 1) 256 % 256]) (by omega) (ho.append (Bytes.cons (Bytes.mod _) Bytes.nil)) (by simp; omega) (by omega) (by omega)
      exact ⟨r, p', hr, g1, by rw [g2]; simp; omega, by omega, by omega⟩
    · rw [if_neg h]
      obtain ⟨r, p', hr, g1, g2, g3, g4⟩ := drawBytes_loop hb hl d k (p + 1 + 1) (o ++ [wrap64 (pk b (p + 1) 3 + 97) % 256]) (by omega) (ho.append (Bytes.cons (Bytes.mod _) Bytes.nil)) (by simp; omega) (by omega) (by omega)
      exact ⟨r, p', hr, g1, by rw [g2]; simp; omega, by omega, by omega⟩
theorem drawBytes_eq {b : List Int} (hb : Bytes b) (hl : b.length ≤ 2000) {p n : Int} (h0 : 0 ≤ p) (h1 : p ≤ 536870912) (h2 : 0 ≤ n) (h3 : n ≤ 4096) {k : Nat} (hk : n.toNat < k) :
    ∃ r p', spec_l20Rd_bytes.f k b p n = some (r, p') ∧ Bytes r ∧ (r.length : Int) = n ∧ p ≤ p' ∧ p' ≤ p + 2 * n := by
  obtain ⟨n, rfl⟩ : ∃ m : Nat, n = m := ⟨n.toNat, by omega⟩
  obtain ⟨r, p', hr, g1, g2, g3, g4⟩ := drawBytes_loop hb hl n k p [] (by omega) Bytes.nil (by simp; omega) h0 (by omega)
  exact ⟨r, p', hr, g1, by simp at g2; omega, g3, by omega⟩

theorem l1In_eq (a b c : Int) : spec_l1In.f a b c = some (decide (b ≤ a ∧ a ≤ c)) := by
  unfold spec_l1In.f
  by_cases h : a ≥ b <;> simp [h]

theorem in_eq (a b c : Int) : impl_in.f a b c = some (decide (b ≤ a ∧ a ≤ c)) := by
  unfold impl_in.f
  by_cases h : a ≥ b <;> simp [h]

theorem word_eq (a : Int) : impl_word.f a = some (decide (0 ≤ a ∧ a ≤ 65535)) := by
  unfold impl_word.f
  rw [in_eq]; rfl

/-- A packet is ok. -/
def packetOk (a b c d e f : Int) (m w : Bool) (l : List Int) : Bool :=
  decide ((0 ≤ a ∧ a ≤ 65535) ∧ (0 ≤ b ∧ b ≤ 65535) ∧ (0 ≤ c ∧ c ≤ 255) ∧ (0 ≤ d ∧ d ≤ 255) ∧ (0 ≤ e ∧ e ≤ 255) ∧ (0 ≤ f ∧ f ≤ 255) ∧ (l.length : Int) ≤ 48 ∧ (m = true → (l.length : Int) > 0) ∧ (w = true → f = 0 ∧ m = false))
theorem packet_end (m w : Bool) (f n : Int) : (if n ≤ 48 then (if m = true then (if n > 0 then (if w = true then (if f = 0 then (some (!m)) else (some false)) else (some true)) else (some false)) else (if w = true then (if f = 0 then (some (!m)) else (some false)) else (some true))) else (some false)) =
    some (decide (n ≤ 48 ∧ (m = true → n > 0) ∧ (w = true → f = 0 ∧ m = false))) := by
  by_cases h1 : n ≤ 48 <;> by_cases h2 : n > 0 <;> by_cases h3 : f = 0 <;> cases m <;> cases w <;> simp [h1, h2, h3] <;> omega
theorem specPacketOk_eq (a b c d e f : Int) (m w : Bool) (l : List Int) : spec_PacketOk.f a b c d e f m w l = some (packetOk a b c d e f m w l) := by
  unfold spec_PacketOk.f packetOk
  simp only [l1In_eq, Option.bind_some, packet_end]
  by_cases h1 : 0 ≤ a ∧ a ≤ 65535
  · by_cases h2 : 0 ≤ b ∧ b ≤ 65535
    · by_cases h3 : 0 ≤ c ∧ c ≤ 255
      · by_cases h4 : 0 ≤ d ∧ d ≤ 255
        · by_cases h5 : 0 ≤ e ∧ e ≤ 255
          · by_cases h6 : 0 ≤ f ∧ f ≤ 255
            · simp only [h1, h2, h3, h4, h5, h6, true_and, and_self, decide_true, if_true]
            · simp [h1, h2, h3, h4, h5, h6]
          · simp [h1, h2, h3, h4, h5]
        · simp [h1, h2, h3, h4]
      · simp [h1, h2, h3]
    · simp [h1, h2]
  · simp [h1]
theorem implPacketOk_eq (a b c d e f : Int) (m w : Bool) (l : List Int) : impl_PacketOk.f a b c d e f m w l = some (packetOk a b c d e f m w l) := by
  unfold impl_PacketOk.f packetOk
  simp only [in_eq, word_eq, Option.bind_some, packet_end]
  by_cases h1 : 0 ≤ a ∧ a ≤ 65535
  · by_cases h2 : 0 ≤ b ∧ b ≤ 65535
    · by_cases h3 : 0 ≤ c ∧ c ≤ 255
      · by_cases h4 : 0 ≤ d ∧ d ≤ 255
        · by_cases h5 : 0 ≤ e ∧ e ≤ 255
          · by_cases h6 : 0 ≤ f ∧ f ≤ 255
            · simp only [h1, h2, h3, h4, h5, h6, true_and, and_self, decide_true, if_true]
            · simp [h1, h2, h3, h4, h5, h6]
          · simp [h1, h2, h3, h4, h5]
        · simp [h1, h2, h3, h4]
      · simp [h1, h2, h3]
    · simp [h1, h2]
  · simp [h1]

theorem drawPacket0_end {b : List Int} {p : Int} (x0 x1 x2 x3 x4 x5 : Int) (x6 x7 : Bool) (d : List Int) {k : Nat} (hk : 2 ≤ k) : spec_l20Packet.j0 k 0 b p x0 x1 x2 x3 x4 x5 x6 x7 d = some (x0, x1, x2, x3, x4, x5, x6, x7, d, p) := by
  obtain ⟨k, rfl⟩ : ∃ j, k = j + 1 + 1 := ⟨k - 2, by omega⟩
  have e : spec_l20Rd_odd.f (k + 1) b p 0 = some (false, p) := by unfold spec_l20Rd_odd.f; rw [if_neg (by omega)]
  simp only [spec_l20Packet.j0, e, Option.bind_some, Bool.false_eq_true, if_false]
  rfl
/-- Drawn so a packet is ok. -/
theorem drawPacket0_eq {b : List Int} (hb : Bytes b) (hl : b.length ≤ 2000) {p : Int} (h0 : 0 ≤ p) (h1 : p ≤ 268435456) {k : Nat} (hk : 20 ≤ k) :
    ∃ a0 a1 a2 a3 a4 a5 a6 a7 r p', spec_l20Packet.f k b p 0 = some (a0, a1, a2, a3, a4, a5, a6, a7, r, p') ∧ packetOk a0 a1 a2 a3 a4 a5 a6 a7 r = true ∧ Bytes r ∧ p ≤ p' ∧ p' ≤ p + 60 := by
  have hk1 : 1 ≤ k := by omega
  unfold spec_l20Packet.f
  rw [pick_eq hb hl h0 (by omega) (by omega) (by omega) hk1]
  simp only [Option.bind_some]
  rw [pick_eq hb hl (p := p + 1) (n := 5) (by omega) (by omega) (by omega) (by omega) hk1]
  simp only [Option.bind_some]
  rw [pick_eq hb hl (p := p + 1 + 1) (n := 4) (by omega) (by omega) (by omega) (by omega) hk1]
  simp only [Option.bind_some]
  rw [pick_eq hb hl (p := p + 1 + 1 + 1) (n := 6) (by omega) (by omega) (by omega) (by omega) hk1]
  simp only [Option.bind_some]
  rw [pick_eq hb hl (p := p + 1 + 1 + 1 + 1) (n := 4) (by omega) (by omega) (by omega) (by omega) hk1]
  simp only [Option.bind_some]
  rw [pick_eq hb hl (p := p + 1 + 1 + 1 + 1 + 1) (n := 12) (by omega) (by omega) (by omega) (by omega) hk1]
  simp only [Option.bind_some]
  have r0 := pk_range hb hl (p := p) (n := 5) (by omega) (by omega) (by omega) (by omega)
  have r1 := pk_range hb hl (p := p + 1) (n := 5) (by omega) (by omega) (by omega) (by omega)
  have r2 := pk_range hb hl (p := p + 1 + 1) (n := 4) (by omega) (by omega) (by omega) (by omega)
  have r3 := pk_range hb hl (p := p + 1 + 1 + 1) (n := 6) (by omega) (by omega) (by omega) (by omega)
  have r4 := pk_range hb hl (p := p + 1 + 1 + 1 + 1) (n := 4) (by omega) (by omega) (by omega) (by omega)
  have r5 := pk_range hb hl (p := p + 1 + 1 + 1 + 1 + 1) (n := 12) (by omega) (by omega) (by omega) (by omega)
  generalize pk b p 5 = x0 at r0 ⊢
  generalize pk b (p + 1) 5 = x1 at r1 ⊢
  generalize pk b (p + 1 + 1) 4 = x2 at r2 ⊢
  generalize pk b (p + 1 + 1 + 1) 6 = x3 at r3 ⊢
  generalize pk b (p + 1 + 1 + 1 + 1) 4 = x4 at r4 ⊢
  generalize pk b (p + 1 + 1 + 1 + 1 + 1) 12 = c at r5 ⊢
  obtain ⟨d, p1, e1, g1, g2, g3, g4⟩ := drawBytes_eq hb hl (p := p + 1 + 1 + 1 + 1 + 1 + 1) (n := c) (by omega) (by omega) (by omega) (by omega) (k := k) (by omega)
  simp only [e1, Option.bind_some]
  rw [pick_eq hb hl (p := p1) (n := 4) (by omega) (by omega) (by omega) (by omega) hk1]
  simp only [Option.bind_some]
  have hend : ∀ (p3 x5 : Int) (x6 x7 : Bool), p ≤ p3 → p3 ≤ p + 40 → (0 ≤ x5 ∧ x5 ≤ 255) → (x6 = true → (d.length : Int) > 0) → (x7 = true → x5 = 0 ∧ x6 = false) →
      ∃ a0 a1 a2 a3 a4 a5 a6 a7 r p', spec_l20Packet.j0 k 0 b p3 x0 x1 x2 x3 x4 x5 x6 x7 d = some (a0, a1, a2, a3, a4, a5, a6, a7, r, p') ∧ packetOk a0 a1 a2 a3 a4 a5 a6 a7 r = true ∧ Bytes r ∧ p ≤ p' ∧ p' ≤ p + 60 := by
    intro p3 x5 x6 x7 q1 q2 q3 q4 q5
    exact ⟨x0, x1, x2, x3, x4, x5, x6, x7, d, p3, drawPacket0_end x0 x1 x2 x3 x4 x5 x6 x7 d (by omega), decide_eq_true ⟨by omega, by omega, by omega, by omega, by omega, q3, by omega, q4, q5⟩, g1, by omega, by omega⟩
  split
  · exact hend _ _ _ _ (by omega) (by omega) (by omega) (fun h => by cases h) (fun _ => ⟨rfl, rfl⟩)
  · split
    · rw [pick_eq hb hl (p := p1 + 1) (n := 20) (by omega) (by omega) (by omega) (by omega) hk1]
      simp only [Option.bind_some]
      have r6 := pk_range hb hl (p := p1 + 1) (n := 20) (by omega) (by omega) (by omega) (by omega)
      split
      · rename_i hd
        rw [pick_eq hb hl (p := p1 + 1 + 1) (n := 2) (by omega) (by omega) (by omega) (by omega) hk1]
        simp only [Option.bind_some]
        exact hend _ _ _ _ (by omega) (by omega) (by omega) (fun _ => hd) (fun h => by cases h)
      · exact hend _ _ _ _ (by omega) (by omega) (by omega) (fun h => by cases h) (fun h => by cases h)
    · exact hend _ _ _ _ (by omega) (by omega) (by omega) (fun h => by cases h) (fun h => by cases h)

/-- A piece is ok for itself. -/
def pieceOk (x : S27) : Bool := packetOk x.f0 x.f1 x.f2 x.f3 x.f4 x.f5 x.f6 x.f7 x.f8
/-- Two pieces are of the same packet. -/
def pieceSame (x y : S27) : Prop := x.f0 = y.f0 ∧ x.f1 = y.f1 ∧ x.f2 = y.f2 ∧ x.f4 = y.f4
/-- The piece at i stands well after the one ahead of it. -/
def pieceStep (p : List S27) (i : Nat) : Prop :=
  pieceOk (rd_T27 p (i : Int)) = true ∧ pieceSame (rd_T27 p (i : Int)) (rd_T27 p 0) ∧
  (0 < i → ¬ (rd_T27 p (i : Int)).f5 < wrap64 ((rd_T27 p ((i - 1 : Nat) : Int)).f5 + ((rd_T27 p ((i - 1 : Nat) : Int)).f8.length : Int)) ∧ (rd_T27 p ((i - 1 : Nat) : Int)).f6 = true)
/-- The bytes of the first i pieces. -/
def pieceSum (p : List S27) : Nat → Int
  | 0 => 0
  | i + 1 => pieceSum p i + ((rd_T27 p (i : Int)).f8.length : Int)
/-- The pieces make a part. -/
def partP (p : List S27) (o : Int) : Prop := 0 < p.length ∧ (∀ i, i < p.length → pieceStep p i) ∧ pieceSum p p.length ≤ 48 ∧ (0 ≤ o ∧ o ≤ 1000000)
/-- No piece is long. -/
def Short (p : List S27) : Prop := ∀ x ∈ p, x.f8.length ≤ 60
theorem Short.rd {p : List S27} (h : Short p) (i : Int) : (rd_T27 p i).f8.length ≤ 60 := by
  unfold rd_T27
  rw [List.getD_eq_getElem?_getD]
  by_cases hi : i.toNat < p.length
  · rw [List.getElem?_eq_getElem hi]; exact h _ (List.getElem_mem hi)
  · rw [List.getElem?_eq_none (by omega)]; exact Nat.zero_le _
theorem Short.nil : Short [] := fun x hx => by cases hx
theorem Short.append {p q : List S27} (h : Short p) (h' : Short q) : Short (p ++ q) := fun x hx => (List.mem_append.mp hx).elim (h x) (h' x)
theorem Short.one {x : S27} (h : x.f8.length ≤ 60) : Short [x] := fun y hy => by rw [List.mem_singleton.mp hy]; exact h
theorem Short.drop {p : List S27} (h : Short p) (n : Nat) : Short (p.drop n) := fun x hx => h x (List.mem_of_mem_drop hx)
theorem Short.take {p : List S27} (h : Short p) (n : Nat) : Short (p.take n) := fun x hx => h x (List.mem_of_mem_take hx)
theorem Short.set {p : List S27} (h : Short p) (n : Nat) {x : S27} (hx : x.f8.length ≤ 60) : Short (p.set n x) := fun y hy => by
  rcases List.mem_or_eq_of_mem_set hy with h1 | h1
  · exact h y h1
  · rw [h1]; exact hx
theorem pieceSum_range {p : List S27} (h : Short p) : ∀ i : Nat, 0 ≤ pieceSum p i ∧ pieceSum p i ≤ 60 * (i : Int)
  | 0 => by unfold pieceSum; omega
  | i + 1 => by have := pieceSum_range h i; have h2 := h.rd (i : Int); unfold pieceSum; omega
theorem rdP_drop (p : List S27) (i : Nat) : rd_T27 (p.drop 1) (i : Int) = rd_T27 p ((i + 1 : Nat) : Int) := by
  unfold rd_T27
  rw [List.getD_eq_getElem?_getD, List.getD_eq_getElem?_getD, List.getElem?_drop, Int.toNat_natCast, Int.toNat_natCast, Nat.add_comm]
theorem rdP_take (p : List S27) (n i : Nat) (h : i < n) : rd_T27 (p.take n) (i : Int) = rd_T27 p (i : Int) := by
  unfold rd_T27
  rw [List.getD_eq_getElem?_getD, List.getD_eq_getElem?_getD, Int.toNat_natCast, List.getElem?_take_of_lt h]
theorem pieceSum_drop (p : List S27) : ∀ i : Nat, pieceSum (p.drop 1) i + ((rd_T27 p 0).f8.length : Int) = pieceSum p (i + 1)
  | 0 => by simp [pieceSum]
  | i + 1 => by
    have := pieceSum_drop p i
    rw [show pieceSum (p.drop 1) (i + 1) = pieceSum (p.drop 1) i + ((rd_T27 (p.drop 1) (i : Int)).f8.length : Int) from rfl, rdP_drop,
      show pieceSum p (i + 1 + 1) = pieceSum p (i + 1) + ((rd_T27 p ((i + 1 : Nat) : Int)).f8.length : Int) from rfl]
    omega
theorem pieceSum_take (p : List S27) (n : Nat) : ∀ i : Nat, i ≤ n → pieceSum (p.take n) i = pieceSum p i
  | 0, _ => rfl
  | i + 1, h => by
    have := pieceSum_take p n i (by omega)
    rw [show pieceSum (p.take n) (i + 1) = pieceSum (p.take n) i + ((rd_T27 (p.take n) (i : Int)).f8.length : Int) from rfl, rdP_take p n i (by omega), this]
    rfl
theorem partP_drop {p : List S27} {o : Int} (h : partP p o) (h2 : 2 ≤ p.length) : partP (p.drop 1) o := by
  obtain ⟨_, hs, ht, ho⟩ := h
  have hl : (p.drop 1).length = p.length - 1 := by rw [List.length_drop]
  have z : ∀ l : List S27, rd_T27 l 0 = rd_T27 l ((0 : Nat) : Int) := fun _ => rfl
  refine ⟨by omega, fun i hi => ?_, ?_, ho⟩
  · obtain ⟨a, b, c⟩ := hs (i + 1) (by omega)
    obtain ⟨_, b1, _⟩ := hs (0 + 1) (by omega)
    refine ⟨by rw [rdP_drop]; exact a, ?_, fun hi0 => ?_⟩
    · rw [rdP_drop, z (p.drop 1), rdP_drop]
      exact ⟨b.1.trans b1.1.symm, b.2.1.trans b1.2.1.symm, b.2.2.1.trans b1.2.2.1.symm, b.2.2.2.trans b1.2.2.2.symm⟩
    · have e : i - 1 + 1 = i + 1 - 1 := by omega
      rw [rdP_drop, rdP_drop, e]
      exact c (by omega)
  · have := pieceSum_drop p (p.length - 1)
    rw [show p.length - 1 + 1 = p.length by omega] at this
    rw [hl]; omega
theorem partP_take {p : List S27} (hp : Short p) {o : Int} (h : partP p o) (h2 : 2 ≤ p.length) : partP (p.take (p.length - 1)) o := by
  obtain ⟨_, hs, ht, ho⟩ := h
  have hl : (p.take (p.length - 1)).length = p.length - 1 := by rw [List.length_take]; omega
  have z : ∀ l : List S27, rd_T27 l 0 = rd_T27 l ((0 : Nat) : Int) := fun _ => rfl
  refine ⟨by omega, fun i hi => ?_, ?_, ho⟩
  · obtain ⟨a, b, c⟩ := hs i (by omega)
    refine ⟨by rw [rdP_take p _ i (by omega)]; exact a, ?_, fun hi0 => ?_⟩
    · rw [rdP_take p _ i (by omega), z (p.take _), rdP_take p _ 0 (by omega)]
      exact b
    · rw [rdP_take p _ i (by omega), rdP_take p _ (i - 1) (by omega)]
      exact c hi0
  · rw [hl, pieceSum_take p _ _ (Nat.le_refl _)]
    have e : pieceSum p (p.length - 1 + 1) = pieceSum p (p.length - 1) + ((rd_T27 p ((p.length - 1 : Nat) : Int)).f8.length : Int) := rfl
    rw [show p.length - 1 + 1 = p.length by omega] at e
    omega
/-- What is left from piece i on. -/
def restP (p : List S27) (o : Int) (i : Nat) : Prop := (∀ j, i ≤ j → j < p.length → pieceStep p j) ∧ 0 < p.length ∧ pieceSum p p.length ≤ 48 ∧ (0 ≤ o ∧ o ≤ 1000000)
theorem restP_zero (p : List S27) (o : Int) : restP p o 0 ↔ partP p o :=
  ⟨fun h => ⟨h.2.1, fun i hi => h.1 i (Nat.zero_le _) hi, h.2.2⟩, fun h => ⟨fun i _ hi => h.2.1 i hi, h.1, h.2.2⟩⟩
theorem restP_succ {p : List S27} {o : Int} {i : Nat} (hi : i < p.length) : restP p o i ↔ pieceStep p i ∧ restP p o (i + 1) :=
  ⟨fun h => ⟨h.1 i (Nat.le_refl _) hi, fun j h1 h2 => h.1 j (by omega) h2, h.2⟩, fun h => ⟨fun j h1 h2 => by
    rcases Nat.eq_or_lt_of_le h1 with e | h3
    · exact e ▸ h.1
    · exact h.2.1 j h3 h2, h.2.2⟩⟩
theorem pieceOk_false {p : List S27} {o : Int} {i : Nat} (hi : i < p.length) (h : ¬ pieceStep p i) : (false = true ↔ restP p o i) :=
  ⟨fun h => (by cases h), fun q => absurd ((restP_succ hi).mp q).1 h⟩
theorem partEnd {p : List S27} {o : Int} (n : Nat) (hn : n = p.length) : ∃ r, (if (p.length : Int) > 0 then (if pieceSum p n ≤ 48 then (some (decide (0 ≤ o ∧ o ≤ 1000000))) else (some false)) else (some false)) = some r ∧ (r = true ↔ restP p o n) := by
  subst hn
  have q : ∀ j, p.length ≤ j → j < p.length → pieceStep p j := fun j h1 h2 => by omega
  by_cases h1 : (p.length : Int) > 0
  · rw [if_pos h1]
    by_cases h2 : pieceSum p p.length ≤ 48
    · rw [if_pos h2]
      exact ⟨_, rfl, fun h => ⟨q, by omega, h2, of_decide_eq_true h⟩, fun h => decide_eq_true h.2.2.2⟩
    · rw [if_neg h2]
      exact ⟨_, rfl, fun h => (by cases h), fun h => absurd h.2.2.1 h2⟩
  · rw [if_neg h1]
    exact ⟨_, rfl, fun h => (by cases h), fun h => absurd h.2.1 (by omega)⟩
theorem sameIf (a0 a1 a2 a4 b0 b1 b2 b4 : Int) : (if a0 = b0 then (if a1 = b1 then (if a2 = b2 then (some (a4 == b4)) else (some false)) else (some false)) else (some false)) = some (decide (a0 = b0 ∧ a1 = b1 ∧ a2 = b2 ∧ a4 = b4)) := by
  by_cases h0 : a0 = b0 <;> by_cases h1 : a1 = b1 <;> by_cases h2 : a2 = b2 <;> by_cases h4 : a4 = b4 <;> simp [h0, h1, h2, h4]

theorem drawLong_eq {b : List Int} (hb : Bytes b) (hl : b.length ≤ 2000) {p : Int} (h0 : 0 ≤ p) (h1 : p ≤ 10000) {k : Nat} (hk : 40 ≤ k) :
    ∃ a0 a1 a2 a3 a4 d p', spec_l20Long.f k b p = some (a0, a1, a2, a3, a4, 0, false, false, d, p') ∧ packetOk a0 a1 a2 a3 a4 0 false false d = true ∧ (2 ≤ d.length ∧ d.length ≤ 21) ∧ p ≤ p' ∧ p' ≤ p + 200 := by
  obtain ⟨a0, a1, a2, a3, a4, a5, a6, a7, r, p1, e, ho, _, g0, g1⟩ := drawPacket0_eq hb hl (p := p) h0 (by omega) (k := k) (by omega)
  unfold spec_l20Long.f
  simp only [e, Option.bind_some]
  rw [pick_eq hb hl (p := p1) (n := 20) (by omega) (by omega) (by omega) (by omega) (by omega)]
  have r0 := pk_range hb hl (p := p1) (n := 20) (by omega) (by omega) (by omega) (by omega)
  generalize pk b p1 20 = c at r0 ⊢
  simp only [Option.bind_some]
  rw [w64 (x := 2 + c) (by omega) (by omega)]
  obtain ⟨d, p2, e2, q1, q2, q3, q4⟩ := drawBytes_eq hb hl (p := p1 + 1) (n := 2 + c) (by omega) (by omega) (by omega) (by omega) (k := k) (by omega)
  simp only [e2, Option.bind_some]
  have h := of_decide_eq_true ho
  exact ⟨_, _, _, _, _, _, _, rfl, decide_eq_true ⟨h.1, h.2.1, h.2.2.1, h.2.2.2.1, h.2.2.2.2.1, by omega, by omega, fun h => (by cases h), fun h => (by cases h)⟩, ⟨by omega, by omega⟩, by omega, by omega⟩
theorem cut_step (c i a0 a1 a2 a3 a4 : Int) (x6 : List S27) (d : List Int) (hc0 : 1 ≤ c) (hc1 : c ≤ 6) (hi0 : 0 ≤ i) (hi1 : i ≤ (d.length : Int)) (hd : d.length ≤ 48) (hx : x6.length < 1000) (k : Nat) :
    ∃ row : S27, row.f8.length ≤ 60 ∧ spec_PacketCut.j2 (k + 1) c x6 i true a0 a1 a2 a3 a4 0 false false d = spec_PacketCut.l0 k c (x6 ++ [row]) (i + c) a0 a1 a2 a3 a4 0 false false d := by
  have e1 : wrap64 (i + c) = i + c := w64 (by omega) (by omega)
  have e2 : wrap64 (0 + i) = i := by rw [w64 (by omega) (by omega)]; omega
  have m1 : i ≤ mn (i + c) (d.length : Int) := by unfold mn; split <;> omega
  have m2 : mn (i + c) (d.length : Int) ≤ (d.length : Int) := by unfold mn; split <;> omega
  simp only [spec_PacketCut.j2, if_true, Bool.false_eq_true, if_false, Option.bind_some, e1, e2]
  generalize mn (i + c) (d.length : Int) = m at m1 m2 ⊢
  have l1 : ((d.take m.toNat).drop i.toNat).length ≤ 60 := by rw [List.length_drop, List.length_take]; omega
  rw [if_pos hi0, if_pos m1, if_pos m2, if_pos (by simp only [List.length_nil]; omega), if_neg (by omega), if_pos (by omega)]
  exact ⟨_, by simpa using l1, rfl⟩
theorem cut_loop (c a0 a1 a2 a3 a4 : Int) (d : List Int) (hc0 : 1 ≤ c) (hc1 : c ≤ 6) (hd : d.length ≤ 48) : ∀ (j k : Nat) (i : Int) (x6 : List S27), (d.length : Int) - i < j → 2 * j + 2 ≤ k → 0 ≤ i → (i = 0 ∨ 0 < x6.length) → Short x6 → x6.length + j ≤ 100 →
    ∃ q ok, spec_PacketCut.l0 k c x6 i a0 a1 a2 a3 a4 0 false false d = some (q, ok) ∧ 0 < q.length ∧ q.length ≤ 100 ∧ Short q := by
  intro j
  induction j with
  | zero =>
    intro k i x6 hj hk hi hx hs hlx
    obtain ⟨k, rfl⟩ : ∃ m, k = m + 1 + 1 := ⟨k - 2, by omega⟩
    simp only [spec_PacketCut.l0]
    rw [if_neg (by omega), decide_eq_false (by omega)]
    simp only [spec_PacketCut.j2, Bool.false_eq_true, if_false]
    exact ⟨x6, true, rfl, by omega, by omega, hs⟩
  | succ j ih =>
    intro k i x6 hj hk hi hx hs hlx
    obtain ⟨k, rfl⟩ : ∃ m, k = m + 1 + 1 := ⟨k - 2, by omega⟩
    simp only [spec_PacketCut.l0]
    by_cases h : i = 0 ∨ i < (d.length : Int)
    · obtain ⟨row, hr, e⟩ := cut_step c i a0 a1 a2 a3 a4 x6 d hc0 hc1 hi (by omega) hd (by omega) k
      obtain ⟨q, ok, e2, q1, q2, q3⟩ := ih k (i + c) (x6 ++ [row]) (by omega) (by omega) (by omega) (.inr (by rw [List.length_append]; simp only [List.length_cons, List.length_nil]; omega)) (hs.append (Short.one hr)) (by rw [List.length_append]; simp only [List.length_cons, List.length_nil]; omega)
      refine ⟨q, ok, ?_, q1, q2, q3⟩
      by_cases hi0 : i = 0
      · rw [if_pos hi0, e, e2]
      · rw [if_neg hi0, decide_eq_true (show i < (d.length : Int) by omega), e, e2]
    · rw [if_neg (by omega), decide_eq_false (by omega)]
      simp only [spec_PacketCut.j2, Bool.false_eq_true, if_false]
      exact ⟨x6, true, rfl, by omega, by omega, hs⟩
theorem cut_eq (c a0 a1 a2 a3 a4 : Int) (d : List Int) (hc0 : 1 ≤ c) (hc1 : c ≤ 6) (hd : d.length ≤ 48) (ho : packetOk a0 a1 a2 a3 a4 0 false false d = true) (k : Nat) (hk : 200 ≤ k) :
    ∃ q ok, spec_PacketCut.f k a0 a1 a2 a3 a4 0 false false d c = some (q, ok) ∧ 0 < q.length ∧ q.length ≤ 100 ∧ Short q := by
  obtain ⟨k, rfl⟩ : ∃ m, k = m + 1 := ⟨k - 1, by omega⟩
  obtain ⟨q, ok, e, h⟩ := cut_loop c a0 a1 a2 a3 a4 d hc0 hc1 hd 49 k 0 [] (by omega) (by omega) (by omega) (.inl rfl) Short.nil (by simp)
  unfold spec_PacketCut.f
  simp only [specPacketOk_eq, ho, l1In_eq, Option.bind_some, if_true]
  rw [decide_eq_true (show 1 ≤ c ∧ c ≤ 48 by omega)]
  simp only [spec_PacketCut.j0, if_true, Bool.false_eq_true, if_false, e, ite_self]
  exact ⟨q, ok, rfl, h⟩
theorem drawPart_loop {b : List Int} (hb : Bytes b) (hl : b.length ≤ 2000) (m : Int) (hm0 : 0 ≤ m) (hm1 : m ≤ 65536) (x5 : List S27) (h5 : Short x5) (hn : x5.length ≤ 100) (off : Int) : ∀ (d i k : Nat) (o : List S27) (p : Int), i + d = x5.length → o.length ≤ i → (d = 0 → 0 < o.length) → Short o → 0 ≤ p → p ≤ 100000 - (d : Int) → d + 10 ≤ k →
    ∃ q p', spec_l20Part.l0 k m x5 (i : Int) b p o off = some (q, off, p') ∧ Short q ∧ q.length ≤ 101 := by
  intro d
  induction d with
  | zero =>
    intro i k o p hd ho h1 hs hp0 hp1 hk
    obtain ⟨k, rfl⟩ : ∃ m, k = m + 1 := ⟨k - 1, by omega⟩
    obtain ⟨z, p2, e5, g5, g6, g7⟩ := odd_eq hb hl (p := p) (n := m) (by omega) (by omega) hm0 hm1 (k := k) (by omega)
    have ho0 := h1 rfl
    simp only [spec_l20Part.l0]
    rw [if_neg (by omega)]
    simp only [e5, Option.bind_some]
    rw [pick_eq hb hl (p := p2) (n := 4) (by omega) (by omega) (by omega) (by omega) (by omega)]
    simp only [Option.bind_some]
    rw [pick_eq hb hl (p := p2 + 1) (n := 9) (by omega) (by omega) (by omega) (by omega) (by omega)]
    simp only [Option.bind_some]
    have r0 := hs.rd 0
    split
    · split
      · rw [if_pos (by omega)]
        exact ⟨_, _, rfl, hs.set _ r0, by rw [List.length_set]; omega⟩
      · split
        · rw [if_pos (by omega)]
          exact ⟨_, _, rfl, hs.set _ r0, by rw [List.length_set]; omega⟩
        · split
          · rw [if_pos (by omega), if_pos (by omega)]
            exact ⟨_, _, rfl, hs.append (Short.one r0), by rw [List.length_append]; simp only [List.length_cons, List.length_nil]; omega⟩
          · exact ⟨_, _, rfl, Short.nil, by simp⟩
    · exact ⟨_, _, rfl, hs, by omega⟩
  | succ d ih =>
    intro i k o p hd ho h1 hs hp0 hp1 hk
    obtain ⟨k, rfl⟩ : ∃ m, k = m + 1 := ⟨k - 1, by omega⟩
    have e1 : wrap64 ((i : Int) + 1) = ((i + 1 : Nat) : Int) := by rw [w64 (by omega) (by omega)]; rfl
    have e2 : wrap64 ((x5.length : Int) - 1) = (x5.length : Int) - 1 := w64 (by omega) (by omega)
    have r0 := h5.rd (i : Int)
    simp only [spec_l20Part.l0]
    rw [if_pos (by omega), pick_eq hb hl (p := p) (n := 3) (by omega) (by omega) (by omega) (by omega) (by omega)]
    simp only [Option.bind_some, e1, e2]
    have hadd : ∀ row : S27, row.f8.length ≤ 60 → ∃ q p', spec_l20Part.l0 k m x5 ((i + 1 : Nat) : Int) b (p + 1) (o ++ [row]) off = some (q, off, p') ∧ Short q ∧ q.length ≤ 101 := fun row hr =>
      ih (i + 1) k (o ++ [row]) (p + 1) (by omega) (by rw [List.length_append]; simp only [List.length_cons, List.length_nil]; omega) (fun _ => by rw [List.length_append]; simp only [List.length_cons, List.length_nil]; omega) (hs.append (Short.one hr)) (by omega) (by omega) (by omega)
    by_cases c1 : pk b p 3 > 0
    · rw [if_pos c1, if_pos (by omega), if_pos (by omega)]
      exact hadd _ r0
    · rw [if_neg c1]
      by_cases c2 : (o.length : Int) = 0
      · rw [if_pos c2]
        by_cases c3 : (i : Int) = (x5.length : Int) - 1
        · rw [if_pos c3, if_pos (by omega), if_pos (by omega)]
          exact hadd _ r0
        · rw [if_neg c3]
          exact ih (i + 1) k o (p + 1) (by omega) (by omega) (fun h => absurd h (by omega)) hs (by omega) (by omega) (by omega)
      · rw [if_neg c2]
        exact ih (i + 1) k o (p + 1) (by omega) (by omega) (fun h => by omega) hs (by omega) (by omega) (by omega)
theorem drawPart_eq {b : List Int} (hb : Bytes b) (hl : b.length ≤ 2000) {m p : Int} (hm0 : 0 ≤ m) (hm1 : m ≤ 65536) (hp : 0 ≤ p) (hp1 : p ≤ 10000) (k : Nat) (hk : 300 ≤ k) :
    ∃ q off p', spec_l20Part.f k b p m = some (q, off, p') ∧ Short q ∧ q.length ≤ 101 := by
  obtain ⟨a0, a1, a2, a3, a4, d, p1, e, ho, hd, g0, g1⟩ := drawLong_eq hb hl (p := p) hp hp1 (k := k) (by omega)
  unfold spec_l20Part.f
  simp only [e, Option.bind_some]
  rw [pick_eq hb hl (p := p1) (n := 6) (by omega) (by omega) (by omega) (by omega) (by omega)]
  have r0 := pk_range hb hl (p := p1) (n := 6) (by omega) (by omega) (by omega) (by omega)
  generalize pk b p1 6 = c at r0 ⊢
  simp only [Option.bind_some]
  rw [w64 (x := 1 + c) (by omega) (by omega)]
  obtain ⟨q, ok, e2, q1, q2, q3⟩ := cut_eq (1 + c) a0 a1 a2 a3 a4 d (by omega) (by omega) (by omega) ho k (by omega)
  simp only [e2, Option.bind_some]
  rw [pick_eq hb hl (p := p1 + 1) (n := 40) (by omega) (by omega) (by omega) (by omega) (by omega)]
  simp only [Option.bind_some]
  obtain ⟨z, p2, e3, h⟩ := drawPart_loop hb hl m hm0 hm1 q q3 q2 (pk b (p1 + 1) 40) q.length 0 k [] (p1 + 1 + 1) (by omega) (by simp) (fun h => by omega) Short.nil (by omega) (by omega) (by omega)
  exact ⟨z, _, p2, e3, h⟩

theorem implPartOk_loop (p : List S27) (hp : Short p) (hl : p.length ≤ 10000) (o : Int) : ∀ (d i k : Nat), i + d = p.length → 2 * d < k →
    ∃ r, impl_PartOk.l0 k (pieceSum p i) p (p.length : Int) (i : Int) p o = some r ∧ (r = true ↔ restP p o i)
  | 0, i, k, hi, hk => by
    obtain ⟨k, rfl⟩ : ∃ m, k = m + 1 := ⟨k - 1, by omega⟩
    obtain ⟨r, e, h⟩ := partEnd (p := p) (o := o) i (by omega)
    simp only [impl_PartOk.l0]
    rw [if_neg (by omega)]
    simp only [in_eq, Option.bind_some, e]
    exact ⟨r, rfl, h⟩
  | d + 1, i, k, hi, hk => by
    obtain ⟨k, rfl⟩ : ∃ m, k = m + 1 + 1 := ⟨k - 2, by omega⟩
    have hil : i < p.length := by omega
    have e1 : wrap64 ((i : Int) + 1) = ((i + 1 : Nat) : Int) := by rw [w64 (by omega) (by omega)]; rfl
    have r1 := pieceSum_range hp i
    have r2 := hp.rd (i : Int)
    have e2 : wrap64 (pieceSum p i + ((rd_T27 p (i : Int)).f8.length : Int)) = pieceSum p (i + 1) := by rw [w64 (by omega) (by omega)]; rfl
    obtain ⟨r, er, hr⟩ := implPartOk_loop p hp hl o d (i + 1) k (by omega) (by omega)
    simp only [impl_PartOk.l0]
    rw [if_pos (by omega), if_pos (by omega), if_pos (by omega)]
    simp only [implPacketOk_eq, Option.bind_some]
    unfold impl_Packet_same.f
    simp only [sameIf, Option.bind_some, impl_PartOk.j1]
    by_cases h1 : pieceOk (rd_T27 p (i : Int)) = true
    · have h1' := h1
      unfold pieceOk at h1'
      rw [if_pos h1', if_pos (by omega)]
      by_cases h2 : pieceSame (rd_T27 p (i : Int)) (rd_T27 p 0)
      · have h2' := h2
        unfold pieceSame at h2'
        rw [decide_eq_true h2']
        simp only [Bool.not_true, Bool.false_eq_true, if_false, e1, e2, er]
        by_cases h3 : (i : Int) > 0
        · have e3 : wrap64 ((i : Int) - 1) = ((i - 1 : Nat) : Int) := by rw [w64 (by omega) (by omega)]; omega
          rw [if_pos h3, e3, if_pos (by omega), if_pos (by omega)]
          by_cases h4 : (rd_T27 p (i : Int)).f5 < wrap64 ((rd_T27 p ((i - 1 : Nat) : Int)).f5 + ((rd_T27 p ((i - 1 : Nat) : Int)).f8.length : Int))
          · rw [if_pos h4]
            exact ⟨_, rfl, pieceOk_false hil (fun q => (q.2.2 (by omega)).1 h4)⟩
          · rw [if_neg h4]
            by_cases h5 : (rd_T27 p ((i - 1 : Nat) : Int)).f6 = true
            · rw [if_pos h5]
              exact ⟨_, rfl, hr.trans ⟨fun q => (restP_succ hil).mpr ⟨⟨h1, h2, fun _ => ⟨h4, h5⟩⟩, q⟩, fun q => ((restP_succ hil).mp q).2⟩⟩
            · rw [if_neg h5]
              exact ⟨_, rfl, pieceOk_false hil (fun q => h5 (q.2.2 (by omega)).2)⟩
        · rw [if_neg h3]
          exact ⟨_, rfl, hr.trans ⟨fun q => (restP_succ hil).mpr ⟨⟨h1, h2, fun h0 => absurd h0 (by omega)⟩, q⟩, fun q => ((restP_succ hil).mp q).2⟩⟩
      · have h2' := h2
        unfold pieceSame at h2'
        rw [decide_eq_false h2']
        simp only [Bool.not_false, if_true]
        exact ⟨_, rfl, pieceOk_false hil (fun q => h2 q.2.1)⟩
    · have h1' := h1
      unfold pieceOk at h1'
      rw [if_neg h1']
      simp only [if_true]
      exact ⟨_, rfl, pieceOk_false hil (fun q => h1 q.1)⟩
theorem implPartOk_eq (p : List S27) (hp : Short p) (hl : p.length ≤ 10000) (o : Int) (k : Nat) (hk : 2 * p.length < k) : ∃ r, impl_PartOk.f k p o = some r ∧ (r = true ↔ partP p o) := by
  obtain ⟨r, e, h⟩ := implPartOk_loop p hp hl o p.length 0 k (by omega) hk
  exact ⟨r, e, h.trans (restP_zero p o)⟩
theorem implPartOk_true {p : List S27} (hp : Short p) (hl : p.length ≤ 10000) {o : Int} {k : Nat} (hk : 2 * p.length < k) (h : partP p o) : impl_PartOk.f k p o = some true := by
  obtain ⟨r, e, q⟩ := implPartOk_eq p hp hl o k hk
  rw [e, q.mpr h]

theorem specPartOk_loop (p : List S27) (hp : Short p) (hl : p.length ≤ 10000) (o : Int) : ∀ (d i k : Nat), i + d = p.length → 2 * d < k →
    ∃ r, spec_PartOk.l0 k (pieceSum p i) (i : Int) p o = some r ∧ (r = true ↔ restP p o i)
  | 0, i, k, hi, hk => by
    obtain ⟨k, rfl⟩ : ∃ m, k = m + 1 := ⟨k - 1, by omega⟩
    obtain ⟨r, e, h⟩ := partEnd (p := p) (o := o) i (by omega)
    simp only [spec_PartOk.l0]
    rw [if_neg (by omega)]
    simp only [l1In_eq, Option.bind_some, e]
    exact ⟨r, rfl, h⟩
  | d + 1, i, k, hi, hk => by
    obtain ⟨k, rfl⟩ : ∃ m, k = m + 1 + 1 := ⟨k - 2, by omega⟩
    have hil : i < p.length := by omega
    have e1 : wrap64 ((i : Int) + 1) = ((i + 1 : Nat) : Int) := by rw [w64 (by omega) (by omega)]; rfl
    have r1 := pieceSum_range hp i
    have r2 := hp.rd (i : Int)
    have e2 : wrap64 (pieceSum p i + ((rd_T27 p (i : Int)).f8.length : Int)) = pieceSum p (i + 1) := by rw [w64 (by omega) (by omega)]; rfl
    obtain ⟨r, er, hr⟩ := specPartOk_loop p hp hl o d (i + 1) k (by omega) (by omega)
    simp only [spec_PartOk.l0]
    rw [if_pos (by omega), if_pos (by omega)]
    simp only [specPacketOk_eq, Option.bind_some]
    unfold spec_l5Same.f
    simp only [sameIf, Option.bind_some, spec_PartOk.j1]
    by_cases h1 : pieceOk (rd_T27 p (i : Int)) = true
    · have h1' := h1
      unfold pieceOk at h1'
      rw [if_pos h1', if_pos (by omega)]
      by_cases h2 : pieceSame (rd_T27 p (i : Int)) (rd_T27 p 0)
      · have h2' := h2
        unfold pieceSame at h2'
        rw [decide_eq_true h2']
        simp only [if_true, Bool.false_eq_true, if_false, e1, e2, er]
        by_cases h3 : (i : Int) > 0
        · have e3 : wrap64 ((i : Int) - 1) = ((i - 1 : Nat) : Int) := by rw [w64 (by omega) (by omega)]; omega
          rw [if_pos h3, e3, if_pos (by omega), if_pos (by omega)]
          by_cases h4 : (rd_T27 p (i : Int)).f5 < wrap64 ((rd_T27 p ((i - 1 : Nat) : Int)).f5 + ((rd_T27 p ((i - 1 : Nat) : Int)).f8.length : Int))
          · rw [if_pos h4]
            exact ⟨_, rfl, pieceOk_false hil (fun q => (q.2.2 (by omega)).1 h4)⟩
          · rw [if_neg h4]
            cases h5 : (rd_T27 p ((i - 1 : Nat) : Int)).f6 with
            | true =>
              simp only [Bool.not_true, Bool.false_eq_true, if_false]
              exact ⟨_, rfl, hr.trans ⟨fun q => (restP_succ hil).mpr ⟨⟨h1, h2, fun _ => ⟨h4, h5⟩⟩, q⟩, fun q => ((restP_succ hil).mp q).2⟩⟩
            | false =>
              simp only [Bool.not_false, if_true]
              exact ⟨_, rfl, pieceOk_false hil (fun q => by have := (q.2.2 (by omega)).2; rw [h5] at this; cases this)⟩
        · rw [if_neg h3]
          exact ⟨_, rfl, hr.trans ⟨fun q => (restP_succ hil).mpr ⟨⟨h1, h2, fun h0 => absurd h0 (by omega)⟩, q⟩, fun q => ((restP_succ hil).mp q).2⟩⟩
      · have h2' := h2
        unfold pieceSame at h2'
        rw [decide_eq_false h2']
        simp only [Bool.false_eq_true, if_false, if_true]
        exact ⟨_, rfl, pieceOk_false hil (fun q => h2 q.2.1)⟩
    · have h1' := h1
      unfold pieceOk at h1'
      rw [if_neg h1']
      simp only [if_true]
      exact ⟨_, rfl, pieceOk_false hil (fun q => h1 q.1)⟩
theorem specPartOk_eq (p : List S27) (hp : Short p) (hl : p.length ≤ 10000) (o : Int) (k : Nat) (hk : 2 * p.length < k) : ∃ r, spec_PartOk.f k p o = some r ∧ (r = true ↔ partP p o) := by
  obtain ⟨r, e, h⟩ := specPartOk_loop p hp hl o p.length 0 k (by omega) hk
  exact ⟨r, e, h.trans (restP_zero p o)⟩

theorem implbytesOf_loop : ∀ (i k : Nat) (v : Int) (o : List Int), i < k → i ≤ o.length → o.length < 4611686018427387904 →
    impl_bytesOf.l0 k v o ((i : Int) - 1) = some (be i v ++ o.drop i)
  | 0, k, v, o, hk, hi, hl => by
    obtain ⟨k, rfl⟩ : ∃ m, k = m + 1 := ⟨k - 1, by omega⟩
    simp only [impl_bytesOf.l0]
    rw [if_neg (by omega)]; simp [be]
  | i + 1, k, v, o, hk, hi, hl => by
    obtain ⟨k, rfl⟩ : ∃ m, k = m + 1 := ⟨k - 1, by omega⟩
    have e1 : ((i + 1 : Nat) : Int) - 1 = (i : Int) := by omega
    have e2 : wrap64 ((i : Int) - 1) = (i : Int) - 1 := w64 (by omega) (by omega)
    have e3 : ((i : Int)).toNat = i := by omega
    rw [e1]
    simp only [impl_bytesOf.l0]
    rw [if_pos (by omega), if_pos (by omega), if_pos (by omega), e2, implbytesOf_loop i k _ _ (by omega) (by simp; omega) (by simpa using hl), e3, drop_rd _ i (by simp; omega), rd_set_eq _ _ _ (by omega), List.drop_set_of_lt (by omega)]
    simp [be]
theorem implbytesOf_eq (v n : Int) (h0 : 0 ≤ n) (h1 : n ≤ 1073741824) (k : Nat) (hk : n.toNat < k) : impl_bytesOf.f k v n = some (be n.toNat v) := by
  unfold impl_bytesOf.f
  rw [if_pos h0, if_pos (by omega), w64 (by omega) (by omega)]
  obtain ⟨n, rfl⟩ : ∃ m : Nat, n = m := ⟨n.toNat, by omega⟩
  rw [implbytesOf_loop n k v _ (by omega) (by simp) (by simp; omega)]
  simp

/-- A number as n bytes, n in 1..4; none for others. -/
def bytesV (v n : Int) : List Int := if (1 ≤ n ∧ n ≤ 4) ∧ 0 ≤ v ∧ v < 256 ^ n.toNat then be n.toNat v else []
theorem four {n : Int} (h : 1 ≤ n ∧ n ≤ 4) : n = 1 ∨ n = 2 ∨ n = 3 ∨ n = 4 := by omega
theorem lim_of (n : Int) (h : 1 ≤ n ∧ n ≤ 4) : wrap64 (shl .i64 1 (wrap64 (8 * n)) - 1) = 256 ^ n.toNat - 1 ∧ 0 ≤ wrap64 (8 * n) := by
  rcases four h with rfl | rfl | rfl | rfl <;> decide +kernel
theorem bytesV_length (v n : Int) : (bytesV v n).length ≤ 4 := by
  unfold bytesV; split
  · rw [be_length]; omega
  · simp
theorem bytesV_bytes (v n : Int) : Bytes (bytesV v n) := by
  unfold bytesV; split
  · exact be_bytes _ _
  · exact Bytes.nil

theorem implBytesOf_eq (v n : Int) (k : Nat) (hk : 6 ≤ k) : impl_BytesOf.f k v n = some (bytesV v n) := by
  unfold impl_BytesOf.f bytesV
  simp only [in_eq, Option.bind_some]
  by_cases h1 : 1 ≤ n ∧ n ≤ 4
  · obtain ⟨e1, e2⟩ := lim_of n h1
    rw [if_pos (decide_eq_true h1), if_pos e2, e1]
    by_cases h2 : 0 ≤ v ∧ v ≤ 256 ^ n.toNat - 1
    · rw [if_pos (decide_eq_true h2), implbytesOf_eq v n (by omega) (by omega) k (by omega), if_pos ⟨h1, h2.1, by omega⟩]; rfl
    · rw [if_neg (by simpa using h2), if_neg (by omega)]
  · rw [if_neg (by simpa using h1), if_neg (fun h => h1 h.1)]

theorem alive_eq (k : Nat) (hk : 6 ≤ k) : laws_alive.f k = some true := by
  unfold laws_alive.f
  simp only [implBytesOf_eq _ _ k hk, Option.bind_some]
  rfl

theorem FnPartOk : laws_FnPartOk.Pure := by
  intro l hm hl hw
  obtain ⟨b, hb1, hb2, hb3⟩ := open_eq l (Bytes.of_wf hw)
  refine ⟨400, ?_⟩
  obtain ⟨p, o, p', e, hs, hn⟩ := drawPart_eq hb2 hb3 (m := 2) (p := 0) (by omega) (by omega) (by omega) (by omega) 400 (by omega)
  obtain ⟨r1, e1, q1⟩ := implPartOk_eq p hs (by omega) o 400 (by omega)
  obtain ⟨r2, e2, q2⟩ := specPartOk_eq p hs (by omega) o 400 (by omega)
  obtain rfl : r1 = r2 := Bool.eq_iff_iff.mpr (q1.trans q2.symm)
  have hno : ∀ off, impl_PartOk.f 399 [] off = some false := fun off => by
    unfold impl_PartOk.f
    simp only [impl_PartOk.l0, List.length_nil]
    rfl
  unfold laws_FnPartOk.f spec_DrawPartOk.f
  by_cases h : (l.length : Int) > 1048576
  · rw [if_pos h]
  rw [if_neg h]
  simp only [hb1, e, e1, e2, Option.bind_some, bne_self_eq_false, Bool.false_eq_true, if_false]
  have hend : ∀ n : Int, laws_FnPartOk.j0 400 n true p o = some true := fun n => by
    simp only [laws_FnPartOk.j0, if_true, hno, Option.bind_some, Bool.false_eq_true, if_false, alive_eq 399 (by omega)]
  cases r1 with
  | false => rw [if_neg (by decide)]; exact hend _
  | true =>
    rw [if_pos rfl]
    have hp := q1.mp rfl
    by_cases h2 : (p.length : Int) < 2
    · rw [decide_eq_true h2]; exact hend _
    · rw [decide_eq_false h2]
      have d1 := implPartOk_true (hs.drop 1) (by rw [List.length_drop]; omega) (o := o) (k := 399) (by rw [List.length_drop]; omega) (partP_drop hp (by omega))
      have d2 := implPartOk_true (hs.take (p.length - 1)) (by rw [List.length_take]; omega) (o := o) (k := 399) (by rw [List.length_take]; omega) (partP_take hs hp (by omega))
      have w1 : wrap64 ((p.length : Int) - 1) = ((p.length - 1 : Nat) : Int) := by rw [w64 (by omega) (by omega)]; omega
      simp only [laws_FnPartOk.j0, Bool.false_eq_true, if_false, Option.bind_some, w1, List.nil_append, List.length_nil, Int.toNat_natCast]
      rw [if_pos (by omega), if_pos (by rw [List.length_drop]; omega), d1]
      simp only [Option.bind_some, if_true]
      rw [if_pos (by omega), if_pos (by omega), if_pos (by rw [List.length_take]; omega), d2]
      rfl

end Go.Proofs.Ytibfeacgnadiaaa.Pure

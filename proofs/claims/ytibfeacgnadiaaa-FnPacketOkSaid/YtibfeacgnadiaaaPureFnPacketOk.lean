/- PacketOk: the last piece may be empty, and no packet comes from nowhere; the statement's own bounds alone. -/
import Derived.Test.YtibfeacgnadiaaaPFnPacketOkx4
import Derived.Test.YtibfeacgnadiaaaBase
namespace Go.Proofs.Ytibfeacgnadiaaa.Pure
set_option linter.unusedSimpArgs false
set_option linter.unusedVariables false
open Go Go.RowKit Go.Proofs.Ytibfeacgnadiaaa.PFnPacketOk Go.Proofs.YtibfeacgnadiaaaW.PrintWords Go.Proofs.YtibfeacgnadiaaaW.PrintLast Go.Proofs.YtibfeacgnadiaaaW.PrintMore Go.Proofs.Ytibfeacgnadiaaa.Base

/-- What pick draws. -/
def pk (b : List Int) (p n : Int) : Int := ((spec_l20Rd_pick.f 1 b p n).getD (0, 0)).1
theorem pick_f (b : List Int) (hb : Bytes b) (hl : b.length ≤ 2000) (p n : Int) (h0 : 0 ≤ p) (h1 : p ≤ 1073741824) (h2 : -2147483648 ≤ n) (h3 : n ≤ 65536) (k : Nat) :
    ∃ v, spec_l20Rd_pick.f (k + 1) b p n = some (v, p + 1) ∧ 0 ≤ v ∧ (1 ≤ n → v < n) ∧ (n < 1 → v = 0) := by
  have ep : wrap64 (p + 1) = p + 1 := w64 (by omega) (by omega)
  have ep' : wrap64 (p + 1 - 1) = p := by rw [w64 (by omega) (by omega)]; omega
  unfold spec_l20Rd_pick.f
  rw [ep]
  simp only [spec_l20Rd_pick.j0, ep']
  by_cases hn : n < 1
  · rw [if_pos hn, if_pos trivial]
    exact ⟨0, rfl, by omega, fun h => by omega, fun _ => rfl⟩
  rw [if_neg hn]
  by_cases he : (b.length : Int) = 0
  · rw [if_pos (by simpa using he)]
    exact ⟨0, rfl, by omega, fun h => by omega, fun _ => rfl⟩
  rw [if_neg (by simpa using he)]
  by_cases hp : p < (b.length : Int)
  · rw [if_pos hp, if_pos h0, if_neg (by omega)]
    have hr := hb.at_ p
    rw [w64 (x := rd b p) (by omega) (by omega)]
    refine ⟨_, rfl, Int.tmod_nonneg _ hr.1, fun _ => ?_, fun h => by omega⟩
    rw [Int.tmod_eq_emod_of_nonneg hr.1]
    exact Int.emod_lt_of_pos _ (by omega)
  rw [if_neg hp]
  have m1 : 0 ≤ Int.tmod p (b.length : Int) ∧ Int.tmod p (b.length : Int) < (b.length : Int) := by
    rw [Int.tmod_eq_emod_of_nonneg h0]; exact ⟨Int.emod_nonneg _ he, Int.emod_lt_of_pos _ (by omega)⟩
  have e7 : wrap64 (wrap64 (p * 7) + 3) = p * 7 + 3 := by rw [w64 (x := p * 7) (by omega) (by omega), w64 (by omega) (by omega)]
  have m2 : 0 ≤ Int.tmod (p * 7 + 3) (b.length : Int) ∧ Int.tmod (p * 7 + 3) (b.length : Int) < (b.length : Int) := by
    rw [Int.tmod_eq_emod_of_nonneg (by omega)]; exact ⟨Int.emod_nonneg _ he, Int.emod_lt_of_pos _ (by omega)⟩
  rw [if_neg he, if_pos m1.1, if_pos m1.2, e7, if_pos m2.1, if_pos m2.2, if_neg (show ¬ n = 0 by omega)]
  have r1 := hb.at_ (Int.tmod p (b.length : Int))
  have r2 := hb.at_ (Int.tmod (p * 7 + 3) (b.length : Int))
  generalize rd b (Int.tmod p (b.length : Int)) = x1 at r1 ⊢
  generalize rd b (Int.tmod (p * 7 + 3) (b.length : Int)) = x2 at r2 ⊢
  have q0 : Int.tdiv p (b.length : Int) = p / (b.length : Int) := Int.tdiv_eq_ediv_of_nonneg h0
  have q1 : 0 ≤ p / (b.length : Int) := Int.ediv_nonneg h0 (by omega)
  have q2 : p / (b.length : Int) ≤ p := Int.ediv_le_self _ h0
  rw [q0]
  generalize p / (b.length : Int) = q at q1 q2 ⊢
  rw [w64 (x := x1) (by omega) (by omega), w64 (x := x2) (by omega) (by omega), w64 (x := x1 * 131) (by omega) (by omega), w64 (x := x2 * 1117) (by omega) (by omega), w64 (x := p * 29) (by omega) (by omega),
    w64 (x := q) (by omega) (by omega), w64 (x := q * 53) (by omega) (by omega), w64 (x := x1 * 131 + x2 * 1117) (by omega) (by omega), w64 (x := x1 * 131 + x2 * 1117 + p * 29) (by omega) (by omega), w64 (x := x1 * 131 + x2 * 1117 + p * 29 + q * 53) (by omega) (by omega)]
  obtain ⟨y, hy⟩ : ∃ y : Nat, x1 * 131 + x2 * 1117 + p * 29 + q * 53 = (y : Int) := ⟨(x1 * 131 + x2 * 1117 + p * 29 + q * 53).toNat, by omega⟩
  have hy2 : y < 1099511627776 := by omega
  rw [hy]
  have d0 : Int.tdiv (y : Int) 64 = ((y / 64 : Nat) : Int) := by rw [Int.tdiv_eq_ediv_of_nonneg (by omega)]; rfl
  have hz : y / 64 < 1099511627776 := by omega
  rw [d0, w64 (x := ((y / 64 : Nat) : Int)) (by omega) (by omega)]
  obtain ⟨ex, lx⟩ := xor_i64 y (y / 64) hy2 hz
  rw [ex]
  refine ⟨_, rfl, Int.tmod_nonneg _ (by omega), fun _ => ?_, fun h => by omega⟩
  rw [Int.tmod_eq_emod_of_nonneg (by omega)]
  exact Int.emod_lt_of_pos _ (by omega)
theorem pick_one (b : List Int) (p n : Int) (k : Nat) : spec_l20Rd_pick.f (k + 1) b p n = spec_l20Rd_pick.f 1 b p n := by
  unfold spec_l20Rd_pick.f
  simp only [spec_l20Rd_pick.j0]
theorem pick_eq {b : List Int} (hb : Bytes b) (hl : b.length ≤ 2000) {p n : Int} (h0 : 0 ≤ p) (h1 : p ≤ 1073741824) (h2 : -2147483648 ≤ n) (h3 : n ≤ 65536) {k : Nat} (hk : 1 ≤ k) : spec_l20Rd_pick.f k b p n = some (pk b p n, p + 1) := by
  obtain ⟨k, rfl⟩ : ∃ m, k = m + 1 := ⟨k - 1, by omega⟩
  rw [pick_one]
  obtain ⟨v, hv, _⟩ := pick_f b hb hl p n h0 h1 h2 h3 0
  unfold pk
  rw [hv]; rfl
theorem pk_range {b : List Int} (hb : Bytes b) (hl : b.length ≤ 2000) {p n : Int} (h0 : 0 ≤ p) (h1 : p ≤ 1073741824) (h2 : 1 ≤ n) (h3 : n ≤ 65536) : 0 ≤ pk b p n ∧ pk b p n < n := by
  obtain ⟨v, hv, g0, g1, _⟩ := pick_f b hb hl p n h0 h1 (by omega) h3 0
  unfold pk
  rw [hv]; exact ⟨g0, g1 h2⟩
/-- The bytes that are drawn from. -/
theorem open_eq (l : List Int) (hb : Bytes l) : ∃ b, spec_l20Open.f l = some (b, 0) ∧ Bytes b ∧ b.length ≤ 2000 := by
  unfold spec_l20Open.f
  by_cases h : (l.length : Int) > 2000
  · rw [if_pos h, if_pos (by omega)]
    exact ⟨_, rfl, hb.take _, by simp; omega⟩
  · rw [if_neg h]
    exact ⟨_, rfl, hb, by omega⟩

/-- odd tells just this. -/
theorem odd_eq {b : List Int} (hb : Bytes b) (hl : b.length ≤ 2000) {p n : Int} (h0 : 0 ≤ p) (h1 : p ≤ 1073741824) (h2 : 0 ≤ n) (h3 : n ≤ 65536) {k : Nat} (hk : 1 ≤ k) :
    ∃ o p', spec_l20Rd_odd.f k b p n = some (o, p') ∧ p ≤ p' ∧ p' ≤ p + 1 ∧ (n = 0 → o = false) := by
  unfold spec_l20Rd_odd.f
  by_cases h : n > 0
  · rw [if_pos h, pick_eq hb hl h0 h1 (by omega) h3 hk]
    exact ⟨_, _, rfl, by omega, by omega, fun h => by omega⟩
  · rw [if_neg h]
    exact ⟨_, _, rfl, by omega, by omega, fun _ => rfl⟩

theorem drawBytes_loop {b : List Int} (hb : Bytes b) (hl : b.length ≤ 2000) : ∀ (d k : Nat) (p : Int) (o : List Int), d < k → Bytes o → o.length + d ≤ 4096 → 0 ≤ p → p + 2 * d ≤ 1073741824 →
    ∃ r p', spec_l20Rd_bytes.l0 k (d : Int) o b p = some (r, p') ∧ Bytes r ∧ r.length = o.length + d ∧ p ≤ p' ∧ p' ≤ p + 2 * d
  | 0, k, p, o, hk, ho, hlo, h0, h1 => by
    obtain ⟨k, rfl⟩ : ∃ m, k = m + 1 := ⟨k - 1, by omega⟩
    simp only [spec_l20Rd_bytes.l0]
    rw [if_neg (by omega)]
    exact ⟨o, p, rfl, ho, by omega, by omega, by omega⟩
  | d + 1, k, p, o, hk, ho, hlo, h0, h1 => by
    obtain ⟨k, rfl⟩ : ∃ m, k = m + 1 := ⟨k - 1, by omega⟩
    have e1 : wrap64 (((d + 1 : Nat) : Int) - 1) = (d : Int) := by rw [w64 (by omega) (by omega)]; omega
    simp only [spec_l20Rd_bytes.l0]
    rw [if_pos (by omega), pick_eq hb hl h0 (by omega) (by omega) (by omega) (show 1 ≤ k by omega)]
    simp only [Option.bind_some]
    rw [pick_eq hb hl (p := p + 1) (n := 256) (by omega) (by omega) (by omega) (by omega) (show 1 ≤ k by omega), pick_eq hb hl (p := p + 1) (n := 3) (by omega) (by omega) (by omega) (by omega) (show 1 ≤ k by omega)]
    simp only [Option.bind_some]
    rw [if_pos (show o.length < 140737488355328 by omega), if_pos (show o.length < 140737488355328 by omega), e1]
    by_cases h : pk b p 3 = 0
    · rw [if_pos h]
      obtain ⟨r, p', hr, g1, g2, g3, g4⟩ := drawBytes_loop hb hl d k (p + 1 + 1) (o ++ [pk b (p + 1) 256 % 256]) (by omega) (ho.append (Bytes.cons (Bytes.mod _) Bytes.nil)) (by simp; omega) (by omega) (by omega)
      exact ⟨r, p', hr, g1, by rw [g2]; simp; omega, by omega, by omega⟩
    · rw [if_neg h]
      obtain ⟨r, p', hr, g1, g2, g3, g4⟩ := drawBytes_loop hb hl d k (p + 1 + 1) (o ++ [wrap64 (pk b (p + 1) 3 + 97) % 256]) (by omega) (ho.append (Bytes.cons (Bytes.mod _) Bytes.nil)) (by simp; omega) (by omega) (by omega)
      exact ⟨r, p', hr, g1, by rw [g2]; simp; omega, by omega, by omega⟩
theorem drawBytes_eq {b : List Int} (hb : Bytes b) (hl : b.length ≤ 2000) {p n : Int} (h0 : 0 ≤ p) (h1 : p ≤ 536870912) (h2 : 0 ≤ n) (h3 : n ≤ 4096) {k : Nat} (hk : n.toNat < k) :
    ∃ r p', spec_l20Rd_bytes.f k b p n = some (r, p') ∧ Bytes r ∧ (r.length : Int) = n ∧ p ≤ p' ∧ p' ≤ p + 2 * n := by
  obtain ⟨n, rfl⟩ : ∃ m : Nat, n = m := ⟨n.toNat, by omega⟩
  obtain ⟨r, p', hr, g1, g2, g3, g4⟩ := drawBytes_loop hb hl n k p [] (by omega) Bytes.nil (by simp; omega) h0 (by omega)
  exact ⟨r, p', hr, g1, by simp at g2; omega, g3, by omega⟩

theorem drawPacket_end {b : List Int} (hb : Bytes b) (hl : b.length ≤ 2000) {m p : Int} (h0 : 0 ≤ p) (h1 : p ≤ 536870912) (hm0 : 0 ≤ m) (hm1 : m ≤ 65536) (x0 x1 x2 x3 x4 x5 : Int) (x6 x7 : Bool) (d : List Int) (hd : Bytes d) (hdl : d.length ≤ 60)
    (hx : (0 ≤ x0 ∧ x0 ≤ 70000) ∧ (0 ≤ x1 ∧ x1 ≤ 70000) ∧ (0 ≤ x2 ∧ x2 ≤ 70000) ∧ (0 ≤ x3 ∧ x3 ≤ 70000) ∧ (0 ≤ x4 ∧ x4 ≤ 70000) ∧ (0 ≤ x5 ∧ x5 ≤ 70000)) {k : Nat} (hk : 2 ≤ k) :
    ∃ a0 a1 a2 a3 a4 a5 a6 a7 r p', spec_l20Packet.j0 k m b p x0 x1 x2 x3 x4 x5 x6 x7 d = some (a0, a1, a2, a3, a4, a5, a6, a7, r, p') ∧ Bytes r ∧ r.length ≤ 60 ∧ p ≤ p' ∧ p' ≤ p + 3 ∧
      ((-70000 ≤ a0 ∧ a0 ≤ 70000) ∧ (-70000 ≤ a1 ∧ a1 ≤ 70000) ∧ (-70000 ≤ a2 ∧ a2 ≤ 70000) ∧ (-70000 ≤ a3 ∧ a3 ≤ 70000) ∧ (-70000 ≤ a4 ∧ a4 ≤ 70000) ∧ (-70000 ≤ a5 ∧ a5 ≤ 70000)) := by
  obtain ⟨k, rfl⟩ : ∃ j, k = j + 1 + 1 := ⟨k - 2, by omega⟩
  have hk1 : 1 ≤ k + 1 := by omega
  obtain ⟨o, p2, e2, g5, g6, g7⟩ := odd_eq hb hl (p := p) (n := m) (by omega) (by omega) hm0 hm1 hk1
  simp only [spec_l20Packet.j0, e2, Option.bind_some]
  rw [pick_eq hb hl (p := p2) (n := 5) (by omega) (by omega) (by omega) (by omega) hk1]
  simp only [Option.bind_some]
  rw [pick_eq hb hl (p := p2 + 1) (n := 2) (by omega) (by omega) (by omega) (by omega) hk1]
  have r5 := pk_range hb hl (p := p2 + 1) (n := 2) (by omega) (by omega) (by omega) (by omega)
  simp only [Option.bind_some]
  rw [w64 (x := pk b (p2 + 1) 2 * 65540) (by omega) (by omega), w64 (x := 65536 - pk b (p2 + 1) 2 * 65540) (by omega) (by omega), w64 (x := pk b (p2 + 1) 2 * 300) (by omega) (by omega), w64 (x := 256 - pk b (p2 + 1) 2 * 300) (by omega) (by omega), if_pos (show (49 : Nat) ≤ 281474976710656 by omega)]
  have z49 : Bytes (List.replicate 49 0) := fun x hx => by rw [(List.mem_replicate.mp hx).2]; decide
  split
  · split
    · exact ⟨_, _, _, _, _, _, _, _, _, _, rfl, hd, hdl, by omega, by omega, by omega⟩
    · split
      · exact ⟨_, _, _, _, _, _, _, _, _, _, rfl, hd, hdl, by omega, by omega, by omega⟩
      · split
        · exact ⟨_, _, _, _, _, _, _, _, _, _, rfl, z49, by simp, by omega, by omega, by omega⟩
        · split
          · exact ⟨_, _, _, _, _, _, _, _, _, _, rfl, Bytes.nil, by simp, by omega, by omega, by omega⟩
          · exact ⟨_, _, _, _, _, _, _, _, _, _, rfl, hd, hdl, by omega, by omega, by omega⟩
  · exact ⟨_, _, _, _, _, _, _, _, _, _, rfl, hd, hdl, by omega, by omega, by omega⟩
theorem drawPacket_eq {b : List Int} (hb : Bytes b) (hl : b.length ≤ 2000) {m p : Int} (h0 : 0 ≤ p) (h1 : p ≤ 268435456) (hm0 : 0 ≤ m) (hm1 : m ≤ 65536) {k : Nat} (hk : 20 ≤ k) :
    ∃ a0 a1 a2 a3 a4 a5 a6 a7 r p', spec_l20Packet.f k b p m = some (a0, a1, a2, a3, a4, a5, a6, a7, r, p') ∧ Bytes r ∧ r.length ≤ 60 ∧ p ≤ p' ∧ p' ≤ p + 60 ∧
      ((-70000 ≤ a0 ∧ a0 ≤ 70000) ∧ (-70000 ≤ a1 ∧ a1 ≤ 70000) ∧ (-70000 ≤ a2 ∧ a2 ≤ 70000) ∧ (-70000 ≤ a3 ∧ a3 ≤ 70000) ∧ (-70000 ≤ a4 ∧ a4 ≤ 70000) ∧ (-70000 ≤ a5 ∧ a5 ≤ 70000)) := by
  have hk1 : 1 ≤ k := by omega
  unfold spec_l20Packet.f
  rw [pick_eq hb hl h0 (by omega) (by omega) (by omega) hk1]
  simp only [Option.bind_some]
  rw [pick_eq hb hl (p := p + 1) (n := 5) (by omega) (by omega) (by omega) (by omega) hk1]
  simp only [Option.bind_some]
  rw [pick_eq hb hl (p := p + 1 + 1) (n := 4) (by omega) (by omega) (by omega) (by omega) hk1]
  simp only [Option.bind_some]
  rw [pick_eq hb hl (p := p + 1 + 1 + 1) (n := 6) (by omega) (by omega) (by omega) (by omega) hk1]
  simp only [Option.bind_some]
  rw [pick_eq hb hl (p := p + 1 + 1 + 1 + 1) (n := 4) (by omega) (by omega) (by omega) (by omega) hk1]
  simp only [Option.bind_some]
  rw [pick_eq hb hl (p := p + 1 + 1 + 1 + 1 + 1) (n := 12) (by omega) (by omega) (by omega) (by omega) hk1]
  simp only [Option.bind_some]
  have r0 := pk_range hb hl (p := p) (n := 5) (by omega) (by omega) (by omega) (by omega)
  have r1 := pk_range hb hl (p := p + 1) (n := 5) (by omega) (by omega) (by omega) (by omega)
  have r2 := pk_range hb hl (p := p + 1 + 1) (n := 4) (by omega) (by omega) (by omega) (by omega)
  have r3 := pk_range hb hl (p := p + 1 + 1 + 1) (n := 6) (by omega) (by omega) (by omega) (by omega)
  have r4 := pk_range hb hl (p := p + 1 + 1 + 1 + 1) (n := 4) (by omega) (by omega) (by omega) (by omega)
  have r5 := pk_range hb hl (p := p + 1 + 1 + 1 + 1 + 1) (n := 12) (by omega) (by omega) (by omega) (by omega)
  generalize pk b p 5 = x0 at r0 ⊢
  generalize pk b (p + 1) 5 = x1 at r1 ⊢
  generalize pk b (p + 1 + 1) 4 = x2 at r2 ⊢
  generalize pk b (p + 1 + 1 + 1) 6 = x3 at r3 ⊢
  generalize pk b (p + 1 + 1 + 1 + 1) 4 = x4 at r4 ⊢
  generalize pk b (p + 1 + 1 + 1 + 1 + 1) 12 = c at r5 ⊢
  obtain ⟨d, p1, e1, g1, g2, g3, g4⟩ := drawBytes_eq hb hl (p := p + 1 + 1 + 1 + 1 + 1 + 1) (n := c) (by omega) (by omega) (by omega) (by omega) (k := k) (by omega)
  simp only [e1, Option.bind_some]
  rw [pick_eq hb hl (p := p1) (n := 4) (by omega) (by omega) (by omega) (by omega) hk1]
  simp only [Option.bind_some]
  have hend : ∀ (p3 x5 : Int) (x6 x7 : Bool), p ≤ p3 → p3 ≤ p + 40 → 0 ≤ x5 ∧ x5 ≤ 70000 → ∃ a0 a1 a2 a3 a4 a5 a6 a7 r p', spec_l20Packet.j0 k m b p3 x0 x1 x2 x3 x4 x5 x6 x7 d = some (a0, a1, a2, a3, a4, a5, a6, a7, r, p') ∧ Bytes r ∧ r.length ≤ 60 ∧ p ≤ p' ∧ p' ≤ p + 60 ∧
      ((-70000 ≤ a0 ∧ a0 ≤ 70000) ∧ (-70000 ≤ a1 ∧ a1 ≤ 70000) ∧ (-70000 ≤ a2 ∧ a2 ≤ 70000) ∧ (-70000 ≤ a3 ∧ a3 ≤ 70000) ∧ (-70000 ≤ a4 ∧ a4 ≤ 70000) ∧ (-70000 ≤ a5 ∧ a5 ≤ 70000)) := by
    intro p3 x5 x6 x7 q1 q2 q3
    obtain ⟨a0, a1, a2, a3, a4, a5, a6, a7, r, p', e, h2, h3, h4, h5, h6⟩ := drawPacket_end hb hl (p := p3) (m := m) (by omega) (by omega) hm0 hm1 x0 x1 x2 x3 x4 x5 x6 x7 d g1 (by omega) ⟨by omega, by omega, by omega, by omega, by omega, q3⟩ (k := k) (by omega)
    exact ⟨a0, a1, a2, a3, a4, a5, a6, a7, r, p', e, h2, h3, by omega, by omega, h6⟩
  split
  · exact hend _ _ _ _ (by omega) (by omega) (by omega)
  · split
    · rw [pick_eq hb hl (p := p1 + 1) (n := 20) (by omega) (by omega) (by omega) (by omega) hk1]
      simp only [Option.bind_some]
      have r6 := pk_range hb hl (p := p1 + 1) (n := 20) (by omega) (by omega) (by omega) (by omega)
      split
      · rw [pick_eq hb hl (p := p1 + 1 + 1) (n := 2) (by omega) (by omega) (by omega) (by omega) hk1]
        simp only [Option.bind_some]
        exact hend _ _ _ _ (by omega) (by omega) (by omega)
      · exact hend _ _ _ _ (by omega) (by omega) (by omega)
    · exact hend _ _ _ _ (by omega) (by omega) (by omega)

theorem l1In_eq (a b c : Int) : spec_l1In.f a b c = some (decide (b ≤ a ∧ a ≤ c)) := by
  unfold spec_l1In.f
  by_cases h : a ≥ b <;> simp [h]

theorem in_eq (a b c : Int) : impl_in.f a b c = some (decide (b ≤ a ∧ a ≤ c)) := by
  unfold impl_in.f
  by_cases h : a ≥ b <;> simp [h]

theorem word_eq (a : Int) : impl_word.f a = some (decide (0 ≤ a ∧ a ≤ 65535)) := by
  unfold impl_word.f
  rw [in_eq]; rfl

/-- A packet is ok. -/
def packetOk (a b c d e f : Int) (m w : Bool) (l : List Int) : Bool :=
  decide ((0 ≤ a ∧ a ≤ 65535) ∧ (0 ≤ b ∧ b ≤ 65535) ∧ (0 ≤ c ∧ c ≤ 255) ∧ (0 ≤ d ∧ d ≤ 255) ∧ (0 ≤ e ∧ e ≤ 255) ∧ (0 ≤ f ∧ f ≤ 255) ∧ (l.length : Int) ≤ 48 ∧ (m = true → (l.length : Int) > 0) ∧ (w = true → f = 0 ∧ m = false))
theorem packet_end (m w : Bool) (f n : Int) : (if n ≤ 48 then (if m = true then (if n > 0 then (if w = true then (if f = 0 then (some (!m)) else (some false)) else (some true)) else (some false)) else (if w = true then (if f = 0 then (some (!m)) else (some false)) else (some true))) else (some false)) =
    some (decide (n ≤ 48 ∧ (m = true → n > 0) ∧ (w = true → f = 0 ∧ m = false))) := by
  by_cases h1 : n ≤ 48 <;> by_cases h2 : n > 0 <;> by_cases h3 : f = 0 <;> cases m <;> cases w <;> simp [h1, h2, h3] <;> omega
theorem specPacketOk_eq (a b c d e f : Int) (m w : Bool) (l : List Int) : spec_PacketOk.f a b c d e f m w l = some (packetOk a b c d e f m w l) := by
  unfold spec_PacketOk.f packetOk
  simp only [l1In_eq, Option.bind_some, packet_end]
  by_cases h1 : 0 ≤ a ∧ a ≤ 65535
  · by_cases h2 : 0 ≤ b ∧ b ≤ 65535
    · by_cases h3 : 0 ≤ c ∧ c ≤ 255
      · by_cases h4 : 0 ≤ d ∧ d ≤ 255
        · by_cases h5 : 0 ≤ e ∧ e ≤ 255
          · by_cases h6 : 0 ≤ f ∧ f ≤ 255
            · simp only [h1, h2, h3, h4, h5, h6, true_and, and_self, decide_true, if_true]
            · simp [h1, h2, h3, h4, h5, h6]
          · simp [h1, h2, h3, h4, h5]
        · simp [h1, h2, h3, h4]
      · simp [h1, h2, h3]
    · simp [h1, h2]
  · simp [h1]
theorem implPacketOk_eq (a b c d e f : Int) (m w : Bool) (l : List Int) : impl_PacketOk.f a b c d e f m w l = some (packetOk a b c d e f m w l) := by
  unfold impl_PacketOk.f packetOk
  simp only [in_eq, word_eq, Option.bind_some, packet_end]
  by_cases h1 : 0 ≤ a ∧ a ≤ 65535
  · by_cases h2 : 0 ≤ b ∧ b ≤ 65535
    · by_cases h3 : 0 ≤ c ∧ c ≤ 255
      · by_cases h4 : 0 ≤ d ∧ d ≤ 255
        · by_cases h5 : 0 ≤ e ∧ e ≤ 255
          · by_cases h6 : 0 ≤ f ∧ f ≤ 255
            · simp only [h1, h2, h3, h4, h5, h6, true_and, and_self, decide_true, if_true]
            · simp [h1, h2, h3, h4, h5, h6]
          · simp [h1, h2, h3, h4, h5]
        · simp [h1, h2, h3, h4]
      · simp [h1, h2, h3]
    · simp [h1, h2]
  · simp [h1]

theorem implbytesOf_loop : ∀ (i k : Nat) (v : Int) (o : List Int), i < k → i ≤ o.length → o.length < 4611686018427387904 →
    impl_bytesOf.l0 k v o ((i : Int) - 1) = some (be i v ++ o.drop i)
  | 0, k, v, o, hk, hi, hl => by
    obtain ⟨k, rfl⟩ : ∃ m, k = m + 1 := ⟨k - 1, by omega⟩
    simp only [impl_bytesOf.l0]
    rw [if_neg (by omega)]; simp [be]
  | i + 1, k, v, o, hk, hi, hl => by
    obtain ⟨k, rfl⟩ : ∃ m, k = m + 1 := ⟨k - 1, by omega⟩
    have e1 : ((i + 1 : Nat) : Int) - 1 = (i : Int) := by omega
    have e2 : wrap64 ((i : Int) - 1) = (i : Int) - 1 := w64 (by omega) (by omega)
    have e3 : ((i : Int)).toNat = i := by omega
    rw [e1]
    simp only [impl_bytesOf.l0]
    rw [if_pos (by omega), if_pos (by omega), if_pos (by omega), e2, implbytesOf_loop i k _ _ (by omega) (by simp; omega) (by simpa using hl), e3, drop_rd _ i (by simp; omega), rd_set_eq _ _ _ (by omega), List.drop_set_of_lt (by omega)]
    simp [be]
theorem implbytesOf_eq (v n : Int) (h0 : 0 ≤ n) (h1 : n ≤ 1073741824) (k : Nat) (hk : n.toNat < k) : impl_bytesOf.f k v n = some (be n.toNat v) := by
  unfold impl_bytesOf.f
  rw [if_pos h0, if_pos (by omega), w64 (by omega) (by omega)]
  obtain ⟨n, rfl⟩ : ∃ m : Nat, n = m := ⟨n.toNat, by omega⟩
  rw [implbytesOf_loop n k v _ (by omega) (by simp) (by simp; omega)]
  simp

/-- A number as n bytes, n in 1..4; none for others. -/
def bytesV (v n : Int) : List Int := if (1 ≤ n ∧ n ≤ 4) ∧ 0 ≤ v ∧ v < 256 ^ n.toNat then be n.toNat v else []
theorem four {n : Int} (h : 1 ≤ n ∧ n ≤ 4) : n = 1 ∨ n = 2 ∨ n = 3 ∨ n = 4 := by omega
theorem lim_of (n : Int) (h : 1 ≤ n ∧ n ≤ 4) : wrap64 (shl .i64 1 (wrap64 (8 * n)) - 1) = 256 ^ n.toNat - 1 ∧ 0 ≤ wrap64 (8 * n) := by
  rcases four h with rfl | rfl | rfl | rfl <;> decide +kernel
theorem bytesV_length (v n : Int) : (bytesV v n).length ≤ 4 := by
  unfold bytesV; split
  · rw [be_length]; omega
  · simp
theorem bytesV_bytes (v n : Int) : Bytes (bytesV v n) := by
  unfold bytesV; split
  · exact be_bytes _ _
  · exact Bytes.nil

theorem implBytesOf_eq (v n : Int) (k : Nat) (hk : 6 ≤ k) : impl_BytesOf.f k v n = some (bytesV v n) := by
  unfold impl_BytesOf.f bytesV
  simp only [in_eq, Option.bind_some]
  by_cases h1 : 1 ≤ n ∧ n ≤ 4
  · obtain ⟨e1, e2⟩ := lim_of n h1
    rw [if_pos (decide_eq_true h1), if_pos e2, e1]
    by_cases h2 : 0 ≤ v ∧ v ≤ 256 ^ n.toNat - 1
    · rw [if_pos (decide_eq_true h2), implbytesOf_eq v n (by omega) (by omega) k (by omega), if_pos ⟨h1, h2.1, by omega⟩]; rfl
    · rw [if_neg (by simpa using h2), if_neg (by omega)]
  · rw [if_neg (by simpa using h1), if_neg (fun h => h1 h.1)]

theorem alive_eq (k : Nat) (hk : 6 ≤ k) : laws_alive.f k = some true := by
  unfold laws_alive.f
  simp only [implBytesOf_eq _ _ k hk, Option.bind_some]
  rfl

theorem FnPacketOk : laws_FnPacketOk.Pure := by
  intro l hm hl hw
  obtain ⟨q, hb1, hb2, hb3⟩ := open_eq l (Bytes.of_wf hw)
  refine ⟨60, ?_⟩
  obtain ⟨a, b, c, d, e, f, m, w, r, p', eq, _⟩ := drawPacket_eq hb2 hb3 (p := 0) (m := 2) (by omega) (by omega) (by omega) (by omega) (k := 60) (by omega)
  unfold laws_FnPacketOk.f spec_DrawPacketOk.f
  by_cases h : (l.length : Int) > 1048576
  · rw [if_pos h]
  rw [if_neg h]
  have e2 : packetOk (-1) b c d e f m w r = false := decide_eq_false (by omega)
  simp only [hb1, eq, implPacketOk_eq, specPacketOk_eq, Option.bind_some, bne_self_eq_false, Bool.false_eq_true, if_false, laws_FnPacketOk.j0, e2, alive_eq 59 (by omega)]
  cases h1 : packetOk a b c d e f m w r with
  | false => rfl
  | true =>
    have hq := of_decide_eq_true h1
    have e3 : packetOk a b c d e f false w [] = true := by
      refine decide_eq_true ⟨hq.1, hq.2.1, hq.2.2.1, hq.2.2.2.1, hq.2.2.2.2.1, hq.2.2.2.2.2.1, by simp, by simp, fun h => ⟨(hq.2.2.2.2.2.2.2.2 h).1, rfl⟩⟩
    simp [e3]

end Go.Proofs.Ytibfeacgnadiaaa.Pure

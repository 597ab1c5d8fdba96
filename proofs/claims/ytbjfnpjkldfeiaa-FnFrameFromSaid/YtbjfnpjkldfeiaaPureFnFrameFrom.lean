/- A frame that is read has these bytes, and of a byte less or more there is none; the statement's own bounds alone. -/
import Derived.Test.YtbjfnpjkldfeiaaPFnFrameFromx8
import Derived.Test.YtbjfnpjkldfeiaaUFnFrameFromBase
namespace Go.Proofs.Ytbjfnpjkldfeiaa.Pure
set_option linter.unusedSimpArgs false
set_option linter.unusedVariables false
open Go Go.RowKit Go.Proofs.Ytbjfnpjkldfeiaa.PFnFrameFrom Go.Proofs.YtbjfnpjkldfeiaaUFnFrameFrom.PrintWords Go.Proofs.YtbjfnpjkldfeiaaUFnFrameFrom.PrintLast Go.Proofs.YtbjfnpjkldfeiaaUFnFrameFrom.PrintMore Go.Proofs.Ytbjfnpjkldfeiaa.Base

theorem l1In_eq (a b c : Int) : spec_l1In.f a b c = some (decide (b ≤ a ∧ a ≤ c)) := by
  unfold spec_l1In.f
  by_cases h : a ≥ b <;> simp [h]

theorem in_eq (a b c : Int) : impl_in.f a b c = some (decide (b ≤ a ∧ a ≤ c)) := by
  unfold impl_in.f
  by_cases h : a ≥ b <;> simp [h]

/-- A frame is ok. -/
def frameOk (t f k : Int) (d : List Int) : Bool := decide ((0 ≤ t ∧ t ≤ 255) ∧ (0 ≤ f ∧ f ≤ 254) ∧ (0 ≤ k ∧ k ≤ 255) ∧ (d.length : Int) ≤ 64)
theorem specFrameOk_eq (t f k : Int) (d : List Int) : spec_FrameOk.f t f k d = some (frameOk t f k d) := by
  unfold spec_FrameOk.f frameOk
  simp only [l1In_eq, Option.bind_some]
  by_cases h1 : 0 ≤ t ∧ t ≤ 255 <;> by_cases h2 : 0 ≤ f ∧ f ≤ 254 <;> by_cases h3 : 0 ≤ k ∧ k ≤ 255 <;> simp [h1, h2, h3]
theorem implFrameOk_eq (t f k : Int) (d : List Int) : impl_FrameOk.f t f k d = some (frameOk t f k d) := by
  unfold impl_FrameOk.f frameOk
  simp only [in_eq, Option.bind_some]
  by_cases h1 : 0 ≤ t ∧ t ≤ 255 <;> by_cases h2 : 0 ≤ f ∧ f ≤ 254 <;> by_cases h3 : 0 ≤ k ∧ k ≤ 255 <;> simp [h1, h2, h3]

theorem bytesB_of {l : List Int} (h : Bytes l) : bytesB l = true := List.all_eq_true.mpr (fun x hx => decide_eq_true (h x hx))
/-- The pairs' numbers together. -/
def tot : List Int → Int
  | [] => 0
  | [a] => a * 256
  | a :: b :: l => a * 256 + b + tot l
theorem sumAdd_mod {a b : Int} : sumAdd a b % 65535 = (a + b) % 65535 := by unfold sumAdd; split <;> omega
theorem sumP_mod : ∀ (l : List Int) (s : Int), Bytes l → 0 ≤ s ∧ s ≤ 65535 → (0 ≤ sumP l s ∧ sumP l s ≤ 65535) ∧ sumP l s % 65535 = (s + tot l) % 65535
  | [], s, _, hs => ⟨hs, by simp [sumP, tot]⟩
  | [a], s, hb, hs => by
    have ha := hb a (by simp)
    exact ⟨sumAdd_range hs (by omega), sumAdd_mod⟩
  | a :: b :: l, s, hb, hs => by
    have ha := hb a (by simp)
    have hb' := hb b (by simp)
    have hr := sumAdd_range hs (b := a * 256 + b) (by omega)
    have hm := sumAdd_mod (a := s) (b := a * 256 + b)
    obtain ⟨h1, h2⟩ := sumP_mod l (sumAdd s (a * 256 + b)) (fun x hx => hb x (by simp [hx])) hr
    refine ⟨h1, ?_⟩
    show sumP l (sumAdd s (a * 256 + b)) % 65535 = (s + (a * 256 + b + tot l)) % 65535
    omega
theorem sumP_append : ∀ (l m : List Int) (s : Int), l.length % 2 = 0 → sumP (l ++ m) s = sumP m (sumP l s)
  | [], m, s, _ => rfl
  | [a], m, s, h => by simp at h
  | a :: b :: l, m, s, h => by
    have := sumP_append l m (sumAdd s (a * 256 + b)) (by simp at h; omega)
    exact this
/-- How much a byte at place k counts. -/
def wt (k : Nat) : Int := if k % 2 = 0 then 256 else 1
theorem tot_set : ∀ (l : List Int) (k : Nat) (v : Int), k < l.length → tot (l.set k v) = tot l + (v - rd l (k : Int)) * wt k
  | [], k, v, h => by simp at h
  | [a], k, v, h => by
    obtain rfl : k = 0 := by simp at h; omega
    show v * 256 = a * 256 + (v - a) * 256
    omega
  | a :: b :: l, 0, v, h => by
    show v * 256 + b + tot l = a * 256 + b + tot l + (v - a) * 256
    omega
  | a :: b :: l, 1, v, h => by
    show a * 256 + v + tot l = a * 256 + b + tot l + (v - b) * 1
    omega
  | a :: b :: l, k + 2, v, h => by
    have ih := tot_set l k v (by simpa using h)
    have hw : wt (k + 2) = wt k := by unfold wt; rw [show (k + 2) % 2 = k % 2 by omega]
    have hr : rd (a :: b :: l) ((k + 2 : Nat) : Int) = rd l (k : Int) := by unfold rd; rfl
    show a * 256 + b + tot (l.set k v) = a * 256 + b + tot l + (v - rd (a :: b :: l) ((k + 2 : Nat) : Int)) * wt (k + 2)
    rw [ih, hw, hr]; omega
theorem xor16_nat : ∀ a : Nat, a < 256 → (a ^^^ 16 = a + 16 ∨ (a ^^^ 16) + 16 = a) ∧ a ^^^ 16 < 256 := by decide +kernel
theorem xor16 {a : Int} (h : 0 ≤ a ∧ a < 256) : (Go.bits .xor .u8 a 16 = a + 16 ∨ Go.bits .xor .u8 a 16 = a - 16) ∧ 0 ≤ Go.bits .xor .u8 a 16 ∧ Go.bits .xor .u8 a 16 < 256 := by
  obtain ⟨n, rfl⟩ : ∃ n : Nat, a = n := ⟨a.toNat, by omega⟩
  have hn : n < 256 := by omega
  obtain ⟨h1, h2⟩ := xor16_nat n hn
  have e : Go.bits .xor .u8 (n : Int) 16 = ((n ^^^ 16 : Nat) : Int) := by
    have ha' : n % 2 ^ IntKind.u8.bits = n := Nat.mod_eq_of_lt (by simp [IntKind.bits]; omega)
    rw [show (16 : Int) = ((16 : Nat) : Int) from rfl]
    simp only [Go.bits, BitVec.ofInt_natCast, BitVec.toNat_xor, BitVec.toNat_ofNat, ha']
    rw [show 16 % 2 ^ IntKind.u8.bits = 16 by simp [IntKind.bits], IntKind.wrap_u8]; omega
  rw [e]; omega

/-- The sum's two bytes. -/
def sum2 (l : List Int) : List Int := be 2 (65535 - sumP l 0)
theorem sum2_len (l : List Int) : (sum2 l).length = 2 := by unfold sum2; rw [be_length]

/-- A frame's bytes ahead of the sum. -/
def frameHead (t f n : Int) (d : List Int) : List Int := [t, f, n, (d.length : Int)] ++ d
/-- A frame as bytes. -/
def frameBytes (t f n : Int) (d : List Int) : List Int := if frameOk t f n d = true then frameHead t f n d ++ sum2 (frameHead t f n d) else []
theorem frameOk_parts {t f n : Int} {d : List Int} (h : frameOk t f n d = true) : (0 ≤ t ∧ t ≤ 255) ∧ (0 ≤ f ∧ f ≤ 254) ∧ (0 ≤ n ∧ n ≤ 255) ∧ (d.length : Int) ≤ 64 := of_decide_eq_true h
theorem frameHead_len (t f n : Int) (d : List Int) : (frameHead t f n d).length = 4 + d.length := by unfold frameHead; rw [List.length_append]; rfl
theorem frameHead_bytes {t f n : Int} {d : List Int} (h : frameOk t f n d = true) (hd : Bytes d) : Bytes (frameHead t f n d) := by
  have hq := frameOk_parts h
  exact (Bytes.cons (by omega) (Bytes.cons (by omega) (Bytes.cons (by omega) (Bytes.cons (by omega) Bytes.nil)))).append hd
theorem frameHead_eq {t f n : Int} {d : List Int} (h : frameOk t f n d = true) : [t % 256, f % 256, n % 256, (d.length : Int) % 256] ++ d = frameHead t f n d := by
  have hq := frameOk_parts h
  rw [show t % 256 = t by omega, show f % 256 = f by omega, show n % 256 = n by omega, show (d.length : Int) % 256 = (d.length : Int) by omega]; rfl
theorem frameBytes_len (t f n : Int) (d : List Int) : (frameBytes t f n d).length ≤ 70 := by
  unfold frameBytes
  cases h : frameOk t f n d with
  | false => exact Nat.zero_le _
  | true =>
    have hq := frameOk_parts h
    rw [if_pos rfl, List.length_append, sum2_len, frameHead_len]; omega

/-- The number of n bytes at a place; -1 if there is none. -/
def numAt (l : List Int) (a n : Int) : Int := if (1 ≤ n ∧ n ≤ 4) ∧ 0 ≤ a ∧ a + n ≤ l.length then num ((l.drop a.toNat).take n.toNat) else -1
theorem num_take (l : List Int) (i : Nat) (h : i < l.length) : num (l.take (i + 1)) = num (l.take i) * 256 + rd l (i : Int) := by
  rw [take_succ_rd l i h, num_append]
theorem num_take_range {l : List Int} (h : Bytes l) (i : Nat) (hi : i ≤ 4) : 0 ≤ num (l.take i) ∧ num (l.take i) < 4294967296 := by
  have h1 := num_range _ (h.take i)
  refine ⟨h1.1, Int.lt_of_lt_of_le h1.2 ?_⟩
  have h2 : (l.take i).length ≤ 4 := by rw [List.length_take]; omega
  generalize (l.take i).length = n at h2
  obtain rfl | rfl | rfl | rfl | rfl : n = 0 ∨ n = 1 ∨ n = 2 ∨ n = 3 ∨ n = 4 := by omega
  all_goals decide
theorem rd_drop (l : List Int) (a i : Nat) : rd (l.drop a) (i : Int) = rd l ((a + i : Nat) : Int) := by
  unfold rd; rw [List.getD_eq_getElem?_getD, List.getD_eq_getElem?_getD, List.getElem?_drop]; rfl

/-- The bytes that a frame's bytes carry. -/
def frameData (l : List Int) : List Int := (l.take (l.length - 2)).drop 4
/-- The frame of bytes. -/
def frameFrom (l : List Int) : Int × Int × Int × List Int × Bool :=
  if 6 ≤ l.length ∧ frameBytes (rd l 0) (rd l 1) (rd l 2) (frameData l) = l then (rd l 0, rd l 1, rd l 2, frameData l, true) else (0, 0, 0, [], false)
theorem frameData_len (l : List Int) : (frameData l).length = l.length - 6 := by unfold frameData; rw [List.length_drop, List.length_take]; omega
theorem frameData_bytes {l : List Int} (h : Bytes l) : Bytes (frameData l) := (h.take _).drop _
theorem frame_split (l : List Int) (h : 6 ≤ l.length) : l.take (l.length - 2) = [rd l 0, rd l 1, rd l 2, rd l 3] ++ frameData l := by
  have e := List.take_append_drop 4 (l.take (l.length - 2))
  rw [← e]
  show _ = [rd l 0, rd l 1, rd l 2, rd l 3] ++ (l.take (l.length - 2)).drop 4
  congr 1
  rw [List.take_take, Nat.min_eq_left (by omega)]
  have t0 := take_succ_rd l 0 (by omega)
  have t1 := take_succ_rd l 1 (by omega)
  have t2 := take_succ_rd l 2 (by omega)
  have t3 := take_succ_rd l 3 (by omega)
  rw [t3, t2, t1, t0]
  rfl
theorem frameBytes_self {l : List Int} (hb : Bytes l) (h : 6 ≤ l.length) : frameBytes (rd l 0) (rd l 1) (rd l 2) (frameData l) = l ↔
    frameOk (rd l 0) (rd l 1) (rd l 2) (frameData l) = true ∧ rd l 3 = ((frameData l).length : Int) ∧ numAt l ((l.length : Int) - 2) 2 = 65535 - sumP (l.take (l.length - 2)) 0 := by
  have hs := frame_split l h
  have hdl := frameData_len l
  have hn : numAt l ((l.length : Int) - 2) 2 = num (l.drop (l.length - 2)) := by
    unfold numAt
    rw [if_pos ⟨by omega, by omega, by omega⟩, show ((l.length : Int) - 2).toNat = l.length - 2 by omega, List.take_of_length_le (by rw [List.length_drop]; show l.length - (l.length - 2) ≤ 2; omega)]
  have htl : (l.drop (l.length - 2)).length = 2 := by rw [List.length_drop]; omega
  have htb : Bytes (l.drop (l.length - 2)) := hb.drop _
  unfold frameBytes
  cases ho : frameOk (rd l 0) (rd l 1) (rd l 2) (frameData l) with
  | false =>
    rw [if_neg (by decide)]
    constructor
    · intro e; rw [← e] at h; simp at h
    · rintro ⟨e, _⟩; cases e
  | true =>
    rw [if_pos rfl]
    have hh : (frameHead (rd l 0) (rd l 1) (rd l 2) (frameData l)).length = l.length - 2 := by rw [frameHead_len]; omega
    have hhb := frameHead_bytes ho (frameData_bytes hb)
    have hsr := (sumP_mod (frameHead (rd l 0) (rd l 1) (rd l 2) (frameData l)) 0 hhb (by omega)).1
    constructor
    · intro e
      have e1 : frameHead (rd l 0) (rd l 1) (rd l 2) (frameData l) = l.take (l.length - 2) := by
        have e3 : (frameHead (rd l 0) (rd l 1) (rd l 2) (frameData l) ++ sum2 (frameHead (rd l 0) (rd l 1) (rd l 2) (frameData l))).take (l.length - 2) = frameHead (rd l 0) (rd l 1) (rd l 2) (frameData l) := by
          rw [← hh]; exact List.take_left
        rw [← e3, e]
      have e2 : sum2 (frameHead (rd l 0) (rd l 1) (rd l 2) (frameData l)) = l.drop (l.length - 2) := by
        have e3 : (frameHead (rd l 0) (rd l 1) (rd l 2) (frameData l) ++ sum2 (frameHead (rd l 0) (rd l 1) (rd l 2) (frameData l))).drop (l.length - 2) = sum2 (frameHead (rd l 0) (rd l 1) (rd l 2) (frameData l)) := by
          rw [← hh]; exact List.drop_left
        rw [← e3, e]
      refine ⟨rfl, ?_, ?_⟩
      · rw [hs] at e1
        have e4 := congrArg (fun z => rd z 3) e1
        unfold frameHead at e4
        exact e4.symm
      · rw [hn, ← e2, ← e1]
        exact num_be 2 _ (by omega) (by show _ < 65536; omega)
    · rintro ⟨_, e1, e2⟩
      have e3 : frameHead (rd l 0) (rd l 1) (rd l 2) (frameData l) = l.take (l.length - 2) := by
        rw [hs]; unfold frameHead; rw [e1]
      rw [e3]
      have e4 : sum2 (l.take (l.length - 2)) = l.drop (l.length - 2) := by
        unfold sum2
        rw [← e2, hn]
        have := be_num _ htb
        rwa [htl] at this
      rw [e4, List.take_append_drop]
theorem frame_lens {l : List Int} (h : 6 ≤ l.length) (hl : l.length < 4611686018427387904) : wrap64 ((l.length : Int) - 2) = ((l.length - 2 : Nat) : Int) := by rw [w64 (by omega) (by omega)]; omega

theorem sumP_set_ne {l : List Int} (hb : Bytes l) (i : Nat) (hi : i < l.length) {v : Int} (hv : 0 ≤ v ∧ v < 256) (hne : v ≠ rd l (i : Int)) : sumP (l.set i v) 0 ≠ sumP l 0 := by
  intro e
  have h1 := (sumP_mod l 0 hb (by omega)).2
  have h2 := (sumP_mod (l.set i v) 0 (hb.set i hv) (by omega)).2
  have h3 := tot_set l i v hi
  have hr := hb.at_ (i : Int)
  have hw : wt i = 256 ∨ wt i = 1 := by unfold wt; split <;> simp
  rw [e, h1, h3] at h2
  rcases hw with hw | hw <;> rw [hw] at h2 <;> omega
theorem rd_take (l : List Int) (n i : Nat) (h : i < n) : rd (l.take n) (i : Int) = rd l (i : Int) := by
  unfold rd; rw [List.getD_eq_getElem?_getD, List.getD_eq_getElem?_getD, List.getElem?_take, if_pos (by omega)]
theorem frameFrom_ok {l : List Int} (h : (frameFrom l).2.2.2.2 = true) : 6 ≤ l.length ∧ frameBytes (rd l 0) (rd l 1) (rd l 2) (frameData l) = l := by
  unfold frameFrom at h
  by_cases c : 6 ≤ l.length ∧ frameBytes (rd l 0) (rd l 1) (rd l 2) (frameData l) = l
  · exact c
  · rw [if_neg c] at h; cases h
theorem frameFrom_of {l : List Int} (h : 6 ≤ l.length ∧ frameBytes (rd l 0) (rd l 1) (rd l 2) (frameData l) = l) : frameFrom l = (rd l 0, rd l 1, rd l 2, frameData l, true) := by
  unfold frameFrom; rw [if_pos h]
theorem frame_tail {l : List Int} (hb : Bytes l) (h : 6 ≤ l.length) (e2 : numAt l ((l.length : Int) - 2) 2 = 65535 - sumP (l.take (l.length - 2)) 0) : l.drop (l.length - 2) = sum2 (l.take (l.length - 2)) := by
  have hn : numAt l ((l.length : Int) - 2) 2 = num (l.drop (l.length - 2)) := by
    unfold numAt
    rw [if_pos ⟨by omega, by omega, by omega⟩, show ((l.length : Int) - 2).toNat = l.length - 2 by omega, List.take_of_length_le (by rw [List.length_drop]; show l.length - (l.length - 2) ≤ 2; omega)]
  have htl : (l.drop (l.length - 2)).length = 2 := by rw [List.length_drop]; omega
  unfold sum2
  rw [← e2, hn]
  have := be_num _ (hb.drop (l.length - 2))
  rw [htl] at this
  exact this.symm
/-- With a byte of it turned a frame's bytes are none. -/
theorem frameFrom_turned {l : List Int} (hb : Bytes l) (ho : (frameFrom l).2.2.2.2 = true) (i : Nat) (hi : i < l.length) {v : Int} (hv : 0 ≤ v ∧ v < 256) (hne : v ≠ rd l (i : Int)) : (frameFrom (l.set i v)).2.2.2.2 = false := by
  cases hc : (frameFrom (l.set i v)).2.2.2.2 with
  | false => rfl
  | true =>
    exfalso
    obtain ⟨h6, e⟩ := frameFrom_ok ho
    obtain ⟨h6', e'⟩ := frameFrom_ok hc
    have hcb := hb.set i hv
    have t := frame_tail hb h6 ((frameBytes_self hb h6).1 e).2.2
    have t' := frame_tail hcb h6' ((frameBytes_self hcb h6').1 e').2.2
    rw [List.length_set] at t'
    by_cases hi2 : i < l.length - 2
    · rw [List.take_set, List.drop_set_of_lt hi2, t] at t'
      have hlt : i < (l.take (l.length - 2)).length := by rw [List.length_take]; omega
      have s1 := (sumP_mod (l.take (l.length - 2)) 0 (hb.take _) (by omega)).1
      have s2 := (sumP_mod ((l.take (l.length - 2)).set i v) 0 ((hb.take _).set i hv) (by omega)).1
      unfold sum2 at t'
      have t2 := congrArg num t'
      rw [num_be 2 _ (by omega) (by show _ < 65536; omega), num_be 2 _ (by omega) (by show _ < 65536; omega)] at t2
      exact sumP_set_ne (hb.take _) i hlt hv (by rw [rd_take _ _ _ hi2]; exact hne) (by omega)
    · rw [List.take_set_of_le (by omega), ← t] at t'
      have e3 : l.set i v = l := by
        rw [← List.take_append_drop (l.length - 2) (l.set i v), t', List.take_set_of_le (by omega), List.take_append_drop]
      have e4 := rd_set_eq l i v hi
      rw [e3] at e4
      exact hne e4.symm
/-- A frame's bytes read back. -/
theorem frameFrom_bytes {t f n : Int} {d : List Int} (ho : frameOk t f n d = true) : frameFrom (frameBytes t f n d) = (t, f, n, d, true) := by
  have e : frameBytes t f n d = frameHead t f n d ++ sum2 (frameHead t f n d) := by unfold frameBytes; rw [if_pos ho]
  have hl : (frameBytes t f n d).length = 6 + d.length := by rw [e, List.length_append, sum2_len, frameHead_len]; omega
  have hh : (frameHead t f n d).length = (frameBytes t f n d).length - 2 := by rw [hl, frameHead_len]; omega
  have hd : frameData (frameBytes t f n d) = d := by
    unfold frameData
    rw [← hh, e, List.take_left]
    rfl
  have r0 : rd (frameBytes t f n d) 0 = t := by rw [e]; rfl
  have r1 : rd (frameBytes t f n d) 1 = f := by rw [e]; rfl
  have r2 : rd (frameBytes t f n d) 2 = n := by rw [e]; rfl
  rw [frameFrom_of ⟨by omega, by rw [r0, r1, r2, hd]⟩, r0, r1, r2, hd]
theorem frameBytes_bytes {t f n : Int} {d : List Int} (hd : Bytes d) : Bytes (frameBytes t f n d) := by
  unfold frameBytes
  cases ho : frameOk t f n d with
  | false => exact Bytes.nil
  | true =>
    rw [if_pos rfl]
    exact (frameHead_bytes ho hd).append (be_bytes _ _)

theorem frame_len_told {l : List Int} (hb : Bytes l) (ho : (frameFrom l).2.2.2.2 = true) : 6 ≤ l.length ∧ rd l 3 = ((l.length - 6 : Nat) : Int) := by
  obtain ⟨h6, e⟩ := frameFrom_ok ho
  have h := ((frameBytes_self hb h6).1 e).2.1
  rw [frameData_len] at h
  exact ⟨h6, h⟩
theorem rd_append_left (l m : List Int) (i : Nat) (h : i < l.length) : rd (l ++ m) (i : Int) = rd l (i : Int) := by
  unfold rd; rw [List.getD_eq_getElem?_getD, List.getD_eq_getElem?_getD, Int.toNat_natCast, List.getElem?_append_left h]
/-- A byte less: none. -/
theorem frameFrom_less {l : List Int} (hb : Bytes l) (ho : (frameFrom l).2.2.2.2 = true) : (frameFrom (l.take (l.length - 1))).2.2.2.2 = false := by
  cases hc : (frameFrom (l.take (l.length - 1))).2.2.2.2 with
  | false => rfl
  | true =>
    exfalso
    obtain ⟨h6, e⟩ := frame_len_told hb ho
    obtain ⟨h6', e'⟩ := frame_len_told (hb.take _) hc
    have h3 := rd_take l (l.length - 1) 3 (by rw [List.length_take] at h6'; omega)
    rw [List.length_take] at h6' e'
    have h4 : rd (l.take (l.length - 1)) 3 = rd l 3 := h3
    omega
/-- A byte more: none. -/
theorem frameFrom_more {l : List Int} (hb : Bytes l) (ho : (frameFrom l).2.2.2.2 = true) (x : Int) (hx : 0 ≤ x ∧ x < 256) : (frameFrom (l ++ [x])).2.2.2.2 = false := by
  cases hc : (frameFrom (l ++ [x])).2.2.2.2 with
  | false => rfl
  | true =>
    exfalso
    obtain ⟨h6, e⟩ := frame_len_told hb ho
    obtain ⟨h6', e'⟩ := frame_len_told (hb.append (Bytes.cons hx Bytes.nil)) hc
    have h4 : rd (l ++ [x]) 3 = rd l 3 := rd_append_left l [x] 3 (by omega)
    rw [List.length_append] at e'
    simp only [List.length_cons, List.length_nil] at e'
    omega

theorem sumAdd_two {s a b : Int} (hs : 0 ≤ s ∧ s ≤ 65535) (ha : 0 ≤ a ∧ a < 256) (hb : 0 ≤ b ∧ b < 256) : sumAdd (sumAdd s (a * 256)) b = sumAdd s (a * 256 + b) := by
  unfold sumAdd
  by_cases h1 : s + a * 256 > 65535
  · rw [if_pos h1, if_neg (by omega), if_pos (by omega)]; omega
  · rw [if_neg h1]
    by_cases h2 : s + a * 256 + b > 65535
    · rw [if_pos h2, if_pos (by omega)]; omega
    · rw [if_neg h2, if_neg (by omega)]; omega
theorem l1Sum_even (l : List Int) (hb : Bytes l) (hl : l.length < 4611686018427387904) (j k : Nat) (s : Int) (hs : 0 ≤ s ∧ s ≤ 65535) (h : 2 * j < l.length) :
    spec_l1Sum.l0 (k + 1) l s ((2 * j : Nat) : Int) = spec_l1Sum.l0 k l (sumAdd s (rd l ((2 * j : Nat) : Int) * 256)) ((2 * j + 1 : Nat) : Int) := by
  have hr := hb.at_ ((2 * j : Nat) : Int)
  have e1 : wrap64 (((2 * j : Nat) : Int) + 1) = ((2 * j + 1 : Nat) : Int) := by rw [w64 (by omega) (by omega)]; rfl
  simp only [spec_l1Sum.l0]
  rw [if_pos (by omega), if_pos (by rw [Int.tmod_eq_emod_of_nonneg (by omega)]; omega), if_pos (by omega), e1, w64 (x := rd l _) (by omega) (by omega), w64 (x := _ * 256) (by omega) (by omega), w64 (x := s + _) (by omega) (by omega)]
  unfold sumAdd
  by_cases h1 : s + rd l ((2 * j : Nat) : Int) * 256 > 65535
  · rw [if_pos h1, if_pos h1, w64 (by omega) (by omega)]
  · rw [if_neg h1, if_neg h1]
theorem l1Sum_odd (l : List Int) (hb : Bytes l) (hl : l.length < 4611686018427387904) (j k : Nat) (s : Int) (hs : 0 ≤ s ∧ s ≤ 65535) (h : 2 * j + 1 < l.length) :
    spec_l1Sum.l0 (k + 1) l s ((2 * j + 1 : Nat) : Int) = spec_l1Sum.l0 k l (sumAdd s (rd l ((2 * j + 1 : Nat) : Int))) ((2 * (j + 1) : Nat) : Int) := by
  have hr := hb.at_ ((2 * j + 1 : Nat) : Int)
  have e1 : wrap64 (((2 * j + 1 : Nat) : Int) + 1) = ((2 * (j + 1) : Nat) : Int) := by rw [w64 (by omega) (by omega)]; omega
  simp only [spec_l1Sum.l0]
  rw [if_pos (by omega), if_neg (by rw [Int.tmod_eq_emod_of_nonneg (by omega)]; omega), if_pos (by omega), e1, w64 (x := rd l _) (by omega) (by omega), w64 (x := s + _) (by omega) (by omega)]
  unfold sumAdd
  by_cases h1 : s + rd l ((2 * j + 1 : Nat) : Int) > 65535
  · rw [if_pos h1, if_pos h1, w64 (by omega) (by omega)]
  · rw [if_neg h1, if_neg h1]
theorem l1Sum_loop (l : List Int) (hb : Bytes l) (hl : l.length < 4611686018427387904) : ∀ (d k j : Nat) (s : Int), (l.length + 1) / 2 - j = d → j ≤ (l.length + 1) / 2 → 2 * d < k → 0 ≤ s ∧ s ≤ 65535 →
    spec_l1Sum.l0 k l s ((2 * j : Nat) : Int) = some (sumP (l.drop (2 * j)) s)
  | 0, k, j, s, hd, hj, hk, hs => by
    obtain ⟨k, rfl⟩ : ∃ m, k = m + 1 := ⟨k - 1, by omega⟩
    simp only [spec_l1Sum.l0]
    rw [if_neg (by omega), List.drop_of_length_le (by omega)]; rfl
  | d + 1, k, j, s, hd, hj, hk, hs => by
    obtain ⟨k, rfl⟩ : ∃ m, k = m + 1 + 1 := ⟨k - 2, by omega⟩
    have r0 := hb.at_ ((2 * j : Nat) : Int)
    rw [l1Sum_even l hb hl j (k + 1) s hs (by omega), drop_rd l (2 * j) (by omega)]
    by_cases h : 2 * j + 1 < l.length
    · have r1 := hb.at_ ((2 * j + 1 : Nat) : Int)
      rw [l1Sum_odd l hb hl j k _ (sumAdd_range hs (by omega)) h, drop_rd l (2 * j + 1) h, sumAdd_two hs r0 r1]
      rw [l1Sum_loop l hb hl d k (j + 1) _ (by omega) (by omega) (by omega) (sumAdd_range hs (by omega))]
      rfl
    · rw [List.drop_of_length_le (show l.length ≤ 2 * j + 1 by omega)]
      simp only [spec_l1Sum.l0]
      rw [if_neg (by omega)]; rfl
theorem specSumOf_eq {l : List Int} (hb : Bytes l) (hl : l.length < 4611686018427387904) (k : Nat) (hk : l.length + 1 < k) : spec_SumOf.f k l = some (65535 - sumP l 0) := by
  have hr := (sumP_mod l 0 hb (by omega)).1
  unfold spec_SumOf.f spec_l1Sum.f
  rw [show (0 : Int) = ((2 * 0 : Nat) : Int) from rfl]
  have := l1Sum_loop l hb hl ((l.length + 1) / 2) k 0 0 (by omega) (by omega) (by omega) (by omega)
  rw [show ((2 * 0 : Nat) : Int) = 0 from rfl] at this ⊢
  rw [this]
  simp only [Option.bind_some, Nat.mul_zero, List.drop_zero]
  rw [w64 (by omega) (by omega)]

/-- A number as n bytes, n in 1..4; none for others. -/
def bytesV (v n : Int) : List Int := if (1 ≤ n ∧ n ≤ 4) ∧ 0 ≤ v ∧ v < 256 ^ n.toNat then be n.toNat v else []
theorem four {n : Int} (h : 1 ≤ n ∧ n ≤ 4) : n = 1 ∨ n = 2 ∨ n = 3 ∨ n = 4 := by omega
theorem lim_of (n : Int) (h : 1 ≤ n ∧ n ≤ 4) : wrap64 (shl .i64 1 (wrap64 (8 * n)) - 1) = 256 ^ n.toNat - 1 ∧ 0 ≤ wrap64 (8 * n) := by
  rcases four h with rfl | rfl | rfl | rfl <;> decide +kernel
theorem bytesV_length (v n : Int) : (bytesV v n).length ≤ 4 := by
  unfold bytesV; split
  · rw [be_length]; omega
  · simp
theorem bytesV_bytes (v n : Int) : Bytes (bytesV v n) := by
  unfold bytesV; split
  · exact be_bytes _ _
  · exact Bytes.nil

theorem be_front (n : Nat) (v : Int) : be (n + 1) v = (v / 256 ^ n % 256) :: be n v := by
  induction n generalizing v with
  | zero => simp [be]
  | succ n ih =>
    rw [be, ih (v / 256)]
    show _ = v / 256 ^ (n + 1) % 256 :: (be n (v / 256) ++ [v % 256])
    have e : v / 256 / 256 ^ n = v / 256 ^ (n + 1) := by
      rw [Int.ediv_ediv_of_nonneg (by decide), Int.pow_succ, Int.mul_comm]
    rw [e]; rfl
theorem shr_byte (v : Int) (i : Nat) (hi : i ≤ 3) : 0 ≤ wrap64 (8 * (i : Int)) ∧ shr .i64 v (wrap64 (8 * (i : Int))) = v / 256 ^ i := by
  obtain rfl | rfl | rfl | rfl : i = 0 ∨ i = 1 ∨ i = 2 ∨ i = 3 := by omega
  all_goals exact ⟨by decide +kernel, by rw [show wrap64 (8 * ((_ : Nat) : Int)) = 8 * _ from w64 (by omega) (by omega)]; rfl⟩
theorem specBytesOf_loop (v : Int) (hv : 0 ≤ v) : ∀ (i k : Nat) (o : List Int), i < k → i ≤ 4 → o.length + i ≤ 4 →
    spec_BytesOf.l0 k v o ((i : Int) - 1) = some (o ++ be i v)
  | 0, k, o, hk, hi, hl => by
    obtain ⟨k, rfl⟩ : ∃ m, k = m + 1 := ⟨k - 1, by omega⟩
    simp only [spec_BytesOf.l0]
    rw [if_neg (by omega)]; simp [be]
  | i + 1, k, o, hk, hi, hl => by
    obtain ⟨k, rfl⟩ : ∃ m, k = m + 1 := ⟨k - 1, by omega⟩
    have e1 : ((i + 1 : Nat) : Int) - 1 = (i : Int) := by omega
    have e2 : wrap64 ((i : Int) - 1) = (i : Int) - 1 := w64 (by omega) (by omega)
    obtain ⟨e3, e4⟩ := shr_byte v i (by omega)
    have e5 : Int.tmod (v / 256 ^ i) 256 % 256 = v / 256 ^ i % 256 := by
      rw [Int.tmod_eq_emod_of_nonneg (Int.ediv_nonneg hv (Int.pow_nonneg (by decide)))]; omega
    rw [e1]
    simp only [spec_BytesOf.l0]
    rw [if_pos (by omega), if_pos e3, if_pos (by omega), e4, e5, e2, specBytesOf_loop v hv i k _ (by omega) (by omega) (by simp; omega), be_front]
    simp
theorem specBytesOf_eq (v n : Int) (k : Nat) (hk : 6 ≤ k) : spec_BytesOf.f k v n = some (bytesV v n) := by
  obtain ⟨k, rfl⟩ : ∃ m, k = m + 1 := ⟨k - 1, by omega⟩
  unfold spec_BytesOf.f bytesV
  simp only [l1In_eq, Option.bind_some, spec_BytesOf.j0]
  by_cases h1 : 1 ≤ n ∧ n ≤ 4
  · obtain ⟨e1, e2⟩ := lim_of n h1
    rw [if_pos (decide_eq_true h1), if_pos e2, e1]
    by_cases h2 : 0 ≤ v ∧ v ≤ 256 ^ n.toNat - 1
    · rw [decide_eq_true h2, if_neg (by decide), if_pos ⟨h1, h2.1, by omega⟩, w64 (by omega) (by omega)]
      obtain ⟨n, rfl⟩ : ∃ m : Nat, n = m := ⟨n.toNat, by omega⟩
      rw [specBytesOf_loop v h2.1 n k [] (by omega) (by omega) (by simp; omega)]; rfl
    · rw [decide_eq_false h2, if_pos (by decide), if_neg (by omega)]
  · rw [if_neg (by simpa using h1), if_pos trivial, if_neg (fun h => h1 h.1)]

theorem specSum2 {l : List Int} (hb : Bytes l) (hl : l.length ≤ 70) (k : Nat) (hk : 80 ≤ k) : ((spec_SumOf.f k l).bind fun t => spec_BytesOf.f k t 2) = some (sum2 l) := by
  have h := (sumP_mod l 0 hb (by omega)).1
  rw [specSumOf_eq hb (by omega) k (by omega)]
  simp only [Option.bind_some]
  rw [specBytesOf_eq _ 2 k (by omega)]
  unfold bytesV sum2
  rw [if_pos ⟨by omega, by omega, by show 65535 - sumP l 0 < 65536; omega⟩]; rfl

theorem specFrameBytes_eq (t f n : Int) (d : List Int) (hd : Bytes d) (k : Nat) (hk : 80 ≤ k) : spec_FrameBytes.f k t f n d = some (frameBytes t f n d) := by
  unfold spec_FrameBytes.f frameBytes
  rw [specFrameOk_eq]
  simp only [Option.bind_some]
  cases h : frameOk t f n d with
  | false => rfl
  | true =>
    have hq := frameOk_parts h
    have h1 := specSum2 (frameHead_bytes h hd) (by rw [frameHead_len]; omega) k hk
    have h2 : (frameHead t f n d).length = 4 + d.length := frameHead_len _ _ _ _
    obtain ⟨x, hx, hy⟩ := Option.bind_eq_some_iff.mp h1
    rw [if_pos rfl, if_pos rfl, frameHead_eq h, if_pos (by simp only [List.length_cons, List.length_nil]; omega), hx]
    simp only [Option.bind_some]
    rw [hy]
    simp only [Option.bind_some]
    rw [if_pos (by rw [sum2_len]; omega)]

theorem implbytesOf_loop : ∀ (i k : Nat) (v : Int) (o : List Int), i < k → i ≤ o.length → o.length < 4611686018427387904 →
    impl_bytesOf.l0 k v o ((i : Int) - 1) = some (be i v ++ o.drop i)
  | 0, k, v, o, hk, hi, hl => by
    obtain ⟨k, rfl⟩ : ∃ m, k = m + 1 := ⟨k - 1, by omega⟩
    simp only [impl_bytesOf.l0]
    rw [if_neg (by omega)]; simp [be]
  | i + 1, k, v, o, hk, hi, hl => by
    obtain ⟨k, rfl⟩ : ∃ m, k = m + 1 := ⟨k - 1, by omega⟩
    have e1 : ((i + 1 : Nat) : Int) - 1 = (i : Int) := by omega
    have e2 : wrap64 ((i : Int) - 1) = (i : Int) - 1 := w64 (by omega) (by omega)
    have e3 : ((i : Int)).toNat = i := by omega
    rw [e1]
    simp only [impl_bytesOf.l0]
    rw [if_pos (by omega), if_pos (by omega), if_pos (by omega), e2, implbytesOf_loop i k _ _ (by omega) (by simp; omega) (by simpa using hl), e3, drop_rd _ i (by simp; omega), rd_set_eq _ _ _ (by omega), List.drop_set_of_lt (by omega)]
    simp [be]
theorem implbytesOf_eq (v n : Int) (h0 : 0 ≤ n) (h1 : n ≤ 1073741824) (k : Nat) (hk : n.toNat < k) : impl_bytesOf.f k v n = some (be n.toNat v) := by
  unfold impl_bytesOf.f
  rw [if_pos h0, if_pos (by omega), w64 (by omega) (by omega)]
  obtain ⟨n, rfl⟩ : ∃ m : Nat, n = m := ⟨n.toNat, by omega⟩
  rw [implbytesOf_loop n k v _ (by omega) (by simp) (by simp; omega)]
  simp

theorem rdL_nat (ls : List (List Int)) (i : Nat) (h : i < ls.length) : rd_L1 ls (i : Int) = ls[i] := by
  unfold rd_L1; simp [List.getD_eq_getElem?_getD, List.getElem?_eq_getElem h]
theorem flat_next (ls : List (List Int)) (i : Nat) (h : i < ls.length) : (ls.take (i + 1)).flatten = (ls.take i).flatten ++ rd_L1 ls (i : Int) := by
  rw [List.take_succ_eq_append_getElem h, List.flatten_append, rdL_nat ls i h]; simp
theorem flat_le (ls : List (List Int)) (i : Nat) : (ls.take i).flatten.length ≤ ls.flatten.length := by
  have h : ls.flatten = (ls.take i).flatten ++ (ls.drop i).flatten := by rw [← List.flatten_append, List.take_append_drop]
  rw [h, List.length_append]; omega
theorem concat_loop1 (ls : List (List Int)) (hn : (ls.flatten.length : Int) ≤ 1048576) (hl : (ls.length : Int) < 1048576) : ∀ (d k i : Nat), ls.length - i = d → i ≤ ls.length → d < k →
    slices_Concat_byte_byte.l1 k (ls.take i).flatten ls (ls.length : Int) (i : Int) = some ls.flatten := by
  intro d
  induction d with
  | zero =>
    intro k i hd hi hk
    obtain ⟨k, rfl⟩ : ∃ m, k = m + 1 := ⟨k - 1, by omega⟩
    simp only [slices_Concat_byte_byte.l1]
    rw [if_neg (by omega), List.take_of_length_le (by omega)]
  | succ d ih =>
    intro k i hd hi hk
    obtain ⟨k, rfl⟩ : ∃ m, k = m + 1 := ⟨k - 1, by omega⟩
    have e1 : wrap64 ((i : Int) + 1) = ((i + 1 : Nat) : Int) := by rw [w64 (by omega) (by omega)]; rfl
    have h1 := flat_le ls (i + 1)
    rw [flat_next ls i (by omega), List.length_append] at h1
    simp only [slices_Concat_byte_byte.l1]
    rw [if_pos (by omega), if_pos (by omega), if_pos (by omega), if_pos (by omega), e1, ← flat_next ls i (by omega)]
    exact ih k (i + 1) (by omega) (by omega) (by omega)
theorem concat_loop0 (ls : List (List Int)) (hn : (ls.flatten.length : Int) ≤ 1048576) (hl : (ls.length : Int) < 1048576) : ∀ (d k i : Nat), ls.length - i = d → i ≤ ls.length → d + ls.length + 2 < k →
    slices_Concat_byte_byte.l0 k ls ((ls.take i).flatten.length : Int) ls (ls.length : Int) (i : Int) = some ls.flatten := by
  intro d
  induction d with
  | zero =>
    intro k i hd hi hk
    obtain ⟨k, rfl⟩ : ∃ m, k = m + 1 := ⟨k - 1, by omega⟩
    have h1 := flat_le ls i
    simp only [slices_Concat_byte_byte.l0]
    rw [if_neg (by omega)]
    unfold slices_Grow_byte_byte.f
    rw [if_pos (by omega)]
    exact concat_loop1 ls hn hl ls.length k 0 (by omega) (by omega) (by omega)
  | succ d ih =>
    intro k i hd hi hk
    obtain ⟨k, rfl⟩ : ∃ m, k = m + 1 := ⟨k - 1, by omega⟩
    have e1 : wrap64 ((i : Int) + 1) = ((i + 1 : Nat) : Int) := by rw [w64 (by omega) (by omega)]; rfl
    have h1 := flat_le ls (i + 1)
    have h2 := flat_next ls i (by omega)
    have h3 : ((ls.take (i + 1)).flatten.length : Int) = ((ls.take i).flatten.length : Int) + ((rd_L1 ls (i : Int)).length : Int) := by rw [h2, List.length_append]; omega
    have e2 : wrap64 (((ls.take i).flatten.length : Int) + ((rd_L1 ls (i : Int)).length : Int)) = ((ls.take (i + 1)).flatten.length : Int) := by rw [← h3, w64 (by omega) (by omega)]
    simp only [slices_Concat_byte_byte.l0]
    rw [if_pos (by omega), if_pos (by omega), if_pos (by omega), e2, if_neg (Int.not_lt.mpr (Int.natCast_nonneg _)), e1]
    exact ih k (i + 1) (by omega) (by omega) (by omega)
theorem concat_eq (ls : List (List Int)) (hn : (ls.flatten.length : Int) ≤ 1048576) (hl : (ls.length : Int) < 1048576) (k : Nat) (hk : 2 * ls.length + 2 < k) : slices_Concat_byte_byte.f k ls = some ls.flatten := by
  unfold slices_Concat_byte_byte.f
  exact concat_loop0 ls hn hl ls.length k 0 (by omega) (by omega) (by omega)

theorem implSum2 {l : List Int} (hb : Bytes l) (hl : l.length ≤ 70) (k : Nat) (hk : 80 ≤ k) : ((impl_sumOf.f k l).bind fun t => impl_bytesOf.f k t 2) = some (sum2 l) := by
  unfold impl_sumOf.f
  rw [if_pos ⟨bytesB_of hb, by omega⟩]
  simp only [Option.bind_some]
  rw [implbytesOf_eq _ 2 (by omega) (by omega) k (by omega)]
  rfl

theorem implFrameBytes_eq (t f n : Int) (d : List Int) (hd : Bytes d) (k : Nat) (hk : 80 ≤ k) : impl_FrameBytes.f k t f n d = some (frameBytes t f n d) := by
  unfold impl_FrameBytes.f frameBytes
  rw [implFrameOk_eq]
  simp only [Option.bind_some]
  cases h : frameOk t f n d with
  | false => rfl
  | true =>
    have hq := frameOk_parts h
    have h1 := implSum2 (frameHead_bytes h hd) (by rw [frameHead_len]; omega) k hk
    have h2 : (frameHead t f n d).length = 4 + d.length := frameHead_len _ _ _ _
    have h3 := sum2_len (frameHead t f n d)
    obtain ⟨x, hx, hy⟩ := Option.bind_eq_some_iff.mp h1
    rw [if_pos rfl, if_pos rfl, frameHead_eq h, if_pos (by simp only [List.length_cons, List.length_nil]; omega), hx]
    simp only [Option.bind_some]
    rw [hy]
    simp only [Option.bind_some]
    rw [concat_eq _ (by simp only [List.flatten_cons, List.flatten_nil, List.append_nil, List.length_append]; omega) (by simp only [List.length_cons, List.length_nil]; omega) k (by simp only [List.length_cons, List.length_nil]; omega)]
    simp only [Option.bind_some, List.flatten_cons, List.flatten_nil, List.append_nil]


theorem equalB_loop (a b : List Int) (hab : a.length = b.length) (hn : a.length < 4611686018427387904) : ∀ (d k i : Nat), a.length - i = d → i ≤ a.length → d < k → a.take i = b.take i →
    slices_Equal_byte_byte.l0 k a b (a.length : Int) (i : Int) = some (decide (a = b))
  | 0, k, i, hd, hi, hk, ho => by
    obtain ⟨k, rfl⟩ : ∃ m, k = m + 1 := ⟨k - 1, by omega⟩
    simp only [slices_Equal_byte_byte.l0]
    rw [if_neg (by omega)]
    rw [List.take_of_length_le (by omega), List.take_of_length_le (by omega)] at ho
    rw [decide_eq_true ho]
  | d + 1, k, i, hd, hi, hk, ho => by
    obtain ⟨k, rfl⟩ : ∃ m, k = m + 1 := ⟨k - 1, by omega⟩
    have e2 : wrap64 ((i : Int) + 1) = ((i + 1 : Nat) : Int) := by rw [w64 (by omega) (by omega)]; rfl
    simp only [slices_Equal_byte_byte.l0]
    rw [if_pos (by omega), if_pos (by omega), if_pos (by omega), if_pos (by omega), e2]
    by_cases h : rd a (i : Int) = rd b (i : Int)
    · rw [if_pos h]
      exact equalB_loop a b hab hn d k (i + 1) (by omega) (by omega) (by omega) (by rw [take_succ_rd a i (by omega), take_succ_rd b i (by omega), ho, h])
    · rw [if_neg h, decide_eq_false (fun e => h (by rw [e]))]
theorem equalB_eq (a b : List Int) (hn : a.length < 4611686018427387904) (k : Nat) (hk : a.length < k) : slices_Equal_byte_byte.f k a b = some (decide (a = b)) := by
  unfold slices_Equal_byte_byte.f
  by_cases h : (a.length : Int) = (b.length : Int)
  · rw [if_pos h]; exact equalB_loop a b (by omega) hn a.length k 0 (by omega) (by omega) hk (by simp)
  · rw [if_neg h, decide_eq_false (fun e => h (by rw [e]))]

theorem implFrameFrom_eq (l : List Int) (hb : Bytes l) (hl : l.length ≤ 1099511627776) (k : Nat) (hk : 80 ≤ k) : impl_FrameFrom.f k l = some (frameFrom l) := by
  unfold impl_FrameFrom.f frameFrom
  by_cases h : 6 ≤ l.length
  · have e := frame_lens h (by omega)
    have w0 : wrap64 (rd l 0) = rd l 0 := by have := hb.at_ 0; exact w64 (by omega) (by omega)
    have w1 : wrap64 (rd l 1) = rd l 1 := by have := hb.at_ 1; exact w64 (by omega) (by omega)
    have w2 : wrap64 (rd l 2) = rd l 2 := by have := hb.at_ 2; exact w64 (by omega) (by omega)
    rw [if_neg (by omega), if_pos (by omega), if_pos (by omega), if_pos (by omega), e, if_pos (by omega), if_pos (by omega), Int.toNat_natCast]
    rw [show (l.take (l.length - 2)).drop 4 = frameData l from rfl]
    unfold impl_clone_byte.f
    rw [if_pos (by rw [frameData_len]; omega)]
    simp only [Option.bind_some, w0, w1, w2]
    rw [implFrameBytes_eq _ _ _ _ (frameData_bytes hb) k hk]
    simp only [Option.bind_some]
    have hfl := frameBytes_len (rd l 0) (rd l 1) (rd l 2) (frameData l)
    rw [equalB_eq _ _ (by omega) k (by omega)]
    simp only [Option.bind_some, decide_eq_true_eq, h, true_and]
    split <;> rfl
  · rw [if_pos (by omega), if_neg (fun e => h e.1)]

theorem specNumberAt_loop (l : List Int) (hb : Bytes l) (a n : Nat) (hn : n ≤ 4) (ha : a + n ≤ l.length) (hl : l.length < 4611686018427387904) : ∀ (d k i : Nat), n - i = d → i ≤ n → d < k →
    spec_NumberAt.l0 k l (a : Int) (n : Int) (num ((l.drop a).take i)) (i : Int) = some (num ((l.drop a).take n))
  | 0, k, i, hd, hi, hk => by
    obtain ⟨k, rfl⟩ : ∃ m, k = m + 1 := ⟨k - 1, by omega⟩
    simp only [spec_NumberAt.l0]
    rw [if_neg (by omega)]
    obtain rfl : i = n := by omega
    rfl
  | d + 1, k, i, hd, hi, hk => by
    obtain ⟨k, rfl⟩ : ∃ m, k = m + 1 := ⟨k - 1, by omega⟩
    have e2 : wrap64 ((i : Int) + 1) = ((i + 1 : Nat) : Int) := by rw [w64 (by omega) (by omega)]; rfl
    have e3 : wrap64 ((a : Int) + (i : Int)) = ((a + i : Nat) : Int) := by rw [w64 (by omega) (by omega)]; rfl
    have hr := hb.at_ ((a + i : Nat) : Int)
    have hm := num_take_range (hb.drop a) i (by omega)
    simp only [spec_NumberAt.l0]
    rw [if_pos (by omega), e3, if_pos (by omega), if_pos (by omega), e2, w64 (x := rd l _) (by omega) (by omega), w64 (x := _ * 256) (by omega) (by omega), w64 (by omega) (by omega)]
    rw [← rd_drop, ← num_take _ i (by rw [List.length_drop]; omega)]
    exact specNumberAt_loop l hb a n hn ha hl d k (i + 1) (by omega) (by omega) (by omega)
theorem specNumberAt_eq (l : List Int) (hb : Bytes l) (hl : l.length < 4611686018427387904) (a n : Int) (k : Nat) (hk : 6 ≤ k) : spec_NumberAt.f k l a n = some (numAt l a n) := by
  obtain ⟨k, rfl⟩ : ∃ m, k = m + 1 := ⟨k - 1, by omega⟩
  unfold spec_NumberAt.f numAt
  simp only [l1In_eq, Option.bind_some, spec_NumberAt.j0]
  by_cases h1 : 1 ≤ n ∧ n ≤ 4
  · rw [if_pos (decide_eq_true h1), w64 (by omega) (by omega)]
    by_cases h2 : 0 ≤ a ∧ a ≤ (l.length : Int) - n
    · rw [decide_eq_true h2, if_neg (by decide), if_pos (by omega)]
      obtain ⟨a, rfl⟩ : ∃ m : Nat, a = m := ⟨a.toNat, by omega⟩
      obtain ⟨n, rfl⟩ : ∃ m : Nat, n = m := ⟨n.toNat, by omega⟩
      exact specNumberAt_loop l hb a n (by omega) (by omega) hl n k 0 (by omega) (by omega) (by omega)
    · rw [decide_eq_false h2, if_pos (by decide), if_neg (by omega)]
  · rw [if_neg (by simpa using h1), if_pos trivial, if_neg (by omega)]

theorem specFrameFrom_eq (l : List Int) (hb : Bytes l) (hl : l.length ≤ 1099511627776) (k : Nat) (hk : 80 ≤ k) (hk2 : l.length + 2 < k) : spec_FrameFrom.f k l = some (frameFrom l) := by
  obtain ⟨k, rfl⟩ : ∃ m, k = m + 1 := ⟨k - 1, by omega⟩
  unfold spec_FrameFrom.f frameFrom
  by_cases h : 6 ≤ l.length
  · have e := frame_lens h (by omega)
    have hdl := frameData_len l
    have w0 : wrap64 (rd l 0) = rd l 0 := by have := hb.at_ 0; exact w64 (by omega) (by omega)
    have w1 : wrap64 (rd l 1) = rd l 1 := by have := hb.at_ 1; exact w64 (by omega) (by omega)
    have w2 : wrap64 (rd l 2) = rd l 2 := by have := hb.at_ 2; exact w64 (by omega) (by omega)
    have w3 : wrap64 (rd l 3) = rd l 3 := by have := hb.at_ 3; exact w64 (by omega) (by omega)
    rw [if_neg (by omega), if_pos (by omega), if_pos (by omega), if_pos (by omega), e, Int.toNat_natCast]
    simp only [Option.bind_some, w0, w1, w2, w3, List.nil_append, List.length_nil, Nat.zero_add]
    rw [show (l.take (l.length - 2)).drop 4 = frameData l from rfl]
    have h3 : (3 : Int) < (l.length : Int) := by omega
    rw [if_pos (by omega), if_pos (by omega), if_pos (by omega)]
    have hp : (0 : Int) ≤ ((l.length - 2 : Nat) : Int) := by omega
    simp only [if_pos h3, specFrameOk_eq, specNumberAt_eq l hb (by omega) _ 2 (k + 1) (by omega), specSumOf_eq (hb.take (l.length - 2)) (by rw [List.length_take]; omega) (k + 1) (by rw [List.length_take]; omega), Option.bind_some, spec_FrameFrom.j0, if_true, if_pos hp]
    have hi := frameBytes_self hb h
    rw [show (l.length : Int) - 2 = ((l.length - 2 : Nat) : Int) by omega] at hi
    by_cases hf : frameBytes (rd l 0) (rd l 1) (rd l 2) (frameData l) = l
    · obtain ⟨h1, h2, h3⟩ := hi.1 hf
      rw [if_pos h1, if_pos h2, if_neg (by simp [h3]), if_pos ⟨h, hf⟩]
    · rw [if_neg (show ¬ (6 ≤ l.length ∧ frameBytes (rd l 0) (rd l 1) (rd l 2) (frameData l) = l) from fun q => hf q.2)]
      by_cases h1 : frameOk (rd l 0) (rd l 1) (rd l 2) (frameData l) = true
      · rw [if_pos h1]
        by_cases h2 : rd l 3 = ((frameData l).length : Int)
        · rw [if_pos h2, if_pos (by simp only [bne_iff_ne, ne_eq]; exact fun h3 => hf (hi.2 ⟨h1, h2, h3⟩))]
        · rw [if_neg h2]
      · rw [if_neg h1]
  · rw [if_pos (by omega), if_neg (fun e => h e.1)]


/-- What pick draws. -/
def pk (b : List Int) (p n : Int) : Int := ((spec_l20Rd_pick.f 1 b p n).getD (0, 0)).1
theorem pick_f (b : List Int) (hb : Bytes b) (hl : b.length ≤ 2000) (p n : Int) (h0 : 0 ≤ p) (h1 : p ≤ 1073741824) (h2 : -2147483648 ≤ n) (h3 : n ≤ 65536) (k : Nat) :
    ∃ v, spec_l20Rd_pick.f (k + 1) b p n = some (v, p + 1) ∧ 0 ≤ v ∧ (1 ≤ n → v < n) ∧ (n < 1 → v = 0) := by
  have ep : wrap64 (p + 1) = p + 1 := w64 (by omega) (by omega)
  have ep' : wrap64 (p + 1 - 1) = p := by rw [w64 (by omega) (by omega)]; omega
  unfold spec_l20Rd_pick.f
  rw [ep]
  simp only [spec_l20Rd_pick.j0, ep']
  by_cases hn : n < 1
  · rw [if_pos hn, if_pos trivial]
    exact ⟨0, rfl, by omega, fun h => by omega, fun _ => rfl⟩
  rw [if_neg hn]
  by_cases he : (b.length : Int) = 0
  · rw [if_pos (by simpa using he)]
    exact ⟨0, rfl, by omega, fun h => by omega, fun _ => rfl⟩
  rw [if_neg (by simpa using he)]
  by_cases hp : p < (b.length : Int)
  · rw [if_pos hp, if_pos h0, if_neg (by omega)]
    have hr := hb.at_ p
    rw [w64 (x := rd b p) (by omega) (by omega)]
    refine ⟨_, rfl, Int.tmod_nonneg _ hr.1, fun _ => ?_, fun h => by omega⟩
    rw [Int.tmod_eq_emod_of_nonneg hr.1]
    exact Int.emod_lt_of_pos _ (by omega)
  rw [if_neg hp]
  have m1 : 0 ≤ Int.tmod p (b.length : Int) ∧ Int.tmod p (b.length : Int) < (b.length : Int) := by
    rw [Int.tmod_eq_emod_of_nonneg h0]; exact ⟨Int.emod_nonneg _ he, Int.emod_lt_of_pos _ (by omega)⟩
  have e7 : wrap64 (wrap64 (p * 7) + 3) = p * 7 + 3 := by rw [w64 (x := p * 7) (by omega) (by omega), w64 (by omega) (by omega)]
  have m2 : 0 ≤ Int.tmod (p * 7 + 3) (b.length : Int) ∧ Int.tmod (p * 7 + 3) (b.length : Int) < (b.length : Int) := by
    rw [Int.tmod_eq_emod_of_nonneg (by omega)]; exact ⟨Int.emod_nonneg _ he, Int.emod_lt_of_pos _ (by omega)⟩
  rw [if_neg he, if_pos m1.1, if_pos m1.2, e7, if_pos m2.1, if_pos m2.2, if_neg (show ¬ n = 0 by omega)]
  have r1 := hb.at_ (Int.tmod p (b.length : Int))
  have r2 := hb.at_ (Int.tmod (p * 7 + 3) (b.length : Int))
  generalize rd b (Int.tmod p (b.length : Int)) = x1 at r1 ⊢
  generalize rd b (Int.tmod (p * 7 + 3) (b.length : Int)) = x2 at r2 ⊢
  have q0 : Int.tdiv p (b.length : Int) = p / (b.length : Int) := Int.tdiv_eq_ediv_of_nonneg h0
  have q1 : 0 ≤ p / (b.length : Int) := Int.ediv_nonneg h0 (by omega)
  have q2 : p / (b.length : Int) ≤ p := Int.ediv_le_self _ h0
  rw [q0]
  generalize p / (b.length : Int) = q at q1 q2 ⊢
  rw [w64 (x := x1) (by omega) (by omega), w64 (x := x2) (by omega) (by omega), w64 (x := x1 * 131) (by omega) (by omega), w64 (x := x2 * 1117) (by omega) (by omega), w64 (x := p * 29) (by omega) (by omega),
    w64 (x := q) (by omega) (by omega), w64 (x := q * 53) (by omega) (by omega), w64 (x := x1 * 131 + x2 * 1117) (by omega) (by omega), w64 (x := x1 * 131 + x2 * 1117 + p * 29) (by omega) (by omega), w64 (x := x1 * 131 + x2 * 1117 + p * 29 + q * 53) (by omega) (by omega)]
  obtain ⟨y, hy⟩ : ∃ y : Nat, x1 * 131 + x2 * 1117 + p * 29 + q * 53 = (y : Int) := ⟨(x1 * 131 + x2 * 1117 + p * 29 + q * 53).toNat, by omega⟩
  have hy2 : y < 1099511627776 := by omega
  rw [hy]
  have d0 : Int.tdiv (y : Int) 64 = ((y / 64 : Nat) : Int) := by rw [Int.tdiv_eq_ediv_of_nonneg (by omega)]; rfl
  have hz : y / 64 < 1099511627776 := by omega
  rw [d0, w64 (x := ((y / 64 : Nat) : Int)) (by omega) (by omega)]
  obtain ⟨ex, lx⟩ := xor_i64 y (y / 64) hy2 hz
  rw [ex]
  refine ⟨_, rfl, Int.tmod_nonneg _ (by omega), fun _ => ?_, fun h => by omega⟩
  rw [Int.tmod_eq_emod_of_nonneg (by omega)]
  exact Int.emod_lt_of_pos _ (by omega)
theorem pick_one (b : List Int) (p n : Int) (k : Nat) : spec_l20Rd_pick.f (k + 1) b p n = spec_l20Rd_pick.f 1 b p n := by
  unfold spec_l20Rd_pick.f
  simp only [spec_l20Rd_pick.j0]
theorem pick_eq {b : List Int} (hb : Bytes b) (hl : b.length ≤ 2000) {p n : Int} (h0 : 0 ≤ p) (h1 : p ≤ 1073741824) (h2 : -2147483648 ≤ n) (h3 : n ≤ 65536) {k : Nat} (hk : 1 ≤ k) : spec_l20Rd_pick.f k b p n = some (pk b p n, p + 1) := by
  obtain ⟨k, rfl⟩ : ∃ m, k = m + 1 := ⟨k - 1, by omega⟩
  rw [pick_one]
  obtain ⟨v, hv, _⟩ := pick_f b hb hl p n h0 h1 h2 h3 0
  unfold pk
  rw [hv]; rfl
theorem pk_range {b : List Int} (hb : Bytes b) (hl : b.length ≤ 2000) {p n : Int} (h0 : 0 ≤ p) (h1 : p ≤ 1073741824) (h2 : 1 ≤ n) (h3 : n ≤ 65536) : 0 ≤ pk b p n ∧ pk b p n < n := by
  obtain ⟨v, hv, g0, g1, _⟩ := pick_f b hb hl p n h0 h1 (by omega) h3 0
  unfold pk
  rw [hv]; exact ⟨g0, g1 h2⟩
/-- The bytes that are drawn from. -/
theorem open_eq (l : List Int) (hb : Bytes l) : ∃ b, spec_l20Open.f l = some (b, 0) ∧ Bytes b ∧ b.length ≤ 2000 := by
  unfold spec_l20Open.f
  by_cases h : (l.length : Int) > 2000
  · rw [if_pos h, if_pos (by omega)]
    exact ⟨_, rfl, hb.take _, by simp; omega⟩
  · rw [if_neg h]
    exact ⟨_, rfl, hb, by omega⟩

/-- odd tells just this. -/
theorem odd_eq {b : List Int} (hb : Bytes b) (hl : b.length ≤ 2000) {p n : Int} (h0 : 0 ≤ p) (h1 : p ≤ 1073741824) (h2 : 0 ≤ n) (h3 : n ≤ 65536) {k : Nat} (hk : 1 ≤ k) :
    ∃ o p', spec_l20Rd_odd.f k b p n = some (o, p') ∧ p ≤ p' ∧ p' ≤ p + 1 ∧ (n = 0 → o = false) := by
  unfold spec_l20Rd_odd.f
  by_cases h : n > 0
  · rw [if_pos h, pick_eq hb hl h0 h1 (by omega) h3 hk]
    exact ⟨_, _, rfl, by omega, by omega, fun h => by omega⟩
  · rw [if_neg h]
    exact ⟨_, _, rfl, by omega, by omega, fun _ => rfl⟩

theorem drawBytes_loop {b : List Int} (hb : Bytes b) (hl : b.length ≤ 2000) : ∀ (d k : Nat) (p : Int) (o : List Int), d < k → Bytes o → o.length + d ≤ 4096 → 0 ≤ p → p + 2 * d ≤ 1073741824 →
    ∃ r p', spec_l20Rd_bytes.l0 k (d : Int) o b p = some (r, p') ∧ Bytes r ∧ r.length = o.length + d ∧ p ≤ p' ∧ p' ≤ p + 2 * d
  | 0, k, p, o, hk, ho, hlo, h0, h1 => by
    obtain ⟨k, rfl⟩ : ∃ m, k = m + 1 := ⟨k - 1, by omega⟩
    simp only [spec_l20Rd_bytes.l0]
    rw [if_neg (by omega)]
    exact ⟨o, p, rfl, ho, by omega, by omega, by omega⟩
  | d + 1, k, p, o, hk, ho, hlo, h0, h1 => by
    obtain ⟨k, rfl⟩ : ∃ m, k = m + 1 := ⟨k - 1, by omega⟩
    have e1 : wrap64 (((d + 1 : Nat) : Int) - 1) = (d : Int) := by rw [w64 (by omega) (by omega)]; omega
    simp only [spec_l20Rd_bytes.l0]
    rw [if_pos (by omega), pick_eq hb hl h0 (by omega) (by omega) (by omega) (show 1 ≤ k by omega)]
    simp only [Option.bind_some]
    rw [pick_eq hb hl (p := p + 1) (n := 256) (by omega) (by omega) (by omega) (by omega) (show 1 ≤ k by omega), pick_eq hb hl (p := p + 1) (n := 3) (by omega) (by omega) (by omega) (by omega) (show 1 ≤ k by omega)]
    simp only [Option.bind_some]
    rw [if_pos (show o.length < 140737488355328 by omega), if_pos (show o.length < 140737488355328 by omega), e1]
    by_cases h : pk b p 3 = 0
    · rw [if_pos h]
      obtain ⟨r, p', hr, g1, g2, g3, g4⟩ := drawBytes_loop hb hl d k (p + 1 + 1) (o ++ [pk b (p + 1) 256 % 256]) (by omega) (ho.append (Bytes.cons (Bytes.mod _) Bytes.nil)) (by simp; omega) (by omega) (by omega)
      exact ⟨r, p', hr, g1, by rw [g2]; simp; omega, by omega, by omega⟩
    · rw [if_neg h]
      obtain ⟨r, p', hr, g1, g2, g3, g4⟩ := drawBytes_loop hb hl d k (p + 1 + 1) (o ++ [wrap64 (pk b (p + 1) 3 + 97) % 256]) (by omega) (ho.append (Bytes.cons (Bytes.mod _) Bytes.nil)) (by simp; omega) (by omega) (by omega)
      exact ⟨r, p', hr, g1, by rw [g2]; simp; omega, by omega, by omega⟩
theorem drawBytes_eq {b : List Int} (hb : Bytes b) (hl : b.length ≤ 2000) {p n : Int} (h0 : 0 ≤ p) (h1 : p ≤ 536870912) (h2 : 0 ≤ n) (h3 : n ≤ 4096) {k : Nat} (hk : n.toNat < k) :
    ∃ r p', spec_l20Rd_bytes.f k b p n = some (r, p') ∧ Bytes r ∧ (r.length : Int) = n ∧ p ≤ p' ∧ p' ≤ p + 2 * n := by
  obtain ⟨n, rfl⟩ : ∃ m : Nat, n = m := ⟨n.toNat, by omega⟩
  obtain ⟨r, p', hr, g1, g2, g3, g4⟩ := drawBytes_loop hb hl n k p [] (by omega) Bytes.nil (by simp; omega) h0 (by omega)
  exact ⟨r, p', hr, g1, by simp at g2; omega, g3, by omega⟩

theorem drawFrame_eq {b : List Int} (hb : Bytes b) (hl : b.length ≤ 2000) {p m : Int} (h0 : 0 ≤ p) (h1 : p ≤ 268435456) (hm0 : 0 ≤ m) (hm1 : m ≤ 65536) {k : Nat} (hk : 20 ≤ k) :
    ∃ t f n d p', spec_l20Frame.f k b p m = some (t, f, n, d, p') ∧ Bytes d ∧ d.length ≤ 65 ∧ p ≤ p' ∧ p' ≤ p + 40 ∧ (-1000 ≤ t ∧ t ≤ 256) ∧ (0 ≤ f ∧ f ≤ 255) ∧ (0 ≤ n ∧ n ≤ 256) ∧
      (m = 0 → (0 ≤ t ∧ t ≤ 255) ∧ (0 ≤ f ∧ f ≤ 3) ∧ (0 ≤ n ∧ n ≤ 4) ∧ d.length ≤ 8) := by
  obtain ⟨k, rfl⟩ : ∃ j, k = j + 1 := ⟨k - 1, by omega⟩
  have hk1 : 1 ≤ k + 1 := by omega
  have hk2 : 1 ≤ k := by omega
  unfold spec_l20Frame.f
  rw [pick_eq hb hl h0 (by omega) (by omega) (by omega) hk1]
  simp only [Option.bind_some]
  rw [pick_eq hb hl (p := p + 1) (n := 4) (by omega) (by omega) (by omega) (by omega) hk1]
  simp only [Option.bind_some]
  rw [pick_eq hb hl (p := p + 1 + 1) (n := 5) (by omega) (by omega) (by omega) (by omega) hk1]
  simp only [Option.bind_some]
  rw [pick_eq hb hl (p := p + 1 + 1 + 1) (n := 9) (by omega) (by omega) (by omega) (by omega) hk1]
  simp only [Option.bind_some]
  have r1 := pk_range hb hl (p := p) (n := 4) (by omega) (by omega) (by omega) (by omega)
  have r2 := pk_range hb hl (p := p + 1) (n := 4) (by omega) (by omega) (by omega) (by omega)
  have r3 := pk_range hb hl (p := p + 1 + 1) (n := 5) (by omega) (by omega) (by omega) (by omega)
  have r4 := pk_range hb hl (p := p + 1 + 1 + 1) (n := 9) (by omega) (by omega) (by omega) (by omega)
  generalize pk b p 4 = t at r1 ⊢
  generalize pk b (p + 1) 4 = f at r2 ⊢
  generalize pk b (p + 1 + 1) 5 = n at r3 ⊢
  generalize pk b (p + 1 + 1 + 1) 9 = c at r4 ⊢
  obtain ⟨d, p1, e1, g1, g2, g3, g4⟩ := drawBytes_eq hb hl (p := p + 1 + 1 + 1 + 1) (n := c) (by omega) (by omega) (by omega) (by omega) (k := k + 1) (by omega)
  simp only [e1, Option.bind_some]
  rw [pick_eq hb hl (p := p1) (n := 3) (by omega) (by omega) (by omega) (by omega) hk1]
  simp only [Option.bind_some, spec_l20Frame.j0]
  obtain ⟨o, p2, e2, g5, g6, g7⟩ := odd_eq hb hl (p := p1 + 1) (n := m) (by omega) (by omega) hm0 hm1 hk2
  simp only [e2, Option.bind_some]
  rw [pick_eq hb hl (p := p2) (n := 4) (by omega) (by omega) (by omega) (by omega) hk2]
  simp only [Option.bind_some]
  rw [pick_eq hb hl (p := p2 + 1) (n := 2) (by omega) (by omega) (by omega) (by omega) hk2]
  have r5 := pk_range hb hl (p := p2 + 1) (n := 2) (by omega) (by omega) (by omega) (by omega)
  simp only [Option.bind_some]
  rw [w64 (x := pk b (p2 + 1) 2 * 300) (by omega) (by omega), w64 (by omega) (by omega), if_pos (show (65 : Nat) ≤ 281474976710656 by omega)]
  have z65 : Bytes (List.replicate 65 0) := fun x hx => by rw [(List.mem_replicate.mp hx).2]; decide
  cases o with
  | false =>
    have eo : ¬ (false = true) := by decide
    rw [if_neg eo, if_neg eo]
    split
    · exact ⟨_, _, _, _, _, rfl, g1, by omega, by omega, by omega, by omega, by omega, by omega, fun _ => by omega⟩
    · exact ⟨_, _, _, _, _, rfl, g1, by omega, by omega, by omega, by omega, by omega, by omega, fun _ => by omega⟩
  | true =>
    have hm : ¬ m = 0 := fun h => by have := g7 h; cases this
    simp only [if_true]
    split <;> split
    · exact ⟨_, _, _, _, _, rfl, g1, by omega, by omega, by omega, by omega, by omega, by omega, fun h => absurd h hm⟩
    · split
      · exact ⟨_, _, _, _, _, rfl, g1, by omega, by omega, by omega, by omega, by omega, by omega, fun h => absurd h hm⟩
      · split
        · exact ⟨_, _, _, _, _, rfl, g1, by omega, by omega, by omega, by omega, by omega, by omega, fun h => absurd h hm⟩
        · exact ⟨_, _, _, _, _, rfl, z65, by simp, by omega, by omega, by omega, by omega, by omega, fun h => absurd h hm⟩
    · exact ⟨_, _, _, _, _, rfl, g1, by omega, by omega, by omega, by omega, by omega, by omega, fun h => absurd h hm⟩
    · split
      · exact ⟨_, _, _, _, _, rfl, g1, by omega, by omega, by omega, by omega, by omega, by omega, fun h => absurd h hm⟩
      · split
        · exact ⟨_, _, _, _, _, rfl, g1, by omega, by omega, by omega, by omega, by omega, by omega, fun h => absurd h hm⟩
        · exact ⟨_, _, _, _, _, rfl, z65, by simp, by omega, by omega, by omega, by omega, by omega, fun h => absurd h hm⟩

theorem sameBytes_self (l : List Int) : laws_sameBytes.f l l = some true := by
  unfold laws_sameBytes.f
  simp

theorem implBytesOf_eq (v n : Int) (k : Nat) (hk : 6 ≤ k) : impl_BytesOf.f k v n = some (bytesV v n) := by
  unfold impl_BytesOf.f bytesV
  simp only [in_eq, Option.bind_some]
  by_cases h1 : 1 ≤ n ∧ n ≤ 4
  · obtain ⟨e1, e2⟩ := lim_of n h1
    rw [if_pos (decide_eq_true h1), if_pos e2, e1]
    by_cases h2 : 0 ≤ v ∧ v ≤ 256 ^ n.toNat - 1
    · rw [if_pos (decide_eq_true h2), implbytesOf_eq v n (by omega) (by omega) k (by omega), if_pos ⟨h1, h2.1, by omega⟩]; rfl
    · rw [if_neg (by simpa using h2), if_neg (by omega)]
  · rw [if_neg (by simpa using h1), if_neg (fun h => h1 h.1)]

theorem alive_eq (k : Nat) (hk : 6 ≤ k) : laws_alive.f k = some true := by
  unfold laws_alive.f
  simp only [implBytesOf_eq _ _ k hk, Option.bind_some]
  rfl

theorem drawFrameFrom_eq (l : List Int) (hb : Bytes l) (k : Nat) (hk : 100 ≤ k) : ∃ r, spec_DrawFrameFrom.f k l = some r ∧ Bytes r ∧ r.length ≤ 71 := by
  obtain ⟨b, hb1, hb2, hb3⟩ := open_eq l hb
  obtain ⟨t, f, n, d, p', e, hd, g0, g1, g2, _, _, _, g3⟩ := drawFrame_eq hb2 hb3 (p := 0) (m := 0) (by omega) (by omega) (by omega) (by omega) (k := k) (by omega)
  obtain ⟨q1, q2, q3, q4⟩ := g3 rfl
  have ho : frameOk t f n d = true := decide_eq_true ⟨by omega, by omega, by omega, by omega⟩
  have hfb := frameBytes_bytes (t := t) (f := f) (n := n) hd
  have hfl := frameBytes_len t f n d
  have hf6 : 6 ≤ (frameBytes t f n d).length := by
    have e1 : frameBytes t f n d = frameHead t f n d ++ sum2 (frameHead t f n d) := by unfold frameBytes; rw [if_pos ho]
    rw [e1, List.length_append, sum2_len, frameHead_len]; omega
  unfold spec_DrawFrameFrom.f
  simp only [hb1, e, Option.bind_some, specFrameBytes_eq t f n d hd k (by omega)]
  generalize frameBytes t f n d = B at hfb hfl hf6 ⊢
  rw [pick_eq hb2 hb3 (p := p') (n := 5) (by omega) (by omega) (by omega) (by omega) (by omega)]
  simp only [Option.bind_some]
  rw [pick_eq hb2 hb3 (p := p' + 1) (n := (B.length : Int)) (by omega) (by omega) (by omega) (by omega) (by omega)]
  simp only [Option.bind_some]
  rw [pick_eq hb2 hb3 (p := p' + 1 + 1) (n := 256) (by omega) (by omega) (by omega) (by omega) (by omega)]
  simp only [Option.bind_some]
  have r1 := pk_range hb2 hb3 (p := p' + 1) (n := (B.length : Int)) (by omega) (by omega) (by omega) (by omega)
  generalize pk b (p' + 1) (B.length : Int) = i at r1 ⊢
  split
  · rw [if_pos r1.1, if_pos r1.2]
    exact ⟨_, rfl, hfb.set _ (Bytes.mod _), by rw [List.length_set]; omega⟩
  · split
    · rw [if_pos r1.1, if_pos (by omega)]
      exact ⟨_, rfl, hfb.take _, by rw [List.length_take]; omega⟩
    · split
      · rw [if_pos (by omega)]
        exact ⟨_, rfl, hfb.append (Bytes.cons (by omega) Bytes.nil), by rw [List.length_append]; simp only [List.length_cons, List.length_nil]; omega⟩
      · exact ⟨_, rfl, hfb, by omega⟩
theorem FnFrameFrom : laws_FnFrameFrom.Pure := by
  intro l hm hl hw
  refine ⟨300, ?_⟩
  obtain ⟨r, e, hr, hrl⟩ := drawFrameFrom_eq l (Bytes.of_wf hw) 300 (by omega)
  unfold laws_FnFrameFrom.f
  by_cases h : (l.length : Int) > 1048576
  · rw [if_pos h]
  rw [if_neg h]
  simp only [e, Option.bind_some, implFrameFrom_eq r hr (by omega) 300 (by omega), specFrameFrom_eq r hr (by omega) 300 (by omega) (by omega), bne_self_eq_false, Bool.false_eq_true, if_false]
  have hsame : laws_sameFrame.f (frameFrom r).1 (frameFrom r).2.1 (frameFrom r).2.2.1 (frameFrom r).2.2.2.1 (frameFrom r).1 (frameFrom r).2.1 (frameFrom r).2.2.1 (frameFrom r).2.2.2.1 = some true := by
    unfold laws_sameFrame.f
    simp only [if_true, sameBytes_self, Option.bind_some]
  simp only [hsame, Option.bind_some, Bool.not_true, laws_FnFrameFrom.j0, laws_FnFrameFrom.j1, Bool.false_eq_true, if_false]
  cases ho : (frameFrom r).2.2.2.2 with
  | false =>
    rw [if_pos (by rfl), alive_eq 298 (by omega)]
    rfl
  | true =>
    rw [if_neg (by decide)]
    obtain ⟨h6, e6⟩ := frameFrom_ok ho
    have eF := frameFrom_of ⟨h6, e6⟩
    have w1 : wrap64 ((r.length : Int) - 1) = ((r.length - 1 : Nat) : Int) := by rw [w64 (by omega) (by omega)]; omega
    have c1 : (0 : Int) ≤ ((r.length - 1 : Nat) : Int) := by omega
    have c2 : ((r.length - 1 : Nat) : Int) ≤ (r.length : Int) := by omega
    have c3 : 0 + (r.take (r.length - 1)).length < 140737488355328 := by rw [List.length_take]; omega
    have c4 : 0 + r.length < 140737488355328 := by omega
    have c5 : r.length < 140737488355328 := by omega
    simp only [laws_FnFrameFrom.j2, Option.bind_some, w1, if_pos c1, if_pos c2, Int.toNat_natCast, List.nil_append, List.length_nil, if_pos c3,
      implFrameFrom_eq (r.take (r.length - 1)) (hr.take _) (by rw [List.length_take]; omega) 297 (by omega), frameFrom_less hr ho, laws_FnFrameFrom.j3, if_pos c4, if_pos c5,
      implFrameFrom_eq (r ++ [0]) (hr.append (Bytes.cons (by omega) Bytes.nil)) (by rw [List.length_append]; simp only [List.length_cons, List.length_nil]; omega) 296 (by omega), frameFrom_more hr ho 0 (by omega), laws_FnFrameFrom.j4, eF,
      implFrameBytes_eq _ _ _ _ (frameData_bytes hr) 295 (by omega), e6, sameBytes_self, if_true, Bool.false_eq_true, if_false, Bool.not_false]

end Go.Proofs.Ytbjfnpjkldfeiaa.Pure

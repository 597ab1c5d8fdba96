/- QueryFrom of the program is the reference's at all bytes; the statement's own bounds alone. -/
import Derived.Test.YtpoedefohfonjaaPFnExactQueryFromx5
import Derived.Test.YtpoedefohfonjaaBase
namespace Go.Proofs.Ytpoedefohfonjaa.Pure
set_option linter.unusedSimpArgs false
set_option linter.unusedVariables false
open Go Go.RowKit Go.Proofs.Ytpoedefohfonjaa.PFnExactQueryFrom Go.Proofs.YtpoedefohfonjaaW.PrintWords Go.Proofs.YtpoedefohfonjaaW.PrintLast Go.Proofs.YtpoedefohfonjaaW.PrintMore Go.Proofs.Ytpoedefohfonjaa.Base

theorem l1In_eq (a b c : Int) : spec_l1In.f a b c = some (decide (b ≤ a ∧ a ≤ c)) := by
  unfold spec_l1In.f
  by_cases h : a ≥ b <;> simp [h]

theorem in_eq (a b c : Int) : impl_in.f a b c = some (decide (b ≤ a ∧ a ≤ c)) := by
  unfold impl_in.f
  by_cases h : a ≥ b <;> simp [h]

theorem word_eq (a : Int) : impl_word.f a = some (decide (0 ≤ a ∧ a ≤ 65535)) := by
  unfold impl_word.f
  rw [in_eq]; rfl

/-- A query is ok. -/
def queryOk (k l a w : Int) : Bool := decide ((1 ≤ k ∧ k ≤ 2) ∧ (0 ≤ l ∧ l ≤ 254) ∧ (0 ≤ a ∧ a ≤ 65535) ∧ (0 ≤ w ∧ w ≤ 65535))
theorem specQueryOk_eq (k l a w : Int) : spec_QueryOk.f k l a w = some (queryOk k l a w) := by
  unfold spec_QueryOk.f queryOk
  simp only [l1In_eq, Option.bind_some]
  by_cases h1 : k = 1
  · subst h1
    by_cases h2 : 0 ≤ l ∧ l ≤ 254 <;> by_cases h3 : 0 ≤ a ∧ a ≤ 65535 <;> simp [h2, h3]
  · by_cases h4 : k = 2
    · subst h4
      by_cases h2 : 0 ≤ l ∧ l ≤ 254 <;> by_cases h3 : 0 ≤ a ∧ a ≤ 65535 <;> simp [h2, h3]
    · rw [if_neg h1, if_neg h4, decide_eq_false (by omega)]
theorem implQueryOk_eq (k l a w : Int) : impl_QueryOk.f k l a w = some (queryOk k l a w) := by
  unfold impl_QueryOk.f queryOk
  simp only [in_eq, word_eq, Option.bind_some]
  by_cases h1 : 1 ≤ k ∧ k ≤ 2 <;> by_cases h2 : 0 ≤ l ∧ l ≤ 254 <;> by_cases h3 : 0 ≤ a ∧ a ≤ 65535 <;> simp [h1, h2, h3]

/-- The number of n bytes at a place; -1 if there is none. -/
def numAt (l : List Int) (a n : Int) : Int := if (1 ≤ n ∧ n ≤ 4) ∧ 0 ≤ a ∧ a + n ≤ l.length then num ((l.drop a.toNat).take n.toNat) else -1
theorem num_take (l : List Int) (i : Nat) (h : i < l.length) : num (l.take (i + 1)) = num (l.take i) * 256 + rd l (i : Int) := by
  rw [take_succ_rd l i h, num_append]
theorem num_take_range {l : List Int} (h : Bytes l) (i : Nat) (hi : i ≤ 4) : 0 ≤ num (l.take i) ∧ num (l.take i) < 4294967296 := by
  have h1 := num_range _ (h.take i)
  refine ⟨h1.1, Int.lt_of_lt_of_le h1.2 ?_⟩
  have h2 : (l.take i).length ≤ 4 := by rw [List.length_take]; omega
  generalize (l.take i).length = n at h2
  obtain rfl | rfl | rfl | rfl | rfl : n = 0 ∨ n = 1 ∨ n = 2 ∨ n = 3 ∨ n = 4 := by omega
  all_goals decide
theorem rd_drop (l : List Int) (a i : Nat) : rd (l.drop a) (i : Int) = rd l ((a + i : Nat) : Int) := by
  unfold rd; rw [List.getD_eq_getElem?_getD, List.getD_eq_getElem?_getD, List.getElem?_drop]; rfl

theorem specNumberAt_loop (l : List Int) (hb : Bytes l) (a n : Nat) (hn : n ≤ 4) (ha : a + n ≤ l.length) (hl : l.length < 4611686018427387904) : ∀ (d k i : Nat), n - i = d → i ≤ n → d < k →
    spec_NumberAt.l0 k l (a : Int) (n : Int) (num ((l.drop a).take i)) (i : Int) = some (num ((l.drop a).take n))
  | 0, k, i, hd, hi, hk => by
    obtain ⟨k, rfl⟩ : ∃ m, k = m + 1 := ⟨k - 1, by omega⟩
    simp only [spec_NumberAt.l0]
    rw [if_neg (by omega)]
    obtain rfl : i = n := by omega
    rfl
  | d + 1, k, i, hd, hi, hk => by
    obtain ⟨k, rfl⟩ : ∃ m, k = m + 1 := ⟨k - 1, by omega⟩
    have e2 : wrap64 ((i : Int) + 1) = ((i + 1 : Nat) : Int) := by rw [w64 (by omega) (by omega)]; rfl
    have e3 : wrap64 ((a : Int) + (i : Int)) = ((a + i : Nat) : Int) := by rw [w64 (by omega) (by omega)]; rfl
    have hr := hb.at_ ((a + i : Nat) : Int)
    have hm := num_take_range (hb.drop a) i (by omega)
    simp only [spec_NumberAt.l0]
    rw [if_pos (by omega), e3, if_pos (by omega), if_pos (by omega), e2, w64 (x := rd l _) (by omega) (by omega), w64 (x := _ * 256) (by omega) (by omega), w64 (by omega) (by omega)]
    rw [← rd_drop, ← num_take _ i (by rw [List.length_drop]; omega)]
    exact specNumberAt_loop l hb a n hn ha hl d k (i + 1) (by omega) (by omega) (by omega)
theorem specNumberAt_eq (l : List Int) (hb : Bytes l) (hl : l.length < 4611686018427387904) (a n : Int) (k : Nat) (hk : 6 ≤ k) : spec_NumberAt.f k l a n = some (numAt l a n) := by
  obtain ⟨k, rfl⟩ : ∃ m, k = m + 1 := ⟨k - 1, by omega⟩
  unfold spec_NumberAt.f numAt
  simp only [l1In_eq, Option.bind_some, spec_NumberAt.j0]
  by_cases h1 : 1 ≤ n ∧ n ≤ 4
  · rw [if_pos (decide_eq_true h1), w64 (by omega) (by omega)]
    by_cases h2 : 0 ≤ a ∧ a ≤ (l.length : Int) - n
    · rw [decide_eq_true h2, if_neg (by decide), if_pos (by omega)]
      obtain ⟨a, rfl⟩ : ∃ m : Nat, a = m := ⟨a.toNat, by omega⟩
      obtain ⟨n, rfl⟩ : ∃ m : Nat, n = m := ⟨n.toNat, by omega⟩
      exact specNumberAt_loop l hb a n (by omega) (by omega) hl n k 0 (by omega) (by omega) (by omega)
    · rw [decide_eq_false h2, if_pos (by decide), if_neg (by omega)]
  · rw [if_neg (by simpa using h1), if_pos trivial, if_neg (by omega)]

theorem implNumberAt_loop (m : List Int) (hb : Bytes m) (hn : m.length ≤ 4) : ∀ (d k i : Nat), m.length - i = d → i ≤ m.length → d < k →
    impl_NumberAt.l0 k (num (m.take i)) m (m.length : Int) (i : Int) = some (num m)
  | 0, k, i, hd, hi, hk => by
    obtain ⟨k, rfl⟩ : ∃ m, k = m + 1 := ⟨k - 1, by omega⟩
    simp only [impl_NumberAt.l0]
    rw [if_neg (by omega), List.take_of_length_le (by omega)]
  | d + 1, k, i, hd, hi, hk => by
    obtain ⟨k, rfl⟩ : ∃ m, k = m + 1 := ⟨k - 1, by omega⟩
    have e2 : wrap64 ((i : Int) + 1) = ((i + 1 : Nat) : Int) := by rw [w64 (by omega) (by omega)]; rfl
    have hr := hb.at_ (i : Int)
    have hm := num_take_range hb i (by omega)
    simp only [impl_NumberAt.l0]
    rw [if_pos (by omega), if_pos (by omega), if_pos (by omega), e2, w64 (x := rd m _) (by omega) (by omega), w64 (x := _ * 256) (by omega) (by omega)]
    rw [or_byte (by omega) (by omega) (by omega) (by omega), ← num_take _ i (by omega)]
    exact implNumberAt_loop m hb hn d k (i + 1) (by omega) (by omega) (by omega)
theorem implNumberAt_eq (l : List Int) (hb : Bytes l) (hl : l.length < 4611686018427387904) (a n : Int) (k : Nat) (hk : 6 ≤ k) : impl_NumberAt.f k l a n = some (numAt l a n) := by
  obtain ⟨k, rfl⟩ : ∃ m, k = m + 1 := ⟨k - 1, by omega⟩
  unfold impl_NumberAt.f numAt
  simp only [in_eq, Option.bind_some, impl_NumberAt.j0]
  by_cases h1 : 1 ≤ n ∧ n ≤ 4
  · rw [if_pos (decide_eq_true h1), w64 (x := (l.length : Int) - n) (by omega) (by omega)]
    by_cases h2 : a < 0
    · rw [if_pos h2, if_pos trivial, if_neg (by omega)]
    · rw [if_neg h2]
      by_cases h3 : a > (l.length : Int) - n
      · rw [if_pos (decide_eq_true h3), if_neg (by omega)]
      · rw [if_neg (by simpa using h3), if_pos (by omega), w64 (by omega) (by omega), if_pos (by omega), if_pos (by omega), if_pos (by omega)]
        have e : (l.take (a + n).toNat).drop a.toNat = (l.drop a.toNat).take n.toNat := by
          rw [List.drop_take]; congr 1; omega
        rw [e]
        have hlen : ((l.drop a.toNat).take n.toNat).length = n.toNat := by rw [List.length_take, List.length_drop]; omega
        exact implNumberAt_loop _ ((hb.drop _).take _) (by omega) _ k 0 (by rw [Nat.sub_zero]) (by omega) (by omega)
  · rw [if_neg (by simpa using h1), if_pos trivial, if_neg (by omega)]

/-- The query of bytes. -/
def queryFrom (l : List Int) : Int × Int × Int × Int × Bool :=
  if (l.length : Int) = 6 ∧ queryOk (rd l 0) (rd l 1) (numAt l 2 2) (numAt l 4 2) = true then (rd l 0, rd l 1, numAt l 2 2, numAt l 4 2, true) else (0, 0, 0, 0, false)
theorem specQueryFrom_eq (l : List Int) (hb : Bytes l) (k : Nat) (hk : 6 ≤ k) : spec_QueryFrom.f k l = some (queryFrom l) := by
  unfold spec_QueryFrom.f queryFrom
  by_cases h : (l.length : Int) = 6
  · have r0 := hb.at_ 0
    have r1 := hb.at_ 1
    rw [if_pos h, if_pos (by omega), if_pos (by omega), specNumberAt_eq l hb (by omega) 2 2 k hk, specNumberAt_eq l hb (by omega) 4 2 k hk]
    simp only [Option.bind_some]
    rw [w64 (x := rd l 0) (by omega) (by omega), w64 (x := rd l 1) (by omega) (by omega), specQueryOk_eq]
    simp only [Option.bind_some]
    cases queryOk (rd l 0) (rd l 1) (numAt l 2 2) (numAt l 4 2) <;> simp [h]
  · rw [if_neg h, if_neg (fun hc => h hc.1)]
theorem implQueryFrom_eq (l : List Int) (hb : Bytes l) (k : Nat) (hk : 6 ≤ k) : impl_QueryFrom.f k l = some (queryFrom l) := by
  unfold impl_QueryFrom.f queryFrom
  by_cases h : (l.length : Int) = 6
  · have r0 := hb.at_ 0
    have r1 := hb.at_ 1
    rw [if_pos h, if_pos (by omega), if_pos (by omega), implNumberAt_eq l hb (by omega) 2 2 k hk, implNumberAt_eq l hb (by omega) 4 2 k hk]
    simp only [Option.bind_some]
    rw [w64 (x := rd l 0) (by omega) (by omega), w64 (x := rd l 1) (by omega) (by omega), implQueryOk_eq]
    simp only [Option.bind_some]
    cases queryOk (rd l 0) (rd l 1) (numAt l 2 2) (numAt l 4 2) <;> simp [h]
  · rw [if_neg h, if_neg (fun hc => h hc.1)]

theorem toByteS_loop (l : List Int) (hn : l.length < 4611686018427387904) : ∀ (d k i : Nat) (o : List Int), l.length - i = d → i ≤ l.length → d < k → o.length = l.length → o.take i = l.take i →
    laws_toByteS.l0 k l o (i : Int) = some l
  | 0, k, i, o, hd, hi, hk, hl, ho => by
    obtain ⟨k, rfl⟩ : ∃ m, k = m + 1 := ⟨k - 1, by omega⟩
    simp only [laws_toByteS.l0]
    rw [if_neg (by omega)]
    rw [List.take_of_length_le (by omega), List.take_of_length_le (by omega)] at ho
    rw [ho]
  | d + 1, k, i, o, hd, hi, hk, hl, ho => by
    obtain ⟨k, rfl⟩ : ∃ m, k = m + 1 := ⟨k - 1, by omega⟩
    have e2 : wrap64 ((i : Int) + 1) = ((i + 1 : Nat) : Int) := by rw [w64 (by omega) (by omega)]; rfl
    simp only [laws_toByteS.l0]
    rw [if_pos (by omega), if_pos (by omega), if_pos (by omega), e2]
    exact toByteS_loop l hn d k (i + 1) _ (by omega) (by omega) (by omega) (by simp [hl]) (by simpa using set_take l o i (by omega) hl ho)
theorem toByteS_eq (l : List Int) (hn : l.length ≤ 140737488351232) (k : Nat) (hk : l.length < k) : laws_toByteS.f k l = some l := by
  unfold laws_toByteS.f
  rw [if_pos (by omega), if_pos (by omega)]
  exact toByteS_loop l (by omega) l.length k 0 _ (by omega) (by omega) hk (by simp) (by simp)

theorem eqByteS_loop (a b : List Int) (hab : a.length = b.length) (hn : a.length < 4611686018427387904) : ∀ (d k i : Nat), a.length - i = d → i ≤ a.length → d < k → a.take i = b.take i →
    laws_eqByteS.l0 k a b (i : Int) = some (decide (a = b))
  | 0, k, i, hd, hi, hk, ho => by
    obtain ⟨k, rfl⟩ : ∃ m, k = m + 1 := ⟨k - 1, by omega⟩
    simp only [laws_eqByteS.l0]
    rw [if_neg (by omega)]
    rw [List.take_of_length_le (by omega), List.take_of_length_le (by omega)] at ho
    rw [decide_eq_true ho]
  | d + 1, k, i, hd, hi, hk, ho => by
    obtain ⟨k, rfl⟩ : ∃ m, k = m + 1 := ⟨k - 1, by omega⟩
    have e2 : wrap64 ((i : Int) + 1) = ((i + 1 : Nat) : Int) := by rw [w64 (by omega) (by omega)]; rfl
    simp only [laws_eqByteS.l0]
    rw [if_pos (by omega), if_pos (by omega), if_pos (by omega), e2]
    by_cases h : rd a (i : Int) = rd b (i : Int)
    · rw [if_pos h]
      exact eqByteS_loop a b hab hn d k (i + 1) (by omega) (by omega) (by omega) (by rw [take_succ_rd a i (by omega), take_succ_rd b i (by omega), ho, h])
    · rw [if_neg h, decide_eq_false (fun e => h (by rw [e]))]
theorem eqByteS_eq (a b : List Int) (hn : a.length < 4611686018427387904) (k : Nat) (hk : a.length < k) : laws_eqByteS.f k a b = some (decide (a = b)) := by
  unfold laws_eqByteS.f
  by_cases h : (a.length : Int) = (b.length : Int)
  · rw [if_pos h]; exact eqByteS_loop a b (by omega) hn a.length k 0 (by omega) (by omega) hk (by simp)
  · rw [if_neg h, decide_eq_false (fun e => h (by rw [e]))]

theorem FnExactQueryFrom : laws_FnExactQueryFrom.Pure := by
  intro l hm hl hw
  have hb := Bytes.of_wf hw
  refine ⟨l.length + 10 + 1, ?_⟩
  unfold laws_FnExactQueryFrom.f
  by_cases h : (l.length : Int) > 1048576
  · rw [if_pos h]
  rw [if_neg h]
  simp only [toByteS_eq l (by omega) (l.length + 10 + 1) (by omega), toByteS_eq l (by omega) (l.length + 10) (by omega), specQueryFrom_eq l hb (l.length + 10 + 1) (by omega), implQueryFrom_eq l hb (l.length + 10 + 1) (by omega),
    eqByteS_eq l l (by omega) (l.length + 10) (by omega), laws_eqQuery.f, laws_FnExactQueryFrom.j0, Option.bind_some, if_true, bne_self_eq_false, Bool.false_eq_true, if_false, decide_true]

end Go.Proofs.Ytpoedefohfonjaa.Pure

/- BytesOf of the program is the reference's at all numbers; no condition. -/
import Derived.Test.YtcfjgdbinciakaaPFnExactBytesOfx2
import Derived.Test.YtcfjgdbinciakaaBase
namespace Go.Proofs.Ytcfjgdbinciakaa.Pure
set_option linter.unusedSimpArgs false
set_option linter.unusedVariables false
open Go Go.RowKit Go.Proofs.Ytcfjgdbinciakaa.PFnExactBytesOf Go.Proofs.YtcfjgdbinciakaaW.PrintWords Go.Proofs.YtcfjgdbinciakaaW.PrintLast Go.Proofs.YtcfjgdbinciakaaW.PrintMore Go.Proofs.Ytcfjgdbinciakaa.Base

theorem in_eq (a b c : Int) : impl_in.f a b c = some (decide (b ≤ a ∧ a ≤ c)) := by
  unfold impl_in.f
  by_cases h : a ≥ b <;> simp [h]

theorem implbytesOf_loop : ∀ (i k : Nat) (v : Int) (o : List Int), i < k → i ≤ o.length → o.length < 4611686018427387904 →
    impl_bytesOf.l0 k v o ((i : Int) - 1) = some (be i v ++ o.drop i)
  | 0, k, v, o, hk, hi, hl => by
    obtain ⟨k, rfl⟩ : ∃ m, k = m + 1 := ⟨k - 1, by omega⟩
    simp only [impl_bytesOf.l0]
    rw [if_neg (by omega)]; simp [be]
  | i + 1, k, v, o, hk, hi, hl => by
    obtain ⟨k, rfl⟩ : ∃ m, k = m + 1 := ⟨k - 1, by omega⟩
    have e1 : ((i + 1 : Nat) : Int) - 1 = (i : Int) := by omega
    have e2 : wrap64 ((i : Int) - 1) = (i : Int) - 1 := w64 (by omega) (by omega)
    have e3 : ((i : Int)).toNat = i := by omega
    rw [e1]
    simp only [impl_bytesOf.l0]
    rw [if_pos (by omega), if_pos (by omega), if_pos (by omega), e2, implbytesOf_loop i k _ _ (by omega) (by simp; omega) (by simpa using hl), e3, drop_rd _ i (by simp; omega), rd_set_eq _ _ _ (by omega), List.drop_set_of_lt (by omega)]
    simp [be]
theorem implbytesOf_eq (v n : Int) (h0 : 0 ≤ n) (h1 : n ≤ 1073741824) (k : Nat) (hk : n.toNat < k) : impl_bytesOf.f k v n = some (be n.toNat v) := by
  unfold impl_bytesOf.f
  rw [if_pos h0, if_pos (by omega), w64 (by omega) (by omega)]
  obtain ⟨n, rfl⟩ : ∃ m : Nat, n = m := ⟨n.toNat, by omega⟩
  rw [implbytesOf_loop n k v _ (by omega) (by simp) (by simp; omega)]
  simp

/-- A number as n bytes, n in 1..4; none for others. -/
def bytesV (v n : Int) : List Int := if (1 ≤ n ∧ n ≤ 4) ∧ 0 ≤ v ∧ v < 256 ^ n.toNat then be n.toNat v else []
theorem four {n : Int} (h : 1 ≤ n ∧ n ≤ 4) : n = 1 ∨ n = 2 ∨ n = 3 ∨ n = 4 := by omega
theorem lim_of (n : Int) (h : 1 ≤ n ∧ n ≤ 4) : wrap64 (shl .i64 1 (wrap64 (8 * n)) - 1) = 256 ^ n.toNat - 1 ∧ 0 ≤ wrap64 (8 * n) := by
  rcases four h with rfl | rfl | rfl | rfl <;> decide +kernel
theorem bytesV_length (v n : Int) : (bytesV v n).length ≤ 4 := by
  unfold bytesV; split
  · rw [be_length]; omega
  · simp
theorem bytesV_bytes (v n : Int) : Bytes (bytesV v n) := by
  unfold bytesV; split
  · exact be_bytes _ _
  · exact Bytes.nil

theorem implBytesOf_eq (v n : Int) (k : Nat) (hk : 6 ≤ k) : impl_BytesOf.f k v n = some (bytesV v n) := by
  unfold impl_BytesOf.f bytesV
  simp only [in_eq, Option.bind_some]
  by_cases h1 : 1 ≤ n ∧ n ≤ 4
  · obtain ⟨e1, e2⟩ := lim_of n h1
    rw [if_pos (decide_eq_true h1), if_pos e2, e1]
    by_cases h2 : 0 ≤ v ∧ v ≤ 256 ^ n.toNat - 1
    · rw [if_pos (decide_eq_true h2), implbytesOf_eq v n (by omega) (by omega) k (by omega), if_pos ⟨h1, h2.1, by omega⟩]; rfl
    · rw [if_neg (by simpa using h2), if_neg (by omega)]
  · rw [if_neg (by simpa using h1), if_neg (fun h => h1 h.1)]

theorem l1In_eq (a b c : Int) : spec_l1In.f a b c = some (decide (b ≤ a ∧ a ≤ c)) := by
  unfold spec_l1In.f
  by_cases h : a ≥ b <;> simp [h]

theorem be_front (n : Nat) (v : Int) : be (n + 1) v = (v / 256 ^ n % 256) :: be n v := by
  induction n generalizing v with
  | zero => simp [be]
  | succ n ih =>
    rw [be, ih (v / 256)]
    show _ = v / 256 ^ (n + 1) % 256 :: (be n (v / 256) ++ [v % 256])
    have e : v / 256 / 256 ^ n = v / 256 ^ (n + 1) := by
      rw [Int.ediv_ediv_of_nonneg (by decide), Int.pow_succ, Int.mul_comm]
    rw [e]; rfl
theorem shr_byte (v : Int) (i : Nat) (hi : i ≤ 3) : 0 ≤ wrap64 (8 * (i : Int)) ∧ shr .i64 v (wrap64 (8 * (i : Int))) = v / 256 ^ i := by
  obtain rfl | rfl | rfl | rfl : i = 0 ∨ i = 1 ∨ i = 2 ∨ i = 3 := by omega
  all_goals exact ⟨by decide +kernel, by rw [show wrap64 (8 * ((_ : Nat) : Int)) = 8 * _ from w64 (by omega) (by omega)]; rfl⟩
theorem specBytesOf_loop (v : Int) (hv : 0 ≤ v) : ∀ (i k : Nat) (o : List Int), i < k → i ≤ 4 → o.length + i ≤ 4 →
    spec_BytesOf.l0 k v o ((i : Int) - 1) = some (o ++ be i v)
  | 0, k, o, hk, hi, hl => by
    obtain ⟨k, rfl⟩ : ∃ m, k = m + 1 := ⟨k - 1, by omega⟩
    simp only [spec_BytesOf.l0]
    rw [if_neg (by omega)]; simp [be]
  | i + 1, k, o, hk, hi, hl => by
    obtain ⟨k, rfl⟩ : ∃ m, k = m + 1 := ⟨k - 1, by omega⟩
    have e1 : ((i + 1 : Nat) : Int) - 1 = (i : Int) := by omega
    have e2 : wrap64 ((i : Int) - 1) = (i : Int) - 1 := w64 (by omega) (by omega)
    obtain ⟨e3, e4⟩ := shr_byte v i (by omega)
    have e5 : Int.tmod (v / 256 ^ i) 256 % 256 = v / 256 ^ i % 256 := by
      rw [Int.tmod_eq_emod_of_nonneg (Int.ediv_nonneg hv (Int.pow_nonneg (by decide)))]; omega
    rw [e1]
    simp only [spec_BytesOf.l0]
    rw [if_pos (by omega), if_pos e3, if_pos (by omega), e4, e5, e2, specBytesOf_loop v hv i k _ (by omega) (by omega) (by simp; omega), be_front]
    simp
theorem specBytesOf_eq (v n : Int) (k : Nat) (hk : 6 ≤ k) : spec_BytesOf.f k v n = some (bytesV v n) := by
  obtain ⟨k, rfl⟩ : ∃ m, k = m + 1 := ⟨k - 1, by omega⟩
  unfold spec_BytesOf.f bytesV
  simp only [l1In_eq, Option.bind_some, spec_BytesOf.j0]
  by_cases h1 : 1 ≤ n ∧ n ≤ 4
  · obtain ⟨e1, e2⟩ := lim_of n h1
    rw [if_pos (decide_eq_true h1), if_pos e2, e1]
    by_cases h2 : 0 ≤ v ∧ v ≤ 256 ^ n.toNat - 1
    · rw [decide_eq_true h2, if_neg (by decide), if_pos ⟨h1, h2.1, by omega⟩, w64 (by omega) (by omega)]
      obtain ⟨n, rfl⟩ : ∃ m : Nat, n = m := ⟨n.toNat, by omega⟩
      rw [specBytesOf_loop v h2.1 n k [] (by omega) (by omega) (by simp; omega)]; rfl
    · rw [decide_eq_false h2, if_pos (by decide), if_neg (by omega)]
  · rw [if_neg (by simpa using h1), if_pos trivial, if_neg (fun h => h1 h.1)]

theorem eqByteS_loop (a b : List Int) (hab : a.length = b.length) (hn : a.length < 4611686018427387904) : ∀ (d k i : Nat), a.length - i = d → i ≤ a.length → d < k → a.take i = b.take i →
    laws_eqByteS.l0 k a b (i : Int) = some (decide (a = b))
  | 0, k, i, hd, hi, hk, ho => by
    obtain ⟨k, rfl⟩ : ∃ m, k = m + 1 := ⟨k - 1, by omega⟩
    simp only [laws_eqByteS.l0]
    rw [if_neg (by omega)]
    rw [List.take_of_length_le (by omega), List.take_of_length_le (by omega)] at ho
    rw [decide_eq_true ho]
  | d + 1, k, i, hd, hi, hk, ho => by
    obtain ⟨k, rfl⟩ : ∃ m, k = m + 1 := ⟨k - 1, by omega⟩
    have e2 : wrap64 ((i : Int) + 1) = ((i + 1 : Nat) : Int) := by rw [w64 (by omega) (by omega)]; rfl
    simp only [laws_eqByteS.l0]
    rw [if_pos (by omega), if_pos (by omega), if_pos (by omega), e2]
    by_cases h : rd a (i : Int) = rd b (i : Int)
    · rw [if_pos h]
      exact eqByteS_loop a b hab hn d k (i + 1) (by omega) (by omega) (by omega) (by rw [take_succ_rd a i (by omega), take_succ_rd b i (by omega), ho, h])
    · rw [if_neg h, decide_eq_false (fun e => h (by rw [e]))]
theorem eqByteS_eq (a b : List Int) (hn : a.length < 4611686018427387904) (k : Nat) (hk : a.length < k) : laws_eqByteS.f k a b = some (decide (a = b)) := by
  unfold laws_eqByteS.f
  by_cases h : (a.length : Int) = (b.length : Int)
  · rw [if_pos h]; exact eqByteS_loop a b (by omega) hn a.length k 0 (by omega) (by omega) hk (by simp)
  · rw [if_neg h, decide_eq_false (fun e => h (by rw [e]))]

theorem markByteS_loop (n : Nat) (hn : n < 4611686018427387904) : ∀ (d k i : Nat) (o : List Int) (a : Int), n - i = d → i ≤ n → d < k → o.length = n → 0 ≤ a → a + d < 4611686018427387904 →
    laws_markByteS.l0 k o a (i : Int) = some (a + d, o.take i ++ marks a d)
  | 0, k, i, o, a, hd, hi, hk, hl, ha, hb => by
    obtain ⟨k, rfl⟩ : ∃ m, k = m + 1 := ⟨k - 1, by omega⟩
    simp only [laws_markByteS.l0]
    rw [if_neg (by omega), List.take_of_length_le (by omega)]
    simp [marks]
  | d + 1, k, i, o, a, hd, hi, hk, hl, ha, hb => by
    obtain ⟨k, rfl⟩ : ∃ m, k = m + 1 := ⟨k - 1, by omega⟩
    have e2 : wrap64 ((i : Int) + 1) = ((i + 1 : Nat) : Int) := by rw [w64 (by omega) (by omega)]; rfl
    simp only [laws_markByteS.l0]
    rw [if_pos (by omega), if_pos (by omega), e2, w64 (x := a + 1) (by omega) (by omega)]
    rw [markByteS_loop n hn d k (i + 1) _ (a + 1) (by omega) (by omega) (by omega) (by simp [hl]) (by omega) (by omega)]
    congr 1
    refine Prod.ext (by simp; omega) ?_
    show _ = o.take i ++ marks a (d + 1)
    have e : ((i : Int)).toNat = i := by omega
    rw [e, take_succ_rd _ i (by simp; omega), rd_set_eq _ _ _ (by omega), List.take_set_of_le (by omega)]
    simp [marks]
theorem markByteS_eq (l : List Int) (a : Int) (ha : 0 ≤ a) (hb : a + l.length < 4611686018427387904) (k : Nat) (hk : l.length < k) : laws_markByteS.f k l a = some (a + l.length, marks a l.length) := by
  unfold laws_markByteS.f
  rw [show (0 : Int) = ((0 : Nat) : Int) from rfl, markByteS_loop l.length (by omega) l.length k 0 l a (by omega) (by omega) hk rfl ha hb]
  simp

theorem heldByteS_loop (n : Nat) (b : Int) (hn : n < 4611686018427387904) : ∀ (d k i : Nat) (a : Int), n - i = d → i ≤ n → d < k → 0 ≤ a → a = b + i → a + d < 4611686018427387904 →
    laws_heldByteS.l0 k (marks b n) a (i : Int) = some (a + d)
  | 0, k, i, a, hd, hi, hk, ha, he, hb => by
    obtain ⟨k, rfl⟩ : ∃ m, k = m + 1 := ⟨k - 1, by omega⟩
    simp only [laws_heldByteS.l0]
    rw [if_neg (by rw [marks_length]; omega)]
    simp
  | d + 1, k, i, a, hd, hi, hk, ha, he, hb => by
    obtain ⟨k, rfl⟩ : ∃ m, k = m + 1 := ⟨k - 1, by omega⟩
    have e2 : wrap64 ((i : Int) + 1) = ((i + 1 : Nat) : Int) := by rw [w64 (by omega) (by omega)]; rfl
    simp only [laws_heldByteS.l0]
    rw [if_pos (by rw [marks_length]; omega), if_pos (by omega), marks_rd b n i (by omega), if_pos (by rw [he]), e2, w64 (x := a + 1) (by omega) (by omega)]
    rw [heldByteS_loop n b hn d k (i + 1) (a + 1) (by omega) (by omega) (by omega) (by omega) (by omega) (by omega)]
    congr 1; omega
theorem heldByteS_eq (n : Nat) (a : Int) (ha : 0 ≤ a) (hb : a + n < 4611686018427387904) (k : Nat) (hk : n < k) : laws_heldByteS.f k (marks a n) a = some (a + n) := by
  unfold laws_heldByteS.f
  rw [show (0 : Int) = ((0 : Nat) : Int) from rfl, heldByteS_loop n a (by omega) n k 0 a (by omega) (by omega) hk ha (by omega) (by omega)]

theorem FnExactBytesOf : laws_FnExactBytesOf.Pure := by
  intro v n _ _
  refine ⟨10, ?_⟩
  have hl := bytesV_length v n
  unfold laws_FnExactBytesOf.f
  have hm : ¬ (1 + ((bytesV v n).length : Int) < 0) := by omega
  simp only [specBytesOf_eq v n 10 (by omega), implBytesOf_eq v n 10 (by omega), eqByteS_eq (bytesV v n) (bytesV v n) (by omega) 10 (by omega), markByteS_eq (bytesV v n) 1 (by omega) (by omega) 10 (by omega),
    heldByteS_eq (bytesV v n).length 1 (by omega) (by omega) 10 (by omega), Option.bind_some, if_true, decide_true, if_neg hm]

end Go.Proofs.Ytcfjgdbinciakaa.Pure

/- FrameFor of the program is the reference's at all frames and stations; the statement's own bounds alone. -/
import Derived.Test.YtcfjgdbinciakaaPFnExactFrameForx2
import Derived.Test.YtcfjgdbinciakaaBase
namespace Go.Proofs.Ytcfjgdbinciakaa.Pure
set_option linter.unusedSimpArgs false
set_option linter.unusedVariables false
open Go Go.RowKit Go.Proofs.Ytcfjgdbinciakaa.PFnExactFrameFor Go.Proofs.YtcfjgdbinciakaaW.PrintWords Go.Proofs.YtcfjgdbinciakaaW.PrintLast Go.Proofs.YtcfjgdbinciakaaW.PrintMore Go.Proofs.Ytcfjgdbinciakaa.Base

theorem l1In_eq (a b c : Int) : spec_l1In.f a b c = some (decide (b ≤ a ∧ a ≤ c)) := by
  unfold spec_l1In.f
  by_cases h : a ≥ b <;> simp [h]

theorem in_eq (a b c : Int) : impl_in.f a b c = some (decide (b ≤ a ∧ a ≤ c)) := by
  unfold impl_in.f
  by_cases h : a ≥ b <;> simp [h]

/-- A frame is ok. -/
def frameOk (t f k : Int) (d : List Int) : Bool := decide ((0 ≤ t ∧ t ≤ 255) ∧ (0 ≤ f ∧ f ≤ 254) ∧ (0 ≤ k ∧ k ≤ 255) ∧ (d.length : Int) ≤ 64)
theorem specFrameOk_eq (t f k : Int) (d : List Int) : spec_FrameOk.f t f k d = some (frameOk t f k d) := by
  unfold spec_FrameOk.f frameOk
  simp only [l1In_eq, Option.bind_some]
  by_cases h1 : 0 ≤ t ∧ t ≤ 255 <;> by_cases h2 : 0 ≤ f ∧ f ≤ 254 <;> by_cases h3 : 0 ≤ k ∧ k ≤ 255 <;> simp [h1, h2, h3]
theorem implFrameOk_eq (t f k : Int) (d : List Int) : impl_FrameOk.f t f k d = some (frameOk t f k d) := by
  unfold impl_FrameOk.f frameOk
  simp only [in_eq, Option.bind_some]
  by_cases h1 : 0 ≤ t ∧ t ≤ 255 <;> by_cases h2 : 0 ≤ f ∧ f ≤ 254 <;> by_cases h3 : 0 ≤ k ∧ k ≤ 255 <;> simp [h1, h2, h3]

/-- A frame is for a station. -/
def frameFor (t f k : Int) (d : List Int) (l : Int) : Bool := frameOk t f k d && decide ((0 ≤ l ∧ l ≤ 254) ∧ (t = l ∨ t = 255 ∧ f ≠ l))
theorem specFrameFor_eq (t f k : Int) (d : List Int) (l : Int) : spec_FrameFor.f t f k d l = some (frameFor t f k d l) := by
  unfold spec_FrameFor.f frameFor
  simp only [specFrameOk_eq, l1In_eq, Option.bind_some]
  cases frameOk t f k d with
  | false => rfl
  | true => by_cases h1 : 0 ≤ l ∧ l ≤ 254 <;> by_cases h2 : t = l <;> by_cases h3 : t = 255 <;> by_cases h4 : f = l <;> simp [h1, h2, h3, h4] <;> simp_all
theorem implFrameFor_eq (t f k : Int) (d : List Int) (l : Int) : impl_FrameFor.f t f k d l = some (frameFor t f k d l) := by
  unfold impl_FrameFor.f frameFor
  simp only [implFrameOk_eq, in_eq, Option.bind_some]
  cases frameOk t f k d with
  | false => rfl
  | true => by_cases h1 : 0 ≤ l ∧ l ≤ 254 <;> by_cases h2 : t = l <;> by_cases h3 : t = 255 <;> by_cases h4 : f = l <;> simp [h1, h2, h3, h4] <;> simp_all

theorem toByteS_loop (l : List Int) (hn : l.length < 4611686018427387904) : ∀ (d k i : Nat) (o : List Int), l.length - i = d → i ≤ l.length → d < k → o.length = l.length → o.take i = l.take i →
    laws_toByteS.l0 k l o (i : Int) = some l
  | 0, k, i, o, hd, hi, hk, hl, ho => by
    obtain ⟨k, rfl⟩ : ∃ m, k = m + 1 := ⟨k - 1, by omega⟩
    simp only [laws_toByteS.l0]
    rw [if_neg (by omega)]
    rw [List.take_of_length_le (by omega), List.take_of_length_le (by omega)] at ho
    rw [ho]
  | d + 1, k, i, o, hd, hi, hk, hl, ho => by
    obtain ⟨k, rfl⟩ : ∃ m, k = m + 1 := ⟨k - 1, by omega⟩
    have e2 : wrap64 ((i : Int) + 1) = ((i + 1 : Nat) : Int) := by rw [w64 (by omega) (by omega)]; rfl
    simp only [laws_toByteS.l0]
    rw [if_pos (by omega), if_pos (by omega), if_pos (by omega), e2]
    exact toByteS_loop l hn d k (i + 1) _ (by omega) (by omega) (by omega) (by simp [hl]) (by simpa using set_take l o i (by omega) hl ho)
theorem toByteS_eq (l : List Int) (hn : l.length ≤ 140737488351232) (k : Nat) (hk : l.length < k) : laws_toByteS.f k l = some l := by
  unfold laws_toByteS.f
  rw [if_pos (by omega), if_pos (by omega)]
  exact toByteS_loop l (by omega) l.length k 0 _ (by omega) (by omega) hk (by simp) (by simp)

theorem eqByteS_loop (a b : List Int) (hab : a.length = b.length) (hn : a.length < 4611686018427387904) : ∀ (d k i : Nat), a.length - i = d → i ≤ a.length → d < k → a.take i = b.take i →
    laws_eqByteS.l0 k a b (i : Int) = some (decide (a = b))
  | 0, k, i, hd, hi, hk, ho => by
    obtain ⟨k, rfl⟩ : ∃ m, k = m + 1 := ⟨k - 1, by omega⟩
    simp only [laws_eqByteS.l0]
    rw [if_neg (by omega)]
    rw [List.take_of_length_le (by omega), List.take_of_length_le (by omega)] at ho
    rw [decide_eq_true ho]
  | d + 1, k, i, hd, hi, hk, ho => by
    obtain ⟨k, rfl⟩ : ∃ m, k = m + 1 := ⟨k - 1, by omega⟩
    have e2 : wrap64 ((i : Int) + 1) = ((i + 1 : Nat) : Int) := by rw [w64 (by omega) (by omega)]; rfl
    simp only [laws_eqByteS.l0]
    rw [if_pos (by omega), if_pos (by omega), if_pos (by omega), e2]
    by_cases h : rd a (i : Int) = rd b (i : Int)
    · rw [if_pos h]
      exact eqByteS_loop a b hab hn d k (i + 1) (by omega) (by omega) (by omega) (by rw [take_succ_rd a i (by omega), take_succ_rd b i (by omega), ho, h])
    · rw [if_neg h, decide_eq_false (fun e => h (by rw [e]))]
theorem eqByteS_eq (a b : List Int) (hn : a.length < 4611686018427387904) (k : Nat) (hk : a.length < k) : laws_eqByteS.f k a b = some (decide (a = b)) := by
  unfold laws_eqByteS.f
  by_cases h : (a.length : Int) = (b.length : Int)
  · rw [if_pos h]; exact eqByteS_loop a b (by omega) hn a.length k 0 (by omega) (by omega) hk (by simp)
  · rw [if_neg h, decide_eq_false (fun e => h (by rw [e]))]

theorem szFrame_eq (t f k : Int) (d : List Int) (h : d.length ≤ 9223372036854775807) : laws_szFrame.f t f k d 1048576 = some (if (d.length : Int) > 1048576 then (-1 : Int) else 1048576 - (d.length : Int)) := by
  unfold laws_szFrame.f laws_szByteS.f
  rw [w64 (by omega) (by omega)]
  by_cases h1 : (d.length : Int) > 1048576
  · rw [if_pos (by omega), if_pos h1]; rfl
  · rw [if_neg (by omega), if_neg h1]
    simp only [Option.bind_some]
    rw [if_neg (by omega)]
theorem toFrame_eq (t f n : Int) (d : List Int) (h : d.length ≤ 1048576) (k : Nat) (hk : d.length < k) : laws_toFrame.f k t f n d = some (t, f, n, d) := by
  unfold laws_toFrame.f
  simp only [toByteS_eq d (by omega) k hk, Option.bind_some]
theorem eqFrame_eq (t f n : Int) (d : List Int) (h : d.length ≤ 1048576) (k : Nat) (hk : d.length < k) : laws_eqFrame.f k t f n d t f n d = some true := by
  unfold laws_eqFrame.f
  simp only [eqByteS_eq d d (by omega) k hk, Option.bind_some, if_true, decide_true]

theorem FnExactFrameFor (a0_0 : Int) (a0_1 : Int) (a0_2 : Int) (l0_3 : (List Int)) (a1 : Int) (_ : (Lit.int .i64 a0_0).wf = true) (_ : (Lit.int .i64 a0_1).wf = true) (_ : (Lit.int .i64 a0_2).wf = true) (g0_3 : (l0_3.length ≤ maxLen ∧ ∀ x ∈ l0_3, (Lit.int .u8 x).wf = true)) (_ : (Lit.int .i64 a1).wf = true) : ∃ k, laws_FnExactFrameFor.f k a0_0 a0_1 a0_2 l0_3 a1 = some true := by
  have hm : l0_3.length ≤ 9223372036854775807 := g0_3.1
  refine ⟨l0_3.length + 1, ?_⟩
  unfold laws_FnExactFrameFor.f
  rw [szFrame_eq _ _ _ _ hm]
  simp only [Option.bind_some]
  by_cases h1 : (l0_3.length : Int) > 1048576
  · rw [if_pos h1]; rfl
  · rw [if_neg h1, if_neg (by omega)]
    simp only [toFrame_eq a0_0 a0_1 a0_2 l0_3 (by omega) (l0_3.length + 1) (by omega), specFrameFor_eq, implFrameFor_eq, eqFrame_eq a0_0 a0_1 a0_2 l0_3 (by omega) (l0_3.length + 1) (by omega), Option.bind_some, bne_self_eq_false, Bool.false_eq_true, if_false, if_true]

end Go.Proofs.Ytcfjgdbinciakaa.Pure

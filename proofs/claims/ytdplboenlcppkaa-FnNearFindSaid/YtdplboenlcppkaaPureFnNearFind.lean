/- What is known is known for some time, and not for ever; the statement's own bounds alone. -/
import Derived.Test.YtdplboenlcppkaaPFnNearFindx9
import Derived.Test.YtdplboenlcppkaaUFnNearFindBase
namespace Go.Proofs.Ytdplboenlcppkaa.Pure
set_option linter.unusedSimpArgs false
set_option linter.unusedVariables false
open Go Go.RowKit Go.Proofs.Ytdplboenlcppkaa.PFnNearFind Go.Proofs.YtdplboenlcppkaaUFnNearFind.PrintWords Go.Proofs.YtdplboenlcppkaaUFnNearFind.PrintLast Go.Proofs.YtdplboenlcppkaaUFnNearFind.PrintMore Go.Proofs.Ytdplboenlcppkaa.Base

theorem l1In_eq (a b c : Int) : spec_l1In.f a b c = some (decide (b ≤ a ∧ a ≤ c)) := by
 unfold spec_l1In.f
 by_cases h : a ≥ b <;> simp [h]

theorem in_eq (a b c : Int) : impl_in.f a b c = some (decide (b ≤ a ∧ a ≤ c)) := by
 unfold impl_in.f
 by_cases h : a ≥ b <;> simp [h]

/-- An entry is ok for itself. -/
def entOk (x : S99) : Prop := (0 ≤ x.f0 ∧ x.f0 ≤ 65535) ∧ (0 ≤ x.f1 ∧ x.f1 ≤ 254) ∧ (0 ≤ x.f2 ∧ x.f2 ≤ 1000000)
instance (x : S99) : Decidable (entOk x) := by unfold entOk; infer_instance
/-- The entry at i is ok, and its address stands at no place ahead of it. -/
def entAt (l : List S99) (i : Nat) : Prop := entOk (rd_T99 l (i : Int)) ∧ ∀ j : Nat, j < i → (rd_T99 l (j : Int)).f0 ≠ (rd_T99 l (i : Int)).f0
/-- What is kept is ok. -/
def heldOk (x : S101) : Prop := (0 ≤ x.f0 ∧ x.f0 ≤ 65535) ∧ x.f1.length ≤ 64
/-- From i on all entries are ok, and so are the rest. -/
def nearR (l : List S99) (h : List S101) (i : Nat) : Prop := (∀ j, i ≤ j → j < l.length → entAt l j) ∧ l.length ≤ 4 ∧ h.length ≤ 4 ∧ ∀ x ∈ h, heldOk x
theorem nearR_step {l : List S99} {h : List S101} {i : Nat} (hi : i < l.length) : nearR l h i ↔ entAt l i ∧ nearR l h (i + 1) :=
 ⟨fun q => ⟨q.1 i (Nat.le_refl _) hi, fun j h1 h2 => q.1 j (by omega) h2, q.2⟩, fun q => ⟨fun j h1 h2 => by
  rcases Nat.eq_or_lt_of_le h1 with e | e
  ·subst e; exact q.1
  ·exact q.2.1 j e h2, q.2.2⟩⟩
theorem noFalse {p : Prop} (h : ¬ p) : (false = true ↔ p) := ⟨fun q => (by cases q), fun q => absurd q h⟩
theorem nearR_no {l : List S99} {h : List S101} {i : Nat} (hi : i < l.length) (no : ¬ entAt l i) : (false = true ↔ nearR l h i) := noFalse fun q => no ((nearR_step hi).mp q).1
theorem nearR_yes {l : List S99} {h : List S101} {i : Nat} {r : Bool} (hi : i < l.length) (yes : entAt l i) (q : r = true ↔ nearR l h (i + 1)) : (r = true ↔ nearR l h i) := q.trans ⟨fun z => (nearR_step hi).mpr ⟨yes, z⟩, fun z => ((nearR_step hi).mp z).2⟩
theorem heldAny (h : List S101) : (!(h.any heldBadB)) = true ↔ ∀ x ∈ h, heldOk x := by
 rw [Bool.not_eq_true', List.any_eq_false]
 refine ⟨fun q x hx => ?_, fun q x hx => ?_⟩
 ·have z := q x hx
  unfold heldBadB at z
  simp only [Bool.or_eq_true, Bool.not_eq_true', decide_eq_false_iff_not, decide_eq_true_eq, not_or, Decidable.not_not] at z
  exact ⟨z.1, by omega⟩
 ·obtain ⟨a, b⟩ := q x hx
  unfold heldBadB
  rw [decide_eq_true a, decide_eq_false (by omega)]
  decide
theorem nearIdx_lt (l : List S99) (i : Nat) (hi : i < l.length) : nearIdx (fun x => x.f0 == (rd_T99 l (i : Int)).f0) l < (i : Int) ↔ ∃ j : Nat, j < i ∧ (rd_T99 l (j : Int)).f0 = (rd_T99 l (i : Int)).f0 := by
 generalize ha : (rd_T99 l (i : Int)).f0 = a
 have hia : (l[i]).f0 = a := by rw [← nearRd l i hi]; exact ha
 cases h : l.findIdx? (fun x => x.f0 == a) with
 | none =>
  rw [List.findIdx?_eq_none_iff] at h
  have := h _ (List.getElem_mem hi)
  simp [hia] at this
 | some m =>
  have e : nearIdx (fun x => x.f0 == a) l = (m : Int) := by unfold nearIdx; rw [h]
  rw [e]
  obtain ⟨hm, hp, hn⟩ := List.findIdx?_eq_some_iff_getElem.1 h
  have hp' : (l[m]).f0 = a := by simpa using hp
  refine ⟨fun q => ⟨m, by omega, by rw [nearRd l m hm]; exact hp'⟩, fun ⟨j, hj, hq⟩ => ?_⟩
  rw [nearRd l j (by omega)] at hq
  rcases Nat.lt_or_ge j m with z | z
  ·have := hn j z; simp [hq] at this
  ·omega
theorem implNearOk_loop (l : List S99) (h : List S101) (hl : l.length ≤ 1048576) (hh : h.length ≤ 1048576) : ∀ (d i k : Nat), i + d = l.length → d < k →
  ∃ r, impl_NearOk.l0 k l (l.length : Int) (i : Int) l h = some r ∧ (r = true ↔ nearR l h i) := by
 intro d
 induction d with
 | zero =>
  intro i k hi hk
  obtain ⟨k, rfl⟩ : ∃ m, k = m + 1 := ⟨k - 1, by omega⟩
  simp only [impl_NearOk.l0]
  rw [if_neg (by omega)]
  by_cases h1 : l.length ≤ 4
  ·by_cases h2 : h.length ≤ 4
   ·rw [if_pos (by omega), if_pos (by omega)]
    unfold impl_NearHeld_72.f
    rw [if_pos (by omega)]
    exact ⟨_, rfl, (heldAny h).trans ⟨fun q => ⟨fun j a b => absurd b (by omega), h1, h2, q⟩, fun q => q.2.2.2⟩⟩
   ·rw [if_pos (by omega), if_neg (by omega)]
    exact ⟨_, rfl, noFalse fun q => h2 q.2.2.1⟩
  ·rw [if_neg (by omega)]
   exact ⟨_, rfl, noFalse fun q => h1 q.2.1⟩
 | succ d ih =>
  intro i k hi hk
  obtain ⟨k, rfl⟩ : ∃ m, k = m + 1 := ⟨k - 1, by omega⟩
  have hil : i < l.length := by omega
  have e1 : wrap64 ((i : Int) + 1) = ((i + 1 : Nat) : Int) := by rw [w64 (by omega) (by omega)]; rfl
  obtain ⟨r, er, hr⟩ := ih (i + 1) k (by omega) (by omega)
  simp only [impl_NearOk.l0]
  rw [if_pos (by omega), if_pos (by omega), if_pos (by omega), e1, er]
  simp only [heldWord, in_eq, Option.bind_some]
  by_cases c0 : 0 ≤ (rd_T99 l (i : Int)).f0 ∧ (rd_T99 l (i : Int)).f0 ≤ 65535
  ·by_cases c1 : 0 ≤ (rd_T99 l (i : Int)).f1 ∧ (rd_T99 l (i : Int)).f1 ≤ 254
   ·by_cases c2 : 0 ≤ (rd_T99 l (i : Int)).f2 ∧ (rd_T99 l (i : Int)).f2 ≤ 1000000
    ·rw [decide_eq_true c0, decide_eq_true c1, decide_eq_true c2, if_pos rfl, if_pos rfl, if_pos rfl]
     unfold impl_Near_at.f
     rw [if_pos (by omega)]
     simp only [Option.bind_some]
     by_cases c3 : nearIdx (fun x => x.f0 == (rd_T99 l (i : Int)).f0) l < (i : Int)
     ·rw [if_pos c3]
      obtain ⟨j, hj, e⟩ := (nearIdx_lt l i hil).mp c3
      exact ⟨_, rfl, nearR_no hil (fun q => q.2 j hj e)⟩
     ·rw [if_neg c3]
      exact ⟨_, rfl, nearR_yes hil ⟨⟨c0, c1, c2⟩, fun j hj e => c3 ((nearIdx_lt l i hil).mpr ⟨j, hj, e⟩)⟩ hr⟩
    ·rw [decide_eq_true c0, decide_eq_true c1, decide_eq_false c2, if_pos rfl, if_pos rfl, if_neg (by decide)]
     exact ⟨_, rfl, nearR_no hil (fun q => c2 q.1.2.2)⟩
   ·rw [decide_eq_true c0, decide_eq_false c1, if_pos rfl, if_neg (by decide)]
    exact ⟨_, rfl, nearR_no hil (fun q => c1 q.1.2.1)⟩
  ·rw [decide_eq_false c0, if_neg (by decide)]
   exact ⟨_, rfl, nearR_no hil (fun q => c0 q.1.1)⟩
theorem implNearOk_eq (l : List S99) (h : List S101) (hl : l.length ≤ 1048576) (hh : h.length ≤ 1048576) (k : Nat) (hk : l.length < k) :
  ∃ r, impl_NearOk.f k l h = some r ∧ (r = true ↔ nearR l h 0) := implNearOk_loop l h hl hh l.length 0 k (by omega) hk
theorem specHeld_loop (l : List S99) (h : List S101) (hh : h.length ≤ 1048576) : ∀ (d i k : Nat), i + d = h.length → d < k →
  ∃ r, spec_NearOk.l2 k (i : Int) l h = some r ∧ (r = true ↔ (∀ x ∈ h.drop i, heldOk x) ∧ l.length ≤ 4 ∧ h.length ≤ 4) := by
 intro d
 induction d with
 | zero =>
  intro i k hi hk
  obtain ⟨k, rfl⟩ : ∃ m, k = m + 1 := ⟨k - 1, by omega⟩
  have e0 : h.drop i = [] := List.drop_of_length_le (by omega)
  simp only [spec_NearOk.l2]
  rw [if_neg (by omega), e0]
  by_cases h1 : l.length ≤ 4
  ·rw [if_pos (by omega)]
   exact ⟨_, rfl, by rw [decide_eq_true_eq]; exact ⟨fun q => ⟨fun x hx => (by cases hx), h1, by omega⟩, fun q => by omega⟩⟩
  ·rw [if_neg (by omega)]
   exact ⟨_, rfl, noFalse fun q => h1 q.2.1⟩
 | succ d ih =>
  intro i k hi hk
  obtain ⟨k, rfl⟩ : ∃ m, k = m + 1 := ⟨k - 1, by omega⟩
  have hil : i < h.length := by omega
  have e1 : wrap64 ((i : Int) + 1) = ((i + 1 : Nat) : Int) := by rw [w64 (by omega) (by omega)]; rfl
  have e2 : h.drop i = rd_T101 h (i : Int) :: h.drop (i + 1) := by rw [heldRd h i hil]; exact List.drop_eq_getElem_cons hil
  obtain ⟨r, er, hr⟩ := ih (i + 1) k (by omega) (by omega)
  simp only [spec_NearOk.l2]
  rw [if_pos (by omega), if_pos (by omega), e1, er, e2]
  simp only [l1In_eq, Option.bind_some]
  by_cases c0 : 0 ≤ (rd_T101 h (i : Int)).f0 ∧ (rd_T101 h (i : Int)).f0 ≤ 65535
  ·rw [decide_eq_true c0, if_pos rfl]
   by_cases c1 : ((rd_T101 h (i : Int)).f1.length : Int) > 64
   ·rw [if_pos c1]
    exact ⟨_, rfl, noFalse fun q => by have := (q.1 _ (List.mem_cons_self ..)).2; omega⟩
   ·rw [if_neg c1]
    exact ⟨_, rfl, hr.trans ⟨fun q => ⟨fun x hx => by
     rcases List.mem_cons.1 hx with rfl | hx
     ·exact ⟨c0, by omega⟩
     ·exact q.1 x hx, q.2⟩, fun q => ⟨fun x hx => q.1 x (List.mem_cons_of_mem _ hx), q.2⟩⟩⟩
  ·rw [decide_eq_false c0, if_neg (by decide)]
   exact ⟨_, rfl, noFalse fun q => c0 (q.1 _ (List.mem_cons_self ..)).1⟩
/-- The inner loop: it goes on to the next entry, or the address stands ahead. -/
theorem specInner_loop (l : List S99) (h : List S101) (hl : l.length ≤ 1048576) (i : Nat) (hi : i < l.length) (a b c : Int) (ha : a = (rd_T99 l (i : Int)).f0) : ∀ (d j k : Nat), j + d = i → d < k → (∀ m : Nat, m < j → (rd_T99 l (m : Int)).f0 ≠ a) →
  (∃ m : Nat, m < i ∧ (rd_T99 l (m : Int)).f0 = a ∧ spec_NearOk.l1 k (i : Int) (j : Int) l h a b c = some false) ∨ ((∀ m : Nat, m < i → (rd_T99 l (m : Int)).f0 ≠ a) ∧ spec_NearOk.l1 k (i : Int) (j : Int) l h a b c = spec_NearOk.l0 (k - d - 1) ((i + 1 : Nat) : Int) l h) := by
 intro d
 induction d with
 | zero =>
  intro j k hj hk no
  obtain ⟨k, rfl⟩ : ∃ m, k = m + 1 := ⟨k - 1, by omega⟩
  have e1 : wrap64 ((i : Int) + 1) = ((i + 1 : Nat) : Int) := by rw [w64 (by omega) (by omega)]; rfl
  simp only [spec_NearOk.l1]
  rw [if_neg (by omega), e1]
  exact .inr ⟨fun m hm => no m (by omega), rfl⟩
 | succ d ih =>
  intro j k hj hk no
  obtain ⟨k, rfl⟩ : ∃ m, k = m + 1 := ⟨k - 1, by omega⟩
  have e1 : wrap64 ((j : Int) + 1) = ((j + 1 : Nat) : Int) := by rw [w64 (by omega) (by omega)]; rfl
  simp only [spec_NearOk.l1]
  rw [if_pos (by omega), if_pos (by omega), if_pos (by omega), e1]
  by_cases c0 : (rd_T99 l (j : Int)).f0 = a
  ·rw [if_pos c0]
   exact .inl ⟨j, by omega, c0, rfl⟩
  ·rw [if_neg c0, show k + 1 - (d + 1) - 1 = k - d - 1 by omega]
   exact ih (j + 1) k (by omega) (by omega) (fun m hm => by
    rcases Nat.lt_or_ge m j with z | z
    ·exact no m z
    ·have : m = j := by omega
     subst this; exact c0)
theorem specNearOk_loop (l : List S99) (h : List S101) (hl : l.length ≤ 1048576) (hh : h.length ≤ 1048576) : ∀ (d i k : Nat), i + d = l.length → d * (l.length + 3) + h.length + 1 < k →
  ∃ r, spec_NearOk.l0 k (i : Int) l h = some r ∧ (r = true ↔ nearR l h i) := by
 intro d
 induction d with
 | zero =>
  intro i k hi hk
  obtain ⟨k, rfl⟩ : ∃ m, k = m + 1 := ⟨k - 1, by omega⟩
  simp only [spec_NearOk.l0]
  rw [if_neg (by omega)]
  obtain ⟨r, e, q⟩ := specHeld_loop l h hh h.length 0 k (by omega) (by omega)
  refine ⟨r, e, q.trans ⟨fun z => ⟨fun j a b => absurd b (by omega), z.2.1, z.2.2, by simpa using z.1⟩, fun z => ⟨by simpa using z.2.2.2, z.2.1, z.2.2.1⟩⟩⟩
 | succ d ih =>
  intro i k hi hk
  have hmul : (d + 1) * (l.length + 3) = d * (l.length + 3) + (l.length + 3) := Nat.succ_mul _ _
  obtain ⟨k, rfl⟩ : ∃ m, k = m + 1 + 1 := ⟨k - 2, by omega⟩
  have hil : i < l.length := by omega
  simp only [spec_NearOk.l0]
  rw [if_pos (by omega), if_pos (by omega)]
  simp only [l1In_eq, Option.bind_some, spec_NearOk.j1]
  by_cases c0 : 0 ≤ (rd_T99 l (i : Int)).f0 ∧ (rd_T99 l (i : Int)).f0 ≤ 65535
  ·by_cases c1 : 0 ≤ (rd_T99 l (i : Int)).f1 ∧ (rd_T99 l (i : Int)).f1 ≤ 254
   ·by_cases c2 : 0 ≤ (rd_T99 l (i : Int)).f2 ∧ (rd_T99 l (i : Int)).f2 ≤ 1000000
    ·rw [decide_eq_true c0, decide_eq_true c1, decide_eq_true c2, if_pos rfl, if_pos rfl, Bool.not_true, if_neg (by decide)]
     rcases specInner_loop l h hl i hil (rd_T99 l (i : Int)).f0 (rd_T99 l (i : Int)).f1 (rd_T99 l (i : Int)).f2 rfl i 0 k (by omega) (by omega) (fun m hm => absurd hm (Nat.not_lt_zero _)) with ⟨m, hm, e, z⟩ | ⟨no, z⟩
     ·exact ⟨false, z, nearR_no hil (fun q => q.2 m hm e)⟩
     ·obtain ⟨r, er, hr⟩ := ih (i + 1) (k - i - 1) (by omega) (by omega)
      exact ⟨r, z.trans er, nearR_yes hil ⟨⟨c0, c1, c2⟩, no⟩ hr⟩
    ·rw [decide_eq_true c0, decide_eq_true c1, decide_eq_false c2, if_pos rfl, if_pos rfl, Bool.not_false, if_pos rfl]
     exact ⟨_, rfl, nearR_no hil (fun q => c2 q.1.2.2)⟩
   ·rw [decide_eq_true c0, decide_eq_false c1, if_pos rfl, if_neg (by decide), if_pos trivial]
    exact ⟨_, rfl, nearR_no hil (fun q => c1 q.1.2.1)⟩
  ·rw [decide_eq_false c0, if_neg (by decide), if_pos trivial]
   exact ⟨_, rfl, nearR_no hil (fun q => c0 q.1.1)⟩
theorem specNearOk_eq (l : List S99) (h : List S101) (hl : l.length ≤ 1048576) (hh : h.length ≤ 1048576) (k : Nat) (hk : l.length * (l.length + 3) + h.length + 1 < k) :
  ∃ r, spec_NearOk.f k l h = some r ∧ (r = true ↔ nearR l h 0) := specNearOk_loop l h hl hh l.length 0 k (by omega) hk

theorem mul_small {n m : Nat} (hn : n ≤ 4) (hm : m ≤ 4) : n * (n + 3) + m + 1 < 40 := by
 have : n * (n + 3) ≤ 4 * 7 := Nat.mul_le_mul hn (by omega)
 omega
theorem specNearOk_small {l : List S99} {h : List S101} (ok : nearR l h 0) {k : Nat} (hk : 40 ≤ k) : spec_NearOk.f k l h = some true := by
 have hm := mul_small ok.2.1 ok.2.2.1
 have h1 := ok.2.1
 have h2 := ok.2.2.1
 obtain ⟨r, e, q⟩ := specNearOk_eq l h (by omega) (by omega) k (by omega)
 rw [e, q.mpr ok]
/-- Nobody from i on has the address. -/
theorem specFind_none (a t : Int) (l : List S99) (h : List S101) (ok : nearR l h 0) : ∀ (d i k : Nat), i + d = l.length → 2 * d + 50 ≤ k → (∀ j : Nat, i ≤ j → j < l.length → (rd_T99 l (j : Int)).f0 ≠ a) → spec_NearFind.l0 k a t (i : Int) l h = some (-1) := by
 have hl := ok.2.1
 intro d
 induction d with
 | zero =>
  intro i k hi hk no
  obtain ⟨k, rfl⟩ : ∃ m, k = m + 1 + 1 := ⟨k - 2, by omega⟩
  simp only [spec_NearFind.l0, spec_NearFind.j1]
  rw [if_neg (by omega), if_neg (by decide)]
 | succ d ih =>
  intro i k hi hk no
  obtain ⟨k, rfl⟩ : ∃ m, k = m + 1 + 1 := ⟨k - 2, by omega⟩
  have e1 : wrap64 ((i : Int) + 1) = ((i + 1 : Nat) : Int) := by rw [w64 (by omega) (by omega)]; rfl
  simp only [spec_NearFind.l0]
  rw [if_pos (by omega), specNearOk_small ok (by omega)]
  simp only [Option.bind_some, spec_NearFind.j1, if_true, e1]
  rw [if_pos (by omega), if_pos (by omega), if_neg (no i (Nat.le_refl _) (by omega))]
  exact ih (i + 1) k (by omega) (by omega) (fun j h1 h2 => no j (by omega) h2)
/-- At m stands the address, and nowhere else. -/
theorem specFind_some (a t : Int) (l : List S99) (h : List S101) (ok : nearR l h 0) (m : Nat) (hm : m < l.length) (ha : (rd_T99 l (m : Int)).f0 = a) (ahead : ∀ j : Nat, j < m → (rd_T99 l (j : Int)).f0 ≠ a) : ∀ (d i k : Nat), i + d = m → 2 * d + 70 ≤ k →
  spec_NearFind.l0 k a t (i : Int) l h = some (if (rd_T99 l (m : Int)).f2 > t then (rd_T99 l (m : Int)).f1 else -1) := by
 have hl := ok.2.1
 intro d
 induction d with
 | zero =>
  intro i k hi hk
  obtain rfl : i = m := by omega
  obtain ⟨k, rfl⟩ : ∃ m, k = m + 1 + 1 := ⟨k - 2, by omega⟩
  have e1 : wrap64 ((i : Int) + 1) = ((i + 1 : Nat) : Int) := by rw [w64 (by omega) (by omega)]; rfl
  simp only [spec_NearFind.l0]
  rw [if_pos (by omega), specNearOk_small ok (by omega)]
  simp only [Option.bind_some, spec_NearFind.j1, if_true, e1]
  rw [if_pos (by omega), if_pos (by omega), if_pos ha]
  by_cases c : (rd_T99 l (i : Int)).f2 > t
  ·rw [if_pos c, if_pos c]
  ·rw [if_neg c, if_neg c]
   exact specFind_none a t l h ok (l.length - (i + 1)) (i + 1) k (by omega) (by omega) (fun j h1 h2 e => (ok.1 j (Nat.zero_le _) h2).2 i (by omega) (ha.trans e.symm))
 | succ d ih =>
  intro i k hi hk
  obtain ⟨k, rfl⟩ : ∃ m, k = m + 1 + 1 := ⟨k - 2, by omega⟩
  have e1 : wrap64 ((i : Int) + 1) = ((i + 1 : Nat) : Int) := by rw [w64 (by omega) (by omega)]; rfl
  simp only [spec_NearFind.l0]
  rw [if_pos (by omega), specNearOk_small ok (by omega)]
  simp only [Option.bind_some, spec_NearFind.j1, if_true, e1]
  rw [if_pos (by omega), if_pos (by omega), if_neg (ahead i (by omega))]
  exact ih (i + 1) k (by omega) (by omega)
theorem specFind_bad (a t : Int) (l : List S99) (h : List S101) (hl : l.length ≤ 1048576) (hh : h.length ≤ 1048576) (no : ¬ nearR l h 0) (k : Nat) (hk : l.length * (l.length + 3) + h.length + 3 < k) : spec_NearFind.f k l h a t = some (-1) := by
 unfold spec_NearFind.f
 obtain ⟨k, rfl⟩ : ∃ m, k = m + 1 + 1 := ⟨k - 2, by omega⟩
 obtain ⟨r, e, q⟩ := specNearOk_eq l h hl hh (k + 1) (by omega)
 obtain rfl : r = false := by cases r with
  | false => rfl
  | true => exact absurd (q.mp rfl) no
 simp only [spec_NearFind.l0, e, Option.bind_some, spec_NearFind.j1, Bool.false_eq_true, if_false]
 split <;> rfl
/-- The find answers at once. -/
theorem specFind_total (a t : Int) (l : List S99) (h : List S101) (ok : nearR l h 0) (k : Nat) (hk : 100 ≤ k) : ∃ r, spec_NearFind.f k l h a t = some r := by
 have h4 := ok.2.1
 unfold spec_NearFind.f
 cases hf : l.findIdx? (fun x => x.f0 == a) with
 | none =>
  refine ⟨-1, specFind_none a t l h ok l.length 0 k (by omega) (by omega) (fun j _ h2 => ?_)⟩
  rw [List.findIdx?_eq_none_iff] at hf
  have := hf _ (List.getElem_mem h2)
  rw [nearRd l j h2]
  simpa using this
 | some m =>
  obtain ⟨hm, hp, hn⟩ := List.findIdx?_eq_some_iff_getElem.1 hf
  exact ⟨_, specFind_some a t l h ok m hm (by rw [nearRd l m hm]; simpa using hp) (fun j hj => by rw [nearRd l j (by omega)]; have := hn j hj; simpa using this) m 0 k (by omega) (by omega)⟩

/-- A query is ok. -/
def queryOk (k l a w : Int) : Bool := decide ((1 ≤ k ∧ k ≤ 2) ∧ (0 ≤ l ∧ l ≤ 254) ∧ (0 ≤ a ∧ a ≤ 65535) ∧ (0 ≤ w ∧ w ≤ 65535))
theorem specQueryOk_eq (k l a w : Int) : spec_QueryOk.f k l a w = some (queryOk k l a w) := by
 unfold spec_QueryOk.f queryOk
 simp only [l1In_eq, Option.bind_some]
 by_cases h1 : k = 1
 ·subst h1
  by_cases h2 : 0 ≤ l ∧ l ≤ 254 <;> by_cases h3 : 0 ≤ a ∧ a ≤ 65535 <;> simp [h2, h3]
 ·by_cases h4 : k = 2
  ·subst h4
   by_cases h2 : 0 ≤ l ∧ l ≤ 254 <;> by_cases h3 : 0 ≤ a ∧ a ≤ 65535 <;> simp [h2, h3]
  ·rw [if_neg h1, if_neg h4, decide_eq_false (by omega)]

/-- What pick draws. -/
def pk (b : List Int) (p n : Int) : Int := ((spec_l20Rd_pick.f 1 b p n).getD (0, 0)).1
theorem pick_f (b : List Int) (hb : Bytes b) (hl : b.length ≤ 2000) (p n : Int) (h0 : 0 ≤ p) (h1 : p ≤ 1073741824) (h2 : -2147483648 ≤ n) (h3 : n ≤ 65536) (k : Nat) :
  ∃ v, spec_l20Rd_pick.f (k + 1) b p n = some (v, p + 1) ∧ 0 ≤ v ∧ (1 ≤ n → v < n) ∧ (n < 1 → v = 0) := by
 have ep : wrap64 (p + 1) = p + 1 := w64 (by omega) (by omega)
 have ep' : wrap64 (p + 1 - 1) = p := by rw [w64 (by omega) (by omega)]; omega
 unfold spec_l20Rd_pick.f
 rw [ep]
 simp only [spec_l20Rd_pick.j0, ep']
 by_cases hn : n < 1
 ·rw [if_pos hn, if_pos trivial]
  exact ⟨0, rfl, by omega, fun h => by omega, fun _ => rfl⟩
 rw [if_neg hn]
 by_cases he : (b.length : Int) = 0
 ·rw [if_pos (by simpa using he)]
  exact ⟨0, rfl, by omega, fun h => by omega, fun _ => rfl⟩
 rw [if_neg (by simpa using he)]
 by_cases hp : p < (b.length : Int)
 ·rw [if_pos hp, if_pos h0, if_neg (by omega)]
  have hr := hb.at_ p
  rw [w64 (x := rd b p) (by omega) (by omega)]
  refine ⟨_, rfl, Int.tmod_nonneg _ hr.1, fun _ => ?_, fun h => by omega⟩
  rw [Int.tmod_eq_emod_of_nonneg hr.1]
  exact Int.emod_lt_of_pos _ (by omega)
 rw [if_neg hp]
 have m1 : 0 ≤ Int.tmod p (b.length : Int) ∧ Int.tmod p (b.length : Int) < (b.length : Int) := by
  rw [Int.tmod_eq_emod_of_nonneg h0]; exact ⟨Int.emod_nonneg _ he, Int.emod_lt_of_pos _ (by omega)⟩
 have e7 : wrap64 (wrap64 (p * 7) + 3) = p * 7 + 3 := by rw [w64 (x := p * 7) (by omega) (by omega), w64 (by omega) (by omega)]
 have m2 : 0 ≤ Int.tmod (p * 7 + 3) (b.length : Int) ∧ Int.tmod (p * 7 + 3) (b.length : Int) < (b.length : Int) := by
  rw [Int.tmod_eq_emod_of_nonneg (by omega)]; exact ⟨Int.emod_nonneg _ he, Int.emod_lt_of_pos _ (by omega)⟩
 rw [if_neg he, if_pos m1.1, if_pos m1.2, e7, if_pos m2.1, if_pos m2.2, if_neg (show ¬ n = 0 by omega)]
 have r1 := hb.at_ (Int.tmod p (b.length : Int))
 have r2 := hb.at_ (Int.tmod (p * 7 + 3) (b.length : Int))
 generalize rd b (Int.tmod p (b.length : Int)) = x1 at r1 ⊢
 generalize rd b (Int.tmod (p * 7 + 3) (b.length : Int)) = x2 at r2 ⊢
 have q0 : Int.tdiv p (b.length : Int) = p / (b.length : Int) := Int.tdiv_eq_ediv_of_nonneg h0
 have q1 : 0 ≤ p / (b.length : Int) := Int.ediv_nonneg h0 (by omega)
 have q2 : p / (b.length : Int) ≤ p := Int.ediv_le_self _ h0
 rw [q0]
 generalize p / (b.length : Int) = q at q1 q2 ⊢
 rw [w64 (x := x1) (by omega) (by omega), w64 (x := x2) (by omega) (by omega), w64 (x := x1 * 131) (by omega) (by omega), w64 (x := x2 * 1117) (by omega) (by omega), w64 (x := p * 29) (by omega) (by omega),
  w64 (x := q) (by omega) (by omega), w64 (x := q * 53) (by omega) (by omega), w64 (x := x1 * 131 + x2 * 1117) (by omega) (by omega), w64 (x := x1 * 131 + x2 * 1117 + p * 29) (by omega) (by omega), w64 (x := x1 * 131 + x2 * 1117 + p * 29 + q * 53) (by omega) (by omega)]
 obtain ⟨y, hy⟩ : ∃ y : Nat, x1 * 131 + x2 * 1117 + p * 29 + q * 53 = (y : Int) := ⟨(x1 * 131 + x2 * 1117 + p * 29 + q * 53).toNat, by omega⟩
 have hy2 : y < 1099511627776 := by omega
 rw [hy]
 have d0 : Int.tdiv (y : Int) 64 = ((y / 64 : Nat) : Int) := by rw [Int.tdiv_eq_ediv_of_nonneg (by omega)]; rfl
 have hz : y / 64 < 1099511627776 := by omega
 rw [d0, w64 (x := ((y / 64 : Nat) : Int)) (by omega) (by omega)]
 obtain ⟨ex, lx⟩ := xor_i64 y (y / 64) hy2 hz
 rw [ex]
 refine ⟨_, rfl, Int.tmod_nonneg _ (by omega), fun _ => ?_, fun h => by omega⟩
 rw [Int.tmod_eq_emod_of_nonneg (by omega)]
 exact Int.emod_lt_of_pos _ (by omega)
theorem pick_one (b : List Int) (p n : Int) (k : Nat) : spec_l20Rd_pick.f (k + 1) b p n = spec_l20Rd_pick.f 1 b p n := by
 unfold spec_l20Rd_pick.f
 simp only [spec_l20Rd_pick.j0]
theorem pick_eq {b : List Int} (hb : Bytes b) (hl : b.length ≤ 2000) {p n : Int} (h0 : 0 ≤ p) (h1 : p ≤ 1073741824) (h2 : -2147483648 ≤ n) (h3 : n ≤ 65536) {k : Nat} (hk : 1 ≤ k) : spec_l20Rd_pick.f k b p n = some (pk b p n, p + 1) := by
 obtain ⟨k, rfl⟩ : ∃ m, k = m + 1 := ⟨k - 1, by omega⟩
 rw [pick_one]
 obtain ⟨v, hv, _⟩ := pick_f b hb hl p n h0 h1 h2 h3 0
 unfold pk
 rw [hv]; rfl
theorem pk_range {b : List Int} (hb : Bytes b) (hl : b.length ≤ 2000) {p n : Int} (h0 : 0 ≤ p) (h1 : p ≤ 1073741824) (h2 : 1 ≤ n) (h3 : n ≤ 65536) : 0 ≤ pk b p n ∧ pk b p n < n := by
 obtain ⟨v, hv, g0, g1, _⟩ := pick_f b hb hl p n h0 h1 (by omega) h3 0
 unfold pk
 rw [hv]; exact ⟨g0, g1 h2⟩
/-- The bytes that are drawn from. -/
theorem open_eq (l : List Int) (hb : Bytes l) : ∃ b, spec_l20Open.f l = some (b, 0) ∧ Bytes b ∧ b.length ≤ 2000 := by
 unfold spec_l20Open.f
 by_cases h : (l.length : Int) > 2000
 ·rw [if_pos h, if_pos (by omega)]
  exact ⟨_, rfl, hb.take _, by simp; omega⟩
 ·rw [if_neg h]
  exact ⟨_, rfl, hb, by omega⟩

theorem drawBytes_loop {b : List Int} (hb : Bytes b) (hl : b.length ≤ 2000) : ∀ (d k : Nat) (p : Int) (o : List Int), d < k → Bytes o → o.length + d ≤ 4096 → 0 ≤ p → p + 2 * d ≤ 1073741824 →
  ∃ r p', spec_l20Rd_bytes.l0 k (d : Int) o b p = some (r, p') ∧ Bytes r ∧ r.length = o.length + d ∧ p ≤ p' ∧ p' ≤ p + 2 * d
 | 0, k, p, o, hk, ho, hlo, h0, h1 => by
  obtain ⟨k, rfl⟩ : ∃ m, k = m + 1 := ⟨k - 1, by omega⟩
  simp only [spec_l20Rd_bytes.l0]
  rw [if_neg (by omega)]
  exact ⟨o, p, rfl, ho, by omega, by omega, by omega⟩
 | d + 1, k, p, o, hk, ho, hlo, h0, h1 => by
  obtain ⟨k, rfl⟩ : ∃ m, k = m + 1 := ⟨k - 1, by omega⟩
  have e1 : wrap64 (((d + 1 : Nat) : Int) - 1) = (d : Int) := by rw [w64 (by omega) (by omega)]; omega
  simp only [spec_l20Rd_bytes.l0]
  rw [if_pos (by omega), pick_eq hb hl h0 (by omega) (by omega) (by omega) (show 1 ≤ k by omega)]
  simp only [Option.bind_some]
  rw [pick_eq hb hl (p := p + 1) (n := 256) (by omega) (by omega) (by omega) (by omega) (show 1 ≤ k by omega), pick_eq hb hl (p := p + 1) (n := 3) (by omega) (by omega) (by omega) (by omega) (show 1 ≤ k by omega)]
  simp only [Option.bind_some]
  rw [if_pos (show o.length < 140737488355328 by omega), if_pos (show o.length < 140737488355328 by omega), e1]
  by_cases h : pk b p 3 = 0
  ·rw [if_pos h]
   obtain ⟨r, p', hr, g1, g2, g3, g4⟩ := drawBytes_loop hb hl d k (p + 1 + 1) (o ++ [pk b (p + 1) 256 % 256]) (by omega) (ho.append (Bytes.cons (Bytes.mod _) Bytes.nil)) (by simp; omega) (by omega) (by omega)
   exact ⟨r, p', hr, g1, by rw [g2]; simp; omega, by omega, by omega⟩
  ·rw [if_neg h]
   obtain ⟨r, p', hr, g1, g2, g3, g4⟩ := drawBytes_loop hb hl d k (p + 1 + 1) (o ++ [wrap64 (pk b (p + 1) 3 + 97) % 256]) (by omega) (ho.append (Bytes.cons (Bytes.mod _) Bytes.nil)) (by simp; omega) (by omega) (by omega)
   exact ⟨r, p', hr, g1, by rw [g2]; simp; omega, by omega, by omega⟩
theorem drawBytes_eq {b : List Int} (hb : Bytes b) (hl : b.length ≤ 2000) {p n : Int} (h0 : 0 ≤ p) (h1 : p ≤ 536870912) (h2 : 0 ≤ n) (h3 : n ≤ 4096) {k : Nat} (hk : n.toNat < k) :
  ∃ r p', spec_l20Rd_bytes.f k b p n = some (r, p') ∧ Bytes r ∧ (r.length : Int) = n ∧ p ≤ p' ∧ p' ≤ p + 2 * n := by
 obtain ⟨n, rfl⟩ : ∃ m : Nat, n = m := ⟨n.toNat, by omega⟩
 obtain ⟨r, p', hr, g1, g2, g3, g4⟩ := drawBytes_loop hb hl n k p [] (by omega) Bytes.nil (by simp; omega) h0 (by omega)
 exact ⟨r, p', hr, g1, by simp at g2; omega, g3, by omega⟩

/-- odd tells just this. -/
theorem odd_eq {b : List Int} (hb : Bytes b) (hl : b.length ≤ 2000) {p n : Int} (h0 : 0 ≤ p) (h1 : p ≤ 1073741824) (h2 : 0 ≤ n) (h3 : n ≤ 65536) {k : Nat} (hk : 1 ≤ k) :
  ∃ o p', spec_l20Rd_odd.f k b p n = some (o, p') ∧ p ≤ p' ∧ p' ≤ p + 1 ∧ (n = 0 → o = false) := by
 unfold spec_l20Rd_odd.f
 by_cases h : n > 0
 ·rw [if_pos h, pick_eq hb hl h0 h1 (by omega) h3 hk]
  exact ⟨_, _, rfl, by omega, by omega, fun h => by omega⟩
 ·rw [if_neg h]
  exact ⟨_, _, rfl, by omega, by omega, fun _ => rfl⟩

theorem drawQuery_eq {b : List Int} (hb : Bytes b) (hl : b.length ≤ 2000) {p m : Int} (h0 : 0 ≤ p) (h1 : p ≤ 268435456) (hm0 : 0 ≤ m) (hm1 : m ≤ 65536) {k : Nat} (hk : 1 ≤ k) :
  ∃ n l a w p', spec_l20Query.f k b p m = some (n, l, a, w, p') ∧ p ≤ p' ∧ p' ≤ p + 7 ∧ (0 ≤ n ∧ n ≤ 4) ∧ (0 ≤ l ∧ l ≤ 255) ∧ (-5000 ≤ a ∧ a ≤ 65536) ∧ (0 ≤ w ∧ w ≤ 5) ∧
   (m = 0 → (1 ≤ n ∧ n ≤ 2) ∧ (0 ≤ l ∧ l ≤ 3) ∧ (0 ≤ a ∧ a ≤ 5)) := by
 unfold spec_l20Query.f
 rw [pick_eq hb hl h0 (by omega) (by omega) (by omega) hk]
 simp only [Option.bind_some]
 rw [pick_eq hb hl (p := p + 1) (n := 4) (by omega) (by omega) (by omega) (by omega) hk]
 simp only [Option.bind_some]
 rw [pick_eq hb hl (p := p + 1 + 1) (n := 6) (by omega) (by omega) (by omega) (by omega) hk]
 simp only [Option.bind_some]
 rw [pick_eq hb hl (p := p + 1 + 1 + 1) (n := 6) (by omega) (by omega) (by omega) (by omega) hk]
 simp only [Option.bind_some]
 have r1 := pk_range hb hl (p := p) (n := 2) (by omega) (by omega) (by omega) (by omega)
 have r2 := pk_range hb hl (p := p + 1) (n := 4) (by omega) (by omega) (by omega) (by omega)
 have r3 := pk_range hb hl (p := p + 1 + 1) (n := 6) (by omega) (by omega) (by omega) (by omega)
 have r4 := pk_range hb hl (p := p + 1 + 1 + 1) (n := 6) (by omega) (by omega) (by omega) (by omega)
 generalize pk b p 2 = n at r1 ⊢
 generalize pk b (p + 1) 4 = l at r2 ⊢
 generalize pk b (p + 1 + 1) 6 = a at r3 ⊢
 generalize pk b (p + 1 + 1 + 1) 6 = w at r4 ⊢
 obtain ⟨o, p2, e2, g5, g6, g7⟩ := odd_eq hb hl (p := p + 1 + 1 + 1 + 1) (n := m) (by omega) (by omega) hm0 hm1 hk
 simp only [e2, Option.bind_some]
 rw [w64 (x := 1 + n) (by omega) (by omega)]
 cases o with
 | false =>
  rw [if_neg (by decide)]
  exact ⟨_, _, _, _, _, rfl, by omega, by omega, by omega, by omega, by omega, by omega, fun _ => by omega⟩
 | true =>
  have hm : ¬ m = 0 := fun h => by have := g7 h; cases this
  simp only [if_true]
  rw [pick_eq hb hl (p := p2) (n := 3) (by omega) (by omega) (by omega) (by omega) hk]
  simp only [Option.bind_some]
  rw [pick_eq hb hl (p := p2 + 1) (n := 5) (by omega) (by omega) (by omega) (by omega) hk, pick_eq hb hl (p := p2 + 1) (n := 2) (by omega) (by omega) (by omega) (by omega) hk]
  simp only [Option.bind_some]
  have r5 := pk_range hb hl (p := p2 + 1) (n := 5) (by omega) (by omega) (by omega) (by omega)
  have r6 := pk_range hb hl (p := p2 + 1) (n := 2) (by omega) (by omega) (by omega) (by omega)
  rw [w64 (x := pk b (p2 + 1) 2 * 70000) (by omega) (by omega), w64 (by omega) (by omega)]
  split
  ·exact ⟨_, _, _, _, _, rfl, by omega, by omega, by omega, by omega, by omega, by omega, fun h => absurd h hm⟩
  ·split
   ·exact ⟨_, _, _, _, _, rfl, by omega, by omega, by omega, by omega, by omega, by omega, fun h => absurd h hm⟩
   ·exact ⟨_, _, _, _, _, rfl, by omega, by omega, by omega, by omega, by omega, by omega, fun h => absurd h hm⟩

theorem l3Copy_loop (l : List S99) (h : List S101) (hh : h.length ≤ 1000) (hs : ∀ x ∈ h, x.f1.length ≤ 64) (A : List S99) : ∀ (d i k : Nat) (B : List S101), i + d = h.length → d < k → B = h.take i →
  spec_l3Copy.l0 k (i : Int) l h A B = some (A, h) := by
 intro d
 induction d with
 | zero =>
  intro i k B hi hk hB
  obtain ⟨k, rfl⟩ : ∃ m, k = m + 1 := ⟨k - 1, by omega⟩
  simp only [spec_l3Copy.l0]
  rw [if_neg (by omega), hB, List.take_of_length_le (by omega)]
 | succ d ih =>
  intro i k B hi hk hB
  obtain ⟨k, rfl⟩ : ∃ m, k = m + 1 := ⟨k - 1, by omega⟩
  have hil : i < h.length := by omega
  have e1 : wrap64 ((i : Int) + 1) = ((i + 1 : Nat) : Int) := by rw [w64 (by omega) (by omega)]; rfl
  have hq : (rd_T101 h (i : Int)).f1.length ≤ 64 := by rw [heldRd h i hil]; exact hs _ (List.getElem_mem _)
  have hbl : B.length ≤ 1000 := by rw [hB, List.length_take]; omega
  simp only [spec_l3Copy.l0, Option.bind_some, List.length_nil, List.nil_append]
  rw [if_pos (by omega), if_pos (by omega), if_pos (by omega), if_pos (by omega), e1]
  refine ih (i + 1) k _ (by omega) (by omega) ?_
  rw [hB, List.take_succ_eq_append_getElem hil, heldRd h i hil]
theorem l3Copy_eq (l : List S99) (h : List S101) (ok : nearR l h 0) (k : Nat) (hk : 10 ≤ k) : spec_l3Copy.f k l h = some (l, h) := by
 have h1 := ok.2.1
 have h2 := ok.2.2.1
 unfold spec_l3Copy.f
 simp only [Option.bind_some, List.length_nil, List.nil_append]
 rw [if_pos (by omega)]
 exact l3Copy_loop l h (by omega) (fun x hx => (ok.2.2.2 x hx).2) l h.length 0 k [] (by omega) (by omega) rfl
/-- What is sent leaves no more than before. -/
theorem nearSend_total (a t : Int) (dt : List Int) (hd : dt.length ≤ 4096) (l : List S99) (h : List S101) (hl : l.length ≤ 5) (hh : h.length ≤ 5) (k : Nat) (hk : 120 ≤ k) :
  ∃ l' h' r, spec_NearSend.f k l h a dt t = some (l', h', r) ∧ l'.length ≤ 5 ∧ h'.length ≤ 5 := by
 have hm : l.length * (l.length + 3) ≤ 5 * 8 := Nat.mul_le_mul hl (by omega)
 obtain ⟨b, eb, qb⟩ := specNearOk_eq l h (by omega) (by omega) k (by omega)
 obtain ⟨k, rfl⟩ : ∃ m, k = m + 1 := ⟨k - 1, by omega⟩
 have hj1 : ∃ l' h' r, spec_NearSend.j0 (k + 1) a dt t true l h = some (l', h', r) ∧ l'.length ≤ 5 ∧ h'.length ≤ 5 := ⟨[], [], -1, by simp only [spec_NearSend.j0, if_true], by simp, by simp⟩
 unfold spec_NearSend.f
 rw [eb]
 simp only [Option.bind_some]
 cases b with
 | false => rw [if_neg (by decide)]; exact hj1
 | true =>
  have ok := qb.mp rfl
  have o1 := ok.2.1
  have o2 := ok.2.2.1
  rw [if_pos rfl]
  simp only [l1In_eq, Option.bind_some]
  split
  ·split
   ·exact hj1
   ·cases hb : decide (0 ≤ t ∧ t ≤ 999980) with
    | false => exact hj1
    | true =>
     obtain ⟨r, er⟩ := specFind_total a t l h ok k (by omega)
     simp only [Bool.not_true, spec_NearSend.j0, Bool.false_eq_true, if_false, l3Copy_eq l h ok k (by omega), er, Option.bind_some, List.length_nil, List.nil_append]
     split
     ·exact ⟨_, _, _, rfl, by omega, by omega⟩
     ·rw [if_pos (by omega), if_pos (by omega)]
      split
      ·rw [if_pos (by omega)]
       exact ⟨_, _, _, rfl, by omega, by rw [List.length_drop, List.length_append]; simp; omega⟩
      ·exact ⟨_, _, _, rfl, by omega, by rw [List.length_append]; simp; omega⟩
  ·exact hj1
theorem nearHear_l1 (t : Int) (l : List S99) (h : List S101) (ok : nearR l h 0) (a0 a1 a2 a3 : Int) (A : List S99) (hA : A.length ≤ 4) : ∀ (d i k : Nat) (s : List (List Int)) (z : Bool) (B : List S101), i + d = h.length → d + 20 ≤ k → s.length ≤ i → B.length ≤ i →
  ∃ l' h' r, spec_NearHear.l1 k t s z (i : Int) l h a0 a1 a2 a3 A B = some (l', h', r) ∧ l'.length ≤ 5 ∧ h'.length ≤ 5 := by
 have o1 := ok.2.1
 have o2 := ok.2.2.1
 intro d
 induction d with
 | zero =>
  intro i k s z B hi hk hs hB
  obtain ⟨k, rfl⟩ : ∃ m, k = m + 1 := ⟨k - 1, by omega⟩
  simp only [spec_NearHear.l1]
  rw [if_neg (by omega)]
  split
  ·rw [if_pos (by omega)]
   simp only [Option.bind_some]
   split
   ·rw [if_pos (by omega)]
    exact ⟨_, _, _, rfl, by rw [List.length_drop, List.length_append]; simp; omega, by omega⟩
   ·exact ⟨_, _, _, rfl, by rw [List.length_append]; simp; omega, by omega⟩
  ·rw [l3Copy_eq l h ok k (by omega)]
   exact ⟨_, _, _, rfl, (show l.length ≤ 5 by omega), (show h.length ≤ 5 by omega)⟩
 | succ d ih =>
  intro i k s z B hi hk hs hB
  obtain ⟨k, rfl⟩ : ∃ m, k = m + 1 := ⟨k - 1, by omega⟩
  have hil : i < h.length := by omega
  have e1 : wrap64 ((i : Int) + 1) = ((i + 1 : Nat) : Int) := by rw [w64 (by omega) (by omega)]; rfl
  have hq : (rd_T101 h (i : Int)).f1.length ≤ 64 := by rw [heldRd h i hil]; exact (ok.2.2.2 _ (List.getElem_mem _)).2
  simp only [spec_NearHear.l1, Option.bind_some, List.length_nil, List.nil_append, e1]
  rw [if_pos (by omega), if_pos (by omega)]
  split
  ·rw [if_pos (by omega), if_pos (by omega)]
   exact ih (i + 1) k _ _ _ (by omega) (by omega) (by rw [List.length_append]; simp; omega) (by omega)
  ·rw [if_pos (by omega), if_pos (by omega)]
   exact ih (i + 1) k _ _ _ (by omega) (by omega) (by omega) (by rw [List.length_append]; simp; omega)
theorem nearHear_l0 (t : Int) (l : List S99) (h : List S101) (ok : nearR l h 0) (a0 a1 a2 a3 : Int) : ∀ (d i k : Nat) (z : Bool) (A : List S99), i + d = l.length → d + 40 ≤ k → A.length ≤ i →
  ∃ l' h' r, spec_NearHear.l0 k t [] z (i : Int) l h a0 a1 a2 a3 A = some (l', h', r) ∧ l'.length ≤ 5 ∧ h'.length ≤ 5 := by
 have o1 := ok.2.1
 have o2 := ok.2.2.1
 intro d
 induction d with
 | zero =>
  intro i k z A hi hk hA
  obtain ⟨k, rfl⟩ : ∃ m, k = m + 1 := ⟨k - 1, by omega⟩
  simp only [spec_NearHear.l0]
  rw [if_neg (by omega)]
  exact nearHear_l1 t l h ok a0 a1 a2 a3 A (by omega) h.length 0 k [] z [] (by omega) (by omega) (by simp) (by simp)
 | succ d ih =>
  intro i k z A hi hk hA
  obtain ⟨k, rfl⟩ : ∃ m, k = m + 1 := ⟨k - 1, by omega⟩
  have e1 : wrap64 ((i : Int) + 1) = ((i + 1 : Nat) : Int) := by rw [w64 (by omega) (by omega)]; rfl
  simp only [spec_NearHear.l0, e1]
  rw [if_pos (by omega), if_pos (by omega)]
  split
  ·exact ih (i + 1) k _ _ (by omega) (by omega) (by omega)
  ·rw [if_pos (by omega)]
   exact ih (i + 1) k _ _ (by omega) (by omega) (by rw [List.length_append]; simp; omega)
/-- What is heard leaves no more than before. -/
theorem nearHear_total (x t a0 a1 a2 a3 : Int) (l : List S99) (h : List S101) (hl : l.length ≤ 5) (hh : h.length ≤ 5) (k : Nat) (hk : 120 ≤ k) :
  ∃ l' h' r, spec_NearHear.f k l h x a0 a1 a2 a3 t = some (l', h', r) ∧ l'.length ≤ 5 ∧ h'.length ≤ 5 := by
 have hm : l.length * (l.length + 3) ≤ 5 * 8 := Nat.mul_le_mul hl (by omega)
 obtain ⟨b, eb, qb⟩ := specNearOk_eq l h (by omega) (by omega) k (by omega)
 obtain ⟨k, rfl⟩ : ∃ m, k = m + 1 := ⟨k - 1, by omega⟩
 have hj1 : ∃ l' h' r, spec_NearHear.j0 (k + 1) x t [] true l h a0 a1 a2 a3 = some (l', h', r) ∧ l'.length ≤ 5 ∧ h'.length ≤ 5 := ⟨[], [], [], by simp only [spec_NearHear.j0, if_true], by simp, by simp⟩
 unfold spec_NearHear.f
 simp only [Option.bind_some]
 rw [eb]
 simp only [Option.bind_some]
 cases b with
 | false => rw [if_neg (by decide)]; exact hj1
 | true =>
  have ok := qb.mp rfl
  rw [if_pos rfl, specQueryOk_eq]
  simp only [l1In_eq, Option.bind_some]
  split
  ·cases hb : decide (0 ≤ t ∧ t ≤ 999980) with
   | false => exact hj1
   | true =>
    simp only [Bool.not_true, spec_NearHear.j0, Bool.false_eq_true, if_false]
    have o1 := ok.2.1
    exact nearHear_l0 t l h ok a0 a1 a2 a3 l.length 0 k _ [] (by omega) (by omega) (by simp)
  ·exact hj1
/-- What a station knows and keeps can be drawn; it is not much. -/
theorem drawNear_loop {b : List Int} (hb : Bytes b) (hl : b.length ≤ 2000) {m : Int} (hm0 : 0 ≤ m) (hm1 : m ≤ 65536) : ∀ (d k : Nat) (p : Int) (l : List S99) (h : List S101), d + 200 ≤ k → 0 ≤ p → p + 100 * d ≤ 100000 → l.length ≤ 5 → h.length ≤ 5 →
  ∃ l' h' p', spec_l20Near.l0 k m (d : Int) b p l h = some (l', h', p') ∧ l'.length ≤ 10 ∧ h'.length ≤ 10 ∧ 0 ≤ p' ∧ p' ≤ p + 100 * d + 100 := by
 intro d
 induction d with
 | zero =>
  intro k p l h hk h0 h1 hll hhl
  obtain ⟨k, rfl⟩ : ∃ m, k = m + 1 := ⟨k - 1, by omega⟩
  simp only [spec_l20Near.l0]
  rw [if_neg (by omega)]
  obtain ⟨o, p1, e1, g1, g2, _⟩ := odd_eq hb hl (p := p) (n := m) h0 (by omega) hm0 hm1 (k := k) (by omega)
  rw [e1]
  simp only [Option.bind_some]
  cases o with
  | false => rw [if_neg (by decide)]; exact ⟨_, _, _, rfl, by omega, by omega, by omega, by omega⟩
  | true =>
   rw [if_pos rfl, pick_eq hb hl (p := p1) (n := 3) (by omega) (by omega) (by omega) (by omega) (by omega)]
   simp only [Option.bind_some]
   split
   ·rw [pick_eq hb hl (p := p1 + 1) (n := 6) (by omega) (by omega) (by omega) (by omega) (by omega)]
    simp only [Option.bind_some]
    rw [pick_eq hb hl (p := p1 + 1 + 1) (n := 300) (by omega) (by omega) (by omega) (by omega) (by omega)]
    simp only [Option.bind_some]
    rw [pick_eq hb hl (p := p1 + 1 + 1 + 1) (n := 9) (by omega) (by omega) (by omega) (by omega) (by omega)]
    simp only [Option.bind_some]
    rw [if_pos (by omega)]
    exact ⟨_, _, _, rfl, by rw [List.length_append]; simp; omega, by omega, by omega, by omega⟩
   ·split
    ·rw [pick_eq hb hl (p := p1 + 1) (n := 6) (by omega) (by omega) (by omega) (by omega) (by omega)]
     simp only [Option.bind_some]
     rw [if_pos (by omega)]
     exact ⟨_, _, _, rfl, by omega, by rw [List.length_append]; simp; omega, by omega, by omega⟩
    ·rw [if_pos (by omega)]
     exact ⟨_, _, _, rfl, by rw [List.length_append]; omega, by omega, by omega, by omega⟩
 | succ d ih =>
  intro k p l h hk h0 h1 hll hhl
  obtain ⟨k, rfl⟩ : ∃ m, k = m + 1 := ⟨k - 1, by omega⟩
  have e0 : wrap64 (((d + 1 : Nat) : Int) - 1) = (d : Int) := by rw [w64 (by omega) (by omega)]; omega
  simp only [spec_l20Near.l0, e0]
  rw [if_pos (by omega), pick_eq hb hl (p := p) (n := 2) (by omega) (by omega) (by omega) (by omega) (by omega)]
  simp only [Option.bind_some]
  split
  ·rw [pick_eq hb hl (p := p + 1) (n := 6) (by omega) (by omega) (by omega) (by omega) (by omega)]
   simp only [Option.bind_some]
   rw [pick_eq hb hl (p := p + 1 + 1) (n := 3) (by omega) (by omega) (by omega) (by omega) (by omega)]
   simp only [Option.bind_some]
   have r1 := pk_range hb hl (p := p + 1 + 1) (n := 3) (by omega) (by omega) (by omega) (by omega)
   obtain ⟨dt, p2, e2, _, g2, g3, g4⟩ := drawBytes_eq hb hl (p := p + 1 + 1 + 1) (n := pk b (p + 1 + 1) 3) (by omega) (by omega) (by omega) (by omega) (k := k) (by omega)
   rw [e2]
   simp only [Option.bind_some]
   rw [pick_eq hb hl (p := p2) (n := 30) (by omega) (by omega) (by omega) (by omega) (by omega)]
   simp only [Option.bind_some]
   obtain ⟨l', h', r, e3, q1, q2⟩ := nearSend_total (pk b (p + 1) 6) (pk b p2 30) dt (by omega) l h hll hhl k (by omega)
   rw [e3]
   simp only [Option.bind_some]
   obtain ⟨l2, h2, p', e4, q3, q4, q5, q6⟩ := ih k (p2 + 1) l' h' (by omega) (by omega) (by omega) q1 q2
   exact ⟨l2, h2, p', e4, q3, q4, q5, by omega⟩
  ·rw [pick_eq hb hl (p := p + 1) (n := 6) (by omega) (by omega) (by omega) (by omega) (by omega)]
   simp only [Option.bind_some]
   obtain ⟨n, q, a, w, p2, e2, g1, g2, _⟩ := drawQuery_eq hb hl (p := p + 1 + 1) (m := 0) (by omega) (by omega) (by omega) (by omega) (k := k) (by omega)
   rw [e2]
   simp only [Option.bind_some]
   rw [pick_eq hb hl (p := p2) (n := 30) (by omega) (by omega) (by omega) (by omega) (by omega)]
   simp only [Option.bind_some]
   obtain ⟨l', h', r, e3, q1, q2⟩ := nearHear_total (pk b (p + 1) 6) (pk b p2 30) n q a w l h hll hhl k (by omega)
   rw [e3]
   simp only [Option.bind_some]
   obtain ⟨l2, h2, p', e4, q3, q4, q5, q6⟩ := ih k (p2 + 1) l' h' (by omega) (by omega) (by omega) q1 q2
   exact ⟨l2, h2, p', e4, q3, q4, q5, by omega⟩
theorem drawNear_eq {b : List Int} (hb : Bytes b) (hl : b.length ≤ 2000) {m : Int} (hm0 : 0 ≤ m) (hm1 : m ≤ 65536) (k : Nat) (hk : 300 ≤ k) :
  ∃ l h p', spec_l20Near.f k b 0 m = some (l, h, p') ∧ l.length ≤ 10 ∧ h.length ≤ 10 ∧ 0 ≤ p' ∧ p' ≤ 2000 := by
 unfold spec_l20Near.f
 rw [pick_eq hb hl (p := 0) (n := 10) (by omega) (by omega) (by omega) (by omega) (by omega)]
 simp only [Option.bind_some]
 have r := pk_range hb hl (p := 0) (n := 10) (by omega) (by omega) (by omega) (by omega)
 obtain ⟨d, hd⟩ : ∃ d : Nat, pk b 0 10 = (d : Int) := ⟨(pk b 0 10).toNat, by omega⟩
 rw [hd] at r ⊢
 obtain ⟨l, h, p', e, q1, q2, q3, q4⟩ := drawNear_loop hb hl hm0 hm1 d k (0 + 1) [] [] (by omega) (by omega) (by omega) (by simp) (by simp)
 exact ⟨l, h, p', e, q1, q2, q3, by omega⟩

/-- The two finds come to the same. -/
theorem nearFind_eq (a t : Int) (l : List S99) (h : List S101) (hl : l.length ≤ 1048576) (hh : h.length ≤ 1048576) (k : Nat) (hk : l.length * (l.length + 3) + l.length + h.length + 100 < k) : ∃ r, impl_NearFind.f k l h a t = some r ∧ spec_NearFind.f k l h a t = some r := by
 obtain ⟨r, e, q⟩ := implNearOk_eq l h hl hh k (by omega)
 unfold impl_NearFind.f
 rw [e]
 simp only [Option.bind_some]
 by_cases ok : nearR l h 0
 ·rw [q.mpr ok, if_pos rfl]
  have h4 := ok.2.1
  unfold impl_Near_find.f impl_Near_at.f
  rw [if_pos (by omega)]
  simp only [Option.bind_some]
  cases hf : l.findIdx? (fun x => x.f0 == a) with
  | none =>
   have e2 : nearIdx (fun x => x.f0 == a) l = -1 := by unfold nearIdx; rw [hf]
   rw [e2, if_neg (by decide)]
   refine ⟨-1, rfl, ?_⟩
   unfold spec_NearFind.f
   refine specFind_none a t l h ok l.length 0 k (by omega) (by omega) (fun j _ h2 => ?_)
   rw [List.findIdx?_eq_none_iff] at hf
   have := hf _ (List.getElem_mem h2)
   rw [nearRd l j h2]
   simpa using this
  | some m =>
   have e2 : nearIdx (fun x => x.f0 == a) l = (m : Int) := by unfold nearIdx; rw [hf]
   obtain ⟨hm, hp, hn⟩ := List.findIdx?_eq_some_iff_getElem.1 hf
   rw [e2, if_pos (by omega), if_pos (by omega), if_pos (by omega)]
   have z := specFind_some a t l h ok m hm (by rw [nearRd l m hm]; simpa using hp) (fun j hj => by rw [nearRd l j (by omega)]; have := hn j hj; simpa using this) m 0 k (by omega) (by omega)
   refine ⟨_, ?_, z⟩
   by_cases c : (rd_T99 l (m : Int)).f2 > t
   ·rw [if_pos c, if_pos c]; rfl
   ·rw [if_neg c, if_neg c]; rfl
 ·obtain rfl : r = false := by cases r with
   | false => rfl
   | true => exact absurd (q.mp rfl) ok
  rw [if_neg (by decide)]
  exact ⟨-1, rfl, specFind_bad a t l h hl hh ok k (by omega)⟩

/-- What a find tells. -/
def tellV (t : Int) : Option S99 → Int
 | none => -1
 | some x => if x.f2 > t then x.f1 else -1
/-- One entry, or none, tells for all times. -/
theorem nearFind_val (a : Int) (l : List S99) (h : List S101) (hl : l.length ≤ 1048576) (hh : h.length ≤ 1048576) (k : Nat) (hk : l.length * (l.length + 3) + l.length + h.length + 100 < k) :
  ∃ fd : Option S99, (∀ t, impl_NearFind.f k l h a t = some (tellV t fd)) ∧ (∀ t, spec_NearFind.f k l h a t = some (tellV t fd)) ∧ ∀ x, fd = some x → 0 ≤ x.f1 ∧ x.f2 ≤ 1000000 := by
 obtain ⟨r, e, q⟩ := implNearOk_eq l h hl hh k (by omega)
 by_cases ok : nearR l h 0
 ·have h4 := ok.2.1
  have hI : ∀ t, impl_NearFind.f k l h a t = impl_Near_find.f l h a t := fun t => by
   unfold impl_NearFind.f
   rw [e, q.mpr ok]
   simp only [Option.bind_some, if_true]
   cases impl_Near_find.f l h a t <;> rfl
  have hA : impl_Near_at.f l h a = some (nearIdx (fun x => x.f0 == a) l) := by unfold impl_Near_at.f; rw [if_pos (by omega)]
  cases hf : l.findIdx? (fun x => x.f0 == a) with
  | none =>
   have e2 : nearIdx (fun x => x.f0 == a) l = -1 := by unfold nearIdx; rw [hf]
   refine ⟨none, fun t => ?_, fun t => ?_, fun x hx => by cases hx⟩
   ·rw [hI]
    unfold impl_Near_find.f
    rw [hA, e2]
    rfl
   ·unfold spec_NearFind.f
    refine specFind_none a t l h ok l.length 0 k (by omega) (by omega) (fun j _ h2 => ?_)
    rw [List.findIdx?_eq_none_iff] at hf
    have := hf _ (List.getElem_mem h2)
    rw [nearRd l j h2]
    simpa using this
  | some m =>
   have e2 : nearIdx (fun x => x.f0 == a) l = (m : Int) := by unfold nearIdx; rw [hf]
   obtain ⟨hm, hp, hn⟩ := List.findIdx?_eq_some_iff_getElem.1 hf
   have hent := (ok.1 m (Nat.zero_le _) hm).1
   refine ⟨some (rd_T99 l (m : Int)), fun t => ?_, fun t => ?_, fun x hx => ?_⟩
   ·rw [hI]
    unfold impl_Near_find.f
    rw [hA, e2]
    simp only [Option.bind_some]
    rw [if_pos (by omega), if_pos (by omega), if_pos (by omega)]
    show _ = some (if (rd_T99 l (m : Int)).f2 > t then (rd_T99 l (m : Int)).f1 else -1)
    by_cases c : (rd_T99 l (m : Int)).f2 > t
    ·rw [if_pos c, if_pos c]
    ·rw [if_neg c, if_neg c]
   ·exact specFind_some a t l h ok m hm (by rw [nearRd l m hm]; simpa using hp) (fun j hj => by rw [nearRd l j (by omega)]; have := hn j hj; simpa using this) m 0 k (by omega) (by omega)
   ·obtain rfl := Option.some.inj hx
    exact ⟨hent.2.1.1, hent.2.2.2⟩
 ·have hr : r = false := by cases r with
   | false => rfl
   | true => exact absurd (q.mp rfl) ok
  refine ⟨none, fun t => ?_, fun t => specFind_bad a t l h hl hh ok k (by omega), fun x hx => by cases hx⟩
  unfold impl_NearFind.f
  rw [e, hr]
  rfl

theorem implbytesOf_loop : ∀ (i k : Nat) (v : Int) (o : List Int), i < k → i ≤ o.length → o.length < 4611686018427387904 →
  impl_bytesOf.l0 k v o ((i : Int) - 1) = some (be i v ++ o.drop i)
 | 0, k, v, o, hk, hi, hl => by
  obtain ⟨k, rfl⟩ : ∃ m, k = m + 1 := ⟨k - 1, by omega⟩
  simp only [impl_bytesOf.l0]
  rw [if_neg (by omega)]; simp [be]
 | i + 1, k, v, o, hk, hi, hl => by
  obtain ⟨k, rfl⟩ : ∃ m, k = m + 1 := ⟨k - 1, by omega⟩
  have e1 : ((i + 1 : Nat) : Int) - 1 = (i : Int) := by omega
  have e2 : wrap64 ((i : Int) - 1) = (i : Int) - 1 := w64 (by omega) (by omega)
  have e3 : ((i : Int)).toNat = i := by omega
  rw [e1]
  simp only [impl_bytesOf.l0]
  rw [if_pos (by omega), if_pos (by omega), if_pos (by omega), e2, implbytesOf_loop i k _ _ (by omega) (by simp; omega) (by simpa using hl), e3, drop_rd _ i (by simp; omega), rd_set_eq _ _ _ (by omega), List.drop_set_of_lt (by omega)]
  simp [be]
theorem implbytesOf_eq (v n : Int) (h0 : 0 ≤ n) (h1 : n ≤ 1073741824) (k : Nat) (hk : n.toNat < k) : impl_bytesOf.f k v n = some (be n.toNat v) := by
 unfold impl_bytesOf.f
 rw [if_pos h0, if_pos (by omega), w64 (by omega) (by omega)]
 obtain ⟨n, rfl⟩ : ∃ m : Nat, n = m := ⟨n.toNat, by omega⟩
 rw [implbytesOf_loop n k v _ (by omega) (by simp) (by simp; omega)]
 simp

/-- A number as n bytes, n in 1..4; none for others. -/
def bytesV (v n : Int) : List Int := if (1 ≤ n ∧ n ≤ 4) ∧ 0 ≤ v ∧ v < 256 ^ n.toNat then be n.toNat v else []
theorem four {n : Int} (h : 1 ≤ n ∧ n ≤ 4) : n = 1 ∨ n = 2 ∨ n = 3 ∨ n = 4 := by omega
theorem lim_of (n : Int) (h : 1 ≤ n ∧ n ≤ 4) : wrap64 (shl .i64 1 (wrap64 (8 * n)) - 1) = 256 ^ n.toNat - 1 ∧ 0 ≤ wrap64 (8 * n) := by
 rcases four h with rfl | rfl | rfl | rfl <;> decide +kernel
theorem bytesV_length (v n : Int) : (bytesV v n).length ≤ 4 := by
 unfold bytesV; split
 ·rw [be_length]; omega
 ·simp
theorem bytesV_bytes (v n : Int) : Bytes (bytesV v n) := by
 unfold bytesV; split
 ·exact be_bytes _ _
 ·exact Bytes.nil

theorem implBytesOf_eq (v n : Int) (k : Nat) (hk : 6 ≤ k) : impl_BytesOf.f k v n = some (bytesV v n) := by
 unfold impl_BytesOf.f bytesV
 simp only [in_eq, Option.bind_some]
 by_cases h1 : 1 ≤ n ∧ n ≤ 4
 ·obtain ⟨e1, e2⟩ := lim_of n h1
  rw [if_pos (decide_eq_true h1), if_pos e2, e1]
  by_cases h2 : 0 ≤ v ∧ v ≤ 256 ^ n.toNat - 1
  ·rw [if_pos (decide_eq_true h2), implbytesOf_eq v n (by omega) (by omega) k (by omega), if_pos ⟨h1, h2.1, by omega⟩]; rfl
  ·rw [if_neg (by simpa using h2), if_neg (by omega)]
 ·rw [if_neg (by simpa using h1), if_neg (fun h => h1 h.1)]

theorem alive_eq (k : Nat) (hk : 6 ≤ k) : laws_alive.f k = some true := by
 unfold laws_alive.f
 simp only [implBytesOf_eq _ _ k hk, Option.bind_some]
 rfl

theorem FnNearFind : laws_FnNearFind.Pure := by
 intro l hm hl hw
 obtain ⟨b, hb1, hb2, hb3⟩ := open_eq l (Bytes.of_wf hw)
 obtain ⟨K, hK⟩ : ∃ K : Nat, K = 500 := ⟨_, rfl⟩
 refine ⟨K, ?_⟩
 obtain ⟨A, B, p', e, hA, hB, hp0, hp1⟩ := drawNear_eq hb2 hb3 (m := 15) (by omega) (by omega) K (by omega)
 have hmul : A.length * (A.length + 3) ≤ 10 * 13 := Nat.mul_le_mul hA (by omega)
 have g1 := pick_eq hb2 hb3 (p := p') (n := 6) (by omega) (by omega) (by omega) (by omega) (k := K) (by omega)
 have g2 := pick_eq hb2 hb3 (p := p' + 1) (n := 50) (by omega) (by omega) (by omega) (by omega) (k := K) (by omega)
 have r2 := pk_range hb2 hb3 (p := p' + 1) (n := 50) (by omega) (by omega) (by omega) (by omega)
 generalize pk b p' 6 = a at g1
 generalize pk b (p' + 1) 50 = t at g2 r2
 obtain ⟨fd, fi, fs, fx⟩ := nearFind_val a A B (by omega) (by omega) K (by omega)
 have ha := alive_eq K (by omega)
 have w1 : wrap64 (t - 1) = t - 1 := w64 (by omega) (by omega)
 unfold laws_FnNearFind.f spec_DrawNearFind.f
 by_cases h : (l.length : Int) > 1048576
 ·rw [if_pos h]
 rw [if_neg h, hb1]
 simp only [Option.bind_some]
 rw [e]
 simp only [Option.bind_some]
 rw [g1]
 simp only [Option.bind_some]
 rw [g2]
 simp only [Option.bind_some, fi, fs, if_true, ha, w1]
 have late : tellV 1000001 fd = -1 := by
  cases fd with
  | none => rfl
  | some x =>
   have := fx x rfl
   show (if x.f2 > 1000001 then x.f1 else -1) = -1
   rw [if_neg (by omega)]
 rw [late]
 simp only [if_true]
 split
 ·rfl
 ·rename_i hn
  have same : tellV (t - 1) fd = tellV t fd := by
   cases fd with
   | none => rfl
   | some x =>
    change ¬ (if x.f2 > t then x.f1 else -1) < 0 at hn
    show (if x.f2 > t - 1 then x.f1 else -1) = (if x.f2 > t then x.f1 else -1)
    by_cases c : x.f2 > t
    ·rw [if_pos c, if_pos (by omega)]
    ·rw [if_neg c] at hn; exact absurd (by decide) hn
  rw [same, if_pos rfl]

end Go.Proofs.Ytdplboenlcppkaa.Pure

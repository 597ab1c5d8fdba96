/- NearFind of the program is the reference's at all that is known and kept, all addresses and times; the statement's own bounds alone. -/
import Derived.Test.YtdplboenlcppkaaPFnExactNearFindx5
import Derived.Test.YtdplboenlcppkaaUFnExactNearFindBase
import Derived.Test.YtdplboenlcppkaaArgFnExactNearFind
namespace Go.Proofs.Ytdplboenlcppkaa.Pure
set_option linter.unusedSimpArgs false
set_option linter.unusedVariables false
open Go Go.RowKit Go.Proofs.Ytdplboenlcppkaa.PFnExactNearFind Go.Proofs.YtdplboenlcppkaaUFnExactNearFind.PrintWords Go.Proofs.YtdplboenlcppkaaUFnExactNearFind.PrintLast Go.Proofs.YtdplboenlcppkaaUFnExactNearFind.PrintMore Go.Proofs.Ytdplboenlcppkaa.Base

theorem l1In_eq (a b c : Int) : spec_l1In.f a b c = some (decide (b ≤ a ∧ a ≤ c)) := by
 unfold spec_l1In.f
 by_cases h : a ≥ b <;> simp [h]

theorem in_eq (a b c : Int) : impl_in.f a b c = some (decide (b ≤ a ∧ a ≤ c)) := by
 unfold impl_in.f
 by_cases h : a ≥ b <;> simp [h]

/-- An entry is ok for itself. -/
def entOk (x : S99) : Prop := (0 ≤ x.f0 ∧ x.f0 ≤ 65535) ∧ (0 ≤ x.f1 ∧ x.f1 ≤ 254) ∧ (0 ≤ x.f2 ∧ x.f2 ≤ 1000000)
instance (x : S99) : Decidable (entOk x) := by unfold entOk; infer_instance
/-- The entry at i is ok, and its address stands at no place ahead of it. -/
def entAt (l : List S99) (i : Nat) : Prop := entOk (rd_T99 l (i : Int)) ∧ ∀ j : Nat, j < i → (rd_T99 l (j : Int)).f0 ≠ (rd_T99 l (i : Int)).f0
/-- What is kept is ok. -/
def heldOk (x : S101) : Prop := (0 ≤ x.f0 ∧ x.f0 ≤ 65535) ∧ x.f1.length ≤ 64
/-- From i on all entries are ok, and so are the rest. -/
def nearR (l : List S99) (h : List S101) (i : Nat) : Prop := (∀ j, i ≤ j → j < l.length → entAt l j) ∧ l.length ≤ 4 ∧ h.length ≤ 4 ∧ ∀ x ∈ h, heldOk x
theorem nearR_step {l : List S99} {h : List S101} {i : Nat} (hi : i < l.length) : nearR l h i ↔ entAt l i ∧ nearR l h (i + 1) :=
 ⟨fun q => ⟨q.1 i (Nat.le_refl _) hi, fun j h1 h2 => q.1 j (by omega) h2, q.2⟩, fun q => ⟨fun j h1 h2 => by
  rcases Nat.eq_or_lt_of_le h1 with e | e
  ·subst e; exact q.1
  ·exact q.2.1 j e h2, q.2.2⟩⟩
theorem noFalse {p : Prop} (h : ¬ p) : (false = true ↔ p) := ⟨fun q => (by cases q), fun q => absurd q h⟩
theorem nearR_no {l : List S99} {h : List S101} {i : Nat} (hi : i < l.length) (no : ¬ entAt l i) : (false = true ↔ nearR l h i) := noFalse fun q => no ((nearR_step hi).mp q).1
theorem nearR_yes {l : List S99} {h : List S101} {i : Nat} {r : Bool} (hi : i < l.length) (yes : entAt l i) (q : r = true ↔ nearR l h (i + 1)) : (r = true ↔ nearR l h i) := q.trans ⟨fun z => (nearR_step hi).mpr ⟨yes, z⟩, fun z => ((nearR_step hi).mp z).2⟩
theorem heldAny (h : List S101) : (!(h.any heldBadB)) = true ↔ ∀ x ∈ h, heldOk x := by
 rw [Bool.not_eq_true', List.any_eq_false]
 refine ⟨fun q x hx => ?_, fun q x hx => ?_⟩
 ·have z := q x hx
  unfold heldBadB at z
  simp only [Bool.or_eq_true, Bool.not_eq_true', decide_eq_false_iff_not, decide_eq_true_eq, not_or, Decidable.not_not] at z
  exact ⟨z.1, by omega⟩
 ·obtain ⟨a, b⟩ := q x hx
  unfold heldBadB
  rw [decide_eq_true a, decide_eq_false (by omega)]
  decide
theorem nearIdx_lt (l : List S99) (i : Nat) (hi : i < l.length) : nearIdx (fun x => x.f0 == (rd_T99 l (i : Int)).f0) l < (i : Int) ↔ ∃ j : Nat, j < i ∧ (rd_T99 l (j : Int)).f0 = (rd_T99 l (i : Int)).f0 := by
 generalize ha : (rd_T99 l (i : Int)).f0 = a
 have hia : (l[i]).f0 = a := by rw [← nearRd l i hi]; exact ha
 cases h : l.findIdx? (fun x => x.f0 == a) with
 | none =>
  rw [List.findIdx?_eq_none_iff] at h
  have := h _ (List.getElem_mem hi)
  simp [hia] at this
 | some m =>
  have e : nearIdx (fun x => x.f0 == a) l = (m : Int) := by unfold nearIdx; rw [h]
  rw [e]
  obtain ⟨hm, hp, hn⟩ := List.findIdx?_eq_some_iff_getElem.1 h
  have hp' : (l[m]).f0 = a := by simpa using hp
  refine ⟨fun q => ⟨m, by omega, by rw [nearRd l m hm]; exact hp'⟩, fun ⟨j, hj, hq⟩ => ?_⟩
  rw [nearRd l j (by omega)] at hq
  rcases Nat.lt_or_ge j m with z | z
  ·have := hn j z; simp [hq] at this
  ·omega
theorem implNearOk_loop (l : List S99) (h : List S101) (hl : l.length ≤ 1048576) (hh : h.length ≤ 1048576) : ∀ (d i k : Nat), i + d = l.length → d < k →
  ∃ r, impl_NearOk.l0 k l (l.length : Int) (i : Int) l h = some r ∧ (r = true ↔ nearR l h i) := by
 intro d
 induction d with
 | zero =>
  intro i k hi hk
  obtain ⟨k, rfl⟩ : ∃ m, k = m + 1 := ⟨k - 1, by omega⟩
  simp only [impl_NearOk.l0]
  rw [if_neg (by omega)]
  by_cases h1 : l.length ≤ 4
  ·by_cases h2 : h.length ≤ 4
   ·rw [if_pos (by omega), if_pos (by omega)]
    unfold impl_NearHeld_72.f
    rw [if_pos (by omega)]
    exact ⟨_, rfl, (heldAny h).trans ⟨fun q => ⟨fun j a b => absurd b (by omega), h1, h2, q⟩, fun q => q.2.2.2⟩⟩
   ·rw [if_pos (by omega), if_neg (by omega)]
    exact ⟨_, rfl, noFalse fun q => h2 q.2.2.1⟩
  ·rw [if_neg (by omega)]
   exact ⟨_, rfl, noFalse fun q => h1 q.2.1⟩
 | succ d ih =>
  intro i k hi hk
  obtain ⟨k, rfl⟩ : ∃ m, k = m + 1 := ⟨k - 1, by omega⟩
  have hil : i < l.length := by omega
  have e1 : wrap64 ((i : Int) + 1) = ((i + 1 : Nat) : Int) := by rw [w64 (by omega) (by omega)]; rfl
  obtain ⟨r, er, hr⟩ := ih (i + 1) k (by omega) (by omega)
  simp only [impl_NearOk.l0]
  rw [if_pos (by omega), if_pos (by omega), if_pos (by omega), e1, er]
  simp only [heldWord, in_eq, Option.bind_some]
  by_cases c0 : 0 ≤ (rd_T99 l (i : Int)).f0 ∧ (rd_T99 l (i : Int)).f0 ≤ 65535
  ·by_cases c1 : 0 ≤ (rd_T99 l (i : Int)).f1 ∧ (rd_T99 l (i : Int)).f1 ≤ 254
   ·by_cases c2 : 0 ≤ (rd_T99 l (i : Int)).f2 ∧ (rd_T99 l (i : Int)).f2 ≤ 1000000
    ·rw [decide_eq_true c0, decide_eq_true c1, decide_eq_true c2, if_pos rfl, if_pos rfl, if_pos rfl]
     unfold impl_Near_at.f
     rw [if_pos (by omega)]
     simp only [Option.bind_some]
     by_cases c3 : nearIdx (fun x => x.f0 == (rd_T99 l (i : Int)).f0) l < (i : Int)
     ·rw [if_pos c3]
      obtain ⟨j, hj, e⟩ := (nearIdx_lt l i hil).mp c3
      exact ⟨_, rfl, nearR_no hil (fun q => q.2 j hj e)⟩
     ·rw [if_neg c3]
      exact ⟨_, rfl, nearR_yes hil ⟨⟨c0, c1, c2⟩, fun j hj e => c3 ((nearIdx_lt l i hil).mpr ⟨j, hj, e⟩)⟩ hr⟩
    ·rw [decide_eq_true c0, decide_eq_true c1, decide_eq_false c2, if_pos rfl, if_pos rfl, if_neg (by decide)]
     exact ⟨_, rfl, nearR_no hil (fun q => c2 q.1.2.2)⟩
   ·rw [decide_eq_true c0, decide_eq_false c1, if_pos rfl, if_neg (by decide)]
    exact ⟨_, rfl, nearR_no hil (fun q => c1 q.1.2.1)⟩
  ·rw [decide_eq_false c0, if_neg (by decide)]
   exact ⟨_, rfl, nearR_no hil (fun q => c0 q.1.1)⟩
theorem implNearOk_eq (l : List S99) (h : List S101) (hl : l.length ≤ 1048576) (hh : h.length ≤ 1048576) (k : Nat) (hk : l.length < k) :
  ∃ r, impl_NearOk.f k l h = some r ∧ (r = true ↔ nearR l h 0) := implNearOk_loop l h hl hh l.length 0 k (by omega) hk
theorem specHeld_loop (l : List S99) (h : List S101) (hh : h.length ≤ 1048576) : ∀ (d i k : Nat), i + d = h.length → d < k →
  ∃ r, spec_NearOk.l2 k (i : Int) l h = some r ∧ (r = true ↔ (∀ x ∈ h.drop i, heldOk x) ∧ l.length ≤ 4 ∧ h.length ≤ 4) := by
 intro d
 induction d with
 | zero =>
  intro i k hi hk
  obtain ⟨k, rfl⟩ : ∃ m, k = m + 1 := ⟨k - 1, by omega⟩
  have e0 : h.drop i = [] := List.drop_of_length_le (by omega)
  simp only [spec_NearOk.l2]
  rw [if_neg (by omega), e0]
  by_cases h1 : l.length ≤ 4
  ·rw [if_pos (by omega)]
   exact ⟨_, rfl, by rw [decide_eq_true_eq]; exact ⟨fun q => ⟨fun x hx => (by cases hx), h1, by omega⟩, fun q => by omega⟩⟩
  ·rw [if_neg (by omega)]
   exact ⟨_, rfl, noFalse fun q => h1 q.2.1⟩
 | succ d ih =>
  intro i k hi hk
  obtain ⟨k, rfl⟩ : ∃ m, k = m + 1 := ⟨k - 1, by omega⟩
  have hil : i < h.length := by omega
  have e1 : wrap64 ((i : Int) + 1) = ((i + 1 : Nat) : Int) := by rw [w64 (by omega) (by omega)]; rfl
  have e2 : h.drop i = rd_T101 h (i : Int) :: h.drop (i + 1) := by rw [heldRd h i hil]; exact List.drop_eq_getElem_cons hil
  obtain ⟨r, er, hr⟩ := ih (i + 1) k (by omega) (by omega)
  simp only [spec_NearOk.l2]
  rw [if_pos (by omega), if_pos (by omega), e1, er, e2]
  simp only [l1In_eq, Option.bind_some]
  by_cases c0 : 0 ≤ (rd_T101 h (i : Int)).f0 ∧ (rd_T101 h (i : Int)).f0 ≤ 65535
  ·rw [decide_eq_true c0, if_pos rfl]
   by_cases c1 : ((rd_T101 h (i : Int)).f1.length : Int) > 64
   ·rw [if_pos c1]
    exact ⟨_, rfl, noFalse fun q => by have := (q.1 _ (List.mem_cons_self ..)).2; omega⟩
   ·rw [if_neg c1]
    exact ⟨_, rfl, hr.trans ⟨fun q => ⟨fun x hx => by
     rcases List.mem_cons.1 hx with rfl | hx
     ·exact ⟨c0, by omega⟩
     ·exact q.1 x hx, q.2⟩, fun q => ⟨fun x hx => q.1 x (List.mem_cons_of_mem _ hx), q.2⟩⟩⟩
  ·rw [decide_eq_false c0, if_neg (by decide)]
   exact ⟨_, rfl, noFalse fun q => c0 (q.1 _ (List.mem_cons_self ..)).1⟩
/-- The inner loop: it goes on to the next entry, or the address stands ahead. -/
theorem specInner_loop (l : List S99) (h : List S101) (hl : l.length ≤ 1048576) (i : Nat) (hi : i < l.length) (a b c : Int) (ha : a = (rd_T99 l (i : Int)).f0) : ∀ (d j k : Nat), j + d = i → d < k → (∀ m : Nat, m < j → (rd_T99 l (m : Int)).f0 ≠ a) →
  (∃ m : Nat, m < i ∧ (rd_T99 l (m : Int)).f0 = a ∧ spec_NearOk.l1 k (i : Int) (j : Int) l h a b c = some false) ∨ ((∀ m : Nat, m < i → (rd_T99 l (m : Int)).f0 ≠ a) ∧ spec_NearOk.l1 k (i : Int) (j : Int) l h a b c = spec_NearOk.l0 (k - d - 1) ((i + 1 : Nat) : Int) l h) := by
 intro d
 induction d with
 | zero =>
  intro j k hj hk no
  obtain ⟨k, rfl⟩ : ∃ m, k = m + 1 := ⟨k - 1, by omega⟩
  have e1 : wrap64 ((i : Int) + 1) = ((i + 1 : Nat) : Int) := by rw [w64 (by omega) (by omega)]; rfl
  simp only [spec_NearOk.l1]
  rw [if_neg (by omega), e1]
  exact .inr ⟨fun m hm => no m (by omega), rfl⟩
 | succ d ih =>
  intro j k hj hk no
  obtain ⟨k, rfl⟩ : ∃ m, k = m + 1 := ⟨k - 1, by omega⟩
  have e1 : wrap64 ((j : Int) + 1) = ((j + 1 : Nat) : Int) := by rw [w64 (by omega) (by omega)]; rfl
  simp only [spec_NearOk.l1]
  rw [if_pos (by omega), if_pos (by omega), if_pos (by omega), e1]
  by_cases c0 : (rd_T99 l (j : Int)).f0 = a
  ·rw [if_pos c0]
   exact .inl ⟨j, by omega, c0, rfl⟩
  ·rw [if_neg c0, show k + 1 - (d + 1) - 1 = k - d - 1 by omega]
   exact ih (j + 1) k (by omega) (by omega) (fun m hm => by
    rcases Nat.lt_or_ge m j with z | z
    ·exact no m z
    ·have : m = j := by omega
     subst this; exact c0)
theorem specNearOk_loop (l : List S99) (h : List S101) (hl : l.length ≤ 1048576) (hh : h.length ≤ 1048576) : ∀ (d i k : Nat), i + d = l.length → d * (l.length + 3) + h.length + 1 < k →
  ∃ r, spec_NearOk.l0 k (i : Int) l h = some r ∧ (r = true ↔ nearR l h i) := by
 intro d
 induction d with
 | zero =>
  intro i k hi hk
  obtain ⟨k, rfl⟩ : ∃ m, k = m + 1 := ⟨k - 1, by omega⟩
  simp only [spec_NearOk.l0]
  rw [if_neg (by omega)]
  obtain ⟨r, e, q⟩ := specHeld_loop l h hh h.length 0 k (by omega) (by omega)
  refine ⟨r, e, q.trans ⟨fun z => ⟨fun j a b => absurd b (by omega), z.2.1, z.2.2, by simpa using z.1⟩, fun z => ⟨by simpa using z.2.2.2, z.2.1, z.2.2.1⟩⟩⟩
 | succ d ih =>
  intro i k hi hk
  have hmul : (d + 1) * (l.length + 3) = d * (l.length + 3) + (l.length + 3) := Nat.succ_mul _ _
  obtain ⟨k, rfl⟩ : ∃ m, k = m + 1 + 1 := ⟨k - 2, by omega⟩
  have hil : i < l.length := by omega
  simp only [spec_NearOk.l0]
  rw [if_pos (by omega), if_pos (by omega)]
  simp only [l1In_eq, Option.bind_some, spec_NearOk.j1]
  by_cases c0 : 0 ≤ (rd_T99 l (i : Int)).f0 ∧ (rd_T99 l (i : Int)).f0 ≤ 65535
  ·by_cases c1 : 0 ≤ (rd_T99 l (i : Int)).f1 ∧ (rd_T99 l (i : Int)).f1 ≤ 254
   ·by_cases c2 : 0 ≤ (rd_T99 l (i : Int)).f2 ∧ (rd_T99 l (i : Int)).f2 ≤ 1000000
    ·rw [decide_eq_true c0, decide_eq_true c1, decide_eq_true c2, if_pos rfl, if_pos rfl, Bool.not_true, if_neg (by decide)]
     rcases specInner_loop l h hl i hil (rd_T99 l (i : Int)).f0 (rd_T99 l (i : Int)).f1 (rd_T99 l (i : Int)).f2 rfl i 0 k (by omega) (by omega) (fun m hm => absurd hm (Nat.not_lt_zero _)) with ⟨m, hm, e, z⟩ | ⟨no, z⟩
     ·exact ⟨false, z, nearR_no hil (fun q => q.2 m hm e)⟩
     ·obtain ⟨r, er, hr⟩ := ih (i + 1) (k - i - 1) (by omega) (by omega)
      exact ⟨r, z.trans er, nearR_yes hil ⟨⟨c0, c1, c2⟩, no⟩ hr⟩
    ·rw [decide_eq_true c0, decide_eq_true c1, decide_eq_false c2, if_pos rfl, if_pos rfl, Bool.not_false, if_pos rfl]
     exact ⟨_, rfl, nearR_no hil (fun q => c2 q.1.2.2)⟩
   ·rw [decide_eq_true c0, decide_eq_false c1, if_pos rfl, if_neg (by decide), if_pos trivial]
    exact ⟨_, rfl, nearR_no hil (fun q => c1 q.1.2.1)⟩
  ·rw [decide_eq_false c0, if_neg (by decide), if_pos trivial]
   exact ⟨_, rfl, nearR_no hil (fun q => c0 q.1.1)⟩
theorem specNearOk_eq (l : List S99) (h : List S101) (hl : l.length ≤ 1048576) (hh : h.length ≤ 1048576) (k : Nat) (hk : l.length * (l.length + 3) + h.length + 1 < k) :
  ∃ r, spec_NearOk.f k l h = some r ∧ (r = true ↔ nearR l h 0) := specNearOk_loop l h hl hh l.length 0 k (by omega) hk

theorem toByteS_loop (l : List Int) (hn : l.length < 4611686018427387904) : ∀ (d k i : Nat) (o : List Int), l.length - i = d → i ≤ l.length → d < k → o.length = l.length → o.take i = l.take i →
  laws_toByteS.l0 k l o (i : Int) = some l
 | 0, k, i, o, hd, hi, hk, hl, ho => by
  obtain ⟨k, rfl⟩ : ∃ m, k = m + 1 := ⟨k - 1, by omega⟩
  simp only [laws_toByteS.l0]
  rw [if_neg (by omega)]
  rw [List.take_of_length_le (by omega), List.take_of_length_le (by omega)] at ho
  rw [ho]
 | d + 1, k, i, o, hd, hi, hk, hl, ho => by
  obtain ⟨k, rfl⟩ : ∃ m, k = m + 1 := ⟨k - 1, by omega⟩
  have e2 : wrap64 ((i : Int) + 1) = ((i + 1 : Nat) : Int) := by rw [w64 (by omega) (by omega)]; rfl
  simp only [laws_toByteS.l0]
  rw [if_pos (by omega), if_pos (by omega), if_pos (by omega), e2]
  exact toByteS_loop l hn d k (i + 1) _ (by omega) (by omega) (by omega) (by simp [hl]) (by simpa using set_take l o i (by omega) hl ho)
theorem toByteS_eq (l : List Int) (hn : l.length ≤ 140737488351232) (k : Nat) (hk : l.length < k) : laws_toByteS.f k l = some l := by
 unfold laws_toByteS.f
 rw [if_pos (by omega), if_pos (by omega)]
 exact toByteS_loop l (by omega) l.length k 0 _ (by omega) (by omega) hk (by simp) (by simp)

theorem eqByteS_loop (a b : List Int) (hab : a.length = b.length) (hn : a.length < 4611686018427387904) : ∀ (d k i : Nat), a.length - i = d → i ≤ a.length → d < k → a.take i = b.take i →
  laws_eqByteS.l0 k a b (i : Int) = some (decide (a = b))
 | 0, k, i, hd, hi, hk, ho => by
  obtain ⟨k, rfl⟩ : ∃ m, k = m + 1 := ⟨k - 1, by omega⟩
  simp only [laws_eqByteS.l0]
  rw [if_neg (by omega)]
  rw [List.take_of_length_le (by omega), List.take_of_length_le (by omega)] at ho
  rw [decide_eq_true ho]
 | d + 1, k, i, hd, hi, hk, ho => by
  obtain ⟨k, rfl⟩ : ∃ m, k = m + 1 := ⟨k - 1, by omega⟩
  have e2 : wrap64 ((i : Int) + 1) = ((i + 1 : Nat) : Int) := by rw [w64 (by omega) (by omega)]; rfl
  simp only [laws_eqByteS.l0]
  rw [if_pos (by omega), if_pos (by omega), if_pos (by omega), e2]
  by_cases h : rd a (i : Int) = rd b (i : Int)
  ·rw [if_pos h]
   exact eqByteS_loop a b hab hn d k (i + 1) (by omega) (by omega) (by omega) (by rw [take_succ_rd a i (by omega), take_succ_rd b i (by omega), ho, h])
  ·rw [if_neg h, decide_eq_false (fun e => h (by rw [e]))]
theorem eqByteS_eq (a b : List Int) (hn : a.length < 4611686018427387904) (k : Nat) (hk : a.length < k) : laws_eqByteS.f k a b = some (decide (a = b)) := by
 unfold laws_eqByteS.f
 by_cases h : (a.length : Int) = (b.length : Int)
 ·rw [if_pos h]; exact eqByteS_loop a b (by omega) hn a.length k 0 (by omega) (by omega) hk (by simp)
 ·rw [if_neg h, decide_eq_false (fun e => h (by rw [e]))]

/-- The same entry of the program's own type. -/
def asEnt (r : S135) : S99 := ⟨r.f0, r.f1, r.f2⟩
/-- The same kept bytes of the program's own type. -/
def asHeld (r : S133) : S101 := ⟨r.f0, r.f1⟩
theorem rdE_nat (l : List S135) (i : Nat) (h : i < l.length) : rd_T135 l (i : Int) = l[i] := by
 unfold rd_T135; simp [List.getD_eq_getElem?_getD, List.getElem?_eq_getElem h]
theorem rdH_nat (l : List S133) (i : Nat) (h : i < l.length) : rd_T133 l (i : Int) = l[i] := by
 unfold rd_T133; simp [List.getD_eq_getElem?_getD, List.getElem?_eq_getElem h]
theorem szHeld_eq (a : Int) (l : List Int) (hl : l.length ≤ 9223372036854775807) (x : Int) (h0 : 0 ≤ x) (h1 : x ≤ 1048576) :
  laws_szNearHeld.f a l x = some (if x - (l.length : Int) < 0 then -1 else x - (l.length : Int)) := by
 unfold laws_szNearHeld.f laws_szByteS.f
 rw [w64 (x := x - (l.length : Int)) (by omega) (by omega)]
 by_cases h : x - (l.length : Int) < 0
 ·simp only [if_pos h, Option.bind_some]; rfl
 ·simp only [if_neg h, Option.bind_some]
theorem szHeldS_loop (l : List S133) (hn : l.length ≤ 1048576) (hs : ∀ x ∈ l, x.f1.length ≤ 9223372036854775807) : ∀ (d k i : Nat) (x : Int), l.length - i = d → i ≤ l.length → d < k → 0 ≤ x → x ≤ 1048576 →
  ∃ r, laws_szNearHeldS.l0 k l x (i : Int) = some r ∧ (r < 0 ∨ (0 ≤ r ∧ ∀ y ∈ l.drop i, y.f1.length ≤ 1048576))
 | 0, k, i, x, hd, hi, hk, h0, h1 => by
  obtain ⟨k, rfl⟩ : ∃ m, k = m + 1 := ⟨k - 1, by omega⟩
  simp only [laws_szNearHeldS.l0]
  rw [if_neg (by omega)]
  exact ⟨x, rfl, .inr ⟨h0, fun y hy => by rw [List.drop_of_length_le (by omega)] at hy; cases hy⟩⟩
 | d + 1, k, i, x, hd, hi, hk, h0, h1 => by
  obtain ⟨k, rfl⟩ : ∃ m, k = m + 1 := ⟨k - 1, by omega⟩
  have hlt : i < l.length := by omega
  have e1 : wrap64 ((i : Int) + 1) = ((i + 1 : Nat) : Int) := by rw [w64 (by omega) (by omega)]; rfl
  have hm : rd_T133 l (i : Int) ∈ l := by rw [rdH_nat l i hlt]; exact List.getElem_mem _
  have hq := hs _ hm
  simp only [laws_szNearHeldS.l0]
  rw [if_pos (by omega), if_pos (by omega), szHeld_eq _ _ hq x h0 h1, e1]
  simp only [Option.bind_some]
  by_cases h : x - ((rd_T133 l (i : Int)).f1.length : Int) < 0
  ·rw [if_pos h, if_pos (by decide)]
   exact ⟨-1, rfl, .inl (by decide)⟩
  ·rw [if_neg h, if_neg h]
   obtain ⟨r, e, hr⟩ := szHeldS_loop l hn hs d k (i + 1) _ (by omega) (by omega) (by omega) (show 0 ≤ x - ((rd_T133 l (i : Int)).f1.length : Int) by omega) (by omega)
   refine ⟨r, e, hr.imp id fun h2 => ⟨h2.1, fun y hy => ?_⟩⟩
   rw [List.drop_eq_getElem_cons hlt] at hy
   rcases List.mem_cons.1 hy with rfl | hy
   ·rw [← rdH_nat l i hlt]; omega
   ·exact h2.2 y hy
theorem szNear_eq (l : List S135) (h : List S133) (hl : l.length ≤ 9223372036854775807) (hh : h.length ≤ 9223372036854775807) (hs : ∀ x ∈ h, x.f1.length ≤ 9223372036854775807) (k : Nat) (hk : h.length < k) :
  ∃ r, laws_szNear.f k l h 1048576 = some r ∧ (r < 0 ∨ (0 ≤ r ∧ l.length ≤ 1048576 ∧ h.length ≤ 1048576 ∧ ∀ y ∈ h, y.f1.length ≤ 1048576)) := by
 unfold laws_szNear.f laws_szNearEntryS.f
 rw [w64 (x := 1048576 - (l.length : Int)) (by omega) (by omega)]
 by_cases h1 : 1048576 - (l.length : Int) < 0
 ·rw [if_pos h1]; exact ⟨-1, by simp only [Option.bind_some]; rfl, .inl (by decide)⟩
 ·rw [if_neg h1]
  simp only [Option.bind_some]
  rw [if_neg h1]
  unfold laws_szNearHeldS.f
  rw [w64 (x := 1048576 - (l.length : Int) - (h.length : Int)) (by omega) (by omega)]
  by_cases h2 : 1048576 - (l.length : Int) - (h.length : Int) < 0
  ·rw [if_pos h2]; exact ⟨-1, by simp only [Option.bind_some]; rfl, .inl (by decide)⟩
  ·rw [if_neg h2]
   obtain ⟨r, e, hr⟩ := szHeldS_loop h (by omega) hs h.length k 0 (1048576 - (l.length : Int) - (h.length : Int)) (by omega) (by omega) hk (by omega) (by omega)
   refine ⟨if r < 0 then -1 else r, ?_, ?_⟩
   ·rw [show (0 : Int) = ((0 : Nat) : Int) from rfl, e]
    simp only [Option.bind_some]
    split <;> rfl
   ·rcases hr with h3 | h3
    ·rw [if_pos h3]; exact .inl (by decide)
    ·rw [if_neg (by omega)]; exact .inr ⟨h3.1, by omega, by omega, by simpa using h3.2⟩
theorem toEntS_loop (l : List S135) (hn : l.length ≤ 1048576) : ∀ (d k i : Nat) (o : List S99), l.length - i = d → i ≤ l.length → d < k → o.length = l.length → o.take i = (l.map asEnt).take i →
  laws_toNearEntryS.l0 k l o (i : Int) = some (l.map asEnt)
 | 0, k, i, o, hd, hi, hk, hl, ho => by
  obtain ⟨k, rfl⟩ : ∃ m, k = m + 1 := ⟨k - 1, by omega⟩
  simp only [laws_toNearEntryS.l0]
  rw [if_neg (by omega)]
  rw [List.take_of_length_le (by omega), List.take_of_length_le (by simp; omega)] at ho
  rw [ho]
 | d + 1, k, i, o, hd, hi, hk, hl, ho => by
  obtain ⟨k, rfl⟩ : ∃ m, k = m + 1 := ⟨k - 1, by omega⟩
  have hlt : i < l.length := by omega
  have e2 : wrap64 ((i : Int) + 1) = ((i + 1 : Nat) : Int) := by rw [w64 (by omega) (by omega)]; rfl
  simp only [laws_toNearEntryS.l0]
  unfold laws_toNearEntry.f
  simp only [Option.bind_some]
  rw [if_pos (by omega), if_pos (by omega), if_pos (by omega), e2]
  refine toEntS_loop l hn d k (i + 1) _ (by omega) (by omega) (by omega) (by simp [hl]) ?_
  rw [show ((i : Int)).toNat = i from rfl, rdE_nat l i hlt, List.take_succ_eq_append_getElem (by simp; omega), List.take_succ_eq_append_getElem (by simp; omega)]
  rw [List.take_set_of_le (Nat.le_refl i), ho]
  simp [asEnt]
theorem toEntS_eq (l : List S135) (hn : l.length ≤ 1048576) (k : Nat) (hk : l.length < k) : laws_toNearEntryS.f k l = some (l.map asEnt) := by
 unfold laws_toNearEntryS.f
 rw [if_pos (by omega), if_pos (by omega)]
 exact toEntS_loop l hn l.length k 0 _ (by omega) (by omega) hk (by simp) (by simp)
theorem toHeldS_loop (l : List S133) (hn : l.length ≤ 1048576) (hs : ∀ y ∈ l, y.f1.length ≤ 1048576) : ∀ (d k i : Nat) (o : List S101), l.length - i = d → i ≤ l.length → d + 1048577 < k → o.length = l.length → o.take i = (l.map asHeld).take i →
  laws_toNearHeldS.l0 k l o (i : Int) = some (l.map asHeld)
 | 0, k, i, o, hd, hi, hk, hl, ho => by
  obtain ⟨k, rfl⟩ : ∃ m, k = m + 1 := ⟨k - 1, by omega⟩
  simp only [laws_toNearHeldS.l0]
  rw [if_neg (by omega)]
  rw [List.take_of_length_le (by omega), List.take_of_length_le (by simp; omega)] at ho
  rw [ho]
 | d + 1, k, i, o, hd, hi, hk, hl, ho => by
  obtain ⟨k, rfl⟩ : ∃ m, k = m + 1 := ⟨k - 1, by omega⟩
  have hlt : i < l.length := by omega
  have e2 : wrap64 ((i : Int) + 1) = ((i + 1 : Nat) : Int) := by rw [w64 (by omega) (by omega)]; rfl
  have hq : (rd_T133 l (i : Int)).f1.length ≤ 1048576 := by rw [rdH_nat l i hlt]; exact hs _ (List.getElem_mem _)
  simp only [laws_toNearHeldS.l0]
  unfold laws_toNearHeld.f
  rw [toByteS_eq _ (by omega) k (by omega)]
  simp only [Option.bind_some]
  rw [if_pos (by omega), if_pos (by omega), if_pos (by omega), e2]
  refine toHeldS_loop l hn hs d k (i + 1) _ (by omega) (by omega) (by omega) (by simp [hl]) ?_
  rw [show ((i : Int)).toNat = i from rfl, rdH_nat l i hlt, List.take_succ_eq_append_getElem (by simp; omega), List.take_succ_eq_append_getElem (by simp; omega)]
  rw [List.take_set_of_le (Nat.le_refl i), ho]
  simp [asHeld]
theorem toHeldS_eq (l : List S133) (hn : l.length ≤ 1048576) (hs : ∀ y ∈ l, y.f1.length ≤ 1048576) (k : Nat) (hk : l.length + 1048577 < k) : laws_toNearHeldS.f k l = some (l.map asHeld) := by
 unfold laws_toNearHeldS.f
 rw [if_pos (by omega), if_pos (by omega)]
 exact toHeldS_loop l hn hs l.length k 0 _ (by omega) (by omega) hk (by simp) (by simp)
theorem toNear_eq (l : List S135) (h : List S133) (hl : l.length ≤ 1048576) (hh : h.length ≤ 1048576) (hs : ∀ y ∈ h, y.f1.length ≤ 1048576) (k : Nat) (hk : 2097154 < k) : laws_toNear.f k l h = some (l.map asEnt, h.map asHeld) := by
 unfold laws_toNear.f
 rw [toEntS_eq l hl k (by omega), toHeldS_eq h hh hs k (by omega)]
 rfl
theorem eqEntS_loop (l : List S99) (hn : l.length ≤ 1048576) : ∀ (d k i : Nat), l.length - i = d → i ≤ l.length → d < k → laws_eqNearEntryS.l0 k l l (i : Int) = some true
 | 0, k, i, hd, hi, hk => by
  obtain ⟨k, rfl⟩ : ∃ m, k = m + 1 := ⟨k - 1, by omega⟩
  simp only [laws_eqNearEntryS.l0]
  rw [if_neg (by omega)]
 | d + 1, k, i, hd, hi, hk => by
  obtain ⟨k, rfl⟩ : ∃ m, k = m + 1 := ⟨k - 1, by omega⟩
  have e2 : wrap64 ((i : Int) + 1) = ((i + 1 : Nat) : Int) := by rw [w64 (by omega) (by omega)]; rfl
  have ih := eqEntS_loop l hn d k (i + 1) (by omega) (by omega) (by omega)
  simp only [laws_eqNearEntryS.l0]
  unfold laws_eqNearEntry.f
  simp only [if_true, Option.bind_some, e2, ih]
  rw [if_pos (by omega), if_pos (by omega), if_pos (by omega)]
theorem eqHeldS_loop (l : List S101) (hn : l.length ≤ 1048576) (hs : ∀ y ∈ l, y.f1.length ≤ 1048576) : ∀ (d k i : Nat), l.length - i = d → i ≤ l.length → d + 1048577 < k → laws_eqNearHeldS.l0 k l l (i : Int) = some true
 | 0, k, i, hd, hi, hk => by
  obtain ⟨k, rfl⟩ : ∃ m, k = m + 1 := ⟨k - 1, by omega⟩
  simp only [laws_eqNearHeldS.l0]
  rw [if_neg (by omega)]
 | d + 1, k, i, hd, hi, hk => by
  obtain ⟨k, rfl⟩ : ∃ m, k = m + 1 := ⟨k - 1, by omega⟩
  have hlt : i < l.length := by omega
  have e2 : wrap64 ((i : Int) + 1) = ((i + 1 : Nat) : Int) := by rw [w64 (by omega) (by omega)]; rfl
  have hq : (rd_T101 l (i : Int)).f1.length ≤ 1048576 := by rw [heldRd l i hlt]; exact hs _ (List.getElem_mem _)
  have ih := eqHeldS_loop l hn hs d k (i + 1) (by omega) (by omega) (by omega)
  simp only [laws_eqNearHeldS.l0]
  unfold laws_eqNearHeld.f
  rw [eqByteS_eq _ _ (by omega) k (by omega)]
  simp only [if_true, Option.bind_some, e2, ih, decide_true]
  rw [if_pos (by omega), if_pos (by omega), if_pos (by omega)]
theorem eqNear_self (l : List S99) (h : List S101) (hl : l.length ≤ 1048576) (hh : h.length ≤ 1048576) (hs : ∀ y ∈ h, y.f1.length ≤ 1048576) (k : Nat) (hk : 2097154 < k) : laws_eqNear.f k l h l h = some true := by
 unfold laws_eqNear.f laws_eqNearEntryS.f laws_eqNearHeldS.f
 have a := eqEntS_loop l hl l.length k 0 (by omega) (by omega) (by omega)
 have b := eqHeldS_loop h hh hs h.length k 0 (by omega) (by omega) (by omega)
 rw [show ((0 : Nat) : Int) = 0 from rfl] at a b
 simp only [if_true, a, b, Option.bind_some]

theorem mul_small {n m : Nat} (hn : n ≤ 4) (hm : m ≤ 4) : n * (n + 3) + m + 1 < 40 := by
 have : n * (n + 3) ≤ 4 * 7 := Nat.mul_le_mul hn (by omega)
 omega
theorem specNearOk_small {l : List S99} {h : List S101} (ok : nearR l h 0) {k : Nat} (hk : 40 ≤ k) : spec_NearOk.f k l h = some true := by
 have hm := mul_small ok.2.1 ok.2.2.1
 have h1 := ok.2.1
 have h2 := ok.2.2.1
 obtain ⟨r, e, q⟩ := specNearOk_eq l h (by omega) (by omega) k (by omega)
 rw [e, q.mpr ok]
/-- Nobody from i on has the address. -/
theorem specFind_none (a t : Int) (l : List S99) (h : List S101) (ok : nearR l h 0) : ∀ (d i k : Nat), i + d = l.length → 2 * d + 50 ≤ k → (∀ j : Nat, i ≤ j → j < l.length → (rd_T99 l (j : Int)).f0 ≠ a) → spec_NearFind.l0 k a t (i : Int) l h = some (-1) := by
 have hl := ok.2.1
 intro d
 induction d with
 | zero =>
  intro i k hi hk no
  obtain ⟨k, rfl⟩ : ∃ m, k = m + 1 + 1 := ⟨k - 2, by omega⟩
  simp only [spec_NearFind.l0, spec_NearFind.j1]
  rw [if_neg (by omega), if_neg (by decide)]
 | succ d ih =>
  intro i k hi hk no
  obtain ⟨k, rfl⟩ : ∃ m, k = m + 1 + 1 := ⟨k - 2, by omega⟩
  have e1 : wrap64 ((i : Int) + 1) = ((i + 1 : Nat) : Int) := by rw [w64 (by omega) (by omega)]; rfl
  simp only [spec_NearFind.l0]
  rw [if_pos (by omega), specNearOk_small ok (by omega)]
  simp only [Option.bind_some, spec_NearFind.j1, if_true, e1]
  rw [if_pos (by omega), if_pos (by omega), if_neg (no i (Nat.le_refl _) (by omega))]
  exact ih (i + 1) k (by omega) (by omega) (fun j h1 h2 => no j (by omega) h2)
/-- At m stands the address, and nowhere else. -/
theorem specFind_some (a t : Int) (l : List S99) (h : List S101) (ok : nearR l h 0) (m : Nat) (hm : m < l.length) (ha : (rd_T99 l (m : Int)).f0 = a) (ahead : ∀ j : Nat, j < m → (rd_T99 l (j : Int)).f0 ≠ a) : ∀ (d i k : Nat), i + d = m → 2 * d + 70 ≤ k →
  spec_NearFind.l0 k a t (i : Int) l h = some (if (rd_T99 l (m : Int)).f2 > t then (rd_T99 l (m : Int)).f1 else -1) := by
 have hl := ok.2.1
 intro d
 induction d with
 | zero =>
  intro i k hi hk
  obtain rfl : i = m := by omega
  obtain ⟨k, rfl⟩ : ∃ m, k = m + 1 + 1 := ⟨k - 2, by omega⟩
  have e1 : wrap64 ((i : Int) + 1) = ((i + 1 : Nat) : Int) := by rw [w64 (by omega) (by omega)]; rfl
  simp only [spec_NearFind.l0]
  rw [if_pos (by omega), specNearOk_small ok (by omega)]
  simp only [Option.bind_some, spec_NearFind.j1, if_true, e1]
  rw [if_pos (by omega), if_pos (by omega), if_pos ha]
  by_cases c : (rd_T99 l (i : Int)).f2 > t
  ·rw [if_pos c, if_pos c]
  ·rw [if_neg c, if_neg c]
   exact specFind_none a t l h ok (l.length - (i + 1)) (i + 1) k (by omega) (by omega) (fun j h1 h2 e => (ok.1 j (Nat.zero_le _) h2).2 i (by omega) (ha.trans e.symm))
 | succ d ih =>
  intro i k hi hk
  obtain ⟨k, rfl⟩ : ∃ m, k = m + 1 + 1 := ⟨k - 2, by omega⟩
  have e1 : wrap64 ((i : Int) + 1) = ((i + 1 : Nat) : Int) := by rw [w64 (by omega) (by omega)]; rfl
  simp only [spec_NearFind.l0]
  rw [if_pos (by omega), specNearOk_small ok (by omega)]
  simp only [Option.bind_some, spec_NearFind.j1, if_true, e1]
  rw [if_pos (by omega), if_pos (by omega), if_neg (ahead i (by omega))]
  exact ih (i + 1) k (by omega) (by omega)
theorem specFind_bad (a t : Int) (l : List S99) (h : List S101) (hl : l.length ≤ 1048576) (hh : h.length ≤ 1048576) (no : ¬ nearR l h 0) (k : Nat) (hk : l.length * (l.length + 3) + h.length + 3 < k) : spec_NearFind.f k l h a t = some (-1) := by
 unfold spec_NearFind.f
 obtain ⟨k, rfl⟩ : ∃ m, k = m + 1 + 1 := ⟨k - 2, by omega⟩
 obtain ⟨r, e, q⟩ := specNearOk_eq l h hl hh (k + 1) (by omega)
 obtain rfl : r = false := by cases r with
  | false => rfl
  | true => exact absurd (q.mp rfl) no
 simp only [spec_NearFind.l0, e, Option.bind_some, spec_NearFind.j1, Bool.false_eq_true, if_false]
 split <;> rfl
/-- The two finds come to the same. -/
theorem nearFind_eq (a t : Int) (l : List S99) (h : List S101) (hl : l.length ≤ 1048576) (hh : h.length ≤ 1048576) (k : Nat) (hk : l.length * (l.length + 3) + l.length + h.length + 100 < k) : ∃ r, impl_NearFind.f k l h a t = some r ∧ spec_NearFind.f k l h a t = some r := by
 obtain ⟨r, e, q⟩ := implNearOk_eq l h hl hh k (by omega)
 unfold impl_NearFind.f
 rw [e]
 simp only [Option.bind_some]
 by_cases ok : nearR l h 0
 ·rw [q.mpr ok, if_pos rfl]
  have h4 := ok.2.1
  unfold impl_Near_find.f impl_Near_at.f
  rw [if_pos (by omega)]
  simp only [Option.bind_some]
  cases hf : l.findIdx? (fun x => x.f0 == a) with
  | none =>
   have e2 : nearIdx (fun x => x.f0 == a) l = -1 := by unfold nearIdx; rw [hf]
   rw [e2, if_neg (by decide)]
   refine ⟨-1, rfl, ?_⟩
   unfold spec_NearFind.f
   refine specFind_none a t l h ok l.length 0 k (by omega) (by omega) (fun j _ h2 => ?_)
   rw [List.findIdx?_eq_none_iff] at hf
   have := hf _ (List.getElem_mem h2)
   rw [nearRd l j h2]
   simpa using this
  | some m =>
   have e2 : nearIdx (fun x => x.f0 == a) l = (m : Int) := by unfold nearIdx; rw [hf]
   obtain ⟨hm, hp, hn⟩ := List.findIdx?_eq_some_iff_getElem.1 hf
   rw [e2, if_pos (by omega), if_pos (by omega), if_pos (by omega)]
   have z := specFind_some a t l h ok m hm (by rw [nearRd l m hm]; simpa using hp) (fun j hj => by rw [nearRd l j (by omega)]; have := hn j hj; simpa using this) m 0 k (by omega) (by omega)
   refine ⟨_, ?_, z⟩
   by_cases c : (rd_T99 l (m : Int)).f2 > t
   ·rw [if_pos c, if_pos c]; rfl
   ·rw [if_neg c, if_neg c]; rfl
 ·obtain rfl : r = false := by cases r with
   | false => rfl
   | true => exact absurd (q.mp rfl) ok
  rw [if_neg (by decide)]
  exact ⟨-1, rfl, specFind_bad a t l h hl hh ok k (by omega)⟩

theorem FnExactNearFind (l0_0 : (List S135)) (l0_1 : (List S133)) (a1 : Int) (a2 : Int) (g0_0 : (l0_0.length ≤ maxLen ∧ ∀ x ∈ l0_0, ArgFnExactNearFind.G135 x)) (g0_1 : (l0_1.length ≤ maxLen ∧ ∀ x ∈ l0_1, ArgFnExactNearFind.G133 x)) (w1 : (Lit.int .i64 a1).wf = true) (w2 : (Lit.int .i64 a2).wf = true) : ∃ k, laws_FnExactNearFind.f k l0_0 l0_1 a1 a2 = some true := by
 have hm : l0_0.length ≤ 9223372036854775807 := g0_0.1
 have hm1 : l0_1.length ≤ 9223372036854775807 := g0_1.1
 have hg : ∀ x ∈ l0_1, x.f1.length ≤ 9223372036854775807 := fun x hx => by
  have h := g0_1.2 x hx
  unfold ArgFnExactNearFind.G133 at h
  simp only [maxLen] at h
  omega
 obtain ⟨K, hK⟩ : ∃ K : Nat, K = l0_0.length * (l0_0.length + 3) + l0_0.length + l0_1.length + 2097260 := ⟨_, rfl⟩
 refine ⟨K, ?_⟩
 obtain ⟨r, e, hr⟩ := szNear_eq l0_0 l0_1 hm hm1 hg K (by omega)
 unfold laws_FnExactNearFind.f
 rw [e]
 simp only [Option.bind_some]
 rcases hr with h | ⟨h, hn, hn1, hs⟩
 ·rw [if_pos h]
 ·rw [if_neg (by omega)]
  have hl : (l0_0.map asEnt).length = l0_0.length := List.length_map ..
  have hl1 : (l0_1.map asHeld).length = l0_1.length := List.length_map ..
  have hS : ∀ y ∈ l0_1.map asHeld, y.f1.length ≤ 1048576 := fun y hy => by
   obtain ⟨z, hz, rfl⟩ := List.mem_map.1 hy
   exact hs z hz
  obtain ⟨r1, e1, e2⟩ := nearFind_eq a1 a2 (l0_0.map asEnt) (l0_1.map asHeld) (by omega) (by omega) K (by rw [hl, hl1]; omega)
  simp only [toNear_eq l0_0 l0_1 hn hn1 hs K (by omega), e1, e2, eqNear_self (l0_0.map asEnt) (l0_1.map asHeld) (by omega) (by omega) hS K (by omega), Option.bind_some, if_true]

end Go.Proofs.Ytdplboenlcppkaa.Pure

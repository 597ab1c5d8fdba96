/- Plain lemmas on numbers, lists and rounds that the pure statements of this seat share. No program, no condition. -/
import Derived.Test.YtdbmmkhaeghjaaaUFnPartsOkMore
import Derived.Test.YtdbmmkhaeghjaaaUFnPartsOkWords
import Derived.Laws.BitsLemmas
namespace Go.Proofs.Ytdbmmkhaeghjaaa.Base
open Go Go.RowKit Go.Proofs.YtdbmmkhaeghjaaaUFnPartsOk.PrintWords Go.Proofs.YtdbmmkhaeghjaaaUFnPartsOk.PrintLast Go.Proofs.YtdbmmkhaeghjaaaUFnPartsOk.PrintMore

theorem w64 {x : Int} (h0 : -9223372036854775808 ≤ x) (h1 : x < 9223372036854775808) : wrap64 x = x := by unfold wrap64; omega
theorem wfi {x : Int} : (Lit.int .i64 x).wf = true ↔ (-9223372036854775808 ≤ x ∧ x < 9223372036854775808) := by
  simp only [Lit.wf, IntKind.min, IntKind.max, IntKind.signed, IntKind.bits, Bool.and_eq_true, decide_eq_true_eq, if_true]
  omega
theorem wfb {x : Int} : (Lit.int .u8 x).wf = true ↔ (0 ≤ x ∧ x < 256) := by
  simp [Lit.wf, IntKind.min, IntKind.max, IntKind.signed, IntKind.bits, Bool.and_eq_true, decide_eq_true_eq]
  omega
/-- All are bytes. -/
def Bytes (l : List Int) : Prop := ∀ x ∈ l, 0 ≤ x ∧ x < 256
theorem Bytes.of_wf {l : List Int} (h : ∀ x ∈ l, (Lit.int .u8 x).wf = true) : Bytes l := fun x hx => wfb.mp (h x hx)
theorem Bytes.at_ {l : List Int} (h : Bytes l) (i : Int) : 0 ≤ rd l i ∧ rd l i < 256 := by
  unfold rd
  by_cases hi : i.toNat < l.length
  · rw [List.getD_eq_getElem?_getD, List.getElem?_eq_getElem hi]; exact h _ (List.getElem_mem hi)
  · rw [List.getD_eq_getElem?_getD, List.getElem?_eq_none (by omega)]; exact ⟨by decide, by decide⟩
theorem Bytes.take {l : List Int} (h : Bytes l) (n : Nat) : Bytes (l.take n) := fun x hx => h x (List.mem_of_mem_take hx)
theorem Bytes.drop {l : List Int} (h : Bytes l) (n : Nat) : Bytes (l.drop n) := fun x hx => h x (List.mem_of_mem_drop hx)
theorem Bytes.append {l m : List Int} (h : Bytes l) (h' : Bytes m) : Bytes (l ++ m) := fun x hx => (List.mem_append.mp hx).elim (h x) (h' x)
theorem Bytes.nil : Bytes [] := fun x hx => by cases hx
theorem Bytes.cons {a : Int} {l : List Int} (ha : 0 ≤ a ∧ a < 256) (h : Bytes l) : Bytes (a :: l) := fun x hx => by
  cases hx with
  | head => exact ha
  | tail _ hx => exact h x hx
theorem Bytes.set {l : List Int} (h : Bytes l) (i : Nat) {a : Int} (ha : 0 ≤ a ∧ a < 256) : Bytes (l.set i a) := fun x hx => by
  rcases List.mem_or_eq_of_mem_set hx with hx | rfl
  · exact h x hx
  · exact ha
theorem Bytes.mod (x : Int) : 0 ≤ x % 256 ∧ x % 256 < 256 := by omega

theorem rd_nat (l : List Int) (i : Nat) (h : i < l.length) : rd l (i : Int) = l[i] := by
  unfold rd; simp [List.getD_eq_getElem?_getD, List.getElem?_eq_getElem h]
theorem rd_set_ne (l : List Int) (i j : Nat) (a : Int) (h : i ≠ j) : rd (l.set i a) (j : Int) = rd l (j : Int) := by
  unfold rd; simp [List.getD_eq_getElem?_getD, List.getElem?_set_ne h]
theorem rd_set_eq (l : List Int) (i : Nat) (a : Int) (h : i < l.length) : rd (l.set i a) (i : Int) = a := by
  unfold rd; simp [List.getD_eq_getElem?_getD, h]
theorem take_succ_rd (l : List Int) (i : Nat) (h : i < l.length) : l.take (i + 1) = l.take i ++ [rd l (i : Int)] := by
  rw [List.take_succ_eq_append_getElem h, rd_nat l i h]
theorem drop_rd (l : List Int) (i : Nat) (h : i < l.length) : l.drop i = rd l (i : Int) :: l.drop (i + 1) := by
  rw [List.drop_eq_getElem_cons h, rd_nat l i h]
/-- Storing at i what a list has there. -/
theorem set_take (l o : List Int) (i : Nat) (h : i < l.length) (hl : o.length = l.length) (ho : o.take i = l.take i) : (o.set i (rd l (i : Int))).take (i + 1) = l.take (i + 1) := by
  rw [take_succ_rd l i h, take_succ_rd _ i (by simp; omega), rd_set_eq _ _ _ (by omega), List.take_set_of_le (by omega), ho]
theorem eq_of_rd {a b : List Int} (hl : a.length = b.length) (h : ∀ i : Nat, i < a.length → rd a (i : Int) = rd b (i : Int)) : a = b := by
  apply List.ext_getElem hl
  intro i h1 h2
  have := h i h1
  rwa [rd_nat a i h1, rd_nat b i h2] at this
theorem or_byte {x y : Int} (hx0 : 0 ≤ x) (hx1 : x < 2 ^ 55) (hy0 : 0 ≤ y) (hy1 : y < 256) : Go.bits .or .i64 (x * 256) y = x * 256 + y := by
  have hx1' : x < 36028797018963968 := hx1
  refine bits_join .i64 63 (by decide) ?_ 8 (x * 256) y (by omega) (by omega) ?_ hy0 (by simpa using hy1) ?_
  · intro n h0 h1
    have h1' : n < 9223372036854775808 := h1
    rw [IntKind.wrap_i64]; omega
  · show x * 256 < 9223372036854775808
    omega
  · show y < 9223372036854775808
    omega

/-- A number as n bytes, the greatest one first. -/
def be : Nat → Int → List Int
  | 0, _ => []
  | n + 1, v => be n (v / 256) ++ [v % 256]
/-- The number of bytes, the greatest one first. -/
def num (l : List Int) : Int := l.foldl (fun v c => v * 256 + c) 0
theorem be_length (n : Nat) (v : Int) : (be n v).length = n := by
  induction n generalizing v with
  | zero => rfl
  | succ n ih => simp [be, ih]
theorem be_bytes (n : Nat) (v : Int) : Bytes (be n v) := by
  induction n generalizing v with
  | zero => exact Bytes.nil
  | succ n ih => exact (ih _).append (Bytes.cons (Bytes.mod v) Bytes.nil)
theorem num_append (l : List Int) (c : Int) : num (l ++ [c]) = num l * 256 + c := by unfold num; simp
theorem num_be (n : Nat) (v : Int) (h0 : 0 ≤ v) (h1 : v < 256 ^ n) : num (be n v) = v := by
  induction n generalizing v with
  | zero => simp at h1; simp [be, num]; omega
  | succ n ih =>
    have h2 : (256 : Int) ^ (n + 1) = 256 ^ n * 256 := Int.pow_succ _ _
    rw [be, num_append, ih (v / 256) (by omega) (by omega)]; omega
theorem num_range (l : List Int) (h : Bytes l) : 0 ≤ num l ∧ num l < 256 ^ l.length := by
  rw [← List.reverse_reverse l] at h ⊢
  generalize l.reverse = m at h ⊢
  induction m with
  | nil => exact ⟨by decide, by decide⟩
  | cons c m ih =>
    rw [List.reverse_cons] at h ⊢
    have hm := ih (fun x hx => h x (List.mem_append_left _ hx))
    have hc := h c (by simp)
    rw [num_append, List.length_append]
    have h2 : (256 : Int) ^ (m.reverse.length + [c].length) = 256 ^ m.reverse.length * 256 := Int.pow_succ _ _
    omega
theorem be_num (l : List Int) (h : Bytes l) : be l.length (num l) = l := by
  rw [← List.reverse_reverse l] at h ⊢
  generalize l.reverse = m at h ⊢
  induction m with
  | nil => rfl
  | cons c m ih =>
    rw [List.reverse_cons] at h ⊢
    have hm := ih (fun x hx => h x (List.mem_append_left _ hx))
    have hc := h c (by simp)
    rw [num_append, List.length_append]
    show be (m.reverse.length + 1) (num m.reverse * 256 + c) = m.reverse ++ [c]
    have e1 : (num m.reverse * 256 + c) / 256 = num m.reverse := by omega
    have e2 : (num m.reverse * 256 + c) % 256 = c := by omega
    rw [be, e1, e2, hm]
/-- n consecutive numbers from a on, as bytes. -/
def marks (a : Int) : Nat → List Int
  | 0 => []
  | n + 1 => a % 256 :: marks (a + 1) n
theorem marks_length (a : Int) (n : Nat) : (marks a n).length = n := by
  induction n generalizing a with
  | zero => rfl
  | succ n ih => simp [marks, ih]
theorem marks_rd (a : Int) (n i : Nat) (h : i < n) : rd (marks a n) (i : Int) = (a + i) % 256 := by
  induction n generalizing a i with
  | zero => omega
  | succ n ih =>
    cases i with
    | zero => rw [rd_nat _ 0 (by rw [marks_length]; omega)]; simp [marks]
    | succ i =>
      rw [rd_nat _ (i + 1) (by rw [marks_length]; omega)]
      have := ih (a + 1) i (by omega)
      rw [rd_nat _ i (by rw [marks_length]; omega)] at this
      simp only [marks, List.getElem_cons_succ]; rw [this]; congr 1; omega
theorem decide_eq {p q : Prop} [Decidable p] [Decidable q] (h : p ↔ q) : decide p = decide q := by
  by_cases hp : p
  · rw [decide_eq_true hp, decide_eq_true (h.mp hp)]
  · rw [decide_eq_false hp, decide_eq_false (fun hq => hp (h.mpr hq))]
theorem xor_i64 (a b : Nat) (ha : a < 1099511627776) (hb : b < 1099511627776) : Go.bits .xor .i64 (a : Int) (b : Int) = ((a ^^^ b : Nat) : Int) ∧ a ^^^ b < 1099511627776 := by
  have hx : a ^^^ b < 2 ^ 40 := Nat.xor_lt_two_pow (by omega) (by omega)
  have hx' : a ^^^ b < 1099511627776 := hx
  have ha' : a % 2 ^ IntKind.i64.bits = a := Nat.mod_eq_of_lt (by simp [IntKind.bits]; omega)
  have hb' : b % 2 ^ IntKind.i64.bits = b := Nat.mod_eq_of_lt (by simp [IntKind.bits]; omega)
  refine ⟨?_, hx'⟩
  simp only [Go.bits, BitVec.ofInt_natCast, BitVec.toNat_xor, BitVec.toNat_ofNat, ha', hb']
  rw [IntKind.wrap_i64]; omega
end Go.Proofs.Ytdbmmkhaeghjaaa.Base

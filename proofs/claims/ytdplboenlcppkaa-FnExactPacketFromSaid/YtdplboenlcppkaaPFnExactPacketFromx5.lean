/- The machine side of some functions: each comes to its pure answer (written by a program of this session with the kit's print). No condition. -/
import Derived.Test.YtdplboenlcppkaaPFnExactPacketFromx0
import Derived.Test.YtdplboenlcppkaaPFnExactPacketFromx4
namespace Go.Proofs.Ytdplboenlcppkaa.PFnExactPacketFrom
open Go.RowKit Go.Proofs.YtdplboenlcppkaaUFnExactPacketFrom.PrintWords Go.Proofs.YtdplboenlcppkaaUFnExactPacketFrom.PrintLast Go.Proofs.YtdplboenlcppkaaUFnExactPacketFrom.PrintMore
attribute [local go_sem] max2_int min2_int max_two min_two max_three min_three max_four min_four   -- for this text's walks alone
set_option linter.unusedVariables false
set_option linter.unusedSimpArgs false

/-! ### impl_NumberAt: function 98 -/
mutual
def impl_NumberAt.j0 : Nat → List Int → Int → Int → Bool → Option (Int)
 | 0, _, _, _, _ => none
 | k + 1, x0, x1, x2, x24 => if x24 = true then (some (-1)) else (if 0 ≤ x1 then (if x1 ≤ (wrap64 (x1 + x2)) then (if (wrap64 (x1 + x2)) ≤ (x0.length : Int) then (impl_NumberAt.l0 k 0 ((x0.take ((wrap64 (x1 + x2)) : Int).toNat).drop (x1 : Int).toNat) (((x0.take ((wrap64 (x1 + x2)) : Int).toNat).drop (x1 : Int).toNat).length : Int) 0) else (none)) else (none)) else (none))
def impl_NumberAt.l0 : Nat → Int → List Int → Int → Int → Option (Int)
 | 0, _, _, _, _ => none
 | k + 1, x7, x30, x31, x32 => if x32 < x31 then (if 0 ≤ x32 then (if x32 < (x30.length : Int) then (impl_NumberAt.l0 k (Go.bits .or .i64 (wrap64 (x7 * 256)) (wrap64 (rd x30 x32))) x30 x31 (wrap64 (x32 + 1))) else (none)) else (none)) else (some x7)
end
def impl_NumberAt.f (k : Nat) (l0 : List Int) (a1 : Int) (a2 : Int) : Option (Int) := (impl_in.f a2 1 4).bind fun t160 => (if t160 = true then (if a1 < 0 then (impl_NumberAt.j0 k l0 a1 a2 true) else (impl_NumberAt.j0 k l0 a1 a2 (decide (a1 > (wrap64 ((l0.length : Int) - a2)))))) else (impl_NumberAt.j0 k l0 a1 a2 true))
theorem impl_NumberAt.mono_l : ∀ k, (∀ y0 y1 y2 y3, LeO (impl_NumberAt.j0 k y0 y1 y2 y3) (impl_NumberAt.j0 (k + 1) y0 y1 y2 y3)) ∧ (∀ y0 y1 y2 y3, LeO (impl_NumberAt.l0 k y0 y1 y2 y3) (impl_NumberAt.l0 (k + 1) y0 y1 y2 y3))
 | 0 => ⟨fun _ _ _ _ r h => by simp [impl_NumberAt.j0] at h, fun _ _ _ _ r h => by simp [impl_NumberAt.l0] at h⟩
 | k + 1 => by
  obtain ⟨ih0, ih1⟩ := impl_NumberAt.mono_l k;refine ⟨?_, ?_⟩
  ·intro y0 y1 y2 y3
   unfold impl_NumberAt.j0
   repeat' first
   | (with_reducible exact ih0 _ _ _ _)
   | (with_reducible exact ih1 _ _ _ _)
   | (with_reducible exact LeO.refl _)
   | (with_reducible exact LeO.none _)
   | (with_reducible refine LeO.ite ?_ ?_)
   | (with_reducible refine LeO.bind ?_ (fun _ => ?_))
   | exact ih0 _ _ _ _
   | exact ih1 _ _ _ _
   | exact LeO.none _
   | refine LeO.ite ?_ ?_
   | refine LeO.bind ?_ (fun _ => ?_)
  ·intro y0 y1 y2 y3
   unfold impl_NumberAt.l0
   repeat' first
   | (with_reducible exact ih0 _ _ _ _)
   | (with_reducible exact ih1 _ _ _ _)
   | (with_reducible exact LeO.refl _)
   | (with_reducible exact LeO.none _)
   | (with_reducible refine LeO.ite ?_ ?_)
   | (with_reducible refine LeO.bind ?_ (fun _ => ?_))
   | exact ih0 _ _ _ _
   | exact ih1 _ _ _ _
   | exact LeO.none _
   | refine LeO.ite ?_ ?_
   | refine LeO.bind ?_ (fun _ => ?_)
theorem impl_NumberAt.mono : ∀ a0 a1 a2 k, LeO (impl_NumberAt.f k a0 a1 a2) (impl_NumberAt.f (k + 1) a0 a1 a2) := by
 intro a0 a1 a2 k;obtain ⟨ih0, ih1⟩ := impl_NumberAt.mono_l k
 unfold impl_NumberAt.f
 repeat' first
   | (with_reducible exact ih0 _ _ _ _)
   | (with_reducible exact ih1 _ _ _ _)
   | (with_reducible exact LeO.refl _)
   | (with_reducible exact LeO.none _)
   | (with_reducible refine LeO.ite ?_ ?_)
   | (with_reducible refine LeO.bind ?_ (fun _ => ?_))
   | exact ih0 _ _ _ _
   | exact ih1 _ _ _ _
   | exact LeO.none _
   | refine LeO.ite ?_ ?_
   | refine LeO.bind ?_ (fun _ => ?_)
set_option maxHeartbeats 8000000 in
set_option maxRecDepth 100000 in
theorem impl_NumberAt.calls (k : Nat) (A0 : Option Addr) (c0 : Nat) (l0 : List Int) (a1 : Int) (a2 : Int) (r : Int) (w : World) (hr0 : Kd.C (Kd.int .u8) w A0 l0.length l0) (hc0 : l0.length ≤ c0) (h : impl_NumberAt.f k l0 a1 a2 = some r) :
  Calls Try.prog 98 #[.slice A0 l0.length c0, .int .i64 a1, .int .i64 a2] w fun e w' => e = .returned (.int .i64 r) ∧ Drawn0 w w' := by
 have HR0 := Aside0.mk hr0;have HC0 := Aside0.mk hc0;clear hr0 hc0;have H : ((impl_in.f a2 1 4).bind fun t160 => (if t160 = true then (if a1 < 0 then (impl_NumberAt.j0 k l0 a1 a2 true) else (impl_NumberAt.j0 k l0 a1 a2 (decide (a1 > (wrap64 ((l0.length : Int) - a2)))))) else (impl_NumberAt.j0 k l0 a1 a2 true))) = some r := h;clear h;have HC4 := Aside0.mk H;clear H
 go_enter Try.func98, Try.ntmps98
 go_upto_region 1 with (fail)
 go_cut [24] (fun v24 wc => ∃ (kq : Nat) (x24_3 : Bool), v24 = .bool x24_3 ∧ Aside0 (impl_NumberAt.j0 kq l0 a1 a2 x24_3 = some r) ∧ Aside0 (kq ≤ k) ∧ Drawn0 w wc)
 case first =>
  have H := HC4.out;clear HC4;replace H := Option.bind_eq_some_iff.mp H;obtain ⟨t160, A50, H⟩ := H;replace H : (if t160 = true then (if a1 < 0 then (impl_NumberAt.j0 k l0 a1 a2 true) else (impl_NumberAt.j0 k l0 a1 a2 (decide (a1 > (wrap64 ((l0.length : Int) - a2)))))) else (impl_NumberAt.j0 k l0 a1 a2 true)) = some r := H;have A5 := Aside0.mk A50;clear A50
  by_cases c6 : t160 = true
  ·subst c6
   have H1 : (if a1 < 0 then (impl_NumberAt.j0 k l0 a1 a2 true) else (impl_NumberAt.j0 k l0 a1 a2 (decide (a1 > (wrap64 ((l0.length : Int) - a2)))))) = some r := by rw [if_pos rfl] at H; exact H
   clear H;have H := H1;clear H1
   by_cases c7 : a1 < 0
   ·rw [if_pos c7] at H
    have c7b0 : decide (a1 < 0) = true := decide_eq_true c7;clear c7
    (first | rw [c7b0] | (simp only [i64_w, i32_w]; rw [c7b0]) | skip)
    have H' := Aside0.mk H;clear H
    go_wp2_with (first | ((with_reducible refine gate_callee (f := 64) rfl ?_); refine goesL_ (some 11) rfl rfl Try.func64 (by kernel_rfl) rfl #[.int .i64 a2, .int .i64 1, .int .i64 4] rfl (by (try simp only [List.map_toArray, List.map_cons, List.map_nil]); first | done | rfl | (simp only [List.length_drop, List.length_take]; rfl)) ?_; (with_reducible refine (impl_in.calls a2 1 4 true _ A5.out).mono ?_); rintro e w' ⟨rfl, ⟨nd, rfl⟩⟩; refine ⟨_, rfl, ?_⟩))
    go_meet
    case rel => exact ⟨_, (true), (by first | rfl | (simp; done) | (simp [*]; done)), H', ⟨by first | omega | exact Nat.le_refl _⟩, by repeat (first | exact Drawn0.refl _ | apply Drawn0.step)⟩
   ·rw [if_neg c7] at H
    have c7b0 : decide (a1 < 0) = false := decide_eq_false c7;clear c7
    (first | rw [c7b0] | (simp only [i64_w, i32_w]; rw [c7b0]) | skip)
    have H' := Aside0.mk H;clear H
    go_wp2_with (first | ((with_reducible refine gate_callee (f := 64) rfl ?_); refine goesL_ (some 11) rfl rfl Try.func64 (by kernel_rfl) rfl #[.int .i64 a2, .int .i64 1, .int .i64 4] rfl (by (try simp only [List.map_toArray, List.map_cons, List.map_nil]); first | done | rfl | (simp only [List.length_drop, List.length_take]; rfl)) ?_; (with_reducible refine (impl_in.calls a2 1 4 true _ A5.out).mono ?_); rintro e w' ⟨rfl, ⟨nd, rfl⟩⟩; refine ⟨_, rfl, ?_⟩))
    go_meet
    case rel => exact ⟨_, (decide (a1 > (wrap64 ((l0.length : Int) - a2)))), (by first | rfl | (simp; done) | (simp [*]; done)), H', ⟨by first | omega | exact Nat.le_refl _⟩, by repeat (first | exact Drawn0.refl _ | apply Drawn0.step)⟩
  ·replace c6 := Bool.eq_false_iff.mpr c6
   subst c6
   have H1 : (impl_NumberAt.j0 k l0 a1 a2 true) = some r := by rw [if_neg (show ¬ (false = true) by decide)] at H; exact H
   clear H;have H := H1;clear H1;have H' := Aside0.mk H;clear H
   go_wp2_with (first | ((with_reducible refine gate_callee (f := 64) rfl ?_); refine goesL_ (some 11) rfl rfl Try.func64 (by kernel_rfl) rfl #[.int .i64 a2, .int .i64 1, .int .i64 4] rfl (by (try simp only [List.map_toArray, List.map_cons, List.map_nil]); first | done | rfl | (simp only [List.length_drop, List.length_take]; rfl)) ?_; (with_reducible refine (impl_in.calls a2 1 4 false _ A5.out).mono ?_); rintro e w' ⟨rfl, ⟨nd, rfl⟩⟩; refine ⟨_, rfl, ?_⟩))
   go_meet
   case rel => exact ⟨_, (true), (by first | rfl | (simp; done) | (simp [*]; done)), H', ⟨by first | omega | exact Nat.le_refl _⟩, by repeat (first | exact Drawn0.refl _ | apply Drawn0.step)⟩
 case rest =>
  clear HC4
  try clear p2
  try clear c6
  try clear p6
  try clear c7
  try clear c7b0
  obtain ⟨kq, x24_3, rfl, HA, HJ3, ⟨mc3, rfl⟩⟩ := hcut
  cases kq with
  | zero => exact absurd HA.out (by simp [impl_NumberAt.j0])
  | succ kj3 =>
   have H := HA.out;clear HA;simp only [impl_NumberAt.j0] at H
   by_cases c8 : x24_3 = true
   ·subst c8
    have H1 : (some (-1)) = some r := by rw [if_pos rfl] at H; exact H
    clear H;have H := H1;clear H1;obtain rfl := Option.some.inj H
    go_wp2
    go_ret;exact ⟨by first | rfl | (simp; done) | (simp [*]; done), by repeat (first | exact Drawn0.refl _ | apply Drawn0.step)⟩
   ·replace c8 := Bool.eq_false_iff.mpr c8
    subst c8
    have H1 : (if 0 ≤ a1 then (if a1 ≤ (wrap64 (a1 + a2)) then (if (wrap64 (a1 + a2)) ≤ (l0.length : Int) then (impl_NumberAt.l0 kj3 0 ((l0.take ((wrap64 (a1 + a2)) : Int).toNat).drop (a1 : Int).toNat) (((l0.take ((wrap64 (a1 + a2)) : Int).toNat).drop (a1 : Int).toNat).length : Int) 0) else (none)) else (none)) else (none)) = some r := by rw [if_neg (show ¬ (false = true) by decide)] at H; exact H
    clear H;have H := H1;clear H1
    by_cases c9 : 0 ≤ a1
    ·rw [if_pos c9] at H
     have c9b0 := eq_true c9;have c9b1 : decide (0 ≤ a1) = true := decide_eq_true c9;clear c9
     by_cases c10 : a1 ≤ (wrap64 (a1 + a2))
     ·rw [if_pos c10] at H
      have c10b0 := eq_true c10;have c10b1 : decide (a1 ≤ (wrap64 (a1 + a2))) = true := decide_eq_true c10
      by_cases c11 : (wrap64 (a1 + a2)) ≤ (l0.length : Int)
      ·rw [if_pos c11] at H
       have c11b0 := eq_true c11;have c11b1 : decide ((wrap64 (a1 + a2)) ≤ (l0.length : Int)) = true := decide_eq_true c11;have H' := Aside0.mk H;clear H;obtain ⟨i012, hi012, _, hsz12, _⟩ := info_parts info5;obtain ⟨A12, hcut12, hA12, hC12⟩ := print_mid_of (P := Try.prog) (Value.int .u8) 0 46 5 .i64 .i64 Try.underlying46 hi012 hsz12 A0 c0 l0 a1 (wrap64 (a1 + a2)) (of_decide_eq_true (by first | (with_reducible assumption) | assumption)) (by first | omega | exact of_decide_eq_true (by first | (with_reducible assumption) | assumption)) (of_decide_eq_true (by first | (with_reducible assumption) | assumption)) HC0.out;have HR161 := Aside0.mk (Kd.C_of_reads (h1 := fun _ => rfl) (hA12 _ (Kd.reads_of_C HR0.out)));have HC161 := Aside0.mk hC12;clear hA12 hC12 hi012 hsz12;obtain ⟨sl7, hsl7⟩ : ∃ sl7, (l0.take ((wrap64 (a1 + a2)) : Int).toNat).drop (a1 : Int).toNat = sl7 := ⟨_, rfl⟩;simp only [hsl7] at H' HR161 HC161 hcut12;clear hsl7
       go_wp2
       go_loopg [7, 32] kj3 (fun kq v7 v32 w' => ∃ (x7_2 : Int) (x32_2 : Int), v7 = .int .i64 x7_2 ∧ v32 = .int .i64 x32_2 ∧ Aside0 (impl_NumberAt.l0 kq x7_2 sl7 (sl7.length : Int) x32_2 = some r) ∧ Aside0 (kq ≤ kj3) ∧ Drawn0 w w')
       case atStart => exact ⟨(0), (0), (by first | rfl | (simp; done) | (simp [*]; done)), (by first | rfl | (simp; done) | (simp [*]; done)), H', ⟨Nat.le_refl _⟩, by repeat (first | exact Drawn0.refl _ | apply Drawn0.step)⟩
       case round =>
        clear H'
        try clear c1
        try clear p2
        try clear c3
        try clear c6
        try clear p6
        try clear c7
        try clear c7b0
        try clear c8
        try clear c9
        try clear c9b0
        try clear c9b1
        try clear c10
        try clear c10b0
        try clear c10b1
        try clear c11
        try clear c11b0
        try clear c11b1
        try clear p2
        try clear p6
        obtain ⟨x7_2, x32_2, rfl, rfl, HA, HK2, ⟨m2, rfl⟩⟩ := hrel
        cases gk with
        | zero => exact absurd HA.out (by simp [impl_NumberAt.l0])
        | succ k2 =>
         have H := HA.out;clear HA;simp only [impl_NumberAt.l0] at H
         by_cases c13 : x32_2 < (sl7.length : Int)
         ·rw [if_pos c13] at H
          have c13b0 : decide (x32_2 < (sl7.length : Int)) = true := decide_eq_true c13;clear c13
          by_cases c14 : 0 ≤ x32_2
          ·rw [if_pos c14] at H
           have c14b0 : decide (0 ≤ x32_2) = true := decide_eq_true c14;clear c14
           by_cases c15 : x32_2 < (sl7.length : Int)
           ·rw [if_pos c15] at H
            have c15b0 : decide (x32_2 < (sl7.length : Int)) = true := decide_eq_true c15;clear c15;have H' := Aside0.mk H;clear H;have p162 : 0 ≤ (x32_2 : Int) := of_decide_eq_true (by first | (with_reducible assumption) | assumption);have q162 : x32_2 < (sl7.length : Int) := of_decide_eq_true (by first | (with_reducible assumption) | assumption);obtain ⟨ad162, e162, hx162_0⟩ := Kd.at_int HR161.out x32_2 p162 q162
            cases e162
            replace p162 := eq_true p162;replace q162 := eq_true q162
            go_wp2
            go_roundg k2
            case measure => have := HJ3.out; have := HK2.out; omega
            case rel => exact ⟨(Go.bits .or .i64 (wrap64 (x7_2 * 256)) (wrap64 (rd sl7 x32_2))), (wrap64 (x32_2 + 1)), (by first | rfl | (simp; done) | (simp [*]; done)), (by first | rfl | (simp; done) | (simp [*]; done)), H', ⟨by have := HJ3.out; have := HK2.out; omega⟩, by repeat (first | exact Drawn0.refl _ | apply Drawn0.step)⟩
           ·rw [if_neg c15] at H
            exact absurd H (by simp)
          ·rw [if_neg c14] at H
           exact absurd H (by simp)
         ·rw [if_neg c13] at H
          have c13b0 : decide (x32_2 < (sl7.length : Int)) = false := decide_eq_false c13;clear c13;obtain rfl := Option.some.inj H
          go_wp2
          go_ret;exact ⟨by first | rfl | (simp; done) | (simp [*]; done), by repeat (first | exact Drawn0.refl _ | apply Drawn0.step)⟩
      ·rw [if_neg c11] at H
       exact absurd H (by simp)
     ·rw [if_neg c10] at H
      exact absurd H (by simp)
    ·rw [if_neg c9] at H
     exact absurd H (by simp)

-- NOT PRINTED: function 134 (slices_Clip_byte_byte)

/-! ### impl_clone_byte: function 99 -/
theorem clip_bytes (A : Option Addr) (n c : Nat) (w : World) (hnc : n ≤ c) (hc : c ≤ 9223372036854775807) :
  Calls Try.prog 134 #[.slice A n c] w fun e w' => e = .returned (.slice A n n) ∧ w = w' := by
 go_enter Try.func134, Try.ntmps134
 go_wp2
 go_ret;exact ⟨rfl, rfl⟩
/-- A list anew; the block may be longer than the capacity tells. -/
def impl_clone_byte.f (l0 : List Int) : Option (List Int) := if l0.length ≤ 1099511627776 then some l0 else none
set_option maxHeartbeats 1000000 in
theorem impl_clone_byte.calls (A0 : Option Addr) (c0 : Nat) (l0 : List Int) (r : List Int) (w : World) (hr0 : Kd.C (Kd.int .u8) w A0 l0.length l0) (hc0 : l0.length ≤ c0) (h : impl_clone_byte.f l0 = some r) :
  Calls Try.prog 99 #[.slice A0 l0.length c0] w fun e w' => ∃ v0_ : Value, e = .returned (v0_) ∧ Kd.R (Kd.int .u8) 5 w' w.heap.size (fun _ => True) v0_ r ∧ Below w.heap.size w w' := by
 unfold impl_clone_byte.f at h
 by_cases hb : l0.length ≤ 1099511627776
 ·rw [if_pos hb] at h
  obtain rfl := Option.some.inj h;clear h;have HR := Aside0.mk hr0;clear hr0
  by_cases h0 : l0.length = 0
  ·obtain rfl : l0 = [] := List.eq_nil_of_length_eq_zero h0;clear hb h0;simp only [List.length_nil]
   go_enter Try.func99, Try.ntmps99
   go_wp2
   go_ret;exact ⟨_, rfl, Kd.R_nil _ _ _ _ _, Below.refl _ _⟩
  ·have hz : ((l0.length : Int) == 0) = false := by simpa using h0
   have hm : l0.length ≤ 9223372036854775807 := by omega
   clear h0
   go_enter Try.func99, Try.ntmps99
   go_wp2_with (first
    | ((with_reducible refine gate_builtin (b := .append) (xs := #[.const (.slice none 0 0), .tmp 6]) rfl ?_); at_builtin; refine Kd.R_append_rows (Kd.int .u8) (w0 := w) w.heap.size rfl (.const (.slice none 0 0)) (.tmp 6) 46 5 (.int .u8 0) 1 rfl Try.underlying46 info5 rfl (by decide) (by omega) (.slice none 0 0) [] l0 _ _ _ (fun _ => True) (fun _ => False) rfl rfl (Kd.R_nil _ _ _ _ _) HR.out (fun _ _ h => h) (fun _ h => h.elim) (fun _ _ => trivial) (Below.refl _ _) (Nat.le_refl _) (by simp only [List.length_nil]; omega) ?_; intro v1 w1 ho hb1 hg hat; rw [List.nil_append] at ho; have HO := Aside0.mk ho; have HB := Aside0.mk hb1; clear ho hb1 hg hat; obtain ⟨A1, c1, e1⟩ := Kd.R_slice HO.out; subst e1)
    | (go_at_call 134; refine (clip_bytes _ _ _ _ (Kd.R_reads' HO.out).2.1 (Kd.R_room HO.out)).mono ?_; rintro e w' ⟨rfl, rfl⟩))
   go_ret;exact ⟨_, rfl, Kd.R_clip HO.out, HB.out⟩
 ·rw [if_neg hb] at h; cases h

end Go.Proofs.Ytdplboenlcppkaa.PFnExactPacketFrom

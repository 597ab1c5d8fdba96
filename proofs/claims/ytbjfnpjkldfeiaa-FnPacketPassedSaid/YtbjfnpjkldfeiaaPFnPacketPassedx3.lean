/- The machine side of some functions: each comes to its pure answer (written by a program of this session with the kit's print). No condition. -/
import Derived.Test.YtbjfnpjkldfeiaaPFnPacketPassedx0
import Derived.Test.YtbjfnpjkldfeiaaPFnPacketPassedx1
import Derived.Test.YtbjfnpjkldfeiaaPFnPacketPassedx2
namespace Go.Proofs.Ytbjfnpjkldfeiaa.PFnPacketPassed
open Go.RowKit Go.Proofs.YtbjfnpjkldfeiaaUFnPacketPassed.PrintWords Go.Proofs.YtbjfnpjkldfeiaaUFnPacketPassed.PrintLast Go.Proofs.YtbjfnpjkldfeiaaUFnPacketPassed.PrintMore
attribute [local go_sem] max2_int min2_int max_two min_two max_three min_three max_four min_four   -- for this text's walks alone
set_option linter.unusedVariables false
set_option linter.unusedSimpArgs false

/-! ### spec_SumTurned: function 62 -/
def spec_SumTurned.j0 : Nat → Int → Int → Int → Bool → Option (Int)
 | 0, _, _, _, _ => none
 | k + 1, x0, x1, x2, x20 => if x20 = true then (some (-1)) else (if (wrap64 (x0 + x1)) > 65535 then (if (wrap64 ((wrap64 ((wrap64 ((wrap64 (x0 + x1)) - 65535)) + 65535)) - x2)) > 65535 then (some (wrap64 ((wrap64 ((wrap64 ((wrap64 ((wrap64 (x0 + x1)) - 65535)) + 65535)) - x2)) - 65535))) else (some (wrap64 ((wrap64 ((wrap64 ((wrap64 (x0 + x1)) - 65535)) + 65535)) - x2)))) else (if (wrap64 ((wrap64 ((wrap64 (x0 + x1)) + 65535)) - x2)) > 65535 then (some (wrap64 ((wrap64 ((wrap64 ((wrap64 (x0 + x1)) + 65535)) - x2)) - 65535))) else (some (wrap64 ((wrap64 ((wrap64 (x0 + x1)) + 65535)) - x2)))))
def spec_SumTurned.f (k : Nat) (a0 : Int) (a1 : Int) (a2 : Int) : Option (Int) := (spec_l1In.f a0 0 65535).bind fun t139 => (if t139 = true then ((spec_l1In.f a1 0 65535).bind fun t140 => (if t140 = true then ((spec_l1In.f a2 0 65535).bind fun t141 => (spec_SumTurned.j0 k a0 a1 a2 (!t141))) else (spec_SumTurned.j0 k a0 a1 a2 true))) else (spec_SumTurned.j0 k a0 a1 a2 true))
theorem spec_SumTurned.mono_l : ∀ k, (∀ y0 y1 y2 y3, LeO (spec_SumTurned.j0 k y0 y1 y2 y3) (spec_SumTurned.j0 (k + 1) y0 y1 y2 y3))
 | 0 => fun _ _ _ _ r h => by simp [spec_SumTurned.j0] at h
 | k + 1 => by
  have ih0 := spec_SumTurned.mono_l k
  ·intro y0 y1 y2 y3
   unfold spec_SumTurned.j0
   repeat' first
   | (with_reducible exact ih0 _ _ _ _)
   | (with_reducible exact LeO.refl _)
   | (with_reducible exact LeO.none _)
   | (with_reducible refine LeO.ite ?_ ?_)
   | (with_reducible refine LeO.bind ?_ (fun _ => ?_))
   | exact ih0 _ _ _ _
   | exact LeO.none _
   | refine LeO.ite ?_ ?_
   | refine LeO.bind ?_ (fun _ => ?_)
theorem spec_SumTurned.mono : ∀ a0 a1 a2 k, LeO (spec_SumTurned.f k a0 a1 a2) (spec_SumTurned.f (k + 1) a0 a1 a2) := by
 intro a0 a1 a2 k;have ih0 := spec_SumTurned.mono_l k
 unfold spec_SumTurned.f
 repeat' first
   | (with_reducible exact ih0 _ _ _ _)
   | (with_reducible exact LeO.refl _)
   | (with_reducible exact LeO.none _)
   | (with_reducible refine LeO.ite ?_ ?_)
   | (with_reducible refine LeO.bind ?_ (fun _ => ?_))
   | exact ih0 _ _ _ _
   | exact LeO.none _
   | refine LeO.ite ?_ ?_
   | refine LeO.bind ?_ (fun _ => ?_)
set_option maxHeartbeats 8000000 in
set_option maxRecDepth 100000 in
theorem spec_SumTurned.calls (k : Nat) (a0 : Int) (a1 : Int) (a2 : Int) (r : Int) (w : World) (h : spec_SumTurned.f k a0 a1 a2 = some r) :
  Calls Try.prog 62 #[.int .i64 a0, .int .i64 a1, .int .i64 a2] w fun e w' => e = .returned (.int .i64 r) ∧ Drawn0 w w' := by
 have H : ((spec_l1In.f a0 0 65535).bind fun t139 => (if t139 = true then ((spec_l1In.f a1 0 65535).bind fun t140 => (if t140 = true then ((spec_l1In.f a2 0 65535).bind fun t141 => (spec_SumTurned.j0 k a0 a1 a2 (!t141))) else (spec_SumTurned.j0 k a0 a1 a2 true))) else (spec_SumTurned.j0 k a0 a1 a2 true))) = some r := h;clear h;have HC4 := Aside0.mk H;clear H
 go_enter Try.func62, Try.ntmps62
 go_upto_region 1 with (fail)
 go_cut [20] (fun v20 wc => ∃ (kq : Nat) (x20_3 : Bool), v20 = .bool x20_3 ∧ Aside0 (spec_SumTurned.j0 kq a0 a1 a2 x20_3 = some r) ∧ Aside0 (kq ≤ k) ∧ Drawn0 w wc)
 case first =>
  have H := HC4.out;clear HC4;replace H := ze H;obtain ⟨t139, A50, H⟩ := H;replace H : (if t139 = true then ((spec_l1In.f a1 0 65535).bind fun t140 => (if t140 = true then ((spec_l1In.f a2 0 65535).bind fun t141 => (spec_SumTurned.j0 k a0 a1 a2 (!t141))) else (spec_SumTurned.j0 k a0 a1 a2 true))) else (spec_SumTurned.j0 k a0 a1 a2 true)) = some r := H;have A5 := Aside0.mk A50;clear A50
  by_cases c6 : t139 = true
  ·subst c6
   have H1 : ((spec_l1In.f a1 0 65535).bind fun t140 => (if t140 = true then ((spec_l1In.f a2 0 65535).bind fun t141 => (spec_SumTurned.j0 k a0 a1 a2 (!t141))) else (spec_SumTurned.j0 k a0 a1 a2 true))) = some r := by rw [if_pos rfl] at H; exact H
   clear H;have H := H1;clear H1;replace H := ze H;obtain ⟨t140, A70, H⟩ := H;replace H : (if t140 = true then ((spec_l1In.f a2 0 65535).bind fun t141 => (spec_SumTurned.j0 k a0 a1 a2 (!t141))) else (spec_SumTurned.j0 k a0 a1 a2 true)) = some r := H;have A7 := Aside0.mk A70;clear A70
   by_cases c8 : t140 = true
   ·subst c8
    have H1 : ((spec_l1In.f a2 0 65535).bind fun t141 => (spec_SumTurned.j0 k a0 a1 a2 (!t141))) = some r := by rw [if_pos rfl] at H; exact H
    clear H;have H := H1;clear H1;replace H := ze H;obtain ⟨t141, A90, H⟩ := H;replace H : (spec_SumTurned.j0 k a0 a1 a2 (!t141)) = some r := H;have A9 := Aside0.mk A90;clear A90;have H' := Aside0.mk H;clear H
    go_wp2_with (first | ((with_reducible refine gate_callee (f := 99) rfl ?_); refine goesL_ (some 9) rfl rfl Try.func99 (by kernel_rfl) rfl #[.int .i64 a0, .int .i64 0, .int .i64 65535] rfl (by (try simp only [zm]); first | done | rfl | (simp only [zl]; rfl)) ?_; (with_reducible refine (spec_l1In.calls a0 0 65535 true _ A5.out).mono ?_); rintro e w' ⟨rfl, ⟨nd, rfl⟩⟩; refine ⟨_, rfl, ?_⟩) | (go_at_call 99; (with_reducible refine (spec_l1In.calls a1 0 65535 true _ A7.out).mono ?_); rintro e w' ⟨rfl, ⟨nd, rfl⟩⟩) | (go_at_call 99; (with_reducible refine (spec_l1In.calls a2 0 65535 t141 _ A9.out).mono ?_); rintro e w' ⟨rfl, ⟨nd, rfl⟩⟩))
    go_meet
    case rel => exact ⟨_, (!t141), (by first | rfl | (simp; done) | (simp [*]; done)), H', ⟨by first | omega | exact Nat.le_refl _⟩, by repeat (first | exact Drawn0.refl _ | apply Drawn0.step)⟩
   ·replace c8 := Bool.eq_false_iff.mpr c8
    subst c8
    have H1 : (spec_SumTurned.j0 k a0 a1 a2 true) = some r := by rw [if_neg (show ¬ (false = true) by decide)] at H; exact H
    clear H;have H := H1;clear H1;have H' := Aside0.mk H;clear H
    go_wp2_with (first | ((with_reducible refine gate_callee (f := 99) rfl ?_); refine goesL_ (some 9) rfl rfl Try.func99 (by kernel_rfl) rfl #[.int .i64 a0, .int .i64 0, .int .i64 65535] rfl (by (try simp only [zm]); first | done | rfl | (simp only [zl]; rfl)) ?_; (with_reducible refine (spec_l1In.calls a0 0 65535 true _ A5.out).mono ?_); rintro e w' ⟨rfl, ⟨nd, rfl⟩⟩; refine ⟨_, rfl, ?_⟩) | (go_at_call 99; (with_reducible refine (spec_l1In.calls a1 0 65535 false _ A7.out).mono ?_); rintro e w' ⟨rfl, ⟨nd, rfl⟩⟩))
    go_meet
    case rel => exact ⟨_, (true), (by first | rfl | (simp; done) | (simp [*]; done)), H', ⟨by first | omega | exact Nat.le_refl _⟩, by repeat (first | exact Drawn0.refl _ | apply Drawn0.step)⟩
  ·replace c6 := Bool.eq_false_iff.mpr c6
   subst c6
   have H1 : (spec_SumTurned.j0 k a0 a1 a2 true) = some r := by rw [if_neg (show ¬ (false = true) by decide)] at H; exact H
   clear H;have H := H1;clear H1;have H' := Aside0.mk H;clear H
   go_wp2_with (first | ((with_reducible refine gate_callee (f := 99) rfl ?_); refine goesL_ (some 9) rfl rfl Try.func99 (by kernel_rfl) rfl #[.int .i64 a0, .int .i64 0, .int .i64 65535] rfl (by (try simp only [zm]); first | done | rfl | (simp only [zl]; rfl)) ?_; (with_reducible refine (spec_l1In.calls a0 0 65535 false _ A5.out).mono ?_); rintro e w' ⟨rfl, ⟨nd, rfl⟩⟩; refine ⟨_, rfl, ?_⟩))
   go_meet
   case rel => exact ⟨_, (true), (by first | rfl | (simp; done) | (simp [*]; done)), H', ⟨by first | omega | exact Nat.le_refl _⟩, by repeat (first | exact Drawn0.refl _ | apply Drawn0.step)⟩
 case rest =>
  clear HC4
  try clear p2
  try clear c6
  try clear c8
  try clear c9
  obtain ⟨kq, x20_3, rfl, HA, HJ3, ⟨mc3, rfl⟩⟩ := hcut
  cases kq with
  | zero => exact absurd HA.out (by simp [spec_SumTurned.j0])
  | succ kj3 =>
   have H := HA.out;clear HA;simp only [spec_SumTurned.j0] at H
   by_cases c10 : x20_3 = true
   ·subst c10
    have H1 : (some (-1)) = some r := by rw [if_pos rfl] at H; exact H
    clear H;have H := H1;clear H1;obtain rfl := Option.some.inj H
    go_wp2
    go_ret;exact ⟨by first | rfl | (simp; done) | (simp [*]; done), by repeat (first | exact Drawn0.refl _ | apply Drawn0.step)⟩
   ·replace c10 := Bool.eq_false_iff.mpr c10
    subst c10
    have H1 : (if (wrap64 (a0 + a1)) > 65535 then (if (wrap64 ((wrap64 ((wrap64 ((wrap64 (a0 + a1)) - 65535)) + 65535)) - a2)) > 65535 then (some (wrap64 ((wrap64 ((wrap64 ((wrap64 ((wrap64 (a0 + a1)) - 65535)) + 65535)) - a2)) - 65535))) else (some (wrap64 ((wrap64 ((wrap64 ((wrap64 (a0 + a1)) - 65535)) + 65535)) - a2)))) else (if (wrap64 ((wrap64 ((wrap64 (a0 + a1)) + 65535)) - a2)) > 65535 then (some (wrap64 ((wrap64 ((wrap64 ((wrap64 (a0 + a1)) + 65535)) - a2)) - 65535))) else (some (wrap64 ((wrap64 ((wrap64 (a0 + a1)) + 65535)) - a2))))) = some r := by rw [if_neg (show ¬ (false = true) by decide)] at H; exact H
    clear H;have H := H1;clear H1
    by_cases c11 : (wrap64 (a0 + a1)) > 65535
    ·rw [if_pos c11] at H
     have c11b0 : decide (65535 < (wrap64 (a0 + a1))) = true := decide_eq_true c11;clear c11
     by_cases c12 : (wrap64 ((wrap64 ((wrap64 ((wrap64 (a0 + a1)) - 65535)) + 65535)) - a2)) > 65535
     ·rw [if_pos c12] at H
      have c12b0 : decide (65535 < (wrap64 ((wrap64 ((wrap64 ((wrap64 (a0 + a1)) - 65535)) + 65535)) - a2))) = true := decide_eq_true c12;clear c12;obtain rfl := Option.some.inj H
      go_wp2
      go_ret;exact ⟨by first | rfl | (simp; done) | (simp [*]; done), by repeat (first | exact Drawn0.refl _ | apply Drawn0.step)⟩
     ·rw [if_neg c12] at H
      have c12b0 : decide (65535 < (wrap64 ((wrap64 ((wrap64 ((wrap64 (a0 + a1)) - 65535)) + 65535)) - a2))) = false := decide_eq_false c12;clear c12;obtain rfl := Option.some.inj H
      go_wp2
      go_ret;exact ⟨by first | rfl | (simp; done) | (simp [*]; done), by repeat (first | exact Drawn0.refl _ | apply Drawn0.step)⟩
    ·rw [if_neg c11] at H
     have c11b0 : decide (65535 < (wrap64 (a0 + a1))) = false := decide_eq_false c11;clear c11
     by_cases c13 : (wrap64 ((wrap64 ((wrap64 (a0 + a1)) + 65535)) - a2)) > 65535
     ·rw [if_pos c13] at H
      have c13b0 : decide (65535 < (wrap64 ((wrap64 ((wrap64 (a0 + a1)) + 65535)) - a2))) = true := decide_eq_true c13;clear c13;obtain rfl := Option.some.inj H
      go_wp2
      go_ret;exact ⟨by first | rfl | (simp; done) | (simp [*]; done), by repeat (first | exact Drawn0.refl _ | apply Drawn0.step)⟩
     ·rw [if_neg c13] at H
      have c13b0 : decide (65535 < (wrap64 ((wrap64 ((wrap64 (a0 + a1)) + 65535)) - a2))) = false := decide_eq_false c13;clear c13;obtain rfl := Option.some.inj H
      go_wp2
      go_ret;exact ⟨by first | rfl | (simp; done) | (simp [*]; done), by repeat (first | exact Drawn0.refl _ | apply Drawn0.step)⟩

/-! ### spec_BytesOf: function 63 -/
mutual
def spec_BytesOf.j0 : Nat → Int → Int → Bool → Option (List Int)
 | 0, _, _, _ => none
 | k + 1, x0, x1, x18 => if x18 = true then (some (([] : List Int))) else (spec_BytesOf.l0 k x0 (([] : List Int)) (wrap64 (x1 - 1)))
def spec_BytesOf.l0 : Nat → Int → List Int → Int → Option (List Int)
 | 0, _, _, _ => none
 | k + 1, x0, x5, x6 => if x6 ≥ 0 then (if 0 ≤ (wrap64 (8 * x6)) then (if x5.length < 140737488355328 then (spec_BytesOf.l0 k x0 (x5 ++ [(Int.tmod (shr .i64 x0 (wrap64 (8 * x6))) 256) % 256]) (wrap64 (x6 - 1))) else (none)) else (none)) else (some x5)
end
def spec_BytesOf.f (k : Nat) (a0 : Int) (a1 : Int) : Option (List Int) := (spec_l1In.f a1 1 4).bind fun t142 => (if t142 = true then (if 0 ≤ (wrap64 (8 * a1)) then ((spec_l1In.f a0 0 (wrap64 ((shl .i64 1 (wrap64 (8 * a1))) - 1))).bind fun t143 => (spec_BytesOf.j0 k a0 a1 (!t143))) else (none)) else (spec_BytesOf.j0 k a0 a1 true))
theorem spec_BytesOf.mono_l : ∀ k, (∀ y0 y1 y2, LeO (spec_BytesOf.j0 k y0 y1 y2) (spec_BytesOf.j0 (k + 1) y0 y1 y2)) ∧ (∀ y0 y1 y2, LeO (spec_BytesOf.l0 k y0 y1 y2) (spec_BytesOf.l0 (k + 1) y0 y1 y2))
 | 0 => ⟨fun _ _ _ r h => by simp [spec_BytesOf.j0] at h, fun _ _ _ r h => by simp [spec_BytesOf.l0] at h⟩
 | k + 1 => by
  obtain ⟨ih0, ih1⟩ := spec_BytesOf.mono_l k;refine ⟨?_, ?_⟩
  ·intro y0 y1 y2
   unfold spec_BytesOf.j0
   repeat' first
   | (with_reducible exact ih0 _ _ _)
   | (with_reducible exact ih1 _ _ _)
   | (with_reducible exact LeO.refl _)
   | (with_reducible exact LeO.none _)
   | (with_reducible refine LeO.ite ?_ ?_)
   | (with_reducible refine LeO.bind ?_ (fun _ => ?_))
   | exact ih0 _ _ _
   | exact ih1 _ _ _
   | exact LeO.none _
   | refine LeO.ite ?_ ?_
   | refine LeO.bind ?_ (fun _ => ?_)
  ·intro y0 y1 y2
   unfold spec_BytesOf.l0
   repeat' first
   | (with_reducible exact ih0 _ _ _)
   | (with_reducible exact ih1 _ _ _)
   | (with_reducible exact LeO.refl _)
   | (with_reducible exact LeO.none _)
   | (with_reducible refine LeO.ite ?_ ?_)
   | (with_reducible refine LeO.bind ?_ (fun _ => ?_))
   | exact ih0 _ _ _
   | exact ih1 _ _ _
   | exact LeO.none _
   | refine LeO.ite ?_ ?_
   | refine LeO.bind ?_ (fun _ => ?_)
theorem spec_BytesOf.mono : ∀ a0 a1 k, LeO (spec_BytesOf.f k a0 a1) (spec_BytesOf.f (k + 1) a0 a1) := by
 intro a0 a1 k;obtain ⟨ih0, ih1⟩ := spec_BytesOf.mono_l k
 unfold spec_BytesOf.f
 repeat' first
   | (with_reducible exact ih0 _ _ _)
   | (with_reducible exact ih1 _ _ _)
   | (with_reducible exact LeO.refl _)
   | (with_reducible exact LeO.none _)
   | (with_reducible refine LeO.ite ?_ ?_)
   | (with_reducible refine LeO.bind ?_ (fun _ => ?_))
   | exact ih0 _ _ _
   | exact ih1 _ _ _
   | exact LeO.none _
   | refine LeO.ite ?_ ?_
   | refine LeO.bind ?_ (fun _ => ?_)
set_option maxHeartbeats 8000000 in
set_option maxRecDepth 100000 in
theorem spec_BytesOf.calls (k : Nat) (a0 : Int) (a1 : Int) (r : List Int) (w : World) (h : spec_BytesOf.f k a0 a1 = some r) :
  Calls Try.prog 63 #[.int .i64 a0, .int .i64 a1] w fun e w' => ∃ v0_ : Value, e = .returned (v0_) ∧ Kd.R (Kd.int .u8) 5 w' w.heap.size (fun _ => True) v0_ r ∧ Below w.heap.size w w' := by
 have HB := Aside0.mk (Below.refl w.heap.size w);have H : ((spec_l1In.f a1 1 4).bind fun t142 => (if t142 = true then (if 0 ≤ (wrap64 (8 * a1)) then ((spec_l1In.f a0 0 (wrap64 ((shl .i64 1 (wrap64 (8 * a1))) - 1))).bind fun t143 => (spec_BytesOf.j0 k a0 a1 (!t143))) else (none)) else (spec_BytesOf.j0 k a0 a1 true))) = some r := h;clear h;have HC3 := Aside0.mk H;clear H
 go_enter Try.func63, Try.ntmps63
 go_upto_region 1 with (fail)
 go_cut [18] (fun v18 wc => ∃ (kq : Nat) (x18_2 : Bool), v18 = .bool x18_2 ∧ Aside0 (spec_BytesOf.j0 kq a0 a1 x18_2 = some r) ∧ Aside0 (kq ≤ k) ∧ Aside0 (Below w.heap.size w wc))
 case first =>
  have H := HC3.out;clear HC3;replace H := ze H;obtain ⟨t142, A40, H⟩ := H;replace H : (if t142 = true then (if 0 ≤ (wrap64 (8 * a1)) then ((spec_l1In.f a0 0 (wrap64 ((shl .i64 1 (wrap64 (8 * a1))) - 1))).bind fun t143 => (spec_BytesOf.j0 k a0 a1 (!t143))) else (none)) else (spec_BytesOf.j0 k a0 a1 true)) = some r := H;have A4 := Aside0.mk A40;clear A40
  by_cases c5 : t142 = true
  ·subst c5
   have H1 : (if 0 ≤ (wrap64 (8 * a1)) then ((spec_l1In.f a0 0 (wrap64 ((shl .i64 1 (wrap64 (8 * a1))) - 1))).bind fun t143 => (spec_BytesOf.j0 k a0 a1 (!t143))) else (none)) = some r := by rw [if_pos rfl] at H; exact H
   clear H;have H := H1;clear H1;obtain ⟨ji6, hji6⟩ : ∃ j_ : Int, (wrap64 (8 * a1)) = j_ := ⟨_, rfl⟩
   replace H : (if 0 ≤ (ji6) then ((spec_l1In.f a0 0 (wrap64 ((shl .i64 1 (ji6)) - 1))).bind fun t143 => (spec_BytesOf.j0 k a0 a1 (!t143))) else (none)) = some r := by first | (rw [hji6] at H; exact H) | (simp only [hji6] at H ⊢; exact H)
   (try rw [hji6] at A4);have hji6w : (IntKind.i64.wrap (8 * a1)) = ji6 := (i64_w _).trans hji6
   by_cases c7 : 0 ≤ (ji6)
   ·rw [if_pos c7] at H
    have c7b0 := eq_true c7;have c7b1 : decide (0 ≤ (ji6)) = true := decide_eq_true c7;clear c7;obtain ⟨ji8, hji8⟩ : ∃ j_ : Int, (shl .i64 1 (ji6)) = j_ := ⟨_, rfl⟩
    replace H : ((spec_l1In.f a0 0 (wrap64 ((ji8) - 1))).bind fun t143 => (spec_BytesOf.j0 k a0 a1 (!t143))) = some r := by first | (rw [hji8] at H; exact H) | (simp only [hji8] at H ⊢; exact H)
    (try rw [hji8] at A4);have hji8_ : (IntKind.i64.wrap (1 * 2 ^ min (ji6).toNat 64)) = ji8 := hji8;have hji8z : (ji6) ≤ 64 → (IntKind.i64.wrap (1 * 2 ^ (ji6).toNat)) = ji8 := shl_small hji8
    have hji8u : (IntKind.i64.wrap (2 ^ min (ji6).toNat 64)) = ji8 := by have h_ := hji8_; rw [Int.one_mul] at h_; exact h_
    have hji8v : (ji6) ≤ 64 → (IntKind.i64.wrap (2 ^ (ji6).toNat)) = ji8 := fun hle_ => by have h_ := hji8z hle_; rw [Int.one_mul] at h_; exact h_
    have hji8y : (wrap64 (1 * 2 ^ min (ji6).toNat 64)) = ji8 := (i64_w _).symm.trans hji8_;have hji8x : (ji6) ≤ 64 → (wrap64 (1 * 2 ^ (ji6).toNat)) = ji8 := fun h_ => (i64_w _).symm.trans (hji8z h_);replace H := ze H;obtain ⟨t143, A90, H⟩ := H;replace H : (spec_BytesOf.j0 k a0 a1 (!t143)) = some r := H;have A9 := Aside0.mk A90;clear A90;have H' := Aside0.mk H;clear H
    go_wp2_with (first | ((with_reducible refine gate_callee (f := 99) rfl ?_); refine goesL_ (some 8) rfl rfl Try.func99 (by kernel_rfl) rfl #[.int .i64 a1, .int .i64 1, .int .i64 4] rfl (by (try simp only [zm]); first | done | rfl | (simp only [zl]; rfl)) ?_; (with_reducible refine (spec_l1In.calls a1 1 4 true _ A4.out).mono ?_); rintro e w' ⟨rfl, ⟨nd, rfl⟩⟩; refine ⟨_, rfl, ?_⟩) | (go_at_call 99; (with_reducible refine (spec_l1In.calls a0 0 (wrap64 ((ji8) - 1)) t143 _ A9.out).mono ?_); rintro e w' ⟨rfl, ⟨nd, rfl⟩⟩))
    go_meet
    case rel => exact ⟨_, (!t143), (by first | rfl | (simp; done) | (simp [*]; done)), H', ⟨by first | omega | exact Nat.le_refl _⟩, ⟨by repeat (first | (with_reducible first | exact HB.out | apply below_alloc | apply pw_below_drewN | apply below_drew1) | exact HB.out)⟩⟩
   ·rw [if_neg c7] at H
    exact absurd H (by simp)
  ·replace c5 := Bool.eq_false_iff.mpr c5
   subst c5
   have H1 : (spec_BytesOf.j0 k a0 a1 true) = some r := by rw [if_neg (show ¬ (false = true) by decide)] at H; exact H
   clear H;have H := H1;clear H1;have H' := Aside0.mk H;clear H
   go_wp2_with (first | ((with_reducible refine gate_callee (f := 99) rfl ?_); refine goesL_ (some 8) rfl rfl Try.func99 (by kernel_rfl) rfl #[.int .i64 a1, .int .i64 1, .int .i64 4] rfl (by (try simp only [zm]); first | done | rfl | (simp only [zl]; rfl)) ?_; (with_reducible refine (spec_l1In.calls a1 1 4 false _ A4.out).mono ?_); rintro e w' ⟨rfl, ⟨nd, rfl⟩⟩; refine ⟨_, rfl, ?_⟩))
   go_meet
   case rel => exact ⟨_, (true), (by first | rfl | (simp; done) | (simp [*]; done)), H', ⟨by first | omega | exact Nat.le_refl _⟩, ⟨by repeat (first | (with_reducible first | exact HB.out | apply below_alloc | apply pw_below_drewN | apply below_drew1) | exact HB.out)⟩⟩
 case rest =>
  clear HC3
  try clear p2
  try clear c5
  try clear c6
  try clear p6
  try clear c7
  try clear c7b0
  try clear c7b1
  try clear c9
  obtain ⟨kq, x18_2, rfl, HA, HJ2, HB⟩ := hcut
  cases kq with
  | zero => exact absurd HA.out (by simp [spec_BytesOf.j0])
  | succ kj2 =>
   have H := HA.out;clear HA;simp only [spec_BytesOf.j0] at H
   by_cases c10 : x18_2 = true
   ·subst c10
    have H1 : (some (([] : List Int))) = some r := by rw [if_pos rfl] at H; exact H
    clear H;have H := H1;clear H1;obtain ⟨y144, hy144⟩ : ∃ y_ : List Int, y_ = (([] : List Int)) := ⟨_, rfl⟩
    replace H : (some y144) = some r := by first | (rw [hy144]; with_reducible exact H) | (have H2_ := (Option.bind_some _ _).symm.trans H; rw [hy144]; with_reducible exact H2_) | (have H2_ := (Option.bind_some _ _).symm.trans H; with_reducible exact H2_) | with_reducible exact H | (rw [hy144]; exact H) | exact H
    have Ny144 := Aside0.mk hy144;clear hy144;obtain rfl := Option.some.inj H
    go_wp2_with (first | ((with_reducible refine gate_dst (N := 19) rfl ?_); refine Kd.R_lit (Kd.int .u8) _ 5 ?hg (N := 19) ?hd (xs := ([] : List Int)) (inner := []) (ok := fun _ => True) (okp := fun _ => True) ?hr ?hp (fun _ hk => hk) trivial (Below.refl _ _) (Nat.le_refl _) (by simp) ?_; (case hd => rfl); (case hg => rfl); (case hr => first | (go_simp; done) | (go_simp; rfl)); (case hp => exact (Reps.none _ _)); intro v145 w11 ho12 hb hg_ hnew_; clear hg_ hnew_; (first | rw [← Ny144.out] at ho12 | (simp only [Int.reduceToNat] at ho12; rw [← Ny144.out] at ho12)); have n0_ := Aside0.mk (Kd.R_lower ho12 (below_size (by repeat (first | (with_reducible first | exact HB.out | apply below_alloc | apply pw_below_drewN | apply below_drew1) | exact HB.out)))); have n1_ := Aside0.mk (below_step (by repeat (first | (with_reducible first | exact HB.out | apply below_alloc | apply pw_below_drewN | apply below_drew1) | exact HB.out)) hb); clear HB; have HO146 := n0_; have HB := n1_; clear n0_ n1_; clear hb ho12))
    go_ret;exact ⟨_, by first | rfl | (simp <;> rfl) | (simp [*] <;> rfl), by (with_reducible repeat (first | apply Kd.R_alloc | apply Kd.R_drewN | apply Kd.R_drew)); exact HO146.out, by repeat (first | (with_reducible first | exact HB.out | apply below_alloc | apply pw_below_drewN | apply below_drew1) | exact HB.out)⟩
   ·replace c10 := Bool.eq_false_iff.mpr c10
    subst c10
    have H1 : (spec_BytesOf.l0 kj2 a0 (([] : List Int)) (wrap64 (a1 - 1))) = some r := by rw [if_neg (show ¬ (false = true) by decide)] at H; exact H
    clear H;have H := H1;clear H1;obtain ⟨y147, hy147⟩ : ∃ y_ : List Int, y_ = (([] : List Int)) := ⟨_, rfl⟩
    replace H : (spec_BytesOf.l0 kj2 a0 y147 (wrap64 (a1 - 1))) = some r := by first | (rw [hy147]; with_reducible exact H) | (have H2_ := (Option.bind_some _ _).symm.trans H; rw [hy147]; with_reducible exact H2_) | (have H2_ := (Option.bind_some _ _).symm.trans H; with_reducible exact H2_) | with_reducible exact H | (rw [hy147]; exact H) | exact H
    have Ny147 := Aside0.mk hy147;clear hy147;have H' := Aside0.mk H;clear H
    go_wp2_with (first | ((with_reducible refine gate_dst (N := 20) rfl ?_); refine Kd.R_lit (Kd.int .u8) _ 5 ?hg (N := 20) ?hd (xs := ([] : List Int)) (inner := []) (ok := fun _ => True) (okp := fun _ => True) ?hr ?hp (fun _ hk => hk) trivial (Below.refl _ _) (Nat.le_refl _) (by simp) ?_; (case hd => rfl); (case hg => rfl); (case hr => first | (go_simp; done) | (go_simp; rfl)); (case hp => exact (Reps.none _ _)); intro v148 w13 ho14 hb hg_ hnew_; clear hg_ hnew_; (first | rw [← Ny147.out] at ho14 | (simp only [Int.reduceToNat] at ho14; rw [← Ny147.out] at ho14)); have n0_ := Aside0.mk (Kd.R_lower ho14 (below_size (by repeat (first | (with_reducible first | exact HB.out | apply below_alloc | apply pw_below_drewN | apply below_drew1) | exact HB.out)))); have n1_ := Aside0.mk (below_step (by repeat (first | (with_reducible first | exact HB.out | apply below_alloc | apply pw_below_drewN | apply below_drew1) | exact HB.out)) hb); clear HB; have HO149 := n0_; have HB := n1_; clear n0_ n1_; clear hb ho14))
    go_loopg [5, 6] kj2 (fun kq v5 v6 w' => ∃ (x5_2 : List Int) (x6_2 : Int), v6 = .int .i64 x6_2 ∧ Aside0 (spec_BytesOf.l0 kq a0 x5_2 x6_2 = some r) ∧ Aside0 (kq ≤ kj2) ∧ Aside0 (Kd.R (Kd.int .u8) 5 w' w.heap.size (fun _ => True) v5 x5_2) ∧ Aside0 (Below w.heap.size w w'))
    case atStart => exact ⟨(y147), (wrap64 (a1 - 1)), (by first | rfl | (simp; done) | (simp [*]; done)), H', ⟨Nat.le_refl _⟩, ⟨by (with_reducible repeat (first | apply Kd.R_alloc | apply Kd.R_drewN | apply Kd.R_drew)); exact HO149.out⟩, ⟨by repeat (first | (with_reducible first | exact HB.out | apply below_alloc | apply pw_below_drewN | apply below_drew1) | exact HB.out)⟩⟩
    case round =>
     clear H'
     try clear c1
     try clear p2
     try clear c5
     try clear c6
     try clear p6
     try clear c7
     try clear c7b0
     try clear c7b1
     try clear c9
     try clear c10
     try clear p2
     try clear p6
     obtain ⟨x5_2, x6_2, rfl, HA, HK2, HO_5, HB⟩ := hrel
     cases gk with
     | zero => exact absurd HA.out (by simp [spec_BytesOf.l0])
     | succ k2 =>
      have H := HA.out;clear HA;simp only [spec_BytesOf.l0] at H
      by_cases c15 : x6_2 ≥ 0
      ·rw [if_pos c15] at H
       have c15b0 : decide (0 ≤ x6_2) = true := decide_eq_true c15;clear c15;obtain ⟨ji16, hji16⟩ : ∃ j_ : Int, (wrap64 (8 * x6_2)) = j_ := ⟨_, rfl⟩
       replace H : (if 0 ≤ (ji16) then (if x5_2.length < 140737488355328 then (spec_BytesOf.l0 k2 a0 (x5_2 ++ [(Int.tmod (shr .i64 a0 (ji16)) 256) % 256]) (wrap64 (x6_2 - 1))) else (none)) else (none)) = some r := by first | (rw [hji16] at H; exact H) | (simp only [hji16] at H ⊢; exact H)
       have hji16w : (IntKind.i64.wrap (8 * x6_2)) = ji16 := (i64_w _).trans hji16
       by_cases c17 : 0 ≤ (ji16)
       ·rw [if_pos c17] at H
        have c17b0 := eq_true c17;have c17b1 : decide (0 ≤ (ji16)) = true := decide_eq_true c17;clear c17;obtain ⟨ji18, hji18⟩ : ∃ j_ : Int, (shr .i64 a0 (ji16)) = j_ := ⟨_, rfl⟩
        replace H : (if x5_2.length < 140737488355328 then (spec_BytesOf.l0 k2 a0 (x5_2 ++ [(Int.tmod (ji18) 256) % 256]) (wrap64 (x6_2 - 1))) else (none)) = some r := by first | (rw [hji18] at H; exact H) | (simp only [hji18] at H ⊢; exact H)
        have hji18_ : (a0 / 2 ^ min (ji16).toNat 64) = ji18 := hji18;have hji18z : (ji16) ≤ 64 → (a0 / 2 ^ (ji16).toNat) = ji18 := shr_small hji18
        by_cases c19 : x5_2.length < 140737488355328
        ·rw [if_pos c19] at H
         have LMc19 := Aside0.mk c19;clear c19;obtain ⟨y150, hy150⟩ : ∃ y_ : List Int, y_ = (x5_2 ++ [(Int.tmod (ji18) 256) % 256]) := ⟨_, rfl⟩
         replace H : (spec_BytesOf.l0 k2 a0 y150 (wrap64 (x6_2 - 1))) = some r := by first | (rw [hy150]; with_reducible exact H) | (have H2_ := (Option.bind_some _ _).symm.trans H; rw [hy150]; with_reducible exact H2_) | (have H2_ := (Option.bind_some _ _).symm.trans H; with_reducible exact H2_) | with_reducible exact H | (rw [hy150]; exact H) | exact H
         have Ny150 := Aside0.mk hy150;clear hy150;have H' := Aside0.mk H;clear H
         go_wp2_with (first | ((with_reducible refine gate_builtin (b := .append) (xs := #[.tmp 27, .tmp 34]) rfl ?_); at_builtin; refine Kd.R_append (Kd.int .u8) (w0 := w) w.heap.size rfl (.tmp 27) (.tmp 34) 22 5 (.int .u8 0) 1 rfl Try.underlying22 info5 rfl (by decide) (by omega) u5 x5_2 ((Int.tmod (ji18) 256) % 256) [.int .u8 ((Int.tmod (ji18) 256) % 256)] (fun _ => True) (fun _ => False) rfl rfl ?aP (fun _ hk => hk.elim) ?aF ?aO ?aB ?aS ?aL ?_; (case aP => exact rfl); (case aB => exact (by repeat (first | (with_reducible first | exact HB.out | apply below_alloc | apply pw_below_drewN | apply below_drew1) | exact HB.out))); (case aF => exact (fun _ _ => trivial)); (case aO => exact (by (with_reducible repeat (first | apply Kd.R_alloc | apply Kd.R_drewN | apply Kd.R_drew)); exact HO_5.out)); (case aS => exact (below_size (by repeat (first | (with_reducible first | exact HB.out | apply below_alloc | apply pw_below_drewN | apply below_drew1) | exact HB.out)))); (case aL => have := LMc19.out; omega); intro v151 w20 ho hb hg hat; rw [← Ny150.out] at ho; have n0_ := Aside0.mk (hb); have n1_ := Aside0.mk (ho); clear HB; clear HO_5; have HB := n0_; have HO152 := n1_; clear n0_ n1_; clear ho hb hg hat))
         go_roundg k2
         case measure => have := HJ2.out; have := HK2.out; omega
         case rel => exact ⟨(y150), (wrap64 (x6_2 - 1)), (by first | rfl | (simp; done) | (simp [*]; done)), H', ⟨by have := HJ2.out; have := HK2.out; omega⟩, ⟨by (with_reducible repeat (first | apply Kd.R_alloc | apply Kd.R_drewN | apply Kd.R_drew)); exact HO152.out⟩, ⟨by repeat (first | (with_reducible first | exact HB.out | apply below_alloc | apply pw_below_drewN | apply below_drew1) | exact HB.out)⟩⟩
        ·rw [if_neg c19] at H
         exact absurd H (by simp)
       ·rw [if_neg c17] at H
        exact absurd H (by simp)
      ·rw [if_neg c15] at H
       have c15b0 : decide (0 ≤ x6_2) = false := decide_eq_false c15;clear c15;obtain rfl := Option.some.inj H
       go_wp2
       go_ret;exact ⟨_, by first | rfl | (simp <;> rfl) | (simp [*] <;> rfl), by (with_reducible repeat (first | apply Kd.R_alloc | apply Kd.R_drewN | apply Kd.R_drew)); exact HO_5.out, by repeat (first | (with_reducible first | exact HB.out | apply below_alloc | apply pw_below_drewN | apply below_drew1) | exact HB.out)⟩

/-! ### spec_PacketPassed: function 21 -/
def spec_PacketPassed.j0 : Nat → List Int → Bool → Option (List Int × Bool)
 | 0, _, _ => none
 | k + 1, x0, x20 => if x20 = true then (some ((([] : List Int)), false)) else ((some (([] : List Int) : List Int)).bind fun y169 => (if y169.length + x0.length < 140737488355328 then ((some (y169 ++ x0 : List Int)).bind fun y172 => (if 5 < (y172.length : Int) then ((some (y172.set (5 : Int).toNat (((rd y172 5) - 1) % 256) : List Int)).bind fun y176 => ((spec_NumberAt.f k x0 10 2).bind fun t177 => ((spec_NumberAt.f k x0 4 2).bind fun t178 => ((spec_NumberAt.f k y176 4 2).bind fun t179 => ((spec_SumTurned.f k t177 t178 t179).bind fun t180 => ((some (([] : List Int) : List Int)).bind fun y181 => (if 10 ≤ (y172.length : Int) then ((some (y176.take 10 : List Int)).bind fun y184 => (if y181.length + y184.length < 140737488355328 then ((some (y181 ++ y184 : List Int)).bind fun y188 => ((spec_BytesOf.f k t180 2).bind fun t191 => (if y188.length + t191.length < 140737488355328 then ((some (y188 ++ t191 : List Int)).bind fun y194 => (if 12 ≤ (x0.length : Int) then (if y194.length + (x0.drop 12).length < 140737488355328 then (some ((y194 ++ (x0.drop 12)), true)) else (none)) else (none))) else (none)))) else (none))) else (none)))))))) else (none))) else (none)))
def spec_PacketPassed.f (k : Nat) (l0 : List Int) : Option (List Int × Bool) := (spec_PacketFrom.f k l0).bind fun bt153 => (if bt153.2.2.2.2.2.2.2.2.2 = true then (spec_PacketPassed.j0 k l0 (decide (bt153.2.2.2.1 < 2))) else (spec_PacketPassed.j0 k l0 true))
theorem spec_PacketPassed.mono_l : ∀ k, (∀ y0 y1, LeO (spec_PacketPassed.j0 k y0 y1) (spec_PacketPassed.j0 (k + 1) y0 y1))
 | 0 => fun _ _ r h => by simp [spec_PacketPassed.j0] at h
 | k + 1 => by
  have ih0 := spec_PacketPassed.mono_l k
  ·intro y0 y1
   unfold spec_PacketPassed.j0
   repeat' first
   | (with_reducible exact ih0 _ _)
   | (with_reducible exact spec_BytesOf.mono _ _ _)
   | (with_reducible exact spec_NumberAt.mono _ _ _ _)
   | (with_reducible exact spec_PacketFrom.mono _ _)
   | (with_reducible exact spec_SumTurned.mono _ _ _ _)
   | (with_reducible exact LeO.refl _)
   | (with_reducible exact LeO.none _)
   | (with_reducible refine LeO.ite ?_ ?_)
   | (with_reducible refine LeO.bind ?_ (fun _ => ?_))
   | exact ih0 _ _
   | exact spec_BytesOf.mono _ _ _
   | exact spec_NumberAt.mono _ _ _ _
   | exact spec_PacketFrom.mono _ _
   | exact spec_SumTurned.mono _ _ _ _
   | exact LeO.none _
   | refine LeO.ite ?_ ?_
   | refine LeO.bind ?_ (fun _ => ?_)
theorem spec_PacketPassed.mono : ∀ a0 k, LeO (spec_PacketPassed.f k a0) (spec_PacketPassed.f (k + 1) a0) := by
 intro a0 k;have ih0 := spec_PacketPassed.mono_l k
 unfold spec_PacketPassed.f
 repeat' first
   | (with_reducible exact ih0 _ _)
   | (with_reducible exact spec_BytesOf.mono _ _ _)
   | (with_reducible exact spec_NumberAt.mono _ _ _ _)
   | (with_reducible exact spec_PacketFrom.mono _ _)
   | (with_reducible exact spec_SumTurned.mono _ _ _ _)
   | (with_reducible exact LeO.refl _)
   | (with_reducible exact LeO.none _)
   | (with_reducible refine LeO.ite ?_ ?_)
   | (with_reducible refine LeO.bind ?_ (fun _ => ?_))
   | exact ih0 _ _
   | exact spec_BytesOf.mono _ _ _
   | exact spec_NumberAt.mono _ _ _ _
   | exact spec_PacketFrom.mono _ _
   | exact spec_SumTurned.mono _ _ _ _
   | exact LeO.none _
   | refine LeO.ite ?_ ?_
   | refine LeO.bind ?_ (fun _ => ?_)
set_option maxHeartbeats 8000000 in
set_option maxRecDepth 100000 in
theorem spec_PacketPassed.calls (k : Nat) (A0 : Option Addr) (c0 : Nat) (l0 : List Int) (r1 : List Int) (r2 : Bool) (w : World) (hr0 : Kd.C (Kd.int .u8) w A0 l0.length l0) (hc0 : l0.length ≤ c0) (h : spec_PacketPassed.f k l0 = some (r1, r2)) :
  Calls Try.prog 21 #[.slice A0 l0.length c0] w fun e w' => ∃ v0_ : Value, e = .returned (.tuple #[v0_, .bool r2]) ∧ Kd.R (Kd.int .u8) 5 w' w.heap.size (fun _ => True) v0_ r1 ∧ Below w.heap.size w w' := by
 have hu61 := Try.underlying61;have HR0 := Aside0.mk hr0;have HC0 := Aside0.mk hc0;clear hr0 hc0;have HB := Aside0.mk (Below.refl w.heap.size w);have H : ((spec_PacketFrom.f k l0).bind fun bt153 => (if bt153.2.2.2.2.2.2.2.2.2 = true then (spec_PacketPassed.j0 k l0 (decide (bt153.2.2.2.1 < 2))) else (spec_PacketPassed.j0 k l0 true))) = some (r1, r2) := h;clear h;replace H := ze H;obtain ⟨⟨t153, t154, t155, t156, t157, t158, t159, t160, t161, t164⟩, A20, H⟩ := H;replace H : (if t164 = true then (spec_PacketPassed.j0 k l0 (decide (t156 < 2))) else (spec_PacketPassed.j0 k l0 true)) = some (r1, r2) := H;have A2 := Aside0.mk A20;clear A20;have HC3 := Aside0.mk H;clear H
 go_enter Try.func21, Try.ntmps21
 go_upto_region 2 with (first | ((with_reducible refine gate_callee (f := 51) rfl ?_); refine goesL_ (some 11) rfl rfl Try.func51 (by kernel_rfl) rfl #[.slice A0 l0.length c0] rfl (by (try simp only [zm]); first | done | rfl | (simp only [zl]; rfl)) ?_; (with_reducible refine (spec_PacketFrom.calls k _ _ l0 t153 t154 t155 t156 t157 t158 t159 t160 t161 t164 _ ?side1 ?side2 A2.out).mono ?_); (case side1 => repeat (first | exact HR0.out | (with_reducible first | refine Kd.C_alloc ?_ _ | refine Kd.C_drewN ?_ _ | refine Kd.C_drew ?_))); (case side2 => exact HC0.out); rintro e w4 ⟨v162, rfl, ho0, hb⟩; refine ⟨_, rfl, ?_⟩; have n0_ := Aside0.mk (Kd.R_lower ho0 (below_size (by repeat (first | (with_reducible first | exact HB.out | apply below_alloc | apply pw_below_drewN | apply below_drew1) | exact HB.out)))); have n1_ := Aside0.mk (below_step (by repeat (first | (with_reducible first | exact HB.out | apply below_alloc | apply pw_below_drewN | apply below_drew1) | exact HB.out)) hb); clear HB; have HO163 := n0_; have HB := n1_; clear n0_ n1_; (try clear hb); (try clear hb2); (try clear hk); (try clear hi); (try clear ho0)) | ((with_reducible refine gate_dst (N := 4) rfl ?_); refine box_event ?hg (N := 4) ?hd (cs := #[.int .i64 0, .int .i64 0, .int .i64 0, .int .i64 0, .int .i64 0, .int .i64 0, .bool false, .bool false, .slice none 0 0]) (t := 61) ?hr ?_; (case hd => rfl); (case hg => rfl); (case hr => first | (go_simp; done) | (go_simp; rfl)); intro gb165 hg w5 hbox hb; have n0_ := Aside0.mk (Kd.R_below (by (with_reducible repeat (first | apply Kd.R_alloc | apply Kd.R_drewN | apply Kd.R_drew)); exact HO163.out) hb); have n1_ := Aside0.mk (below_step (by repeat (first | (with_reducible first | exact HB.out | apply below_alloc | apply pw_below_drewN | apply below_drew1) | exact HB.out)) hb); have n2_ := Aside0.mk (hbox); have n3_ := Aside0.mk ((by rw [hg]; exact (below_size (by repeat (first | (with_reducible first | exact HB.out | apply below_alloc | apply pw_below_drewN | apply below_drew1) | exact HB.out))) : w.heap.size ≤ gb165)); have n4_ := n3_; clear HO163; clear HB; have HO163 := n0_; have HB := n1_; have BK165 := n2_; have GW165 := n3_; have GE165 := n4_; clear n0_ n1_ n2_ n3_ n4_; clear hb hbox hg; obtain ⟨hcz6_0, hcz6_1, hcz6_2, hcz6_3, hcz6_4, hcz6_5, hcz6_6, hcz6_7, hcz6_8, hfz6_0, hfz6_1, hfz6_2, hfz6_3, hfz6_4, hfz6_5, hfz6_6, hfz6_7, hfz6_8⟩ := zc9 BK165.out; obtain ⟨Ao7, co7, eo7⟩ := Kd.R_slice HO163.out; subst eo7))
 (try simp only [Act.put, List.setIfInBounds_toArray, List.set_cons_zero, List.set_cons_succ])
 go_cut [20] (fun v20 wc => ∃ (kq : Nat) (x20_2 : Bool), v20 = .bool x20_2 ∧ Aside0 (spec_PacketPassed.j0 kq l0 x20_2 = some (r1, r2)) ∧ Aside0 (kq ≤ k) ∧ Aside0 (Kd.R (Kd.int .u8) 5 wc w.heap.size (fun _ => True) (.slice Ao7 t161.length co7) t161) ∧ Aside0 (wc.heap[gb165]? = some (.cells #[.int .i64 t153, .int .i64 t154, .int .i64 t155, .int .i64 t156, .int .i64 t157, .int .i64 t158, .bool t159, .bool t160, (.slice Ao7 t161.length co7)] 61 (0, 0))) ∧ Aside0 (Below w.heap.size w wc))
 case first =>
  have H := HC3.out;clear HC3
  by_cases c8 : t164 = true
  ·subst c8
   have H1 : (spec_PacketPassed.j0 k l0 (decide (t156 < 2))) = some (r1, r2) := by rw [if_pos rfl] at H; exact H
   clear H;have H := H1;clear H1;have H' := Aside0.mk H;clear H;obtain ⟨hcz9_0, hcz9_1, hcz9_2, hcz9_3, hcz9_4, hcz9_5, hcz9_6, hcz9_7, hcz9_8, hfz9_0, hfz9_1, hfz9_2, hfz9_3, hfz9_4, hfz9_5, hfz9_6, hfz9_7, hfz9_8⟩ := zc9 BK165.out
   go_wp2
   go_meet
   case rel => exact ⟨_, (decide (t156 < 2)), (by first | rfl | (simp; done) | (simp [*]; done)), H', ⟨by first | omega | exact Nat.le_refl _⟩, ⟨by (with_reducible repeat (first | apply Kd.R_alloc | apply Kd.R_drewN | apply Kd.R_drew)); exact Kd.R_mono (Kd.R_far (p := ⟨gb165, 8, none⟩) (Kd.R_far (p := ⟨gb165, 7, none⟩) (Kd.R_far (p := ⟨gb165, 6, none⟩) (Kd.R_far (p := ⟨gb165, 5, none⟩) (Kd.R_far (p := ⟨gb165, 4, none⟩) (Kd.R_far (p := ⟨gb165, 3, none⟩) (Kd.R_far (p := ⟨gb165, 2, none⟩) (Kd.R_far (p := ⟨gb165, 1, none⟩) (Kd.R_far (p := ⟨gb165, 0, none⟩) (Kd.R_types HO163.out BK165.out (by decide)) (fun _ hk => hk.2) (.int .i64 t153)) (fun _ hk => hk.2) (.int .i64 t154)) (fun _ hk => hk.2) (.int .i64 t155)) (fun _ hk => hk.2) (.int .i64 t156)) (fun _ hk => hk.2) (.int .i64 t157)) (fun _ hk => hk.2) (.int .i64 t158)) (fun _ hk => hk.2) (.bool t159)) (fun _ hk => hk.2) (.bool t160)) (fun _ hk => hk.2) (.slice Ao7 t161.length co7)) (fun _ hk => trivial)⟩, ⟨by (with_reducible repeat (first | apply blk_drewN | apply blk_drew | apply blk_alloc)); refine blk_put (cs := #[.int .i64 t153, .int .i64 t154, .int .i64 t155, .int .i64 t156, .int .i64 t157, .int .i64 t158, .bool t159, .bool t160, .slice none 0 0]) ?_ 8 _ rfl; refine blk_put (cs := #[.int .i64 t153, .int .i64 t154, .int .i64 t155, .int .i64 t156, .int .i64 t157, .int .i64 t158, .bool t159, .bool false, .slice none 0 0]) ?_ 7 _ rfl; refine blk_put (cs := #[.int .i64 t153, .int .i64 t154, .int .i64 t155, .int .i64 t156, .int .i64 t157, .int .i64 t158, .bool false, .bool false, .slice none 0 0]) ?_ 6 _ rfl; refine blk_put (cs := #[.int .i64 t153, .int .i64 t154, .int .i64 t155, .int .i64 t156, .int .i64 t157, .int .i64 0, .bool false, .bool false, .slice none 0 0]) ?_ 5 _ rfl; refine blk_put (cs := #[.int .i64 t153, .int .i64 t154, .int .i64 t155, .int .i64 t156, .int .i64 0, .int .i64 0, .bool false, .bool false, .slice none 0 0]) ?_ 4 _ rfl; refine blk_put (cs := #[.int .i64 t153, .int .i64 t154, .int .i64 t155, .int .i64 0, .int .i64 0, .int .i64 0, .bool false, .bool false, .slice none 0 0]) ?_ 3 _ rfl; refine blk_put (cs := #[.int .i64 t153, .int .i64 t154, .int .i64 0, .int .i64 0, .int .i64 0, .int .i64 0, .bool false, .bool false, .slice none 0 0]) ?_ 2 _ rfl; refine blk_put (cs := #[.int .i64 t153, .int .i64 0, .int .i64 0, .int .i64 0, .int .i64 0, .int .i64 0, .bool false, .bool false, .slice none 0 0]) ?_ 1 _ rfl; refine blk_put (cs := #[.int .i64 0, .int .i64 0, .int .i64 0, .int .i64 0, .int .i64 0, .int .i64 0, .bool false, .bool false, .slice none 0 0]) ?_ 0 _ rfl; (with_reducible repeat (first | apply blk_drewN | apply blk_drew | apply blk_alloc)); exact BK165.out⟩, ⟨by repeat (first | (with_reducible first | exact HB.out | apply below_alloc | apply pw_below_drewN | apply below_drew1 | refine below_set ?_ GE165.out) | exact HB.out)⟩⟩
  ·replace c8 := Bool.eq_false_iff.mpr c8
   subst c8
   have H1 : (spec_PacketPassed.j0 k l0 true) = some (r1, r2) := by rw [if_neg (show ¬ (false = true) by decide)] at H; exact H
   clear H;have H := H1;clear H1;have H' := Aside0.mk H;clear H
   go_wp2
   go_meet
   case rel => exact ⟨_, (true), (by first | rfl | (simp; done) | (simp [*]; done)), H', ⟨by first | omega | exact Nat.le_refl _⟩, ⟨by (with_reducible repeat (first | apply Kd.R_alloc | apply Kd.R_drewN | apply Kd.R_drew)); exact Kd.R_mono (Kd.R_far (p := ⟨gb165, 8, none⟩) (Kd.R_far (p := ⟨gb165, 7, none⟩) (Kd.R_far (p := ⟨gb165, 6, none⟩) (Kd.R_far (p := ⟨gb165, 5, none⟩) (Kd.R_far (p := ⟨gb165, 4, none⟩) (Kd.R_far (p := ⟨gb165, 3, none⟩) (Kd.R_far (p := ⟨gb165, 2, none⟩) (Kd.R_far (p := ⟨gb165, 1, none⟩) (Kd.R_far (p := ⟨gb165, 0, none⟩) (Kd.R_types HO163.out BK165.out (by decide)) (fun _ hk => hk.2) (.int .i64 t153)) (fun _ hk => hk.2) (.int .i64 t154)) (fun _ hk => hk.2) (.int .i64 t155)) (fun _ hk => hk.2) (.int .i64 t156)) (fun _ hk => hk.2) (.int .i64 t157)) (fun _ hk => hk.2) (.int .i64 t158)) (fun _ hk => hk.2) (.bool t159)) (fun _ hk => hk.2) (.bool t160)) (fun _ hk => hk.2) (.slice Ao7 t161.length co7)) (fun _ hk => trivial)⟩, ⟨by (with_reducible repeat (first | apply blk_drewN | apply blk_drew | apply blk_alloc)); refine blk_put (cs := #[.int .i64 t153, .int .i64 t154, .int .i64 t155, .int .i64 t156, .int .i64 t157, .int .i64 t158, .bool t159, .bool t160, .slice none 0 0]) ?_ 8 _ rfl; refine blk_put (cs := #[.int .i64 t153, .int .i64 t154, .int .i64 t155, .int .i64 t156, .int .i64 t157, .int .i64 t158, .bool t159, .bool false, .slice none 0 0]) ?_ 7 _ rfl; refine blk_put (cs := #[.int .i64 t153, .int .i64 t154, .int .i64 t155, .int .i64 t156, .int .i64 t157, .int .i64 t158, .bool false, .bool false, .slice none 0 0]) ?_ 6 _ rfl; refine blk_put (cs := #[.int .i64 t153, .int .i64 t154, .int .i64 t155, .int .i64 t156, .int .i64 t157, .int .i64 0, .bool false, .bool false, .slice none 0 0]) ?_ 5 _ rfl; refine blk_put (cs := #[.int .i64 t153, .int .i64 t154, .int .i64 t155, .int .i64 t156, .int .i64 0, .int .i64 0, .bool false, .bool false, .slice none 0 0]) ?_ 4 _ rfl; refine blk_put (cs := #[.int .i64 t153, .int .i64 t154, .int .i64 t155, .int .i64 0, .int .i64 0, .int .i64 0, .bool false, .bool false, .slice none 0 0]) ?_ 3 _ rfl; refine blk_put (cs := #[.int .i64 t153, .int .i64 t154, .int .i64 0, .int .i64 0, .int .i64 0, .int .i64 0, .bool false, .bool false, .slice none 0 0]) ?_ 2 _ rfl; refine blk_put (cs := #[.int .i64 t153, .int .i64 0, .int .i64 0, .int .i64 0, .int .i64 0, .int .i64 0, .bool false, .bool false, .slice none 0 0]) ?_ 1 _ rfl; refine blk_put (cs := #[.int .i64 0, .int .i64 0, .int .i64 0, .int .i64 0, .int .i64 0, .int .i64 0, .bool false, .bool false, .slice none 0 0]) ?_ 0 _ rfl; (with_reducible repeat (first | apply blk_drewN | apply blk_drew | apply blk_alloc)); exact BK165.out⟩, ⟨by repeat (first | (with_reducible first | exact HB.out | apply below_alloc | apply pw_below_drewN | apply below_drew1 | refine below_set ?_ GE165.out) | exact HB.out)⟩⟩
 case rest =>
  clear HC3
  try clear c2
  try clear p2
  try clear c5
  try clear c8
  try clear hcz6_0
  try clear hcz6_1
  try clear hcz6_2
  try clear hcz6_3
  try clear hcz6_4
  try clear hcz6_5
  try clear hcz6_6
  try clear hcz6_7
  try clear hcz6_8
  try clear hcz9_0
  try clear hcz9_1
  try clear hcz9_2
  try clear hcz9_3
  try clear hcz9_4
  try clear hcz9_5
  try clear hcz9_6
  try clear hcz9_7
  try clear hcz9_8
  try clear hfz6_0
  try clear hfz6_1
  try clear hfz6_2
  try clear hfz6_3
  try clear hfz6_4
  try clear hfz6_5
  try clear hfz6_6
  try clear hfz6_7
  try clear hfz6_8
  try clear hfz9_0
  try clear hfz9_1
  try clear hfz9_2
  try clear hfz9_3
  try clear hfz9_4
  try clear hfz9_5
  try clear hfz9_6
  try clear hfz9_7
  try clear hfz9_8
  obtain ⟨kq, x20_2, rfl, HA, HJ2, HO_166008, BK165, HB⟩ := hcut
  cases kq with
  | zero => exact absurd HA.out (by simp [spec_PacketPassed.j0])
  | succ kj2 =>
   have H := HA.out;clear HA;simp only [spec_PacketPassed.j0] at H
   by_cases c10 : x20_2 = true
   ·subst c10
    have H1 : (some ((([] : List Int)), false)) = some (r1, r2) := by rw [if_pos rfl] at H; exact H
    clear H;have H := H1;clear H1;obtain ⟨y166, hy166⟩ : ∃ y_ : List Int, y_ = (([] : List Int)) := ⟨_, rfl⟩
    replace H : (some (y166, false)) = some (r1, r2) := by first | (rw [hy166]; with_reducible exact H) | (have H2_ := (Option.bind_some _ _).symm.trans H; rw [hy166]; with_reducible exact H2_) | (have H2_ := (Option.bind_some _ _).symm.trans H; with_reducible exact H2_) | with_reducible exact H | (rw [hy166]; exact H) | exact H
    have Ny166 := Aside0.mk hy166;clear hy166;simp only [Option.some.injEq, Prod.mk.injEq] at H;obtain ⟨rfl, rfl⟩ := H
    go_wp2_with (first | ((with_reducible refine gate_dst (N := 21) rfl ?_); refine Kd.R_lit (Kd.int .u8) _ 5 ?hg (N := 21) ?hd (xs := ([] : List Int)) (inner := []) (ok := fun _ => True) (okp := fun _ => True) ?hr ?hp (fun _ hk => hk) trivial (Below.refl _ _) (Nat.le_refl _) (by simp) ?_; (case hd => rfl); (case hg => rfl); (case hr => first | (go_simp; done) | (go_simp; rfl)); (case hp => exact (Reps.none _ _)); intro v167 w11 ho12 hb hg_ hnew_; clear hg_ hnew_; (first | rw [← Ny166.out] at ho12 | (simp only [Int.reduceToNat] at ho12; rw [← Ny166.out] at ho12)); have n0_ := Aside0.mk (Kd.R_elder' (by (with_reducible repeat (first | apply Kd.R_alloc | apply Kd.R_drewN | apply Kd.R_drew)); exact HO_166008.out) (Kd.R_base ho12) hb); have n1_ := Aside0.mk (Kd.R_lower (Kd.R_new' ho12 (Kd.R_lt (by (with_reducible repeat (first | apply Kd.R_alloc | apply Kd.R_drewN | apply Kd.R_drew)); exact HO_166008.out))) (below_size (by repeat (first | (with_reducible first | exact HB.out | apply below_alloc | apply pw_below_drewN | apply below_drew1 | refine below_set ?_ GE165.out) | exact HB.out)))); have n2_ := Aside0.mk (blk_below (g := gb165) (o := .cells #[.int .i64 t153, .int .i64 t154, .int .i64 t155, .int .i64 t156, .int .i64 t157, .int .i64 t158, .bool t159, .bool t160, .slice Ao7 t161.length co7] 61 (0, 0)) (by (with_reducible repeat (first | apply blk_drewN | apply blk_drew | apply blk_alloc)); exact BK165.out) hb); have n3_ := Aside0.mk (below_step (by repeat (first | (with_reducible first | exact HB.out | apply below_alloc | apply pw_below_drewN | apply below_drew1 | refine below_set ?_ GE165.out) | exact HB.out)) hb); clear HO_166008; clear BK165; clear HB; have HO_166008 := n0_; have HO168 := n1_; have BK165 := n2_; have HB := n3_; clear n0_ n1_ n2_ n3_; clear hb ho12))
    go_ret2
    exact ⟨_, by first | rfl | (simp <;> rfl) | (simp [*] <;> rfl), by (with_reducible repeat (first | apply Kd.R_alloc | apply Kd.R_drewN | apply Kd.R_drew)); exact Kd.R_mono HO168.out (fun _ hk => trivial), by repeat (first | (with_reducible first | exact HB.out | apply below_alloc | apply pw_below_drewN | apply below_drew1 | refine below_set ?_ GE165.out) | exact HB.out)⟩
   ·replace c10 := Bool.eq_false_iff.mpr c10
    subst c10
    have H1 : ((some (([] : List Int) : List Int)).bind fun y169 => (if y169.length + l0.length < 140737488355328 then ((some (y169 ++ l0 : List Int)).bind fun y172 => (if 5 < (y172.length : Int) then ((some (y172.set (5 : Int).toNat (((rd y172 5) - 1) % 256) : List Int)).bind fun y176 => ((spec_NumberAt.f kj2 l0 10 2).bind fun t177 => ((spec_NumberAt.f kj2 l0 4 2).bind fun t178 => ((spec_NumberAt.f kj2 y176 4 2).bind fun t179 => ((spec_SumTurned.f kj2 t177 t178 t179).bind fun t180 => ((some (([] : List Int) : List Int)).bind fun y181 => (if 10 ≤ (y172.length : Int) then ((some (y176.take 10 : List Int)).bind fun y184 => (if y181.length + y184.length < 140737488355328 then ((some (y181 ++ y184 : List Int)).bind fun y188 => ((spec_BytesOf.f kj2 t180 2).bind fun t191 => (if y188.length + t191.length < 140737488355328 then ((some (y188 ++ t191 : List Int)).bind fun y194 => (if 12 ≤ (l0.length : Int) then (if y194.length + (l0.drop 12).length < 140737488355328 then (some ((y194 ++ (l0.drop 12)), true)) else (none)) else (none))) else (none)))) else (none))) else (none)))))))) else (none))) else (none))) = some (r1, r2) := by rw [if_neg (show ¬ (false = true) by decide)] at H; exact H
    clear H;have H := H1;clear H1;obtain ⟨y169, hy169⟩ : ∃ y_ : List Int, y_ = (([] : List Int)) := ⟨_, rfl⟩
    replace H : (if y169.length + l0.length < 140737488355328 then ((some (y169 ++ l0 : List Int)).bind fun y172 => (if 5 < (y172.length : Int) then ((some (y172.set (5 : Int).toNat (((rd y172 5) - 1) % 256) : List Int)).bind fun y176 => ((spec_NumberAt.f kj2 l0 10 2).bind fun t177 => ((spec_NumberAt.f kj2 l0 4 2).bind fun t178 => ((spec_NumberAt.f kj2 y176 4 2).bind fun t179 => ((spec_SumTurned.f kj2 t177 t178 t179).bind fun t180 => ((some (([] : List Int) : List Int)).bind fun y181 => (if 10 ≤ (y172.length : Int) then ((some (y176.take 10 : List Int)).bind fun y184 => (if y181.length + y184.length < 140737488355328 then ((some (y181 ++ y184 : List Int)).bind fun y188 => ((spec_BytesOf.f kj2 t180 2).bind fun t191 => (if y188.length + t191.length < 140737488355328 then ((some (y188 ++ t191 : List Int)).bind fun y194 => (if 12 ≤ (l0.length : Int) then (if y194.length + (l0.drop 12).length < 140737488355328 then (some ((y194 ++ (l0.drop 12)), true)) else (none)) else (none))) else (none)))) else (none))) else (none)))))))) else (none))) else (none)) = some (r1, r2) := by first | (rw [hy169]; with_reducible exact H) | (have H2_ := (Option.bind_some _ _).symm.trans H; rw [hy169]; with_reducible exact H2_) | (have H2_ := (Option.bind_some _ _).symm.trans H; with_reducible exact H2_) | with_reducible exact H | (rw [hy169]; exact H) | exact H
    have Ny169 := Aside0.mk hy169;clear hy169
    by_cases c13 : y169.length + l0.length < 140737488355328
    ·rw [if_pos c13] at H
     have LMc13 := Aside0.mk c13;clear c13;obtain ⟨y172, hy172⟩ : ∃ y_ : List Int, y_ = (y169 ++ l0) := ⟨_, rfl⟩
     replace H : (if 5 < (y172.length : Int) then ((some (y172.set (5 : Int).toNat (((rd y172 5) - 1) % 256) : List Int)).bind fun y176 => ((spec_NumberAt.f kj2 l0 10 2).bind fun t177 => ((spec_NumberAt.f kj2 l0 4 2).bind fun t178 => ((spec_NumberAt.f kj2 y176 4 2).bind fun t179 => ((spec_SumTurned.f kj2 t177 t178 t179).bind fun t180 => ((some (([] : List Int) : List Int)).bind fun y181 => (if 10 ≤ (y172.length : Int) then ((some (y176.take 10 : List Int)).bind fun y184 => (if y181.length + y184.length < 140737488355328 then ((some (y181 ++ y184 : List Int)).bind fun y188 => ((spec_BytesOf.f kj2 t180 2).bind fun t191 => (if y188.length + t191.length < 140737488355328 then ((some (y188 ++ t191 : List Int)).bind fun y194 => (if 12 ≤ (l0.length : Int) then (if y194.length + (l0.drop 12).length < 140737488355328 then (some ((y194 ++ (l0.drop 12)), true)) else (none)) else (none))) else (none)))) else (none))) else (none)))))))) else (none)) = some (r1, r2) := by first | (rw [hy172]; with_reducible exact H) | (have H2_ := (Option.bind_some _ _).symm.trans H; rw [hy172]; with_reducible exact H2_) | (have H2_ := (Option.bind_some _ _).symm.trans H; with_reducible exact H2_) | with_reducible exact H | (rw [hy172]; exact H) | exact H
     have Ny172 := Aside0.mk hy172;clear hy172
     by_cases c14 : 5 < (y172.length : Int)
     ·rw [if_pos c14] at H
      have c14b0 : decide (5 < (y172.length : Int)) = true := decide_eq_true c14;have c14b1 : decide (5 < y172.length) = true := decide_eq_true (by omega);clear c14;obtain ⟨y176, hy176⟩ : ∃ y_ : List Int, y_ = (y172.set (5 : Int).toNat (((rd y172 5) - 1) % 256)) := ⟨_, rfl⟩
      replace H : ((spec_NumberAt.f kj2 l0 10 2).bind fun t177 => ((spec_NumberAt.f kj2 l0 4 2).bind fun t178 => ((spec_NumberAt.f kj2 y176 4 2).bind fun t179 => ((spec_SumTurned.f kj2 t177 t178 t179).bind fun t180 => ((some (([] : List Int) : List Int)).bind fun y181 => (if 10 ≤ (y172.length : Int) then ((some (y176.take 10 : List Int)).bind fun y184 => (if y181.length + y184.length < 140737488355328 then ((some (y181 ++ y184 : List Int)).bind fun y188 => ((spec_BytesOf.f kj2 t180 2).bind fun t191 => (if y188.length + t191.length < 140737488355328 then ((some (y188 ++ t191 : List Int)).bind fun y194 => (if 12 ≤ (l0.length : Int) then (if y194.length + (l0.drop 12).length < 140737488355328 then (some ((y194 ++ (l0.drop 12)), true)) else (none)) else (none))) else (none)))) else (none))) else (none))))))) = some (r1, r2) := by first | (rw [hy176]; with_reducible exact H) | (have H2_ := (Option.bind_some _ _).symm.trans H; rw [hy176]; with_reducible exact H2_) | (have H2_ := (Option.bind_some _ _).symm.trans H; with_reducible exact H2_) | with_reducible exact H | (rw [hy176]; exact H) | exact H
      have Ny176 := Aside0.mk hy176;clear hy176;replace H := ze H;obtain ⟨t177, A160, H⟩ := H;replace H : ((spec_NumberAt.f kj2 l0 4 2).bind fun t178 => ((spec_NumberAt.f kj2 y176 4 2).bind fun t179 => ((spec_SumTurned.f kj2 t177 t178 t179).bind fun t180 => ((some (([] : List Int) : List Int)).bind fun y181 => (if 10 ≤ (y172.length : Int) then ((some (y176.take 10 : List Int)).bind fun y184 => (if y181.length + y184.length < 140737488355328 then ((some (y181 ++ y184 : List Int)).bind fun y188 => ((spec_BytesOf.f kj2 t180 2).bind fun t191 => (if y188.length + t191.length < 140737488355328 then ((some (y188 ++ t191 : List Int)).bind fun y194 => (if 12 ≤ (l0.length : Int) then (if y194.length + (l0.drop 12).length < 140737488355328 then (some ((y194 ++ (l0.drop 12)), true)) else (none)) else (none))) else (none)))) else (none))) else (none)))))) = some (r1, r2) := H;have A16 := Aside0.mk A160;clear A160;replace H := ze H;obtain ⟨t178, A170, H⟩ := H;replace H : ((spec_NumberAt.f kj2 y176 4 2).bind fun t179 => ((spec_SumTurned.f kj2 t177 t178 t179).bind fun t180 => ((some (([] : List Int) : List Int)).bind fun y181 => (if 10 ≤ (y172.length : Int) then ((some (y176.take 10 : List Int)).bind fun y184 => (if y181.length + y184.length < 140737488355328 then ((some (y181 ++ y184 : List Int)).bind fun y188 => ((spec_BytesOf.f kj2 t180 2).bind fun t191 => (if y188.length + t191.length < 140737488355328 then ((some (y188 ++ t191 : List Int)).bind fun y194 => (if 12 ≤ (l0.length : Int) then (if y194.length + (l0.drop 12).length < 140737488355328 then (some ((y194 ++ (l0.drop 12)), true)) else (none)) else (none))) else (none)))) else (none))) else (none))))) = some (r1, r2) := H;have A17 := Aside0.mk A170;clear A170;replace H := ze H;obtain ⟨t179, A180, H⟩ := H;replace H : ((spec_SumTurned.f kj2 t177 t178 t179).bind fun t180 => ((some (([] : List Int) : List Int)).bind fun y181 => (if 10 ≤ (y172.length : Int) then ((some (y176.take 10 : List Int)).bind fun y184 => (if y181.length + y184.length < 140737488355328 then ((some (y181 ++ y184 : List Int)).bind fun y188 => ((spec_BytesOf.f kj2 t180 2).bind fun t191 => (if y188.length + t191.length < 140737488355328 then ((some (y188 ++ t191 : List Int)).bind fun y194 => (if 12 ≤ (l0.length : Int) then (if y194.length + (l0.drop 12).length < 140737488355328 then (some ((y194 ++ (l0.drop 12)), true)) else (none)) else (none))) else (none)))) else (none))) else (none)))) = some (r1, r2) := H;have A18 := Aside0.mk A180;clear A180;replace H := ze H;obtain ⟨t180, A190, H⟩ := H;replace H : ((some (([] : List Int) : List Int)).bind fun y181 => (if 10 ≤ (y172.length : Int) then ((some (y176.take 10 : List Int)).bind fun y184 => (if y181.length + y184.length < 140737488355328 then ((some (y181 ++ y184 : List Int)).bind fun y188 => ((spec_BytesOf.f kj2 t180 2).bind fun t191 => (if y188.length + t191.length < 140737488355328 then ((some (y188 ++ t191 : List Int)).bind fun y194 => (if 12 ≤ (l0.length : Int) then (if y194.length + (l0.drop 12).length < 140737488355328 then (some ((y194 ++ (l0.drop 12)), true)) else (none)) else (none))) else (none)))) else (none))) else (none))) = some (r1, r2) := H;have A19 := Aside0.mk A190;clear A190;obtain ⟨y181, hy181⟩ : ∃ y_ : List Int, y_ = (([] : List Int)) := ⟨_, rfl⟩
      replace H : (if 10 ≤ (y172.length : Int) then ((some (y176.take 10 : List Int)).bind fun y184 => (if y181.length + y184.length < 140737488355328 then ((some (y181 ++ y184 : List Int)).bind fun y188 => ((spec_BytesOf.f kj2 t180 2).bind fun t191 => (if y188.length + t191.length < 140737488355328 then ((some (y188 ++ t191 : List Int)).bind fun y194 => (if 12 ≤ (l0.length : Int) then (if y194.length + (l0.drop 12).length < 140737488355328 then (some ((y194 ++ (l0.drop 12)), true)) else (none)) else (none))) else (none)))) else (none))) else (none)) = some (r1, r2) := by first | (rw [hy181]; with_reducible exact H) | (have H2_ := (Option.bind_some _ _).symm.trans H; rw [hy181]; with_reducible exact H2_) | (have H2_ := (Option.bind_some _ _).symm.trans H; with_reducible exact H2_) | with_reducible exact H | (rw [hy181]; exact H) | exact H
      have Ny181 := Aside0.mk hy181;clear hy181
      by_cases c20 : 10 ≤ (y172.length : Int)
      ·rw [if_pos c20] at H
       have c20b0 := eq_true c20;have c20b1 : decide (10 ≤ (y172.length : Int)) = true := decide_eq_true c20;clear c20;obtain ⟨y184, hy184⟩ : ∃ y_ : List Int, y_ = (y176.take 10) := ⟨_, rfl⟩
       replace H : (if y181.length + y184.length < 140737488355328 then ((some (y181 ++ y184 : List Int)).bind fun y188 => ((spec_BytesOf.f kj2 t180 2).bind fun t191 => (if y188.length + t191.length < 140737488355328 then ((some (y188 ++ t191 : List Int)).bind fun y194 => (if 12 ≤ (l0.length : Int) then (if y194.length + (l0.drop 12).length < 140737488355328 then (some ((y194 ++ (l0.drop 12)), true)) else (none)) else (none))) else (none)))) else (none)) = some (r1, r2) := by first | (rw [hy184]; with_reducible exact H) | (have H2_ := (Option.bind_some _ _).symm.trans H; rw [hy184]; with_reducible exact H2_) | (have H2_ := (Option.bind_some _ _).symm.trans H; with_reducible exact H2_) | with_reducible exact H | (rw [hy184]; exact H) | exact H
       have Ny184 := Aside0.mk hy184;clear hy184
       by_cases c21 : y181.length + y184.length < 140737488355328
       ·rw [if_pos c21] at H
        have LMc21 := Aside0.mk c21;clear c21;obtain ⟨y188, hy188⟩ : ∃ y_ : List Int, y_ = (y181 ++ y184) := ⟨_, rfl⟩
        replace H : ((spec_BytesOf.f kj2 t180 2).bind fun t191 => (if y188.length + t191.length < 140737488355328 then ((some (y188 ++ t191 : List Int)).bind fun y194 => (if 12 ≤ (l0.length : Int) then (if y194.length + (l0.drop 12).length < 140737488355328 then (some ((y194 ++ (l0.drop 12)), true)) else (none)) else (none))) else (none))) = some (r1, r2) := by first | (rw [hy188]; with_reducible exact H) | (have H2_ := (Option.bind_some _ _).symm.trans H; rw [hy188]; with_reducible exact H2_) | (have H2_ := (Option.bind_some _ _).symm.trans H; with_reducible exact H2_) | with_reducible exact H | (rw [hy188]; exact H) | exact H
        have Ny188 := Aside0.mk hy188;clear hy188;replace H := ze H;obtain ⟨t191, A220, H⟩ := H;replace H : (if y188.length + t191.length < 140737488355328 then ((some (y188 ++ t191 : List Int)).bind fun y194 => (if 12 ≤ (l0.length : Int) then (if y194.length + (l0.drop 12).length < 140737488355328 then (some ((y194 ++ (l0.drop 12)), true)) else (none)) else (none))) else (none)) = some (r1, r2) := H;have A22 := Aside0.mk A220;clear A220
        by_cases c23 : y188.length + t191.length < 140737488355328
        ·rw [if_pos c23] at H
         have LMc23 := Aside0.mk c23;clear c23;obtain ⟨y194, hy194⟩ : ∃ y_ : List Int, y_ = (y188 ++ t191) := ⟨_, rfl⟩
         replace H : (if 12 ≤ (l0.length : Int) then (if y194.length + (l0.drop 12).length < 140737488355328 then (some ((y194 ++ (l0.drop 12)), true)) else (none)) else (none)) = some (r1, r2) := by first | (rw [hy194]; with_reducible exact H) | (have H2_ := (Option.bind_some _ _).symm.trans H; rw [hy194]; with_reducible exact H2_) | (have H2_ := (Option.bind_some _ _).symm.trans H; with_reducible exact H2_) | with_reducible exact H | (rw [hy194]; exact H) | exact H
         have Ny194 := Aside0.mk hy194;clear hy194
         by_cases c24 : 12 ≤ (l0.length : Int)
         ·rw [if_pos c24] at H
          have c24b0 := eq_true c24;have c24b1 : decide (12 ≤ (l0.length : Int)) = true := decide_eq_true c24;clear c24
          by_cases c25 : y194.length + (l0.drop 12).length < 140737488355328
          ·rw [if_pos c25] at H
           have LMc25 := Aside0.mk c25;clear c25;obtain ⟨y198, hy198⟩ : ∃ y_ : List Int, y_ = (y194 ++ (l0.drop 12)) := ⟨_, rfl⟩
           replace H : (some (y198, true)) = some (r1, r2) := by first | (rw [hy198]; with_reducible exact H) | (have H2_ := (Option.bind_some _ _).symm.trans H; rw [hy198]; with_reducible exact H2_) | (have H2_ := (Option.bind_some _ _).symm.trans H; with_reducible exact H2_) | with_reducible exact H | (rw [hy198]; exact H) | exact H
           have Ny198 := Aside0.mk hy198;clear hy198;simp only [Option.some.injEq, Prod.mk.injEq] at H;obtain ⟨rfl, rfl⟩ := H
           go_wp2_with (first | ((with_reducible refine gate_dst (N := 22) rfl ?_); refine Kd.R_lit (Kd.int .u8) _ 5 ?hg (N := 22) ?hd (xs := ([] : List Int)) (inner := []) (ok := fun _ => True) (okp := fun _ => True) ?hr ?hp (fun _ hk => hk) trivial (Below.refl _ _) (Nat.le_refl _) (by simp) ?_; (case hd => rfl); (case hg => rfl); (case hr => first | (go_simp; done) | (go_simp; rfl)); (case hp => exact (Reps.none _ _)); intro v170 w26 ho27 hb hg_ hnew_; clear hg_ hnew_; (first | rw [← Ny169.out] at ho27 | (simp only [Int.reduceToNat] at ho27; rw [← Ny169.out] at ho27)); have n0_ := Aside0.mk (Kd.R_elder' (by (with_reducible repeat (first | apply Kd.R_alloc | apply Kd.R_drewN | apply Kd.R_drew)); exact HO_166008.out) (Kd.R_base ho27) hb); have n1_ := Aside0.mk (Kd.R_lower (Kd.R_new' ho27 (Kd.R_lt (by (with_reducible repeat (first | apply Kd.R_alloc | apply Kd.R_drewN | apply Kd.R_drew)); exact HO_166008.out))) (below_size (by repeat (first | (with_reducible first | exact HB.out | apply below_alloc | apply pw_below_drewN | apply below_drew1 | refine below_set ?_ GE165.out) | exact HB.out)))); have n2_ := Aside0.mk (blk_below (g := gb165) (o := .cells #[.int .i64 t153, .int .i64 t154, .int .i64 t155, .int .i64 t156, .int .i64 t157, .int .i64 t158, .bool t159, .bool t160, .slice Ao7 t161.length co7] 61 (0, 0)) (by (with_reducible repeat (first | apply blk_drewN | apply blk_drew | apply blk_alloc)); exact BK165.out) hb); have n3_ := Aside0.mk (below_step (by repeat (first | (with_reducible first | exact HB.out | apply below_alloc | apply pw_below_drewN | apply below_drew1 | refine below_set ?_ GE165.out) | exact HB.out)) hb); clear HO_166008; clear BK165; clear HB; have HO_166008 := n0_; have HO171 := n1_; have BK165 := n2_; have HB := n3_; clear n0_ n1_ n2_ n3_; clear hb ho27) | ((with_reducible refine gate_builtin (b := .append) (xs := #[.tmp 22, .tmp 23]) rfl ?_); at_builtin; refine Kd.R_append_rows (Kd.int .u8) (w0 := w) w.heap.size rfl (.tmp 22) (.tmp 23) 22 5 (.int .u8 0) 1 rfl Try.underlying22 info5 rfl (by decide) (by omega) v170 y169 l0 _ _ _ (fun k_ => some k_ ≠ (.slice Ao7 t161.length co7 : Value).ownBlock) (fun _ => False) rfl rfl ?aO ?aR (fun _ _ h => h) (fun _ h => h.elim) ?aF ?aB ?aS ?aL ?_; (case aR => repeat (first | exact (Kd.C_below HR0.out HB.out) | (with_reducible first | refine Kd.C_alloc ?_ _ | refine Kd.C_drewN ?_ _ | refine Kd.C_drew ?_))); (case aB => exact (by repeat (first | (with_reducible first | exact HB.out | apply below_alloc | apply pw_below_drewN | apply below_drew1 | refine below_set ?_ GE165.out) | exact HB.out))); (case aF => exact (fun k_ hk => Kd.fresh' (Kd.R_lt (by (with_reducible repeat (first | apply Kd.R_alloc | apply Kd.R_drewN | apply Kd.R_drew)); exact HO_166008.out)) k_ hk)); (case aO => exact (by (with_reducible repeat (first | apply Kd.R_alloc | apply Kd.R_drewN | apply Kd.R_drew)); exact Kd.R_mono HO171.out (fun _ hk => hk.2))); (case aS => exact (below_size (by repeat (first | (with_reducible first | exact HB.out | apply below_alloc | apply pw_below_drewN | apply below_drew1 | refine below_set ?_ GE165.out) | exact HB.out)))); (case aL => have := LMc13.out; omega); intro v173 w28 ho hb hg hat; rw [← Ny172.out] at ho; have n0_ := Aside0.mk (Kd.R_after (ok := (fun _ => True)) (by (with_reducible repeat (first | apply Kd.R_alloc | apply Kd.R_drewN | apply Kd.R_drew)); exact HO_166008.out) hg hat); have n1_ := Aside0.mk (blk_grown (g := gb165) (o := .cells #[.int .i64 t153, .int .i64 t154, .int .i64 t155, .int .i64 t156, .int .i64 t157, .int .i64 t158, .bool t159, .bool t160, .slice Ao7 t161.length co7] 61 (0, 0)) (by (with_reducible repeat (first | apply blk_drewN | apply blk_drew | apply blk_alloc)); exact BK165.out) hg (Kd.R_ne HO171.out BK165.out (by decide))); have n2_ := Aside0.mk (hb); have n3_ := Aside0.mk (ho); clear HO_166008; clear BK165; clear HB; clear HO171; have HO_166008 := n0_; have BK165 := n1_; have HB := n2_; have HO174 := n3_; clear n0_ n1_ n2_ n3_; clear ho hb hg hat; obtain ⟨Ao29, co29, eo29⟩ := Kd.R_slice HO174.out; subst eo29; have p175 : 0 ≤ (5 : Int) := (by omega); have q175 : 5 < (y172.length : Int) := of_decide_eq_true (by first | (with_reducible assumption) | assumption); obtain ⟨ad175, e175, hx175_0⟩ := Kd.at_int (Kd.R_reads' HO174.out).2.2 5 p175 q175; cases e175; (try simp only [show (5 : Int).toNat = 5 from rfl, Nat.reduceMul, Nat.reduceEqDiff, Go.Addr.add, ↓reduceIte] at hx175_0); have qi175 : (5 < y172.length) = True := eq_true (by omega); (try rw [show ((5 : Int)).toNat = 5 from rfl] at hx175_0); replace p175 := eq_true p175; replace q175 := eq_true q175; have p15 : 0 ≤ (5 : Int) := (by omega); have q15 : (5 : Int) < ((y172.length : Int) : Int) := of_decide_eq_true (by first | (with_reducible assumption) | assumption); have qi15 : (5 < y172.length) = True := eq_true (by omega); obtain ⟨go15, co15, eo15, gb15, gl15, cl15, HG15⟩ := Kd.R_form HO174.out (by omega); (first | cases eo15 | (injection eo15 with ea_ en_ ec_; (first | subst ea_ | (injection ea_ with ea_; subst ea_)); subst ec_; clear en_)); have GB15 := Aside0.mk gb15; have GG15 := Aside0.mk HG15; clear gb15 gl15 HG15; (first | simp only [add_plain] at hx175_0 | skip); obtain ⟨hx15_0, hf15_0⟩ := Kd.R_celln 0 HO174.out (5 : Int) p15 q15; (try rw [show ((5 : Int)).toNat = 5 from rfl] at hx15_0); (try simp only [Nat.reduceMul, Nat.zero_mul, Nat.zero_add, Nat.reduceAdd] at hx15_0); (try rw [show ((5 : Int)).toNat = 5 from rfl] at hf15_0); (try simp only [Nat.reduceMul, Nat.zero_mul, Nat.zero_add, Nat.reduceAdd] at hf15_0); replace p15 := eq_true p15; replace q15 := eq_true q15; obtain ⟨hy30_, hz30_⟩ := Kd.R_celln 0 HO174.out (5 : Int) (by omega) (of_decide_eq_true (by first | (with_reducible assumption) | assumption)); (try simp only [Int.reduceToNat, Int.toNat_zero, Int.toNat_ofNat, Nat.reduceMul, Nat.zero_mul, Nat.zero_add] at hy30_ hz30_); (try rw [show ((5 : Int)).toNat = 5 from rfl] at hy30_); (try rw [show ((5 : Int)).toNat = 5 from rfl] at hz30_); have HP30 := Kd.R_putg HO174.out (5 : Int) (((rd y172 5) - 1) % 256)) | ((with_reducible refine gate_store (t := 5) (p := 30) rfl ?_); refine store_event (t := 5) (p := 30) (v := ?vo_w31) (w1 := (w28.setCell ⟨go15, (5 : Int).toNat, none⟩ (.int .u8 (((rd y172 5) - 1) % 256)))) ?hg ?ho ?hn ?hr ?_; (case ho => rfl); (case hg => rfl); (case hn => rfl); (case hr => first | (go_simp; done) | (go_simp; rfl)); intro w31 hw; have hg : w28.grownBy w31 (some go15) := (by rw [hw]; exact HP30.2); have hp_ : Kd.R (Kd.int .u8) 5 w31 w.heap.size (fun k_ => some k_ ≠ (.slice Ao7 t161.length co7 : Value).ownBlock) (.slice (some ⟨go15, 0, none⟩) y172.length co29) y176 := (by rw [hw, Ny176.out]; exact HP30.1); clear HP30; have n0_ := Aside0.mk (Kd.R_after (v := (.slice (some ⟨go15, 0, none⟩) y172.length co29)) (v1 := (.slice (some ⟨go15, 0, none⟩) y172.length co29)) (ok := (fun _ => True)) (by (with_reducible repeat (first | apply Kd.R_alloc | apply Kd.R_drewN | apply Kd.R_drew)); exact HO_166008.out) hg (.inl rfl)); have n1_ := Aside0.mk (blk_grown (g := gb165) (o := .cells #[.int .i64 t153, .int .i64 t154, .int .i64 t155, .int .i64 t156, .int .i64 t157, .int .i64 t158, .bool t159, .bool t160, .slice Ao7 t161.length co7] 61 (0, 0)) (by (with_reducible repeat (first | apply blk_drewN | apply blk_drew | apply blk_alloc)); exact BK165.out) hg (Kd.R_ne HO174.out BK165.out (by decide))); have n2_ := Aside0.mk (hp_); have n3_ := Aside0.mk ((by rw [hw]; exact below_set (HB.out) GB15.out : Below w.heap.size w w31)); clear HO_166008; clear BK165; clear HO174; clear HB; have HO_166008 := n0_; have BK165 := n1_; have HO174 := n2_; have HB := n3_; clear n0_ n1_ n2_ n3_; clear hg hw hp_) | ((with_reducible refine gate_callee (f := 58) rfl ?_); refine goesL_ (some 32) rfl rfl Try.func58 (by kernel_rfl) rfl #[.slice A0 l0.length c0, .int .i64 10, .int .i64 2] rfl (by (try simp only [zm]); first | done | rfl | (simp only [zl]; rfl)) ?_; (with_reducible refine (spec_NumberAt.calls kj2 _ _ l0 10 2 t177 _ ?side1 ?side2 A16.out).mono ?_); (case side1 => repeat (first | exact (Kd.C_below HR0.out HB.out) | (with_reducible first | refine Kd.C_alloc ?_ _ | refine Kd.C_drewN ?_ _ | refine Kd.C_drew ?_))); (case side2 => exact HC0.out); rintro e w' ⟨rfl, ⟨nd, rfl⟩⟩; refine ⟨_, rfl, ?_⟩) | ((with_reducible refine gate_callee (f := 58) rfl ?_); refine goesL_ (some 34) rfl rfl Try.func58 (by kernel_rfl) rfl #[.slice A0 l0.length c0, .int .i64 4, .int .i64 2] rfl (by (try simp only [zm]); first | done | rfl | (simp only [zl]; rfl)) ?_; (with_reducible refine (spec_NumberAt.calls kj2 _ _ l0 4 2 t178 _ ?side1 ?side2 A17.out).mono ?_); (case side1 => repeat (first | exact (Kd.C_below HR0.out (by repeat (first | (with_reducible first | exact HB.out | apply below_alloc | apply pw_below_drewN | apply below_drew1 | refine below_set ?_ GE165.out) | exact HB.out))) | (with_reducible first | refine Kd.C_alloc ?_ _ | refine Kd.C_drewN ?_ _ | refine Kd.C_drew ?_))); (case side2 => exact HC0.out); rintro e w' ⟨rfl, ⟨nd, rfl⟩⟩; refine ⟨_, rfl, ?_⟩) | ((with_reducible refine gate_callee (f := 58) rfl ?_); refine goesL_ (some 36) rfl rfl Try.func58 (by kernel_rfl) rfl #[.slice (some ⟨go15, 0, none⟩) y176.length co29, .int .i64 4, .int .i64 2] rfl (by (try simp only [zm]); first | done | (rw [show y176.length = y172.length from (Kd.R_reads' HO174.out).1.symm] <;> rfl) | rfl | (simp only [zl]; rfl)) ?_; (with_reducible refine (spec_NumberAt.calls kj2 _ _ y176 4 2 t179 _ ?side1 ?side2 A18.out).mono ?_); (case side1 => repeat (first | exact (Kd.R_reads' HO174.out).2.2 | (with_reducible first | refine Kd.C_alloc ?_ _ | refine Kd.C_drewN ?_ _ | refine Kd.C_drew ?_))); (case side2 => rw [show y176.length = y172.length from (Kd.R_reads' HO174.out).1.symm]; exact (Kd.R_reads' HO174.out).2.1); rintro e w' ⟨rfl, ⟨nd, rfl⟩⟩; refine ⟨_, rfl, ?_⟩) | ((with_reducible refine gate_callee (f := 62) rfl ?_); refine goesL_ (some 37) rfl rfl Try.func62 (by kernel_rfl) rfl #[.int .i64 t177, .int .i64 t178, .int .i64 t179] rfl (by (try simp only [zm]); first | done | rfl | (simp only [zl]; rfl)) ?_; (with_reducible refine (spec_SumTurned.calls kj2 t177 t178 t179 t180 _ A19.out).mono ?_); rintro e w' ⟨rfl, ⟨nd, rfl⟩⟩; refine ⟨_, rfl, ?_⟩) | ((with_reducible refine gate_dst (N := 38) rfl ?_); refine Kd.R_lit (Kd.int .u8) _ 5 ?hg (N := 38) ?hd (xs := ([] : List Int)) (inner := []) (ok := fun _ => True) (okp := fun _ => True) ?hr ?hp (fun _ hk => hk) trivial (Below.refl _ _) (Nat.le_refl _) (by simp) ?_; (case hd => rfl); (case hg => rfl); (case hr => first | (go_simp; done) | (go_simp; rfl)); (case hp => exact (Reps.none _ _)); intro v182 w32 ho33 hb hg_ hnew_; clear hg_ hnew_; (first | rw [← Ny181.out] at ho33 | (simp only [Int.reduceToNat] at ho33; rw [← Ny181.out] at ho33)); have n0_ := Aside0.mk (Kd.R_elder' (by (with_reducible repeat (first | apply Kd.R_alloc | apply Kd.R_drewN | apply Kd.R_drew)); exact HO_166008.out) (Kd.R_base ho33) hb); have n1_ := Aside0.mk (Kd.R_elder' (by (with_reducible repeat (first | apply Kd.R_alloc | apply Kd.R_drewN | apply Kd.R_drew)); exact HO174.out) (Kd.R_base ho33) hb); have n2_ := Aside0.mk (Kd.R_lower (Kd.R_new' (Kd.R_new' ho33 (Kd.R_lt (by (with_reducible repeat (first | apply Kd.R_alloc | apply Kd.R_drewN | apply Kd.R_drew)); exact HO_166008.out))) (Kd.R_lt (by (with_reducible repeat (first | apply Kd.R_alloc | apply Kd.R_drewN | apply Kd.R_drew)); exact HO174.out))) (below_size (by repeat (first | (with_reducible first | exact HB.out | apply below_alloc | apply pw_below_drewN | apply below_drew1 | refine below_set ?_ GE165.out) | exact HB.out)))); have n3_ := Aside0.mk (blk_below (g := gb165) (o := .cells #[.int .i64 t153, .int .i64 t154, .int .i64 t155, .int .i64 t156, .int .i64 t157, .int .i64 t158, .bool t159, .bool t160, .slice Ao7 t161.length co7] 61 (0, 0)) (by (with_reducible repeat (first | apply blk_drewN | apply blk_drew | apply blk_alloc)); exact BK165.out) hb); have n4_ := Aside0.mk (below_step (by repeat (first | (with_reducible first | exact HB.out | apply below_alloc | apply pw_below_drewN | apply below_drew1 | refine below_set ?_ GE165.out) | exact HB.out)) hb); clear HO_166008; clear HO174; clear BK165; clear HB; have HO_166008 := n0_; have HO174 := n1_; have HO183 := n2_; have BK165 := n3_; have HB := n4_; clear n0_ n1_ n2_ n3_ n4_; clear hb ho33; have hlx34 := (Kd.R_reads' HO174.out).1; have q34 : (10 : Int) ≤ ((y172.length : Int) : Int) := of_decide_eq_true (by first | (with_reducible assumption) | assumption); obtain ⟨i034, hi034, _, hsz34, _⟩ := info_parts info5; have hroom34 : y172.length ≤ co29 := (Kd.R_reads' HO174.out).2.1; have hroomc34 : y176.length ≤ co29 := (by rw [← hlx34]; exact hroom34); have hC34 : Kd.C (Kd.int .u8) _ (some ⟨go15, 0, none⟩) y176.length y176 := (Kd.R_reads' HO174.out).2.2; have hcut34 := cut_to (P := Try.prog) 22 5 .i64 Try.underlying22 hi034 (some ⟨go15, 0, none⟩) y172.length co29 10 (by omega) q34 hroom34; have hr34 := Kd.C_take (m := 10) hC34 (by omega); have hy34 : y184.length = (10 : Int).toNat := (by rw [Ny184.out, List.length_take]; omega); rw [← Ny184.out] at hr34; rw [← hy34] at hcut34; have HR187 := Aside0.mk hr34; have HC187 := Aside0.mk (show y184.length ≤ co29 from by omega); clear hr34 hC34 hroom34 hi034 hsz34 hroomc34; have KY34 := Aside0.mk hy34; clear hy34; have KE34 := Aside0.mk hlx34; have KL34 := Aside0.mk (show 10 ≤ y176.length from by omega); clear hlx34; replace q34 := eq_true q34) | ((with_reducible refine gate_builtin (b := .append) (xs := #[.tmp 38, .tmp 40]) rfl ?_); at_builtin; refine Kd.R_append_rows (Kd.int .u8) (w0 := w) w.heap.size rfl (.tmp 38) (.tmp 40) 22 5 (.int .u8 0) 1 rfl Try.underlying22 info5 rfl (by decide) (by omega) v182 y181 y184 _ _ _ (fun k_ => some k_ ≠ (.slice Ao7 t161.length co7 : Value).ownBlock ∧ some k_ ≠ (.slice (some ⟨go15, 0, none⟩) y172.length co29 : Value).ownBlock) (fun _ => False) rfl rfl ?aO ?aR (fun _ _ h => h) (fun _ h => h.elim) ?aF ?aB ?aS ?aL ?_; (case aR => repeat (first | exact (by repeat (first | (with_reducible exact HR187.out) | (with_reducible first | refine Kd.C_alloc ?_ _ | refine Kd.C_drewN ?_ _ | refine Kd.C_drew ?_) | exact HR187.out)) | (with_reducible first | refine Kd.C_alloc ?_ _ | refine Kd.C_drewN ?_ _ | refine Kd.C_drew ?_))); (case aB => exact (by repeat (first | (with_reducible first | exact HB.out | apply below_alloc | apply pw_below_drewN | apply below_drew1 | refine below_set ?_ GE165.out) | exact HB.out))); (case aF => exact (fun k_ hk => ⟨Kd.fresh' (Kd.R_lt (by (with_reducible repeat (first | apply Kd.R_alloc | apply Kd.R_drewN | apply Kd.R_drew)); exact HO_166008.out)) k_ hk, Kd.fresh' (Kd.R_lt (by (with_reducible repeat (first | apply Kd.R_alloc | apply Kd.R_drewN | apply Kd.R_drew)); exact HO174.out)) k_ hk⟩)); (case aO => exact (by (with_reducible repeat (first | apply Kd.R_alloc | apply Kd.R_drewN | apply Kd.R_drew)); exact Kd.R_mono HO183.out (fun _ hk => ⟨hk.1.2, hk.2⟩))); (case aS => exact (below_size (by repeat (first | (with_reducible first | exact HB.out | apply below_alloc | apply pw_below_drewN | apply below_drew1 | refine below_set ?_ GE165.out) | exact HB.out)))); (case aL => have := LMc21.out; omega); intro v189 w35 ho hb hg hat; rw [← Ny188.out] at ho; have n0_ := Aside0.mk (Kd.R_after (ok := (fun k_ => some k_ ≠ (.slice (some ⟨go15, 0, none⟩) y172.length co29 : Value).ownBlock)) (by (with_reducible repeat (first | apply Kd.R_alloc | apply Kd.R_drewN | apply Kd.R_drew)); exact Kd.R_mono HO_166008.out (fun _ hk => ⟨hk.1.2, hk.2⟩)) hg hat); have n1_ := Aside0.mk (blk_grown (g := gb165) (o := .cells #[.int .i64 t153, .int .i64 t154, .int .i64 t155, .int .i64 t156, .int .i64 t157, .int .i64 t158, .bool t159, .bool t160, .slice Ao7 t161.length co7] 61 (0, 0)) (by (with_reducible repeat (first | apply blk_drewN | apply blk_drew | apply blk_alloc)); exact BK165.out) hg (Kd.R_ne HO183.out BK165.out (by decide))); have n2_ := Aside0.mk (Kd.R_after (ok := (fun k_ => some k_ ≠ (.slice Ao7 t161.length co7 : Value).ownBlock)) (by (with_reducible repeat (first | apply Kd.R_alloc | apply Kd.R_drewN | apply Kd.R_drew)); exact HO174.out) hg hat); have n3_ := Aside0.mk (hb); have n4_ := Aside0.mk ((show Kd.C (Kd.int .u8) w35 (some ⟨go15, 0, none⟩) y184.length y184 from by rw [Ny184.out]; exact Kd.C_take (m := 10) ((Kd.R_reads' (Kd.R_after (ok := (fun k_ => some k_ ≠ (.slice Ao7 t161.length co7 : Value).ownBlock)) (by (with_reducible repeat (first | apply Kd.R_alloc | apply Kd.R_drewN | apply Kd.R_drew)); exact HO174.out) hg hat)).2.2) KL34.out)); have n5_ := Aside0.mk (ho); clear HO_166008; clear BK165; clear HO174; clear HB; clear HR187; clear HO183; have HO_166008 := n0_; have BK165 := n1_; have HO174 := n2_; have HB := n3_; have HR187 := n4_; have HO190 := n5_; clear n0_ n1_ n2_ n3_ n4_ n5_; clear ho hb hg hat) | ((with_reducible refine gate_callee (f := 63) rfl ?_); refine goesL_ (some 43) rfl rfl Try.func63 (by kernel_rfl) rfl #[.int .i64 t180, .int .i64 2] rfl (by (try simp only [zm]); first | done | rfl | (simp only [zl]; rfl)) ?_; (with_reducible refine (spec_BytesOf.calls kj2 t180 2 t191 _ A22.out).mono ?_); rintro e w36 ⟨v192, rfl, ho0, hb⟩; refine ⟨_, rfl, ?_⟩; have n0_ := Aside0.mk (Kd.R_elder' (by (with_reducible repeat (first | apply Kd.R_alloc | apply Kd.R_drewN | apply Kd.R_drew)); exact HO_166008.out) (Kd.R_base ho0) hb); have n1_ := Aside0.mk (Kd.R_elder' (by (with_reducible repeat (first | apply Kd.R_alloc | apply Kd.R_drewN | apply Kd.R_drew)); exact HO174.out) (Kd.R_base ho0) hb); have n2_ := Aside0.mk (Kd.R_elder' (by (with_reducible repeat (first | apply Kd.R_alloc | apply Kd.R_drewN | apply Kd.R_drew)); exact HO190.out) (Kd.R_base ho0) hb); have n3_ := Aside0.mk (Kd.R_lower (Kd.R_new' (Kd.R_new' (Kd.R_new' ho0 (Kd.R_lt (by (with_reducible repeat (first | apply Kd.R_alloc | apply Kd.R_drewN | apply Kd.R_drew)); exact HO_166008.out))) (Kd.R_lt (by (with_reducible repeat (first | apply Kd.R_alloc | apply Kd.R_drewN | apply Kd.R_drew)); exact HO174.out))) (Kd.R_lt (by (with_reducible repeat (first | apply Kd.R_alloc | apply Kd.R_drewN | apply Kd.R_drew)); exact HO190.out))) (below_size (by repeat (first | (with_reducible first | exact HB.out | apply below_alloc | apply pw_below_drewN | apply below_drew1 | refine below_set ?_ GE165.out) | exact HB.out)))); have n4_ := Aside0.mk (blk_below (g := gb165) (o := .cells #[.int .i64 t153, .int .i64 t154, .int .i64 t155, .int .i64 t156, .int .i64 t157, .int .i64 t158, .bool t159, .bool t160, .slice Ao7 t161.length co7] 61 (0, 0)) (by (with_reducible repeat (first | apply blk_drewN | apply blk_drew | apply blk_alloc)); exact BK165.out) hb); have n5_ := Aside0.mk (Kd.C_below (by repeat (first | (with_reducible exact HR187.out) | (with_reducible first | refine Kd.C_alloc ?_ _ | refine Kd.C_drewN ?_ _ | refine Kd.C_drew ?_) | exact HR187.out)) hb); have n6_ := Aside0.mk (below_step (by repeat (first | (with_reducible first | exact HB.out | apply below_alloc | apply pw_below_drewN | apply below_drew1 | refine below_set ?_ GE165.out) | exact HB.out)) hb); clear HO_166008; clear HO174; clear HO190; clear BK165; clear HR187; clear HB; have HO_166008 := n0_; have HO174 := n1_; have HO190 := n2_; have HO193 := n3_; have BK165 := n4_; have HR187 := n5_; have HB := n6_; clear n0_ n1_ n2_ n3_ n4_ n5_ n6_; (try clear hb); (try clear hb2); (try clear hk); (try clear hi); (try clear ho0); obtain ⟨Ao38, co38, eo38⟩ := Kd.R_slice HO193.out; subst eo38) | ((with_reducible refine gate_builtin (b := .append) (xs := #[.tmp 41, .tmp 43]) rfl ?_); at_builtin; refine Kd.R_append_rows (Kd.int .u8) (w0 := w) w.heap.size rfl (.tmp 41) (.tmp 43) 22 5 (.int .u8 0) 1 rfl Try.underlying22 info5 rfl (by decide) (by omega) v189 y188 t191 _ _ _ (fun k_ => some k_ ≠ (.slice Ao7 t161.length co7 : Value).ownBlock ∧ some k_ ≠ (.slice (some ⟨go15, 0, none⟩) y172.length co29 : Value).ownBlock ∧ some k_ ≠ (.slice Ao38 t191.length co38 : Value).ownBlock) (fun _ => False) rfl rfl ?aO ?aR (fun _ _ h => h) (fun _ h => h.elim) ?aF ?aB ?aS ?aL ?_; (case aR => repeat (first | exact (Kd.R_reads' HO193.out).2.2 | (with_reducible first | refine Kd.C_alloc ?_ _ | refine Kd.C_drewN ?_ _ | refine Kd.C_drew ?_))); (case aB => exact (by repeat (first | (with_reducible first | exact HB.out | apply below_alloc | apply pw_below_drewN | apply below_drew1 | refine below_set ?_ GE165.out) | exact HB.out))); (case aF => exact (fun k_ hk => ⟨Kd.fresh' (Kd.R_lt (by (with_reducible repeat (first | apply Kd.R_alloc | apply Kd.R_drewN | apply Kd.R_drew)); exact HO_166008.out)) k_ hk, Kd.fresh' (Kd.R_lt (by (with_reducible repeat (first | apply Kd.R_alloc | apply Kd.R_drewN | apply Kd.R_drew)); exact HO174.out)) k_ hk, Kd.fresh' (Kd.R_lt (by (with_reducible repeat (first | apply Kd.R_alloc | apply Kd.R_drewN | apply Kd.R_drew)); exact HO193.out)) k_ hk⟩)); (case aO => exact (by (with_reducible repeat (first | apply Kd.R_alloc | apply Kd.R_drewN | apply Kd.R_drew)); exact Kd.R_mono HO190.out (fun _ hk => ⟨hk.1.1, ⟨hk.1.2, hk.2⟩⟩))); (case aS => exact (below_size (by repeat (first | (with_reducible first | exact HB.out | apply below_alloc | apply pw_below_drewN | apply below_drew1 | refine below_set ?_ GE165.out) | exact HB.out)))); (case aL => have := LMc23.out; omega); intro v195 w37 ho hb hg hat; rw [← Ny194.out] at ho; have n0_ := Aside0.mk (Kd.R_after (ok := (fun k_ => some k_ ≠ (.slice (some ⟨go15, 0, none⟩) y172.length co29 : Value).ownBlock ∧ some k_ ≠ (.slice Ao38 t191.length co38 : Value).ownBlock)) (by (with_reducible repeat (first | apply Kd.R_alloc | apply Kd.R_drewN | apply Kd.R_drew)); exact Kd.R_mono HO_166008.out (fun _ hk => ⟨⟨hk.1.1, hk.2⟩, hk.1.2⟩)) hg hat); have n1_ := Aside0.mk (blk_grown (g := gb165) (o := .cells #[.int .i64 t153, .int .i64 t154, .int .i64 t155, .int .i64 t156, .int .i64 t157, .int .i64 t158, .bool t159, .bool t160, .slice Ao7 t161.length co7] 61 (0, 0)) (by (with_reducible repeat (first | apply blk_drewN | apply blk_drew | apply blk_alloc)); exact BK165.out) hg (Kd.R_ne HO190.out BK165.out (by decide))); have n2_ := Aside0.mk (Kd.R_after (ok := (fun k_ => some k_ ≠ (.slice Ao7 t161.length co7 : Value).ownBlock ∧ some k_ ≠ (.slice Ao38 t191.length co38 : Value).ownBlock)) (by (with_reducible repeat (first | apply Kd.R_alloc | apply Kd.R_drewN | apply Kd.R_drew)); exact Kd.R_mono HO174.out (fun _ hk => ⟨⟨hk.1.1, hk.2⟩, hk.1.2⟩)) hg hat); have n3_ := Aside0.mk (Kd.R_after (ok := (fun k_ => some k_ ≠ (.slice Ao7 t161.length co7 : Value).ownBlock ∧ some k_ ≠ (.slice (some ⟨go15, 0, none⟩) y172.length co29 : Value).ownBlock)) (by (with_reducible repeat (first | apply Kd.R_alloc | apply Kd.R_drewN | apply Kd.R_drew)); exact Kd.R_mono HO193.out (fun _ hk => ⟨⟨hk.1.1.2, hk.1.2⟩, hk.2⟩)) hg hat); have n4_ := Aside0.mk (hb); have n5_ := Aside0.mk ((show Kd.C (Kd.int .u8) w37 (some ⟨go15, 0, none⟩) y184.length y184 from by rw [Ny184.out]; exact Kd.C_take (m := 10) ((Kd.R_reads' (Kd.R_after (ok := (fun k_ => some k_ ≠ (.slice Ao7 t161.length co7 : Value).ownBlock ∧ some k_ ≠ (.slice Ao38 t191.length co38 : Value).ownBlock)) (by (with_reducible repeat (first | apply Kd.R_alloc | apply Kd.R_drewN | apply Kd.R_drew)); exact Kd.R_mono HO174.out (fun _ hk => ⟨⟨hk.1.1, hk.2⟩, hk.1.2⟩)) hg hat)).2.2) KL34.out)); have n6_ := Aside0.mk (ho); clear HO_166008; clear BK165; clear HO174; clear HO193; clear HB; clear HR187; clear HO190; have HO_166008 := n0_; have BK165 := n1_; have HO174 := n2_; have HO193 := n3_; have HB := n4_; have HR187 := n5_; have HO196 := n6_; clear n0_ n1_ n2_ n3_ n4_ n5_ n6_; clear ho hb hg hat; obtain ⟨i039, hi039, _, hsz39, _⟩ := info_parts info5; obtain ⟨A39, hcut39, hA39, hC39⟩ := print_drop_of (P := Try.prog) (Value.int .u8) 0 22 5 .i64 Try.underlying22 hi039 hsz39 A0 c0 l0 12 (by omega) (of_decide_eq_true (by first | (with_reducible assumption) | assumption)) HC0.out; have HR197 := Aside0.mk (Kd.C_of_reads (h1 := fun _ => rfl) (hA39 _ (Kd.reads_of_C HR0.out))); have HC197 := Aside0.mk hC39; clear hA39 hC39 hi039 hsz39) | ((with_reducible refine gate_builtin (b := .append) (xs := #[.tmp 45, .tmp 47]) rfl ?_); at_builtin; refine Kd.R_append_rows (Kd.int .u8) (w0 := w) w.heap.size rfl (.tmp 45) (.tmp 47) 22 5 (.int .u8 0) 1 rfl Try.underlying22 info5 rfl (by decide) (by omega) v195 y194 (l0.drop 12) _ _ _ (fun k_ => some k_ ≠ (.slice Ao7 t161.length co7 : Value).ownBlock ∧ some k_ ≠ (.slice (some ⟨go15, 0, none⟩) y172.length co29 : Value).ownBlock ∧ some k_ ≠ (.slice Ao38 t191.length co38 : Value).ownBlock) (fun _ => False) rfl rfl ?aO ?aR (fun _ _ h => h) (fun _ h => h.elim) ?aF ?aB ?aS ?aL ?_; (case aR => first | (rw [← show (l0.drop 12).length = (l0.length - 12) from List.length_drop]; repeat (first | exact (Kd.C_below HR197.out HB.out) | (with_reducible first | refine Kd.C_alloc ?_ _ | refine Kd.C_drewN ?_ _ | refine Kd.C_drew ?_))) | (repeat (first | exact (Kd.C_below HR197.out HB.out) | (with_reducible first | refine Kd.C_alloc ?_ _ | refine Kd.C_drewN ?_ _ | refine Kd.C_drew ?_)))); (case aB => exact (by repeat (first | (with_reducible first | exact HB.out | apply below_alloc | apply pw_below_drewN | apply below_drew1 | refine below_set ?_ GE165.out) | exact HB.out))); (case aF => exact (fun k_ hk => ⟨Kd.fresh' (Kd.R_lt (by (with_reducible repeat (first | apply Kd.R_alloc | apply Kd.R_drewN | apply Kd.R_drew)); exact HO_166008.out)) k_ hk, Kd.fresh' (Kd.R_lt (by (with_reducible repeat (first | apply Kd.R_alloc | apply Kd.R_drewN | apply Kd.R_drew)); exact HO174.out)) k_ hk, Kd.fresh' (Kd.R_lt (by (with_reducible repeat (first | apply Kd.R_alloc | apply Kd.R_drewN | apply Kd.R_drew)); exact HO193.out)) k_ hk⟩)); (case aO => exact (by (with_reducible repeat (first | apply Kd.R_alloc | apply Kd.R_drewN | apply Kd.R_drew)); exact HO196.out)); (case aS => exact (below_size (by repeat (first | (with_reducible first | exact HB.out | apply below_alloc | apply pw_below_drewN | apply below_drew1 | refine below_set ?_ GE165.out) | exact HB.out)))); (case aL => have := LMc25.out; have hlx_ := (show (l0.drop 12).length = (l0.length - 12) from List.length_drop); omega); intro v199 w40 ho hb hg hat; rw [← Ny198.out] at ho; have n0_ := Aside0.mk (Kd.R_after (ok := (fun k_ => some k_ ≠ (.slice (some ⟨go15, 0, none⟩) y172.length co29 : Value).ownBlock ∧ some k_ ≠ (.slice Ao38 t191.length co38 : Value).ownBlock)) (by (with_reducible repeat (first | apply Kd.R_alloc | apply Kd.R_drewN | apply Kd.R_drew)); exact HO_166008.out) hg hat); have n1_ := Aside0.mk (blk_grown (g := gb165) (o := .cells #[.int .i64 t153, .int .i64 t154, .int .i64 t155, .int .i64 t156, .int .i64 t157, .int .i64 t158, .bool t159, .bool t160, .slice Ao7 t161.length co7] 61 (0, 0)) (by (with_reducible repeat (first | apply blk_drewN | apply blk_drew | apply blk_alloc)); exact BK165.out) hg (Kd.R_ne HO196.out BK165.out (by decide))); have n2_ := Aside0.mk (Kd.R_after (ok := (fun k_ => some k_ ≠ (.slice Ao7 t161.length co7 : Value).ownBlock ∧ some k_ ≠ (.slice Ao38 t191.length co38 : Value).ownBlock)) (by (with_reducible repeat (first | apply Kd.R_alloc | apply Kd.R_drewN | apply Kd.R_drew)); exact HO174.out) hg hat); have n3_ := Aside0.mk (Kd.R_after (ok := (fun k_ => some k_ ≠ (.slice Ao7 t161.length co7 : Value).ownBlock ∧ some k_ ≠ (.slice (some ⟨go15, 0, none⟩) y172.length co29 : Value).ownBlock)) (by (with_reducible repeat (first | apply Kd.R_alloc | apply Kd.R_drewN | apply Kd.R_drew)); exact HO193.out) hg hat); have n4_ := Aside0.mk (hb); have n5_ := Aside0.mk ((show Kd.C (Kd.int .u8) w40 (some ⟨go15, 0, none⟩) y184.length y184 from by rw [Ny184.out]; exact Kd.C_take (m := 10) ((Kd.R_reads' (Kd.R_after (ok := (fun k_ => some k_ ≠ (.slice Ao7 t161.length co7 : Value).ownBlock ∧ some k_ ≠ (.slice Ao38 t191.length co38 : Value).ownBlock)) (by (with_reducible repeat (first | apply Kd.R_alloc | apply Kd.R_drewN | apply Kd.R_drew)); exact HO174.out) hg hat)).2.2) KL34.out)); have n6_ := Aside0.mk (ho); clear HO_166008; clear BK165; clear HO174; clear HO193; clear HB; clear HR187; clear HO196; have HO_166008 := n0_; have BK165 := n1_; have HO174 := n2_; have HO193 := n3_; have HB := n4_; have HR187 := n5_; have HO200 := n6_; clear n0_ n1_ n2_ n3_ n4_ n5_ n6_; clear ho hb hg hat))
           go_ret2
           exact ⟨_, by first | rfl | (simp <;> rfl) | (simp [*] <;> rfl), by (with_reducible repeat (first | apply Kd.R_alloc | apply Kd.R_drewN | apply Kd.R_drew)); exact Kd.R_mono HO200.out (fun _ hk => trivial), by repeat (first | (with_reducible first | exact HB.out | apply below_alloc | apply pw_below_drewN | apply below_drew1 | refine below_set ?_ GE165.out) | exact HB.out)⟩
          ·rw [if_neg c25] at H
           exact absurd H (by simp)
         ·rw [if_neg c24] at H
          exact absurd H (by simp)
        ·rw [if_neg c23] at H
         exact absurd H (by simp)
       ·rw [if_neg c21] at H
        exact absurd H (by simp)
      ·rw [if_neg c20] at H
       exact absurd H (by simp)
     ·rw [if_neg c14] at H
      exact absurd H (by simp)
    ·rw [if_neg c13] at H
     exact absurd H (by simp)

/-! ### impl_in: function 71 -/
def impl_in.f (a0 : Int) (a1 : Int) (a2 : Int) : Option (Bool) := if a0 ≥ a1 then (some (decide (a0 ≤ a2))) else (some false)
set_option maxHeartbeats 8000000 in
set_option maxRecDepth 100000 in
theorem impl_in.calls (a0 : Int) (a1 : Int) (a2 : Int) (r : Bool) (w : World) (h : impl_in.f a0 a1 a2 = some r) :
  Calls Try.prog 71 #[.int .i64 a0, .int .i64 a1, .int .i64 a2] w fun e w' => e = .returned (.bool r) ∧ Drawn0 w w' := by
 have H : (if a0 ≥ a1 then (some (decide (a0 ≤ a2))) else (some false)) = some r := h;clear h
 by_cases c4 : a0 ≥ a1
 ·rw [if_pos c4] at H
  have c4b0 : decide (a1 ≤ a0) = true := decide_eq_true c4;clear c4;obtain rfl := Option.some.inj H
  go_enter Try.func71, Try.ntmps71
  go_wp2
  go_ret;exact ⟨by first | rfl | (simp; done) | (simp [*]; done), by repeat (first | exact Drawn0.refl _ | apply Drawn0.step)⟩
 ·rw [if_neg c4] at H
  have c4b0 : decide (a1 ≤ a0) = false := decide_eq_false c4;clear c4;obtain rfl := Option.some.inj H
  go_enter Try.func71, Try.ntmps71
  go_wp2
  go_ret;exact ⟨by first | rfl | (simp; done) | (simp [*]; done), by repeat (first | exact Drawn0.refl _ | apply Drawn0.step)⟩

/-! ### impl_word: function 78 -/
def impl_word.f (a0 : Int) : Option (Bool) := (impl_in.f a0 0 65535).bind fun t201 => (some t201)
set_option maxHeartbeats 8000000 in
set_option maxRecDepth 100000 in
theorem impl_word.calls (a0 : Int) (r : Bool) (w : World) (h : impl_word.f a0 = some r) :
  Calls Try.prog 78 #[.int .i64 a0] w fun e w' => e = .returned (.bool r) ∧ Drawn0 w w' := by
 have H : ((impl_in.f a0 0 65535).bind fun t201 => (some t201)) = some r := h;clear h;replace H := ze H;obtain ⟨t201, A20, H⟩ := H;replace H : (some t201) = some r := H;have A2 := Aside0.mk A20;clear A20;obtain rfl := Option.some.inj H
 go_enter Try.func78, Try.ntmps78
 go_wp2_with (first | ((with_reducible refine gate_callee (f := 71) rfl ?_); refine goesL_ (some 4) rfl rfl Try.func71 (by kernel_rfl) rfl #[.int .i64 a0, .int .i64 0, .int .i64 65535] rfl (by (try simp only [zm]); first | done | rfl | (simp only [zl]; rfl)) ?_; (with_reducible refine (impl_in.calls a0 0 65535 t201 _ A2.out).mono ?_); rintro e w' ⟨rfl, ⟨nd, rfl⟩⟩; refine ⟨_, rfl, ?_⟩))
 go_ret;exact ⟨by first | rfl | (simp; done) | (simp [*]; done), by repeat (first | exact Drawn0.refl _ | apply Drawn0.step)⟩

end Go.Proofs.Ytbjfnpjkldfeiaa.PFnPacketPassed

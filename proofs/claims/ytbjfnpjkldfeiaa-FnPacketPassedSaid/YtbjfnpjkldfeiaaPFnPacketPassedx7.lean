/- The machine side of some functions: each comes to its pure answer (written by a program of this session with the kit's print). No condition. -/
import Derived.Test.YtbjfnpjkldfeiaaPFnPacketPassedx0
import Derived.Test.YtbjfnpjkldfeiaaPFnPacketPassedx3
import Derived.Test.YtbjfnpjkldfeiaaPFnPacketPassedx4
import Derived.Test.YtbjfnpjkldfeiaaPFnPacketPassedx6
namespace Go.Proofs.Ytbjfnpjkldfeiaa.PFnPacketPassed
open Go.RowKit Go.Proofs.YtbjfnpjkldfeiaaUFnPacketPassed.PrintWords Go.Proofs.YtbjfnpjkldfeiaaUFnPacketPassed.PrintLast Go.Proofs.YtbjfnpjkldfeiaaUFnPacketPassed.PrintMore
attribute [local go_sem] max2_int min2_int max_two min_two max_three min_three max_four min_four   -- for this text's walks alone
set_option linter.unusedVariables false
set_option linter.unusedSimpArgs false

/-! ### impl_bytesOf: function 64 -/
def impl_bytesOf.l0 : Nat → Int → List Int → Int → Option (List Int)
 | 0, _, _, _ => none
 | k + 1, x0, x5, x6 => if x6 ≥ 0 then (if 0 ≤ x6 then (if x6 < (x5.length : Int) then (impl_bytesOf.l0 k (x0 / 256) (x5.set (x6 : Int).toNat ((x0) % 256)) (wrap64 (x6 - 1))) else (none)) else (none)) else (some x5)
def impl_bytesOf.f (k : Nat) (a0 : Int) (a1 : Int) : Option (List Int) := if 0 ≤ a1 then (if (a1 : Int).toNat ≤ 281474976710656 then (impl_bytesOf.l0 k a0 (List.replicate (a1 : Int).toNat 0) (wrap64 (a1 - 1))) else (none)) else (none)
theorem impl_bytesOf.mono_l : ∀ k, (∀ y0 y1 y2, LeO (impl_bytesOf.l0 k y0 y1 y2) (impl_bytesOf.l0 (k + 1) y0 y1 y2))
 | 0 => fun _ _ _ r h => by simp [impl_bytesOf.l0] at h
 | k + 1 => by
  have ih0 := impl_bytesOf.mono_l k
  ·intro y0 y1 y2
   unfold impl_bytesOf.l0
   repeat' first
   | (with_reducible exact ih0 _ _ _)
   | (with_reducible exact LeO.refl _)
   | (with_reducible exact LeO.none _)
   | (with_reducible refine LeO.ite ?_ ?_)
   | (with_reducible refine LeO.bind ?_ (fun _ => ?_))
   | exact ih0 _ _ _
   | exact LeO.none _
   | refine LeO.ite ?_ ?_
   | refine LeO.bind ?_ (fun _ => ?_)
theorem impl_bytesOf.mono : ∀ a0 a1 k, LeO (impl_bytesOf.f k a0 a1) (impl_bytesOf.f (k + 1) a0 a1) := by
 intro a0 a1 k;have ih0 := impl_bytesOf.mono_l k
 unfold impl_bytesOf.f
 repeat' first
   | (with_reducible exact ih0 _ _ _)
   | (with_reducible exact LeO.refl _)
   | (with_reducible exact LeO.none _)
   | (with_reducible refine LeO.ite ?_ ?_)
   | (with_reducible refine LeO.bind ?_ (fun _ => ?_))
   | exact ih0 _ _ _
   | exact LeO.none _
   | refine LeO.ite ?_ ?_
   | refine LeO.bind ?_ (fun _ => ?_)
set_option maxHeartbeats 8000000 in
set_option maxRecDepth 100000 in
theorem impl_bytesOf.calls (k : Nat) (a0 : Int) (a1 : Int) (r : List Int) (w : World) (h : impl_bytesOf.f k a0 a1 = some r) :
  Calls Try.prog 64 #[.int .i64 a0, .int .i64 a1] w fun e w' => ∃ v0_ : Value, e = .returned (v0_) ∧ Kd.R (Kd.int .u8) 5 w' w.heap.size (fun _ => True) v0_ r ∧ Below w.heap.size w w' := by
 have HB := Aside0.mk (Below.refl w.heap.size w);have H : (if 0 ≤ a1 then (if (a1 : Int).toNat ≤ 281474976710656 then (impl_bytesOf.l0 k a0 (List.replicate (a1 : Int).toNat 0) (wrap64 (a1 - 1))) else (none)) else (none)) = some r := h;clear h
 by_cases c3 : 0 ≤ a1
 ·rw [if_pos c3] at H
  have c3b0 := eq_true c3;have c3b1 : decide (0 ≤ a1) = true := decide_eq_true c3;clear c3
  by_cases c4 : (a1 : Int).toNat ≤ 281474976710656
  ·rw [if_pos c4] at H
   have c4b0 := eq_true c4;have c4b1 : decide ((a1 : Int).toNat ≤ 281474976710656) = true := decide_eq_true c4;clear c4;obtain ⟨y242, hy242⟩ : ∃ y_ : List Int, y_ = (List.replicate (a1 : Int).toNat 0) := ⟨_, rfl⟩
   replace H : (impl_bytesOf.l0 k a0 y242 (wrap64 (a1 - 1))) = some r := by first | (rw [hy242]; with_reducible exact H) | (have H2_ := (Option.bind_some _ _).symm.trans H; rw [hy242]; with_reducible exact H2_) | (have H2_ := (Option.bind_some _ _).symm.trans H; with_reducible exact H2_) | with_reducible exact H | (rw [hy242]; exact H) | exact H
   have Ny242 := Aside0.mk hy242;clear hy242;have H' := Aside0.mk H;clear H
   go_enter Try.func64, Try.ntmps64
   go_wp2_with (first | ((with_reducible refine gate_dst (N := 8) rfl ?_); refine Kd.R_make (Kd.int .u8) _ 5 rfl (N := 8) rfl 22 _ _ rfl a1 rfl rfl Try.underlying22 (.int .u8 0) 1 info5 rfl (by decide) (by omega) 0 (ok := fun _ => True) (okp := fun _ => True) rfl (fun _ hk => hk) trivial (of_decide_eq_true (by first | (with_reducible assumption) | assumption)) (Nat.le_trans (Nat.mul_le_mul_right _ (of_decide_eq_true (by first | (with_reducible assumption) | assumption) : a1.toNat ≤ 281474976710656)) (by omega)) (Below.refl _ _) (Nat.le_refl _) ?_; intro v243 w5 ho6 hb hg_ hnew_; clear hg_ hnew_; (first | rw [← Ny242.out] at ho6 | (simp only [Int.reduceToNat] at ho6; rw [← Ny242.out] at ho6)); have n0_ := Aside0.mk (Kd.R_lower ho6 (below_size (by repeat (first | (with_reducible first | exact HB.out | apply below_alloc | apply pw_below_drewN | apply below_drew1) | exact HB.out)))); have n1_ := Aside0.mk (below_step (by repeat (first | (with_reducible first | exact HB.out | apply below_alloc | apply pw_below_drewN | apply below_drew1) | exact HB.out)) hb); clear HB; have HO244 := n0_; have HB := n1_; clear n0_ n1_; clear hb ho6))
   go_loopg [0, 6] k (fun kq v0 v6 w' => ∃ (x0_1 : Int) (x5_1 : List Int) (x6_1 : Int), v0 = .int .i64 x0_1 ∧ v6 = .int .i64 x6_1 ∧ Aside0 (impl_bytesOf.l0 kq x0_1 x5_1 x6_1 = some r) ∧ Aside0 (kq ≤ k) ∧ Aside0 (Kd.R (Kd.int .u8) 5 w' w.heap.size (fun _ => True) v243 x5_1) ∧ Aside0 (Below w.heap.size w w'))
   case atStart => exact ⟨(a0), (y242), (wrap64 (a1 - 1)), (by first | rfl | (simp; done) | (simp [*]; done)), (by first | rfl | (simp; done) | (simp [*]; done)), H', ⟨Nat.le_refl _⟩, ⟨by (with_reducible repeat (first | apply Kd.R_alloc | apply Kd.R_drewN | apply Kd.R_drew)); exact HO244.out⟩, ⟨by repeat (first | (with_reducible first | exact HB.out | apply below_alloc | apply pw_below_drewN | apply below_drew1) | exact HB.out)⟩⟩
   case round =>
    clear H'
    try clear p2
    try clear c3
    try clear c3b0
    try clear c3b1
    try clear c4
    try clear c4b0
    try clear c4b1
    try clear c6
    try clear p6
    obtain ⟨x0_1, x5_1, x6_1, rfl, rfl, HA, HK1, HO_5, HB⟩ := hrel
    cases gk with
    | zero => exact absurd HA.out (by simp [impl_bytesOf.l0])
    | succ k1 =>
     have H := HA.out;clear HA;simp only [impl_bytesOf.l0] at H
     by_cases c7 : x6_1 ≥ 0
     ·rw [if_pos c7] at H
      have c7b0 : decide (0 ≤ x6_1) = true := decide_eq_true c7;clear c7
      by_cases c8 : 0 ≤ x6_1
      ·rw [if_pos c8] at H
       have c8b0 : decide (0 ≤ x6_1) = true := decide_eq_true c8;clear c8
       by_cases c9 : x6_1 < (x5_1.length : Int)
       ·rw [if_pos c9] at H
        have c9b0 : decide (x6_1 < (x5_1.length : Int)) = true := decide_eq_true c9;clear c9;obtain ⟨y245, hy245⟩ : ∃ y_ : List Int, y_ = (x5_1.set (x6_1 : Int).toNat ((x0_1) % 256)) := ⟨_, rfl⟩
        replace H : (impl_bytesOf.l0 k1 (x0_1 / 256) y245 (wrap64 (x6_1 - 1))) = some r := by first | (rw [hy245]; with_reducible exact H) | (have H2_ := (Option.bind_some _ _).symm.trans H; rw [hy245]; with_reducible exact H2_) | (have H2_ := (Option.bind_some _ _).symm.trans H; with_reducible exact H2_) | with_reducible exact H | (rw [hy245]; exact H) | exact H
        have Ny245 := Aside0.mk hy245;clear hy245;have H' := Aside0.mk H;clear H;have p10 : 0 ≤ (x6_1 : Int) := of_decide_eq_true (by first | (with_reducible assumption) | assumption);have q10 : (x6_1 : Int) < ((x5_1.length : Int) : Int) := of_decide_eq_true (by first | (with_reducible assumption) | assumption);obtain ⟨go10, co10, eo10, gb10, gl10, cl10, HG10⟩ := Kd.R_form HO_5.out (by omega)
        (first | cases eo10 | (injection eo10 with ea_ en_ ec_; (first | subst ea_ | (injection ea_ with ea_; subst ea_)); subst ec_; clear en_))
        have GB10 := Aside0.mk gb10;have GG10 := Aside0.mk HG10;clear gb10 gl10 HG10;obtain ⟨hx10_0, hf10_0⟩ := Kd.R_celln 0 HO_5.out (x6_1 : Int) p10 q10;replace p10 := eq_true p10;replace q10 := eq_true q10;have HP11 := Kd.R_putg HO_5.out (x6_1 : Int) ((x0_1) % 256)
        go_wp2_with (first | ((with_reducible refine gate_store (t := 5) (p := 19) rfl ?_); refine store_event (t := 5) (p := 19) (v := ?vo_w12) (w1 := (wr.setCell ⟨go10, (x6_1 : Int).toNat, none⟩ (.int .u8 ((x0_1) % 256)))) ?hg ?ho ?hn ?hr ?_; (case ho => rfl); (case hg => rfl); (case hn => rfl); (case hr => first | (go_simp; done) | (go_simp; rfl)); intro w12 hw; have hg : wr.grownBy w12 (some go10) := (by rw [hw]; exact HP11.2); have hp_ : Kd.R (Kd.int .u8) 5 w12 w.heap.size (fun _ => True) (.slice (some ⟨go10, 0, none⟩) x5_1.length co10) y245 := (by rw [hw, Ny245.out]; exact HP11.1); clear HP11; have n0_ := Aside0.mk (hp_); have n1_ := Aside0.mk ((by rw [hw]; exact below_set (HB.out) GB10.out : Below w.heap.size w w12)); clear HO_5; clear HB; have HO_5 := n0_; have HB := n1_; clear n0_ n1_; clear hg hw hp_))
        go_roundg k1
        case measure => have := HK1.out; omega
        case rel => exact ⟨(x0_1 / 256), (y245), (wrap64 (x6_1 - 1)), (by first | rfl | (simp; done) | (simp [*]; done)), (by first | rfl | (simp; done) | (simp [*]; done)), H', ⟨by have := HK1.out; omega⟩, ⟨by (with_reducible repeat (first | apply Kd.R_alloc | apply Kd.R_drewN | apply Kd.R_drew)); exact HO_5.out⟩, ⟨by repeat (first | (with_reducible first | exact HB.out | apply below_alloc | apply pw_below_drewN | apply below_drew1) | exact HB.out)⟩⟩
       ·rw [if_neg c9] at H
        exact absurd H (by simp)
      ·rw [if_neg c8] at H
       exact absurd H (by simp)
     ·rw [if_neg c7] at H
      have c7b0 : decide (0 ≤ x6_1) = false := decide_eq_false c7;clear c7;obtain rfl := Option.some.inj H
      go_wp2
      go_ret;exact ⟨_, by first | rfl | (simp <;> rfl) | (simp [*] <;> rfl), by (with_reducible repeat (first | apply Kd.R_alloc | apply Kd.R_drewN | apply Kd.R_drew)); exact HO_5.out, by repeat (first | (with_reducible first | exact HB.out | apply below_alloc | apply pw_below_drewN | apply below_drew1) | exact HB.out)⟩
  ·rw [if_neg c4] at H
   exact absurd H (by simp)
 ·rw [if_neg c3] at H
  exact absurd H (by simp)

/-! ### impl_SumTurned: function 65 -/
def impl_SumTurned.f (k : Nat) (a0 : Int) (a1 : Int) (a2 : Int) : Option (Int) := (impl_word.f a0).bind fun t246 => (if t246 = true then ((impl_word.f a1).bind fun t247 => (if t247 = true then ((impl_word.f a2).bind fun t248 => (if t248 = true then ((impl_added.f k (([a0, a1, wrap64 (65535 - a2)] : List Int))).bind fun t252 => (some t252)) else (some (-1)))) else (some (-1)))) else (some (-1)))
theorem impl_SumTurned.mono : ∀ a0 a1 a2 k, LeO (impl_SumTurned.f k a0 a1 a2) (impl_SumTurned.f (k + 1) a0 a1 a2) := by
 intro a0 a1 a2 k
 unfold impl_SumTurned.f
 repeat' first
   | (with_reducible exact impl_added.mono _ _)
   | (with_reducible exact LeO.refl _)
   | (with_reducible exact LeO.none _)
   | (with_reducible refine LeO.ite ?_ ?_)
   | (with_reducible refine LeO.bind ?_ (fun _ => ?_))
   | exact impl_added.mono _ _
   | exact LeO.none _
   | refine LeO.ite ?_ ?_
   | refine LeO.bind ?_ (fun _ => ?_)
set_option maxHeartbeats 8000000 in
set_option maxRecDepth 100000 in
theorem impl_SumTurned.calls (k : Nat) (a0 : Int) (a1 : Int) (a2 : Int) (r : Int) (w : World) (h : impl_SumTurned.f k a0 a1 a2 = some r) :
  Calls Try.prog 65 #[.int .i64 a0, .int .i64 a1, .int .i64 a2] w fun e w' => e = .returned (.int .i64 r) ∧ Below w.heap.size w w' := by
 have HB := Aside0.mk (Below.refl w.heap.size w);have H : ((impl_word.f a0).bind fun t246 => (if t246 = true then ((impl_word.f a1).bind fun t247 => (if t247 = true then ((impl_word.f a2).bind fun t248 => (if t248 = true then ((impl_added.f k (([a0, a1, wrap64 (65535 - a2)] : List Int))).bind fun t252 => (some t252)) else (some (-1)))) else (some (-1)))) else (some (-1)))) = some r := h;clear h;replace H := ze H;obtain ⟨t246, A40, H⟩ := H;replace H : (if t246 = true then ((impl_word.f a1).bind fun t247 => (if t247 = true then ((impl_word.f a2).bind fun t248 => (if t248 = true then ((impl_added.f k (([a0, a1, wrap64 (65535 - a2)] : List Int))).bind fun t252 => (some t252)) else (some (-1)))) else (some (-1)))) else (some (-1))) = some r := H;have A4 := Aside0.mk A40;clear A40
 by_cases c5 : t246 = true
 ·subst c5
  have H1 : ((impl_word.f a1).bind fun t247 => (if t247 = true then ((impl_word.f a2).bind fun t248 => (if t248 = true then ((impl_added.f k (([a0, a1, wrap64 (65535 - a2)] : List Int))).bind fun t252 => (some t252)) else (some (-1)))) else (some (-1)))) = some r := by rw [if_pos rfl] at H; exact H
  clear H;have H := H1;clear H1;replace H := ze H;obtain ⟨t247, A60, H⟩ := H;replace H : (if t247 = true then ((impl_word.f a2).bind fun t248 => (if t248 = true then ((impl_added.f k (([a0, a1, wrap64 (65535 - a2)] : List Int))).bind fun t252 => (some t252)) else (some (-1)))) else (some (-1))) = some r := H;have A6 := Aside0.mk A60;clear A60
  by_cases c7 : t247 = true
  ·subst c7
   have H1 : ((impl_word.f a2).bind fun t248 => (if t248 = true then ((impl_added.f k (([a0, a1, wrap64 (65535 - a2)] : List Int))).bind fun t252 => (some t252)) else (some (-1)))) = some r := by rw [if_pos rfl] at H; exact H
   clear H;have H := H1;clear H1;replace H := ze H;obtain ⟨t248, A80, H⟩ := H;replace H : (if t248 = true then ((impl_added.f k (([a0, a1, wrap64 (65535 - a2)] : List Int))).bind fun t252 => (some t252)) else (some (-1))) = some r := H;have A8 := Aside0.mk A80;clear A80
   by_cases c9 : t248 = true
   ·subst c9
    have H1 : ((impl_added.f k (([a0, a1, wrap64 (65535 - a2)] : List Int))).bind fun t252 => (some t252)) = some r := by rw [if_pos rfl] at H; exact H
    clear H;have H := H1;clear H1;obtain ⟨y249, hy249⟩ : ∃ y_ : List Int, y_ = (([a0, a1, wrap64 (65535 - a2)] : List Int)) := ⟨_, rfl⟩
    replace H : ((impl_added.f k y249).bind fun t252 => (some t252)) = some r := by first | (rw [hy249]; with_reducible exact H) | (have H2_ := (Option.bind_some _ _).symm.trans H; rw [hy249]; with_reducible exact H2_) | (have H2_ := (Option.bind_some _ _).symm.trans H; with_reducible exact H2_) | with_reducible exact H | (rw [hy249]; exact H) | exact H
    have Ny249 := Aside0.mk hy249;clear hy249;replace H := ze H;obtain ⟨t252, A100, H⟩ := H;replace H : (some t252) = some r := H;have A10 := Aside0.mk A100;clear A100;obtain rfl := Option.some.inj H
    go_enter Try.func65, Try.ntmps65
    go_wp2_with (first | ((with_reducible refine gate_callee (f := 78) rfl ?_); refine goesL_ (some 8) rfl rfl Try.func78 (by kernel_rfl) rfl #[.int .i64 a0] rfl (by (try simp only [zm]); first | done | rfl | (simp only [zl]; rfl)) ?_; (with_reducible refine (impl_word.calls a0 true _ A4.out).mono ?_); rintro e w' ⟨rfl, ⟨nd, rfl⟩⟩; refine ⟨_, rfl, ?_⟩) | (go_at_call 78; (with_reducible refine (impl_word.calls a1 true _ A6.out).mono ?_); rintro e w' ⟨rfl, ⟨nd, rfl⟩⟩) | (go_at_call 78; (with_reducible refine (impl_word.calls a2 true _ A8.out).mono ?_); rintro e w' ⟨rfl, ⟨nd, rfl⟩⟩) | ((with_reducible refine gate_dst (N := 24) rfl ?_); refine Kd.R_lit (Kd.int .i64) _ 3 ?hg (N := 24) ?hd (xs := ([a0, a1, wrap64 (65535 - a2)] : List Int)) (inner := [.int .i64 a0, .int .i64 a1, .int .i64 (wrap64 (65535 - a2))]) (ok := fun _ => True) (okp := fun _ => True) ?hr ?hp (fun _ hk => hk) trivial (Below.refl _ _) (Nat.le_refl _) (by simp) ?_; (case hd => rfl); (case hg => rfl); (case hr => first | (go_simp; done) | (go_simp; rfl)); (case hp => exact (Reps.one (show Kd.M (Kd.int .i64) _ _ _ a0 [.int .i64 a0] from rfl) (Reps.one (show Kd.M (Kd.int .i64) _ _ _ a1 [.int .i64 a1] from rfl) (Reps.one (show Kd.M (Kd.int .i64) _ _ _ (wrap64 (65535 - a2)) [.int .i64 (wrap64 (65535 - a2))] from rfl) (Reps.none _ _))))); intro v250 w11 ho12 hb hg_ hnew_; clear hg_ hnew_; (first | rw [← Ny249.out] at ho12 | (simp only [Int.reduceToNat] at ho12; rw [← Ny249.out] at ho12)); have n0_ := Aside0.mk (Kd.R_lower ho12 (below_size (by repeat (first | (with_reducible first | exact HB.out | apply below_alloc | apply pw_below_drewN | apply below_drew1) | exact HB.out)))); have n1_ := Aside0.mk (below_step (by repeat (first | (with_reducible first | exact HB.out | apply below_alloc | apply pw_below_drewN | apply below_drew1) | exact HB.out)) hb); clear HB; have HO251 := n0_; have HB := n1_; clear n0_ n1_; clear hb ho12; obtain ⟨Ao13, co13, eo13⟩ := Kd.R_slice HO251.out; subst eo13) | ((with_reducible refine gate_callee (f := 102) rfl ?_); refine goesL_ (some 25) rfl rfl Try.func102 (by kernel_rfl) rfl #[.slice Ao13 y249.length co13] rfl (by (try simp only [zm]); first | done | rfl | (simp only [zl]; rfl)) ?_; (with_reducible refine (impl_added.calls k _ _ y249 t252 _ ?side1 ?side2 A10.out).mono ?_); (case side1 => repeat (first | exact (Kd.R_reads' HO251.out).2.2 | (with_reducible first | refine Kd.C_alloc ?_ _ | refine Kd.C_drewN ?_ _ | refine Kd.C_drew ?_))); (case side2 => exact (Kd.R_reads' HO251.out).2.1); rintro e w' ⟨rfl, ⟨nd, rfl⟩⟩; refine ⟨_, rfl, ?_⟩))
    go_ret;exact ⟨by first | rfl | (simp <;> rfl) | (simp [*] <;> rfl), by repeat (first | (with_reducible first | exact HB.out | apply below_alloc | apply pw_below_drewN | apply below_drew1) | exact HB.out)⟩
   ·replace c9 := Bool.eq_false_iff.mpr c9
    subst c9
    have H1 : (some (-1)) = some r := by rw [if_neg (show ¬ (false = true) by decide)] at H; exact H
    clear H;have H := H1;clear H1;obtain rfl := Option.some.inj H
    go_enter Try.func65, Try.ntmps65
    go_wp2_with (first | ((with_reducible refine gate_callee (f := 78) rfl ?_); refine goesL_ (some 8) rfl rfl Try.func78 (by kernel_rfl) rfl #[.int .i64 a0] rfl (by (try simp only [zm]); first | done | rfl | (simp only [zl]; rfl)) ?_; (with_reducible refine (impl_word.calls a0 true _ A4.out).mono ?_); rintro e w' ⟨rfl, ⟨nd, rfl⟩⟩; refine ⟨_, rfl, ?_⟩) | (go_at_call 78; (with_reducible refine (impl_word.calls a1 true _ A6.out).mono ?_); rintro e w' ⟨rfl, ⟨nd, rfl⟩⟩) | (go_at_call 78; (with_reducible refine (impl_word.calls a2 false _ A8.out).mono ?_); rintro e w' ⟨rfl, ⟨nd, rfl⟩⟩))
    go_ret;exact ⟨by first | rfl | (simp <;> rfl) | (simp [*] <;> rfl), by repeat (first | (with_reducible first | exact HB.out | apply below_alloc | apply pw_below_drewN | apply below_drew1) | exact HB.out)⟩
  ·replace c7 := Bool.eq_false_iff.mpr c7
   subst c7
   have H1 : (some (-1)) = some r := by rw [if_neg (show ¬ (false = true) by decide)] at H; exact H
   clear H;have H := H1;clear H1;obtain rfl := Option.some.inj H
   go_enter Try.func65, Try.ntmps65
   go_wp2_with (first | ((with_reducible refine gate_callee (f := 78) rfl ?_); refine goesL_ (some 8) rfl rfl Try.func78 (by kernel_rfl) rfl #[.int .i64 a0] rfl (by (try simp only [zm]); first | done | rfl | (simp only [zl]; rfl)) ?_; (with_reducible refine (impl_word.calls a0 true _ A4.out).mono ?_); rintro e w' ⟨rfl, ⟨nd, rfl⟩⟩; refine ⟨_, rfl, ?_⟩) | (go_at_call 78; (with_reducible refine (impl_word.calls a1 false _ A6.out).mono ?_); rintro e w' ⟨rfl, ⟨nd, rfl⟩⟩))
   go_ret;exact ⟨by first | rfl | (simp <;> rfl) | (simp [*] <;> rfl), by repeat (first | (with_reducible first | exact HB.out | apply below_alloc | apply pw_below_drewN | apply below_drew1) | exact HB.out)⟩
 ·replace c5 := Bool.eq_false_iff.mpr c5
  subst c5
  have H1 : (some (-1)) = some r := by rw [if_neg (show ¬ (false = true) by decide)] at H; exact H
  clear H;have H := H1;clear H1;obtain rfl := Option.some.inj H
  go_enter Try.func65, Try.ntmps65
  go_wp2_with (first | ((with_reducible refine gate_callee (f := 78) rfl ?_); refine goesL_ (some 8) rfl rfl Try.func78 (by kernel_rfl) rfl #[.int .i64 a0] rfl (by (try simp only [zm]); first | done | rfl | (simp only [zl]; rfl)) ?_; (with_reducible refine (impl_word.calls a0 false _ A4.out).mono ?_); rintro e w' ⟨rfl, ⟨nd, rfl⟩⟩; refine ⟨_, rfl, ?_⟩))
  go_ret;exact ⟨by first | rfl | (simp <;> rfl) | (simp [*] <;> rfl), by repeat (first | (with_reducible first | exact HB.out | apply below_alloc | apply pw_below_drewN | apply below_drew1) | exact HB.out)⟩

/-! ### impl_PacketPassed: function 22 -/
def impl_PacketPassed.j0 : Nat → List Int → Bool → Option (List Int × Bool)
 | 0, _, _ => none
 | k + 1, x0, x18 => if x18 = true then (some (([] : List Int), false)) else ((impl_clone_byte.f x0).bind fun t266 => (if 5 < (t266.length : Int) then ((some (t266.set (5 : Int).toNat (((rd t266 5) - 1) % 256) : List Int)).bind fun y270 => ((impl_NumberAt.f k x0 10 2).bind fun t271 => ((impl_NumberAt.f k x0 4 2).bind fun t272 => ((impl_NumberAt.f k y270 4 2).bind fun t273 => ((impl_SumTurned.f k t271 t272 t273).bind fun t274 => ((impl_bytesOf.f k t274 2).bind fun t275 => ((slices_Clip_byte_byte.f y270 t275).bind fun bt278 => (some (bt278.2, true))))))))) else (none)))
def impl_PacketPassed.f (k : Nat) (l0 : List Int) : Option (List Int × Bool) := (impl_PacketFrom.f k l0).bind fun bt253 => (if bt253.2.2.2.2.2.2.2.2.2 = true then (impl_PacketPassed.j0 k l0 (decide (bt253.2.2.2.1 < 2))) else (impl_PacketPassed.j0 k l0 true))
theorem impl_PacketPassed.mono_l : ∀ k, (∀ y0 y1, LeO (impl_PacketPassed.j0 k y0 y1) (impl_PacketPassed.j0 (k + 1) y0 y1))
 | 0 => fun _ _ r h => by simp [impl_PacketPassed.j0] at h
 | k + 1 => by
  have ih0 := impl_PacketPassed.mono_l k
  ·intro y0 y1
   unfold impl_PacketPassed.j0
   repeat' first
   | (with_reducible exact ih0 _ _)
   | (with_reducible exact impl_NumberAt.mono _ _ _ _)
   | (with_reducible exact impl_PacketFrom.mono _ _)
   | (with_reducible exact impl_SumTurned.mono _ _ _ _)
   | (with_reducible exact impl_bytesOf.mono _ _ _)
   | (with_reducible exact LeO.refl _)
   | (with_reducible exact LeO.none _)
   | (with_reducible refine LeO.ite ?_ ?_)
   | (with_reducible refine LeO.bind ?_ (fun _ => ?_))
   | exact ih0 _ _
   | exact impl_NumberAt.mono _ _ _ _
   | exact impl_PacketFrom.mono _ _
   | exact impl_SumTurned.mono _ _ _ _
   | exact impl_bytesOf.mono _ _ _
   | exact LeO.none _
   | refine LeO.ite ?_ ?_
   | refine LeO.bind ?_ (fun _ => ?_)
theorem impl_PacketPassed.mono : ∀ a0 k, LeO (impl_PacketPassed.f k a0) (impl_PacketPassed.f (k + 1) a0) := by
 intro a0 k;have ih0 := impl_PacketPassed.mono_l k
 unfold impl_PacketPassed.f
 repeat' first
   | (with_reducible exact ih0 _ _)
   | (with_reducible exact impl_NumberAt.mono _ _ _ _)
   | (with_reducible exact impl_PacketFrom.mono _ _)
   | (with_reducible exact impl_SumTurned.mono _ _ _ _)
   | (with_reducible exact impl_bytesOf.mono _ _ _)
   | (with_reducible exact LeO.refl _)
   | (with_reducible exact LeO.none _)
   | (with_reducible refine LeO.ite ?_ ?_)
   | (with_reducible refine LeO.bind ?_ (fun _ => ?_))
   | exact ih0 _ _
   | exact impl_NumberAt.mono _ _ _ _
   | exact impl_PacketFrom.mono _ _
   | exact impl_SumTurned.mono _ _ _ _
   | exact impl_bytesOf.mono _ _ _
   | exact LeO.none _
   | refine LeO.ite ?_ ?_
   | refine LeO.bind ?_ (fun _ => ?_)
def impl_PacketPassed.T6 : Bool × List (List Nat × List Nat) := (true, [([], []), ([0], [0]), ([], []), ([2], [2]), ([], []), ([4, 3], [4]), ([], []), ([6, 5], [6]), ([3, 5, 7, 7], [3, 5, 7]), ([8, 8], [8]), ([1, 9, 9], [1, 9])])
def impl_PacketPassed.B6 : List Nat := [0, 1, 0, 4, 0, 28, 0, 124, 252, 508, 1023]
theorem impl_PacketPassed.tab6 : rtab .any (opsOf Try.f22 6) = impl_PacketPassed.T6 := by kernel_rfl
theorem impl_PacketPassed.bits6 : waitsOk impl_PacketPassed.T6.2 impl_PacketPassed.B6 = true := by kernel_rfl
set_option maxHeartbeats 8000000 in
set_option maxRecDepth 100000 in
theorem impl_PacketPassed.calls (k : Nat) (A0 : Option Addr) (c0 : Nat) (l0 : List Int) (r1 : List Int) (r2 : Bool) (w : World) (hr0 : Kd.C (Kd.int .u8) w A0 l0.length l0) (hc0 : l0.length ≤ c0) (h : impl_PacketPassed.f k l0 = some (r1, r2)) :
  Calls Try.prog 22 #[.slice A0 l0.length c0] w fun e w' => ∃ v0_ : Value, e = .returned (.tuple #[v0_, .bool r2]) ∧ Kd.R (Kd.int .u8) 5 w' w.heap.size (fun _ => True) v0_ r1 ∧ Below w.heap.size w w' := by
 have hu61 := Try.underlying61;have HR0 := Aside0.mk hr0;have HC0 := Aside0.mk hc0;clear hr0 hc0;have HB := Aside0.mk (Below.refl w.heap.size w);have H : ((impl_PacketFrom.f k l0).bind fun bt253 => (if bt253.2.2.2.2.2.2.2.2.2 = true then (impl_PacketPassed.j0 k l0 (decide (bt253.2.2.2.1 < 2))) else (impl_PacketPassed.j0 k l0 true))) = some (r1, r2) := h;clear h;replace H := ze H;obtain ⟨⟨t253, t254, t255, t256, t257, t258, t259, t260, t261, t264⟩, A20, H⟩ := H;replace H : (if t264 = true then (impl_PacketPassed.j0 k l0 (decide (t256 < 2))) else (impl_PacketPassed.j0 k l0 true)) = some (r1, r2) := H;have A2 := Aside0.mk A20;clear A20;have HC3 := Aside0.mk H;clear H
 go_enter Try.func22, Try.ntmps22
 go_upto_region 2 with (first | ((with_reducible refine gate_callee (f := 50) rfl ?_); refine goesL_ (some 9) rfl rfl Try.func50 (by kernel_rfl) rfl #[.slice A0 l0.length c0] rfl (by (try simp only [zm]); first | done | rfl | (simp only [zl]; rfl)) ?_; (with_reducible refine (impl_PacketFrom.calls k _ _ l0 t253 t254 t255 t256 t257 t258 t259 t260 t261 t264 _ ?side1 ?side2 A2.out).mono ?_); (case side1 => repeat (first | exact HR0.out | (with_reducible first | refine Kd.C_alloc ?_ _ | refine Kd.C_drewN ?_ _ | refine Kd.C_drew ?_))); (case side2 => exact HC0.out); rintro e w4 ⟨v262, rfl, ho0, hb⟩; refine ⟨_, rfl, ?_⟩; have n0_ := Aside0.mk (Kd.R_lower ho0 (below_size (by repeat (first | (with_reducible first | exact HB.out | apply below_alloc | apply pw_below_drewN | apply below_drew1) | exact HB.out)))); have n1_ := Aside0.mk (below_step (by repeat (first | (with_reducible first | exact HB.out | apply below_alloc | apply pw_below_drewN | apply below_drew1) | exact HB.out)) hb); clear HB; have HO263 := n0_; have HB := n1_; clear n0_ n1_; (try clear hb); (try clear hb2); (try clear hk); (try clear hi); (try clear ho0)) | ((with_reducible refine gate_dst (N := 4) rfl ?_); refine box_event ?hg (N := 4) ?hd (cs := #[.int .i64 0, .int .i64 0, .int .i64 0, .int .i64 0, .int .i64 0, .int .i64 0, .bool false, .bool false, .slice none 0 0]) (t := 61) ?hr ?_; (case hd => rfl); (case hg => rfl); (case hr => first | (go_simp; done) | (go_simp; rfl)); intro gb265 hg w5 hbox hb; have n0_ := Aside0.mk (Kd.R_below (by (with_reducible repeat (first | apply Kd.R_alloc | apply Kd.R_drewN | apply Kd.R_drew)); exact HO263.out) hb); have n1_ := Aside0.mk (below_step (by repeat (first | (with_reducible first | exact HB.out | apply below_alloc | apply pw_below_drewN | apply below_drew1) | exact HB.out)) hb); have n2_ := Aside0.mk (hbox); have n3_ := Aside0.mk ((by rw [hg]; exact (below_size (by repeat (first | (with_reducible first | exact HB.out | apply below_alloc | apply pw_below_drewN | apply below_drew1) | exact HB.out))) : w.heap.size ≤ gb265)); have n4_ := n3_; clear HO263; clear HB; have HO263 := n0_; have HB := n1_; have BK265 := n2_; have GW265 := n3_; have GE265 := n4_; clear n0_ n1_ n2_ n3_ n4_; clear hb hbox hg; obtain ⟨hcz6_0, hcz6_1, hcz6_2, hcz6_3, hcz6_4, hcz6_5, hcz6_6, hcz6_7, hcz6_8, hfz6_0, hfz6_1, hfz6_2, hfz6_3, hfz6_4, hfz6_5, hfz6_6, hfz6_7, hfz6_8⟩ := zc9 BK265.out; obtain ⟨Ao7, co7, eo7⟩ := Kd.R_slice HO263.out; subst eo7))
 (try simp only [Act.put, List.setIfInBounds_toArray, List.set_cons_zero, List.set_cons_succ])
 go_cut [18] (fun v18 wc => ∃ (kq : Nat) (x18_2 : Bool), v18 = .bool x18_2 ∧ Aside0 (impl_PacketPassed.j0 kq l0 x18_2 = some (r1, r2)) ∧ Aside0 (kq ≤ k) ∧ Aside0 (Kd.R (Kd.int .u8) 5 wc w.heap.size (fun _ => True) (.slice Ao7 t261.length co7) t261) ∧ Aside0 (wc.heap[gb265]? = some (.cells #[.int .i64 t253, .int .i64 t254, .int .i64 t255, .int .i64 t256, .int .i64 t257, .int .i64 t258, .bool t259, .bool t260, (.slice Ao7 t261.length co7)] 61 (0, 0))) ∧ Aside0 (Below w.heap.size w wc))
 case first =>
  have H := HC3.out;clear HC3
  by_cases c8 : t264 = true
  ·subst c8
   have H1 : (impl_PacketPassed.j0 k l0 (decide (t256 < 2))) = some (r1, r2) := by rw [if_pos rfl] at H; exact H
   clear H;have H := H1;clear H1;have H' := Aside0.mk H;clear H;obtain ⟨hcz9_0, hcz9_1, hcz9_2, hcz9_3, hcz9_4, hcz9_5, hcz9_6, hcz9_7, hcz9_8, hfz9_0, hfz9_1, hfz9_2, hfz9_3, hfz9_4, hfz9_5, hfz9_6, hfz9_7, hfz9_8⟩ := zc9 BK265.out
   go_wp2
   go_meet
   case rel => exact ⟨_, (decide (t256 < 2)), (by first | rfl | (simp; done) | (simp [*]; done)), H', ⟨by first | omega | exact Nat.le_refl _⟩, ⟨by (with_reducible repeat (first | apply Kd.R_alloc | apply Kd.R_drewN | apply Kd.R_drew)); exact Kd.R_mono (Kd.R_far (p := ⟨gb265, 8, none⟩) (Kd.R_far (p := ⟨gb265, 7, none⟩) (Kd.R_far (p := ⟨gb265, 6, none⟩) (Kd.R_far (p := ⟨gb265, 5, none⟩) (Kd.R_far (p := ⟨gb265, 4, none⟩) (Kd.R_far (p := ⟨gb265, 3, none⟩) (Kd.R_far (p := ⟨gb265, 2, none⟩) (Kd.R_far (p := ⟨gb265, 1, none⟩) (Kd.R_far (p := ⟨gb265, 0, none⟩) (Kd.R_types HO263.out BK265.out (by decide)) (fun _ hk => hk.2) (.int .i64 t253)) (fun _ hk => hk.2) (.int .i64 t254)) (fun _ hk => hk.2) (.int .i64 t255)) (fun _ hk => hk.2) (.int .i64 t256)) (fun _ hk => hk.2) (.int .i64 t257)) (fun _ hk => hk.2) (.int .i64 t258)) (fun _ hk => hk.2) (.bool t259)) (fun _ hk => hk.2) (.bool t260)) (fun _ hk => hk.2) (.slice Ao7 t261.length co7)) (fun _ hk => trivial)⟩, ⟨by (with_reducible repeat (first | apply blk_drewN | apply blk_drew | apply blk_alloc)); refine blk_put (cs := #[.int .i64 t253, .int .i64 t254, .int .i64 t255, .int .i64 t256, .int .i64 t257, .int .i64 t258, .bool t259, .bool t260, .slice none 0 0]) ?_ 8 _ rfl; refine blk_put (cs := #[.int .i64 t253, .int .i64 t254, .int .i64 t255, .int .i64 t256, .int .i64 t257, .int .i64 t258, .bool t259, .bool false, .slice none 0 0]) ?_ 7 _ rfl; refine blk_put (cs := #[.int .i64 t253, .int .i64 t254, .int .i64 t255, .int .i64 t256, .int .i64 t257, .int .i64 t258, .bool false, .bool false, .slice none 0 0]) ?_ 6 _ rfl; refine blk_put (cs := #[.int .i64 t253, .int .i64 t254, .int .i64 t255, .int .i64 t256, .int .i64 t257, .int .i64 0, .bool false, .bool false, .slice none 0 0]) ?_ 5 _ rfl; refine blk_put (cs := #[.int .i64 t253, .int .i64 t254, .int .i64 t255, .int .i64 t256, .int .i64 0, .int .i64 0, .bool false, .bool false, .slice none 0 0]) ?_ 4 _ rfl; refine blk_put (cs := #[.int .i64 t253, .int .i64 t254, .int .i64 t255, .int .i64 0, .int .i64 0, .int .i64 0, .bool false, .bool false, .slice none 0 0]) ?_ 3 _ rfl; refine blk_put (cs := #[.int .i64 t253, .int .i64 t254, .int .i64 0, .int .i64 0, .int .i64 0, .int .i64 0, .bool false, .bool false, .slice none 0 0]) ?_ 2 _ rfl; refine blk_put (cs := #[.int .i64 t253, .int .i64 0, .int .i64 0, .int .i64 0, .int .i64 0, .int .i64 0, .bool false, .bool false, .slice none 0 0]) ?_ 1 _ rfl; refine blk_put (cs := #[.int .i64 0, .int .i64 0, .int .i64 0, .int .i64 0, .int .i64 0, .int .i64 0, .bool false, .bool false, .slice none 0 0]) ?_ 0 _ rfl; (with_reducible repeat (first | apply blk_drewN | apply blk_drew | apply blk_alloc)); exact BK265.out⟩, ⟨by repeat (first | (with_reducible first | exact HB.out | apply below_alloc | apply pw_below_drewN | apply below_drew1 | refine below_set ?_ GE265.out) | exact HB.out)⟩⟩
  ·replace c8 := Bool.eq_false_iff.mpr c8
   subst c8
   have H1 : (impl_PacketPassed.j0 k l0 true) = some (r1, r2) := by rw [if_neg (show ¬ (false = true) by decide)] at H; exact H
   clear H;have H := H1;clear H1;have H' := Aside0.mk H;clear H
   go_wp2
   go_meet
   case rel => exact ⟨_, (true), (by first | rfl | (simp; done) | (simp [*]; done)), H', ⟨by first | omega | exact Nat.le_refl _⟩, ⟨by (with_reducible repeat (first | apply Kd.R_alloc | apply Kd.R_drewN | apply Kd.R_drew)); exact Kd.R_mono (Kd.R_far (p := ⟨gb265, 8, none⟩) (Kd.R_far (p := ⟨gb265, 7, none⟩) (Kd.R_far (p := ⟨gb265, 6, none⟩) (Kd.R_far (p := ⟨gb265, 5, none⟩) (Kd.R_far (p := ⟨gb265, 4, none⟩) (Kd.R_far (p := ⟨gb265, 3, none⟩) (Kd.R_far (p := ⟨gb265, 2, none⟩) (Kd.R_far (p := ⟨gb265, 1, none⟩) (Kd.R_far (p := ⟨gb265, 0, none⟩) (Kd.R_types HO263.out BK265.out (by decide)) (fun _ hk => hk.2) (.int .i64 t253)) (fun _ hk => hk.2) (.int .i64 t254)) (fun _ hk => hk.2) (.int .i64 t255)) (fun _ hk => hk.2) (.int .i64 t256)) (fun _ hk => hk.2) (.int .i64 t257)) (fun _ hk => hk.2) (.int .i64 t258)) (fun _ hk => hk.2) (.bool t259)) (fun _ hk => hk.2) (.bool t260)) (fun _ hk => hk.2) (.slice Ao7 t261.length co7)) (fun _ hk => trivial)⟩, ⟨by (with_reducible repeat (first | apply blk_drewN | apply blk_drew | apply blk_alloc)); refine blk_put (cs := #[.int .i64 t253, .int .i64 t254, .int .i64 t255, .int .i64 t256, .int .i64 t257, .int .i64 t258, .bool t259, .bool t260, .slice none 0 0]) ?_ 8 _ rfl; refine blk_put (cs := #[.int .i64 t253, .int .i64 t254, .int .i64 t255, .int .i64 t256, .int .i64 t257, .int .i64 t258, .bool t259, .bool false, .slice none 0 0]) ?_ 7 _ rfl; refine blk_put (cs := #[.int .i64 t253, .int .i64 t254, .int .i64 t255, .int .i64 t256, .int .i64 t257, .int .i64 t258, .bool false, .bool false, .slice none 0 0]) ?_ 6 _ rfl; refine blk_put (cs := #[.int .i64 t253, .int .i64 t254, .int .i64 t255, .int .i64 t256, .int .i64 t257, .int .i64 0, .bool false, .bool false, .slice none 0 0]) ?_ 5 _ rfl; refine blk_put (cs := #[.int .i64 t253, .int .i64 t254, .int .i64 t255, .int .i64 t256, .int .i64 0, .int .i64 0, .bool false, .bool false, .slice none 0 0]) ?_ 4 _ rfl; refine blk_put (cs := #[.int .i64 t253, .int .i64 t254, .int .i64 t255, .int .i64 0, .int .i64 0, .int .i64 0, .bool false, .bool false, .slice none 0 0]) ?_ 3 _ rfl; refine blk_put (cs := #[.int .i64 t253, .int .i64 t254, .int .i64 0, .int .i64 0, .int .i64 0, .int .i64 0, .bool false, .bool false, .slice none 0 0]) ?_ 2 _ rfl; refine blk_put (cs := #[.int .i64 t253, .int .i64 0, .int .i64 0, .int .i64 0, .int .i64 0, .int .i64 0, .bool false, .bool false, .slice none 0 0]) ?_ 1 _ rfl; refine blk_put (cs := #[.int .i64 0, .int .i64 0, .int .i64 0, .int .i64 0, .int .i64 0, .int .i64 0, .bool false, .bool false, .slice none 0 0]) ?_ 0 _ rfl; (with_reducible repeat (first | apply blk_drewN | apply blk_drew | apply blk_alloc)); exact BK265.out⟩, ⟨by repeat (first | (with_reducible first | exact HB.out | apply below_alloc | apply pw_below_drewN | apply below_drew1 | refine below_set ?_ GE265.out) | exact HB.out)⟩⟩
 case rest =>
  clear HC3
  try clear c2
  try clear p2
  try clear c5
  try clear c8
  try clear hcz6_0
  try clear hcz6_1
  try clear hcz6_2
  try clear hcz6_3
  try clear hcz6_4
  try clear hcz6_5
  try clear hcz6_6
  try clear hcz6_7
  try clear hcz6_8
  try clear hcz9_0
  try clear hcz9_1
  try clear hcz9_2
  try clear hcz9_3
  try clear hcz9_4
  try clear hcz9_5
  try clear hcz9_6
  try clear hcz9_7
  try clear hcz9_8
  try clear hfz6_0
  try clear hfz6_1
  try clear hfz6_2
  try clear hfz6_3
  try clear hfz6_4
  try clear hfz6_5
  try clear hfz6_6
  try clear hfz6_7
  try clear hfz6_8
  try clear hfz9_0
  try clear hfz9_1
  try clear hfz9_2
  try clear hfz9_3
  try clear hfz9_4
  try clear hfz9_5
  try clear hfz9_6
  try clear hfz9_7
  try clear hfz9_8
  obtain ⟨kq, x18_2, rfl, HA, HJ2, HO_266008, BK265, HB⟩ := hcut
  cases kq with
  | zero => exact absurd HA.out (by simp [impl_PacketPassed.j0])
  | succ kj2 =>
   have H := HA.out;clear HA;simp only [impl_PacketPassed.j0] at H
   by_cases c10 : x18_2 = true
   ·subst c10
    have H1 : (some (([] : List Int), false)) = some (r1, r2) := by rw [if_pos rfl] at H; exact H
    clear H;have H := H1;clear H1;simp only [Option.some.injEq, Prod.mk.injEq] at H;obtain ⟨rfl, rfl⟩ := H
    go_wp2
    go_ret2
    exact ⟨_, by first | rfl | (simp <;> rfl) | (simp [*] <;> rfl), by first | exact Kd.R_nil _ _ _ _ _ | exact Kd.N_nil _ _ _ _ _ | exact Kd.V_nil _ _ _ _ _ | exact Kd.Q_nil _ _ _ _ _ | exact Kd.S_nil _ _ _ _ _, by repeat (first | (with_reducible first | exact HB.out | apply below_alloc | apply pw_below_drewN | apply below_drew1 | refine below_set ?_ GE265.out) | exact HB.out)⟩
   ·replace c10 := Bool.eq_false_iff.mpr c10
    subst c10
    have H1 : ((impl_clone_byte.f l0).bind fun t266 => (if 5 < (t266.length : Int) then ((some (t266.set (5 : Int).toNat (((rd t266 5) - 1) % 256) : List Int)).bind fun y270 => ((impl_NumberAt.f kj2 l0 10 2).bind fun t271 => ((impl_NumberAt.f kj2 l0 4 2).bind fun t272 => ((impl_NumberAt.f kj2 y270 4 2).bind fun t273 => ((impl_SumTurned.f kj2 t271 t272 t273).bind fun t274 => ((impl_bytesOf.f kj2 t274 2).bind fun t275 => ((slices_Clip_byte_byte.f y270 t275).bind fun bt278 => (some (bt278.2, true))))))))) else (none))) = some (r1, r2) := by rw [if_neg (show ¬ (false = true) by decide)] at H; exact H
    clear H;have H := H1;clear H1;replace H := ze H;obtain ⟨t266, A110, H⟩ := H;replace H : (if 5 < (t266.length : Int) then ((some (t266.set (5 : Int).toNat (((rd t266 5) - 1) % 256) : List Int)).bind fun y270 => ((impl_NumberAt.f kj2 l0 10 2).bind fun t271 => ((impl_NumberAt.f kj2 l0 4 2).bind fun t272 => ((impl_NumberAt.f kj2 y270 4 2).bind fun t273 => ((impl_SumTurned.f kj2 t271 t272 t273).bind fun t274 => ((impl_bytesOf.f kj2 t274 2).bind fun t275 => ((slices_Clip_byte_byte.f y270 t275).bind fun bt278 => (some (bt278.2, true))))))))) else (none)) = some (r1, r2) := H;have A11 := Aside0.mk A110;clear A110
    by_cases c12 : 5 < (t266.length : Int)
    ·rw [if_pos c12] at H
     have c12b0 : decide (5 < (t266.length : Int)) = true := decide_eq_true c12;have c12b1 : decide (5 < t266.length) = true := decide_eq_true (by omega);clear c12;obtain ⟨y270, hy270⟩ : ∃ y_ : List Int, y_ = (t266.set (5 : Int).toNat (((rd t266 5) - 1) % 256)) := ⟨_, rfl⟩
     replace H : ((impl_NumberAt.f kj2 l0 10 2).bind fun t271 => ((impl_NumberAt.f kj2 l0 4 2).bind fun t272 => ((impl_NumberAt.f kj2 y270 4 2).bind fun t273 => ((impl_SumTurned.f kj2 t271 t272 t273).bind fun t274 => ((impl_bytesOf.f kj2 t274 2).bind fun t275 => ((slices_Clip_byte_byte.f y270 t275).bind fun bt278 => (some (bt278.2, true)))))))) = some (r1, r2) := by first | (rw [hy270]; with_reducible exact H) | (have H2_ := (Option.bind_some _ _).symm.trans H; rw [hy270]; with_reducible exact H2_) | (have H2_ := (Option.bind_some _ _).symm.trans H; with_reducible exact H2_) | with_reducible exact H | (rw [hy270]; exact H) | exact H
     have Ny270 := Aside0.mk hy270;clear hy270;replace H := ze H;obtain ⟨t271, A140, H⟩ := H;replace H : ((impl_NumberAt.f kj2 l0 4 2).bind fun t272 => ((impl_NumberAt.f kj2 y270 4 2).bind fun t273 => ((impl_SumTurned.f kj2 t271 t272 t273).bind fun t274 => ((impl_bytesOf.f kj2 t274 2).bind fun t275 => ((slices_Clip_byte_byte.f y270 t275).bind fun bt278 => (some (bt278.2, true))))))) = some (r1, r2) := H;have A14 := Aside0.mk A140;clear A140;replace H := ze H;obtain ⟨t272, A150, H⟩ := H;replace H : ((impl_NumberAt.f kj2 y270 4 2).bind fun t273 => ((impl_SumTurned.f kj2 t271 t272 t273).bind fun t274 => ((impl_bytesOf.f kj2 t274 2).bind fun t275 => ((slices_Clip_byte_byte.f y270 t275).bind fun bt278 => (some (bt278.2, true)))))) = some (r1, r2) := H;have A15 := Aside0.mk A150;clear A150;replace H := ze H;obtain ⟨t273, A160, H⟩ := H;replace H : ((impl_SumTurned.f kj2 t271 t272 t273).bind fun t274 => ((impl_bytesOf.f kj2 t274 2).bind fun t275 => ((slices_Clip_byte_byte.f y270 t275).bind fun bt278 => (some (bt278.2, true))))) = some (r1, r2) := H;have A16 := Aside0.mk A160;clear A160;replace H := ze H;obtain ⟨t274, A170, H⟩ := H;replace H : ((impl_bytesOf.f kj2 t274 2).bind fun t275 => ((slices_Clip_byte_byte.f y270 t275).bind fun bt278 => (some (bt278.2, true)))) = some (r1, r2) := H;have A17 := Aside0.mk A170;clear A170;replace H := ze H;obtain ⟨t275, A180, H⟩ := H;replace H : ((slices_Clip_byte_byte.f y270 t275).bind fun bt278 => (some (bt278.2, true))) = some (r1, r2) := H;have A18 := Aside0.mk A180;clear A180;replace H := ze H;obtain ⟨⟨t278, t279⟩, A190, H⟩ := H;replace H : (some (t279, true)) = some (r1, r2) := H;have A19 := Aside0.mk A190;clear A190;simp only [Option.some.injEq, Prod.mk.injEq] at H;obtain ⟨rfl, rfl⟩ := H
     try go_wp2_with (first | ((with_reducible refine gate_callee (f := 60) rfl ?_); refine goesL_ (some 20) rfl rfl Try.func60 (by kernel_rfl) rfl #[.slice A0 l0.length c0] rfl (by (try simp only [zm]); first | done | rfl | (simp only [zl]; rfl)) ?_; (with_reducible refine (impl_clone_byte.calls _ _ l0 t266 _ ?side1 ?side2 A11.out).mono ?_); (case side1 => repeat (first | exact (Kd.C_below HR0.out HB.out) | (with_reducible first | refine Kd.C_alloc ?_ _ | refine Kd.C_drewN ?_ _ | refine Kd.C_drew ?_))); (case side2 => exact HC0.out); rintro e w20 ⟨v267, rfl, ho0, hb⟩; refine ⟨_, rfl, ?_⟩; have n0_ := Aside0.mk (Kd.R_elder' (by (with_reducible repeat (first | apply Kd.R_alloc | apply Kd.R_drewN | apply Kd.R_drew)); exact HO_266008.out) (Kd.R_base ho0) hb); have n1_ := Aside0.mk (Kd.R_lower (Kd.R_new' ho0 (Kd.R_lt (by (with_reducible repeat (first | apply Kd.R_alloc | apply Kd.R_drewN | apply Kd.R_drew)); exact HO_266008.out))) (below_size (by repeat (first | (with_reducible first | exact HB.out | apply below_alloc | apply pw_below_drewN | apply below_drew1 | refine below_set ?_ GE265.out) | exact HB.out)))); have n2_ := Aside0.mk (blk_below (g := gb265) (o := .cells #[.int .i64 t253, .int .i64 t254, .int .i64 t255, .int .i64 t256, .int .i64 t257, .int .i64 t258, .bool t259, .bool t260, .slice Ao7 t261.length co7] 61 (0, 0)) (by (with_reducible repeat (first | apply blk_drewN | apply blk_drew | apply blk_alloc)); exact BK265.out) hb); have n3_ := Aside0.mk (below_step (by repeat (first | (with_reducible first | exact HB.out | apply below_alloc | apply pw_below_drewN | apply below_drew1 | refine below_set ?_ GE265.out) | exact HB.out)) hb); clear HO_266008; clear BK265; clear HB; have HO_266008 := n0_; have HO268 := n1_; have BK265 := n2_; have HB := n3_; clear n0_ n1_ n2_ n3_; (try clear hb); (try clear hb2); (try clear hk); (try clear hi); (try clear ho0); obtain ⟨Ao21, co21, eo21⟩ := Kd.R_slice HO268.out; subst eo21; have p269 : 0 ≤ (5 : Int) := (by omega); have q269 : 5 < (t266.length : Int) := of_decide_eq_true (by first | (with_reducible assumption) | assumption); obtain ⟨ad269, e269, hx269_0⟩ := Kd.at_int (Kd.R_reads' HO268.out).2.2 5 p269 q269; cases e269; (try simp only [show (5 : Int).toNat = 5 from rfl, Nat.reduceMul, Nat.reduceEqDiff, Go.Addr.add, ↓reduceIte] at hx269_0); have qi269 : (5 < t266.length) = True := eq_true (by omega); (try rw [show ((5 : Int)).toNat = 5 from rfl] at hx269_0); replace p269 := eq_true p269; replace q269 := eq_true q269; have p13 : 0 ≤ (5 : Int) := (by omega); have q13 : (5 : Int) < ((t266.length : Int) : Int) := of_decide_eq_true (by first | (with_reducible assumption) | assumption); have qi13 : (5 < t266.length) = True := eq_true (by omega); obtain ⟨go13, co13, eo13, gb13, gl13, cl13, HG13⟩ := Kd.R_form HO268.out (by omega); (first | cases eo13 | (injection eo13 with ea_ en_ ec_; (first | subst ea_ | (injection ea_ with ea_; subst ea_)); subst ec_; clear en_)); have GB13 := Aside0.mk gb13; have GG13 := Aside0.mk HG13; clear gb13 gl13 HG13; (first | simp only [add_plain] at hx269_0 | skip); obtain ⟨hx13_0, hf13_0⟩ := Kd.R_celln 0 HO268.out (5 : Int) p13 q13; (try rw [show ((5 : Int)).toNat = 5 from rfl] at hx13_0); (try simp only [Nat.reduceMul, Nat.zero_mul, Nat.zero_add, Nat.reduceAdd] at hx13_0); (try rw [show ((5 : Int)).toNat = 5 from rfl] at hf13_0); (try simp only [Nat.reduceMul, Nat.zero_mul, Nat.zero_add, Nat.reduceAdd] at hf13_0); replace p13 := eq_true p13; replace q13 := eq_true q13; have n_ := Aside0.mk (Kd.R_mono (ok' := (fun k_ => some k_ ≠ (.slice Ao7 t261.length co7 : Value).ownBlock)) HO268.out (fun k_ hk => hk.2)); clear HO268; have HO268 := n_; clear n_; obtain ⟨hy22_, hz22_⟩ := Kd.R_celln 0 HO268.out (5 : Int) (by omega) (of_decide_eq_true (by first | (with_reducible assumption) | assumption)); (try simp only [Int.reduceToNat, Int.toNat_zero, Int.toNat_ofNat, Nat.reduceMul, Nat.zero_mul, Nat.zero_add] at hy22_ hz22_); (try rw [show ((5 : Int)).toNat = 5 from rfl] at hy22_); (try rw [show ((5 : Int)).toNat = 5 from rfl] at hz22_); have HP22 := Kd.R_putg HO268.out (5 : Int) (((rd t266 5) - 1) % 256)) | ((with_reducible refine gate_store (t := 5) (p := 25) rfl ?_); refine store_event (t := 5) (p := 25) (v := ?vo_w23) (w1 := (w20.setCell ⟨go13, (5 : Int).toNat, none⟩ (.int .u8 (((rd t266 5) - 1) % 256)))) ?hg ?ho ?hn ?hr ?_; (case ho => rfl); (case hg => rfl); (case hn => rfl); (case hr => first | (go_simp; done) | (go_simp; rfl)); intro w23 hw; have hg : w20.grownBy w23 (some go13) := (by rw [hw]; exact HP22.2); have hp_ : Kd.R (Kd.int .u8) 5 w23 w.heap.size (fun k_ => some k_ ≠ (.slice Ao7 t261.length co7 : Value).ownBlock) (.slice (some ⟨go13, 0, none⟩) t266.length co21) y270 := (by rw [hw, Ny270.out]; exact HP22.1); clear HP22; have n0_ := Aside0.mk (Kd.R_after (v := (.slice (some ⟨go13, 0, none⟩) t266.length co21)) (v1 := (.slice (some ⟨go13, 0, none⟩) t266.length co21)) (ok := (fun _ => True)) (by (with_reducible repeat (first | apply Kd.R_alloc | apply Kd.R_drewN | apply Kd.R_drew)); exact HO_266008.out) hg (.inl rfl)); have n1_ := Aside0.mk (blk_grown (g := gb265) (o := .cells #[.int .i64 t253, .int .i64 t254, .int .i64 t255, .int .i64 t256, .int .i64 t257, .int .i64 t258, .bool t259, .bool t260, .slice Ao7 t261.length co7] 61 (0, 0)) (by (with_reducible repeat (first | apply blk_drewN | apply blk_drew | apply blk_alloc)); exact BK265.out) hg (Kd.R_ne HO268.out BK265.out (by decide))); have n2_ := Aside0.mk (hp_); have n3_ := Aside0.mk ((by rw [hw]; exact below_set (HB.out) GB13.out : Below w.heap.size w w23)); clear HO_266008; clear BK265; clear HO268; clear HB; have HO_266008 := n0_; have BK265 := n1_; have HO268 := n2_; have HB := n3_; clear n0_ n1_ n2_ n3_; clear hg hw hp_))
     have n0_ := Aside0.mk (Kd.R_drew HO_266008.out); have n1_ := Aside0.mk (Kd.R_drew HO268.out); have n2_ := Aside0.mk (blk_drew BK265.out); have n3_ := Aside0.mk (below_drew1 HB.out);clear HO_266008;clear HO268;clear BK265;clear HB;have HO_266008 := n0_;have HO268 := n1_;have BK265 := n2_;have HB := n3_;clear n0_ n1_ n2_ n3_;refine start_ (n := 11) (S := fun w' => True) (ds := []) (bitsA 11 0) (by kernel_rfl) rfl rfl trivial (fun hHeld => ?_); refine with_tabW impl_PacketPassed.tab6 impl_PacketPassed.bits6 (fun HT_ HW_ => ?_)
     generalize w23.drew = w24 at HO_266008 HO268 BK265 HB hHeld ⊢
     refine pure_ (i := 0) (N := some 26) (v := ?_) (a' := ?_) (bitsA 11 1) rfl rfl (any_of HT_.out (by kernel_rfl)) (fun _ _ _ => id) (yl (by rfl) ?_) ?_ ?_;rotate_left; (focus (intro w'; go_simp; with_reducible rfl));rotate_left; (focus (simp only [zs]; rfl));have hlg_ := (slices_Clip_byte_byte.long A19.out).1;have hle_ := (Kd.R_reads' HO268.out).1
     have q27 : (10 : Int) ≤ ((t266.length : Int) : Int) := by omega
     have hrm_ := (Kd.R_reads' HO268.out).2.1;obtain ⟨i027, hi027, _, hsz27, _⟩ := info_parts info5;have hcut27 := cut_from (P := Try.prog) 22 5 .i64 Try.underlying22 hi027 1 hsz27 (some ⟨go13, 0, none⟩) t266.length co21 10 (by omega) q27
     rw [if_neg (show ¬ co21 = (10 : Int).toNat by omega), show (some (⟨go13, 0, none⟩ : Addr)).map (·.add ((10 : Int).toNat * 1)) = some ⟨go13, 10, none⟩ from rfl, show (10 : Int).toNat = 10 from rfl] at hcut27
     clear hlg_ hle_ q27 hrm_ hi027 hsz27;refine pure_ (i := 1) (N := some 27) (v := ?_) (a' := ?_) (bitsA 11 3) rfl rfl (any_of HT_.out (by kernel_rfl)) (fun _ _ _ => id) (yl (by rfl) ?_) ?_ ?_;rotate_left; (focus (intro w'; go_simp; with_reducible rfl));rotate_left; (focus (simp only [zs]; rfl));refine pure_ (i := 2) (N := some 28) (v := ?_) (a' := ?_) (bitsA 11 7) rfl rfl (any_of HT_.out (by kernel_rfl)) (fun _ _ _ => id) (yl (by rfl) ?_) ?_ ?_;rotate_left; (focus (intro w'; go_simp; with_reducible rfl));rotate_left; (focus (simp only [zs]; rfl));refine pure_ (i := 4) (N := some 30) (v := ?_) (a' := ?_) (bitsA 11 23) rfl rfl (any_of HT_.out (by kernel_rfl)) (fun _ _ _ => id) (yl (by rfl) ?_) ?_ ?_;rotate_left; (focus (intro w'; go_simp; with_reducible rfl));rotate_left; (focus (simp only [zs]; rfl));refine pure_ (i := 6) (N := some 32) (v := ?_) (a' := ?_) (bitsA 11 87) rfl rfl (any_of HT_.out (by kernel_rfl)) (fun _ _ _ => id) (yl (by rfl) ?_) ?_ ?_;rotate_left; (focus (intro w'; go_simp; with_reducible rfl));rotate_left; (focus (simp only [zs]; rfl));refine one_ (i := 3) (N := some 29) (bitsA 11 95) rfl rfl (one_of HT_.out (by kernel_rfl)) (by decide) (fun K hK => ?_);refine goes_ Try.func66 (by kernel_rfl) rfl #[.slice A0 l0.length c0, .int .i64 10, .int .i64 2] (by rfl) rfl rfl (by (try simp only [zm]); first | done | rfl | (simp only [zl]; rfl)) ?_
     with_reducible refine (impl_NumberAt.calls kj2 _ _ l0 10 2 t271 _ ?side1 ?side2 A14.out).mono ?_
     (case side1 => repeat (first | exact (Kd.C_below HR0.out HB.out) | (with_reducible first | refine Kd.C_alloc ?_ _ | refine Kd.C_drewN ?_ _ | refine Kd.C_drew ?_)))
     (case side2 => exact HC0.out)
     rintro e w' ⟨rfl, ⟨nd, rfl⟩⟩
     refine ⟨_, rfl, ?_⟩;refine hK.out _ _ trivial (fun hHeld => ?_);clear hK K;refine norm_ (a' := ?_) ?_ ?_;rotate_left; (focus (show Act.put _ (some 29) _ = _; simp only [zs]; rfl));refine one_ (i := 5) (N := some 31) (bitsA 11 127) rfl rfl (one_of HT_.out (by kernel_rfl)) (by decide) (fun K hK => ?_);refine goes_ Try.func66 (by kernel_rfl) rfl #[.slice A0 l0.length c0, .int .i64 4, .int .i64 2] (by rfl) rfl rfl (by (try simp only [zm]); first | done | rfl | (simp only [zl]; rfl)) ?_
     with_reducible refine (impl_NumberAt.calls kj2 _ _ l0 4 2 t272 _ ?side1 ?side2 A15.out).mono ?_
     (case side1 => repeat (first | exact (Kd.C_below HR0.out (by repeat (first | (with_reducible first | exact HB.out | apply below_alloc | apply pw_below_drewN | apply below_drew1 | refine below_set ?_ GE265.out) | exact HB.out))) | (with_reducible first | refine Kd.C_alloc ?_ _ | refine Kd.C_drewN ?_ _ | refine Kd.C_drew ?_)))
     (case side2 => exact HC0.out)
     rintro e w' ⟨rfl, ⟨nd, rfl⟩⟩
     refine ⟨_, rfl, ?_⟩;refine hK.out _ _ trivial (fun hHeld => ?_);clear hK K;refine norm_ (a' := ?_) ?_ ?_;rotate_left; (focus (show Act.put _ (some 31) _ = _; simp only [zs]; rfl));refine one_ (i := 7) (N := some 33) (bitsA 11 255) rfl rfl (one_of HT_.out (by kernel_rfl)) (by decide) (fun K hK => ?_);refine goes_ Try.func66 (by kernel_rfl) rfl #[.slice (some ⟨go13, 0, none⟩) y270.length co21, .int .i64 4, .int .i64 2] (by rfl) rfl rfl (by (try simp only [zm]); first | done | (rw [show y270.length = t266.length from (Kd.R_reads' HO268.out).1.symm] <;> rfl) | rfl | (simp only [zl]; rfl)) ?_
     with_reducible refine (impl_NumberAt.calls kj2 _ _ y270 4 2 t273 _ ?side1 ?side2 A16.out).mono ?_
     (case side1 => repeat (first | exact (Kd.R_reads' HO268.out).2.2 | (with_reducible first | refine Kd.C_alloc ?_ _ | refine Kd.C_drewN ?_ _ | refine Kd.C_drew ?_)))
     (case side2 => rw [show y270.length = t266.length from (Kd.R_reads' HO268.out).1.symm]; exact (Kd.R_reads' HO268.out).2.1)
     rintro e w' ⟨rfl, ⟨nd, rfl⟩⟩
     refine ⟨_, rfl, ?_⟩;refine hK.out _ _ trivial (fun hHeld => ?_);clear hK K;refine norm_ (a' := ?_) ?_ ?_;rotate_left; (focus (show Act.put _ (some 33) _ = _; simp only [zs]; rfl));refine one_ (i := 8) (N := some 34) (bitsA 11 511) rfl rfl (one_of HT_.out (by kernel_rfl)) (by decide) (fun K hK => ?_);refine goes_ Try.func65 (by kernel_rfl) rfl #[.int .i64 t271, .int .i64 t272, .int .i64 t273] (by rfl) rfl rfl (by (try simp only [zm]); first | done | rfl | (simp only [zl]; rfl)) ?_
     with_reducible refine (impl_SumTurned.calls kj2 t271 t272 t273 t274 _ A17.out).mono ?_
     rintro e w25 ⟨rfl, hb⟩
     refine ⟨_, rfl, ?_⟩;have n0_ := Aside0.mk (Kd.R_below (by (with_reducible repeat (first | apply Kd.R_alloc | apply Kd.R_drewN | apply Kd.R_drew)); exact HO_266008.out) hb); have n1_ := Aside0.mk (Kd.R_below (by (with_reducible repeat (first | apply Kd.R_alloc | apply Kd.R_drewN | apply Kd.R_drew)); exact HO268.out) hb); have n2_ := Aside0.mk (blk_below (g := gb265) (o := .cells #[.int .i64 t253, .int .i64 t254, .int .i64 t255, .int .i64 t256, .int .i64 t257, .int .i64 t258, .bool t259, .bool t260, .slice Ao7 t261.length co7] 61 (0, 0)) (by (with_reducible repeat (first | apply blk_drewN | apply blk_drew | apply blk_alloc)); exact BK265.out) hb); have n3_ := Aside0.mk (below_step (by repeat (first | (with_reducible first | exact HB.out | apply below_alloc | apply pw_below_drewN | apply below_drew1 | refine below_set ?_ GE265.out) | exact HB.out)) hb);clear HO_266008;clear HO268;clear BK265;clear HB;have HO_266008 := n0_;have HO268 := n1_;have BK265 := n2_;have HB := n3_;clear n0_ n1_ n2_ n3_;(try clear hb);(try clear hb2);(try clear hk);(try clear hi);refine hK.out _ _ trivial (fun hHeld => ?_);clear hK K;refine norm_ (a' := ?_) ?_ ?_;rotate_left; (focus (show Act.put _ (some 34) _ = _; simp only [zs]; rfl));refine one_ (i := 9) (N := some 35) (bitsA 11 1023) rfl rfl (one_of HT_.out (by kernel_rfl)) (by decide) (fun K hK => ?_);refine goes_ Try.func64 (by kernel_rfl) rfl #[.int .i64 t274, .int .i64 2] (by rfl) rfl rfl (by (try simp only [zm]); first | done | rfl | (simp only [zl]; rfl)) ?_
     with_reducible refine (impl_bytesOf.calls kj2 t274 2 t275 _ A18.out).mono ?_
     rintro e w26 ⟨v276, rfl, ho0, hb⟩
     refine ⟨_, rfl, ?_⟩;have n0_ := Aside0.mk (Kd.R_elder' (by (with_reducible repeat (first | apply Kd.R_alloc | apply Kd.R_drewN | apply Kd.R_drew)); exact HO_266008.out) (Kd.R_base ho0) hb); have n1_ := Aside0.mk (Kd.R_elder' (by (with_reducible repeat (first | apply Kd.R_alloc | apply Kd.R_drewN | apply Kd.R_drew)); exact HO268.out) (Kd.R_base ho0) hb); have n2_ := Aside0.mk (Kd.R_lower (Kd.R_new' (Kd.R_new' ho0 (Kd.R_lt (by (with_reducible repeat (first | apply Kd.R_alloc | apply Kd.R_drewN | apply Kd.R_drew)); exact HO_266008.out))) (Kd.R_lt (by (with_reducible repeat (first | apply Kd.R_alloc | apply Kd.R_drewN | apply Kd.R_drew)); exact HO268.out))) (below_size (by repeat (first | (with_reducible first | exact HB.out | apply below_alloc | apply pw_below_drewN | apply below_drew1 | refine below_set ?_ GE265.out) | exact HB.out)))); have n3_ := Aside0.mk (blk_below (g := gb265) (o := .cells #[.int .i64 t253, .int .i64 t254, .int .i64 t255, .int .i64 t256, .int .i64 t257, .int .i64 t258, .bool t259, .bool t260, .slice Ao7 t261.length co7] 61 (0, 0)) (by (with_reducible repeat (first | apply blk_drewN | apply blk_drew | apply blk_alloc)); exact BK265.out) hb); have n4_ := Aside0.mk (below_step (by repeat (first | (with_reducible first | exact HB.out | apply below_alloc | apply pw_below_drewN | apply below_drew1 | refine below_set ?_ GE265.out) | exact HB.out)) hb);clear HO_266008;clear HO268;clear BK265;clear HB;have HO_266008 := n0_;have HO268 := n1_;have HO277 := n2_;have BK265 := n3_;have HB := n4_;clear n0_ n1_ n2_ n3_ n4_;(try clear hb);(try clear hb2);(try clear hk);(try clear hi);(try clear ho0);obtain ⟨Ao27, co27, eo27⟩ := Kd.R_slice HO277.out
     (first | subst eo27 | (injection eo27 with f1_ f2_ f3_; have f4_ := f1_.symm; have f5_ := f3_.symm; clear f1_ f2_ f3_; subst f4_; subst f5_))
     refine hK.out _ _ trivial (fun hHeld => ?_);clear hK K;refine norm_ (a' := ?_) ?_ ?_;rotate_left; (focus (show Act.put _ (some 35) _ = _; simp only [zs]; rfl));refine one_ (i := 10) (N := some 36) (bitsA 11 2047) rfl rfl (one_of HT_.out (by kernel_rfl)) (by decide) (fun K hK => ?_);refine slices_Clip_byte_byte.step (.tmp 27) (.tmp 35) (fun k_ => some k_ = (.slice (some ⟨go13, 0, none⟩) t266.length co21 : Value).ownBlock) go13 t266.length (t266.length - 10) co21 (co21 - 10) y270 Ao27 co27 t275 t278 t279 w _ rfl rfl ?hd ?hs ?hm ?side1 ?side2 ?side3 A19.out ?_
     (case hd => first | rfl | (go_simp; rfl))
     (case hs => first | rfl | (go_simp; rfl))
     (case hm => have h_ := (slices_Clip_byte_byte.long A19.out).1; have e_ := (Kd.R_reads' HO268.out).1; omega)
     (case side1 => repeat (first | (with_reducible first | exact HB.out | apply below_alloc | apply pw_below_drewN | apply below_drew1 | refine below_set ?_ GE265.out) | exact HB.out))
     (case side2 => exact Kd.R_tight rfl HO268.out)
     (case side3 => exact (Kd.R_reads' HO277.out).2.2)
     intro w28 hy0 hb hkp;have n0_ := Aside0.mk (Kd.R_mono (ok' := fun k_ => some k_ ≠ (.slice (some ⟨go13, 0, none⟩) t266.length co21 : Value).ownBlock ∧ some k_ ≠ (.slice Ao27 t275.length co27 : Value).ownBlock) (Kd.R_keptB (HO_266008.out) hkp (fun k_ hk_ hs_ => (hk_.1.2) hs_)) (fun k_ hk_ => ⟨hk_.1.1.2, hk_.1.2⟩)); have n1_ := Aside0.mk (blk_kept (by (with_reducible repeat (first | apply blk_drewN | apply blk_drew | apply blk_alloc)); exact BK265.out) hkp (fun hs_ => (fun e_ => (Kd.R_ne HO268.out BK265.out (by decide)) e_) hs_)); have n2_ := Aside0.mk (Kd.R_reok rfl hy0 (fun k_ e_ => HO268.out.1 k_ e_)); have n3_ := Aside0.mk (Kd.R_mono (ok' := fun k_ => some k_ ≠ (.slice Ao7 t261.length co7 : Value).ownBlock ∧ some k_ ≠ (.slice (some ⟨go13, 0, none⟩) t266.length co21 : Value).ownBlock) (Kd.R_keptB (HO277.out) hkp (fun k_ hk_ hs_ => (hk_.2) hs_)) (fun k_ hk_ => ⟨hk_.1.1.2, hk_.1.2⟩)); have n4_ := Aside0.mk (hb);clear HO_266008;clear BK265;clear HO268;clear HO277;clear HB;have HO_266008 := n0_;have BK265 := n1_;have HO268 := n2_;have HO277 := n3_;have HB := n4_;clear n0_ n1_ n2_ n3_ n4_;(try clear hb);(try clear hkp);(try clear hy0);refine hK.out _ _ trivial (fun hHeld => ?_);clear hK K;refine norm_ (a' := ?_) ?_ ?_;rotate_left; (focus (show Act.put _ (some 36) _ = _; simp only [zs]; rfl));refine done_ (done_of HT_.out (by kernel_rfl)) ?_
     try go_wp2
     go_ret2
     exact ⟨_, by first | rfl | (simp <;> rfl) | (simp [*] <;> rfl), by (with_reducible repeat (first | apply Kd.R_alloc | apply Kd.R_drewN | apply Kd.R_drew)); exact Kd.R_mono HO268.out (fun _ hk => trivial), by repeat (first | (with_reducible first | exact HB.out | apply below_alloc | apply pw_below_drewN | apply below_drew1 | refine below_set ?_ GE265.out) | exact HB.out)⟩
    ·rw [if_neg c12] at H
     exact absurd H (by simp)

/-! ### laws_sameBytes: function 26 -/
def laws_sameBytes.f (l0 : List Int) (l1 : List Int) : Option (Bool) := some ((strOfNums l0).toList == (strOfNums l1).toList)
set_option maxHeartbeats 8000000 in
set_option maxRecDepth 100000 in
theorem laws_sameBytes.calls (A0 : Option Addr) (c0 : Nat) (l0 : List Int) (A1 : Option Addr) (c1 : Nat) (l1 : List Int) (r : Bool) (w : World) (hr0 : Kd.C (Kd.int .u8) w A0 l0.length l0) (hc0 : l0.length ≤ c0) (hr1 : Kd.C (Kd.int .u8) w A1 l1.length l1) (hc1 : l1.length ≤ c1) (h : laws_sameBytes.f l0 l1 = some r) :
  Calls Try.prog 26 #[.slice A0 l0.length c0, .slice A1 l1.length c1] w fun e w' => e = .returned (.bool r) ∧ Drawn0 w w' := by
 have HR0 := Aside0.mk hr0;have HC0 := Aside0.mk hc0;clear hr0 hc0;have HR1 := Aside0.mk hr1;have HC1 := Aside0.mk hc1;clear hr1 hc1;have H : (some ((strOfNums l0).toList == (strOfNums l1).toList)) = some r := h;clear h;obtain rfl := Option.some.inj H;have hcv3 := Kd.C_string (P := Try.prog) (A := A0) (c := c0) Try.underlying22 Try.underlying5 Try.underlying9 HR0.out;have hcv4 := Kd.C_string (P := Try.prog) (A := A1) (c := c1) Try.underlying22 Try.underlying5 Try.underlying9 HR1.out
 go_enter Try.func26, Try.ntmps26
 go_wp2
 go_ret;exact ⟨by first | rfl | (simp; done) | (simp [*]; done), by repeat (first | exact Drawn0.refl _ | apply Drawn0.step)⟩

/-! ### impl_BytesOf: function 72 -/
def impl_BytesOf.f (k : Nat) (a0 : Int) (a1 : Int) : Option (List Int) := (impl_in.f a1 1 4).bind fun t280 => (if t280 = true then (if 0 ≤ (wrap64 (8 * a1)) then ((impl_in.f a0 0 (wrap64 ((shl .i64 1 (wrap64 (8 * a1))) - 1))).bind fun t281 => (if t281 = true then ((impl_bytesOf.f k a0 a1).bind fun t282 => (some t282)) else (some ([] : List Int)))) else (none)) else (some ([] : List Int)))
theorem impl_BytesOf.mono : ∀ a0 a1 k, LeO (impl_BytesOf.f k a0 a1) (impl_BytesOf.f (k + 1) a0 a1) := by
 intro a0 a1 k
 unfold impl_BytesOf.f
 repeat' first
   | (with_reducible exact impl_bytesOf.mono _ _ _)
   | (with_reducible exact LeO.refl _)
   | (with_reducible exact LeO.none _)
   | (with_reducible refine LeO.ite ?_ ?_)
   | (with_reducible refine LeO.bind ?_ (fun _ => ?_))
   | exact impl_bytesOf.mono _ _ _
   | exact LeO.none _
   | refine LeO.ite ?_ ?_
   | refine LeO.bind ?_ (fun _ => ?_)
set_option maxHeartbeats 8000000 in
set_option maxRecDepth 100000 in
theorem impl_BytesOf.calls (k : Nat) (a0 : Int) (a1 : Int) (r : List Int) (w : World) (h : impl_BytesOf.f k a0 a1 = some r) :
  Calls Try.prog 72 #[.int .i64 a0, .int .i64 a1] w fun e w' => ∃ v0_ : Value, e = .returned (v0_) ∧ Kd.R (Kd.int .u8) 5 w' w.heap.size (fun _ => True) v0_ r ∧ Below w.heap.size w w' := by
 have HB := Aside0.mk (Below.refl w.heap.size w);have H : ((impl_in.f a1 1 4).bind fun t280 => (if t280 = true then (if 0 ≤ (wrap64 (8 * a1)) then ((impl_in.f a0 0 (wrap64 ((shl .i64 1 (wrap64 (8 * a1))) - 1))).bind fun t281 => (if t281 = true then ((impl_bytesOf.f k a0 a1).bind fun t282 => (some t282)) else (some ([] : List Int)))) else (none)) else (some ([] : List Int)))) = some r := h;clear h;replace H := ze H;obtain ⟨t280, A30, H⟩ := H;replace H : (if t280 = true then (if 0 ≤ (wrap64 (8 * a1)) then ((impl_in.f a0 0 (wrap64 ((shl .i64 1 (wrap64 (8 * a1))) - 1))).bind fun t281 => (if t281 = true then ((impl_bytesOf.f k a0 a1).bind fun t282 => (some t282)) else (some ([] : List Int)))) else (none)) else (some ([] : List Int))) = some r := H;have A3 := Aside0.mk A30;clear A30
 by_cases c4 : t280 = true
 ·subst c4
  have H1 : (if 0 ≤ (wrap64 (8 * a1)) then ((impl_in.f a0 0 (wrap64 ((shl .i64 1 (wrap64 (8 * a1))) - 1))).bind fun t281 => (if t281 = true then ((impl_bytesOf.f k a0 a1).bind fun t282 => (some t282)) else (some ([] : List Int)))) else (none)) = some r := by rw [if_pos rfl] at H; exact H
  clear H;have H := H1;clear H1;obtain ⟨ji5, hji5⟩ : ∃ j_ : Int, (wrap64 (8 * a1)) = j_ := ⟨_, rfl⟩
  replace H : (if 0 ≤ (ji5) then ((impl_in.f a0 0 (wrap64 ((shl .i64 1 (ji5)) - 1))).bind fun t281 => (if t281 = true then ((impl_bytesOf.f k a0 a1).bind fun t282 => (some t282)) else (some ([] : List Int)))) else (none)) = some r := by first | (rw [hji5] at H; exact H) | (simp only [hji5] at H ⊢; exact H)
  (try rw [hji5] at A3);have hji5w : (IntKind.i64.wrap (8 * a1)) = ji5 := (i64_w _).trans hji5
  by_cases c6 : 0 ≤ (ji5)
  ·rw [if_pos c6] at H
   have c6b0 := eq_true c6;have c6b1 : decide (0 ≤ (ji5)) = true := decide_eq_true c6;clear c6;obtain ⟨ji7, hji7⟩ : ∃ j_ : Int, (shl .i64 1 (ji5)) = j_ := ⟨_, rfl⟩
   replace H : ((impl_in.f a0 0 (wrap64 ((ji7) - 1))).bind fun t281 => (if t281 = true then ((impl_bytesOf.f k a0 a1).bind fun t282 => (some t282)) else (some ([] : List Int)))) = some r := by first | (rw [hji7] at H; exact H) | (simp only [hji7] at H ⊢; exact H)
   (try rw [hji7] at A3);have hji7_ : (IntKind.i64.wrap (1 * 2 ^ min (ji5).toNat 64)) = ji7 := hji7;have hji7z : (ji5) ≤ 64 → (IntKind.i64.wrap (1 * 2 ^ (ji5).toNat)) = ji7 := shl_small hji7
   have hji7u : (IntKind.i64.wrap (2 ^ min (ji5).toNat 64)) = ji7 := by have h_ := hji7_; rw [Int.one_mul] at h_; exact h_
   have hji7v : (ji5) ≤ 64 → (IntKind.i64.wrap (2 ^ (ji5).toNat)) = ji7 := fun hle_ => by have h_ := hji7z hle_; rw [Int.one_mul] at h_; exact h_
   have hji7y : (wrap64 (1 * 2 ^ min (ji5).toNat 64)) = ji7 := (i64_w _).symm.trans hji7_;have hji7x : (ji5) ≤ 64 → (wrap64 (1 * 2 ^ (ji5).toNat)) = ji7 := fun h_ => (i64_w _).symm.trans (hji7z h_);replace H := ze H;obtain ⟨t281, A80, H⟩ := H;replace H : (if t281 = true then ((impl_bytesOf.f k a0 a1).bind fun t282 => (some t282)) else (some ([] : List Int))) = some r := H;have A8 := Aside0.mk A80;clear A80
   by_cases c9 : t281 = true
   ·subst c9
    have H1 : ((impl_bytesOf.f k a0 a1).bind fun t282 => (some t282)) = some r := by rw [if_pos rfl] at H; exact H
    clear H;have H := H1;clear H1;replace H := ze H;obtain ⟨t282, A100, H⟩ := H;replace H : (some t282) = some r := H;have A10 := Aside0.mk A100;clear A100;obtain rfl := Option.some.inj H
    go_enter Try.func72, Try.ntmps72
    go_wp2_with (first | ((with_reducible refine gate_callee (f := 71) rfl ?_); refine goesL_ (some 6) rfl rfl Try.func71 (by kernel_rfl) rfl #[.int .i64 a1, .int .i64 1, .int .i64 4] rfl (by (try simp only [zm]); first | done | rfl | (simp only [zl]; rfl)) ?_; (with_reducible refine (impl_in.calls a1 1 4 true _ A3.out).mono ?_); rintro e w' ⟨rfl, ⟨nd, rfl⟩⟩; refine ⟨_, rfl, ?_⟩) | (go_at_call 71; (with_reducible refine (impl_in.calls a0 0 (wrap64 ((ji7) - 1)) true _ A8.out).mono ?_); rintro e w' ⟨rfl, ⟨nd, rfl⟩⟩) | ((with_reducible refine gate_callee (f := 64) rfl ?_); refine goesL_ (some 19) rfl rfl Try.func64 (by kernel_rfl) rfl #[.int .i64 a0, .int .i64 a1] rfl (by (try simp only [zm]); first | done | rfl | (simp only [zl]; rfl)) ?_; (with_reducible refine (impl_bytesOf.calls k a0 a1 t282 _ A10.out).mono ?_); rintro e w11 ⟨v283, rfl, ho0, hb⟩; refine ⟨_, rfl, ?_⟩; have n0_ := Aside0.mk (Kd.R_lower ho0 (below_size (by repeat (first | (with_reducible first | exact HB.out | apply below_alloc | apply pw_below_drewN | apply below_drew1) | exact HB.out)))); have n1_ := Aside0.mk (below_step (by repeat (first | (with_reducible first | exact HB.out | apply below_alloc | apply pw_below_drewN | apply below_drew1) | exact HB.out)) hb); clear HB; have HO284 := n0_; have HB := n1_; clear n0_ n1_; (try clear hb); (try clear hb2); (try clear hk); (try clear hi); (try clear ho0)))
    go_ret;exact ⟨_, by first | rfl | (simp <;> rfl) | (simp only [← hji5, ← hji7]; first | rfl | (simp <;> rfl)) | (simp [*] <;> rfl), by (with_reducible repeat (first | apply Kd.R_alloc | apply Kd.R_drewN | apply Kd.R_drew)); exact HO284.out, by repeat (first | (with_reducible first | exact HB.out | apply below_alloc | apply pw_below_drewN | apply below_drew1) | exact HB.out)⟩
   ·replace c9 := Bool.eq_false_iff.mpr c9
    subst c9
    have H1 : (some ([] : List Int)) = some r := by rw [if_neg (show ¬ (false = true) by decide)] at H; exact H
    clear H;have H := H1;clear H1;obtain rfl := Option.some.inj H
    go_enter Try.func72, Try.ntmps72
    go_wp2_with (first | ((with_reducible refine gate_callee (f := 71) rfl ?_); refine goesL_ (some 6) rfl rfl Try.func71 (by kernel_rfl) rfl #[.int .i64 a1, .int .i64 1, .int .i64 4] rfl (by (try simp only [zm]); first | done | rfl | (simp only [zl]; rfl)) ?_; (with_reducible refine (impl_in.calls a1 1 4 true _ A3.out).mono ?_); rintro e w' ⟨rfl, ⟨nd, rfl⟩⟩; refine ⟨_, rfl, ?_⟩) | (go_at_call 71; (with_reducible refine (impl_in.calls a0 0 (wrap64 ((ji7) - 1)) false _ A8.out).mono ?_); rintro e w' ⟨rfl, ⟨nd, rfl⟩⟩))
    go_ret;exact ⟨_, by first | rfl | (simp <;> rfl) | (simp only [← hji5, ← hji7]; first | rfl | (simp <;> rfl)) | (simp [*] <;> rfl), by first | exact Kd.R_nil _ _ _ _ _ | exact Kd.N_nil _ _ _ _ _ | exact Kd.V_nil _ _ _ _ _ | exact Kd.Q_nil _ _ _ _ _ | exact Kd.S_nil _ _ _ _ _, by repeat (first | (with_reducible first | exact HB.out | apply below_alloc | apply pw_below_drewN | apply below_drew1) | exact HB.out)⟩
  ·rw [if_neg c6] at H
   exact absurd H (by simp)
 ·replace c4 := Bool.eq_false_iff.mpr c4
  subst c4
  have H1 : (some ([] : List Int)) = some r := by rw [if_neg (show ¬ (false = true) by decide)] at H; exact H
  clear H;have H := H1;clear H1;obtain rfl := Option.some.inj H
  go_enter Try.func72, Try.ntmps72
  go_wp2_with (first | ((with_reducible refine gate_callee (f := 71) rfl ?_); refine goesL_ (some 6) rfl rfl Try.func71 (by kernel_rfl) rfl #[.int .i64 a1, .int .i64 1, .int .i64 4] rfl (by (try simp only [zm]); first | done | rfl | (simp only [zl]; rfl)) ?_; (with_reducible refine (impl_in.calls a1 1 4 false _ A3.out).mono ?_); rintro e w' ⟨rfl, ⟨nd, rfl⟩⟩; refine ⟨_, rfl, ?_⟩))
  go_ret;exact ⟨_, by first | rfl | (simp <;> rfl) | (simp [*] <;> rfl), by first | exact Kd.R_nil _ _ _ _ _ | exact Kd.N_nil _ _ _ _ _ | exact Kd.V_nil _ _ _ _ _ | exact Kd.Q_nil _ _ _ _ _ | exact Kd.S_nil _ _ _ _ _, by repeat (first | (with_reducible first | exact HB.out | apply below_alloc | apply pw_below_drewN | apply below_drew1) | exact HB.out)⟩

/-! ### laws_alive: function 29 -/
def laws_alive.f (k : Nat)  : Option (Bool) := (impl_BytesOf.f k 5 1).bind fun t285 => (if (t285.length : Int) = 1 then ((impl_BytesOf.f k 256 1).bind fun t288 => (some ((t288.length : Int) == 0))) else (some false))
theorem laws_alive.mono : ∀ k, LeO (laws_alive.f k ) (laws_alive.f (k + 1) ) := by
 intro  k
 unfold laws_alive.f
 repeat' first
   | (with_reducible exact impl_BytesOf.mono _ _ _)
   | (with_reducible exact LeO.refl _)
   | (with_reducible exact LeO.none _)
   | (with_reducible refine LeO.ite ?_ ?_)
   | (with_reducible refine LeO.bind ?_ (fun _ => ?_))
   | exact impl_BytesOf.mono _ _ _
   | exact LeO.none _
   | refine LeO.ite ?_ ?_
   | refine LeO.bind ?_ (fun _ => ?_)
set_option maxHeartbeats 8000000 in
set_option maxRecDepth 100000 in
theorem laws_alive.calls (k : Nat)  (r : Bool) (w : World) (h : laws_alive.f k  = some r) :
  Calls Try.prog 29 #[] w fun e w' => e = .returned (.bool r) ∧ Below w.heap.size w w' := by
 have HB := Aside0.mk (Below.refl w.heap.size w);have H : ((impl_BytesOf.f k 5 1).bind fun t285 => (if (t285.length : Int) = 1 then ((impl_BytesOf.f k 256 1).bind fun t288 => (some ((t288.length : Int) == 0))) else (some false))) = some r := h;clear h;replace H := ze H;obtain ⟨t285, A10, H⟩ := H;replace H : (if (t285.length : Int) = 1 then ((impl_BytesOf.f k 256 1).bind fun t288 => (some ((t288.length : Int) == 0))) else (some false)) = some r := H;have A1 := Aside0.mk A10;clear A10
 by_cases c2 : (t285.length : Int) = 1
 ·rw [if_pos c2] at H
  have c2b0 : ((t285.length : Int) == 1) = true := beq_iff_eq.mpr c2;have c2b1 : ((t285.length : Int) != 1) = false := bne_eq_false_iff_eq.mpr c2;clear c2;replace H := ze H;obtain ⟨t288, A30, H⟩ := H;replace H : (some ((t288.length : Int) == 0)) = some r := H;have A3 := Aside0.mk A30;clear A30;obtain rfl := Option.some.inj H
  go_enter Try.func29, Try.ntmps29
  go_wp2_with (first | ((with_reducible refine gate_callee (f := 72) rfl ?_); refine goesL_ (some 1) rfl rfl Try.func72 (by kernel_rfl) rfl #[.int .i64 5, .int .i64 1] rfl (by (try simp only [zm]); first | done | rfl | (simp only [zl]; rfl)) ?_; (with_reducible refine (impl_BytesOf.calls k 5 1 t285 _ A1.out).mono ?_); rintro e w4 ⟨v286, rfl, ho0, hb⟩; refine ⟨_, rfl, ?_⟩; have n0_ := Aside0.mk (Kd.R_lower ho0 (below_size (by repeat (first | (with_reducible first | exact HB.out | apply below_alloc | apply pw_below_drewN | apply below_drew1) | exact HB.out)))); have n1_ := Aside0.mk (below_step (by repeat (first | (with_reducible first | exact HB.out | apply below_alloc | apply pw_below_drewN | apply below_drew1) | exact HB.out)) hb); clear HB; have HO287 := n0_; have HB := n1_; clear n0_ n1_; (try clear hb); (try clear hb2); (try clear hk); (try clear hi); (try clear ho0); obtain ⟨Ao5, co5, eo5⟩ := Kd.R_slice HO287.out; subst eo5) | (go_at_call 72; (with_reducible refine (impl_BytesOf.calls k 256 1 t288 _ A3.out).mono ?_); rintro e w6 ⟨v289, rfl, ho0, hb⟩; have n0_ := Aside0.mk (Kd.R_elder' (by (with_reducible repeat (first | apply Kd.R_alloc | apply Kd.R_drewN | apply Kd.R_drew)); exact HO287.out) (Kd.R_base ho0) hb); have n1_ := Aside0.mk (Kd.R_lower (Kd.R_new' ho0 (Kd.R_lt (by (with_reducible repeat (first | apply Kd.R_alloc | apply Kd.R_drewN | apply Kd.R_drew)); exact HO287.out))) (below_size (by repeat (first | (with_reducible first | exact HB.out | apply below_alloc | apply pw_below_drewN | apply below_drew1) | exact HB.out)))); have n2_ := Aside0.mk (below_step (by repeat (first | (with_reducible first | exact HB.out | apply below_alloc | apply pw_below_drewN | apply below_drew1) | exact HB.out)) hb); clear HO287; clear HB; have HO287 := n0_; have HO290 := n1_; have HB := n2_; clear n0_ n1_ n2_; (try clear hb); (try clear hb2); (try clear hk); (try clear hi); (try clear ho0); obtain ⟨Ao7, co7, eo7⟩ := Kd.R_slice HO290.out; subst eo7))
  go_ret;exact ⟨by first | rfl | (simp <;> rfl) | (simp [*] <;> rfl), by repeat (first | (with_reducible first | exact HB.out | apply below_alloc | apply pw_below_drewN | apply below_drew1) | exact HB.out)⟩
 ·rw [if_neg c2] at H
  have c2b0 : ((t285.length : Int) == 1) = false := beq_eq_false_iff_ne.mpr c2;have c2b1 : ((t285.length : Int) != 1) = true := bne_iff_ne.mpr c2;obtain rfl := Option.some.inj H
  go_enter Try.func29, Try.ntmps29
  go_wp2_with (first | ((with_reducible refine gate_callee (f := 72) rfl ?_); refine goesL_ (some 1) rfl rfl Try.func72 (by kernel_rfl) rfl #[.int .i64 5, .int .i64 1] rfl (by (try simp only [zm]); first | done | rfl | (simp only [zl]; rfl)) ?_; (with_reducible refine (impl_BytesOf.calls k 5 1 t285 _ A1.out).mono ?_); rintro e w8 ⟨v286, rfl, ho0, hb⟩; refine ⟨_, rfl, ?_⟩; have n0_ := Aside0.mk (Kd.R_lower ho0 (below_size (by repeat (first | (with_reducible first | exact HB.out | apply below_alloc | apply pw_below_drewN | apply below_drew1) | exact HB.out)))); have n1_ := Aside0.mk (below_step (by repeat (first | (with_reducible first | exact HB.out | apply below_alloc | apply pw_below_drewN | apply below_drew1) | exact HB.out)) hb); clear HB; have HO287 := n0_; have HB := n1_; clear n0_ n1_; (try clear hb); (try clear hb2); (try clear hk); (try clear hi); (try clear ho0); obtain ⟨Ao9, co9, eo9⟩ := Kd.R_slice HO287.out; subst eo9))
  go_ret;exact ⟨by first | rfl | (simp <;> rfl) | (simp [*] <;> rfl), by repeat (first | (with_reducible first | exact HB.out | apply below_alloc | apply pw_below_drewN | apply below_drew1) | exact HB.out)⟩

end Go.Proofs.Ytbjfnpjkldfeiaa.PFnPacketPassed

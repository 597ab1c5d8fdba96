/- The machine side of some functions: each comes to its pure answer (written by a program of this session with the kit's print). No condition. -/
import Derived.Test.YtdplboenlcppkaaPFnExactNearOkx0
import Derived.Test.YtdplboenlcppkaaPFnExactNearOkx2
namespace Go.Proofs.Ytdplboenlcppkaa.PFnExactNearOk
open Go.RowKit Go.Proofs.YtdplboenlcppkaaUFnExactNearOk.PrintWords Go.Proofs.YtdplboenlcppkaaUFnExactNearOk.PrintLast Go.Proofs.YtdplboenlcppkaaUFnExactNearOk.PrintMore
attribute [local go_sem] max2_int min2_int max_two min_two max_three min_three max_four min_four   -- for this text's walks alone
set_option linter.unusedVariables false
set_option linter.unusedSimpArgs false

/-! ### laws_toNearEntryS: function 68 -/
def laws_toNearEntryS.l0 : Nat → List (S135) → List (S99) → Int → Option ((List (S99)))
 | 0, _, _, _ => none
 | k + 1, x0, x3, x4 => if x4 < (x0.length : Int) then (if 0 ≤ x4 then ((laws_toNearEntry.f ((rd_T135 x0 x4).f0) ((rd_T135 x0 x4).f1) ((rd_T135 x0 x4).f2)).bind fun bt125 => (if x4 < (x3.length : Int) then (laws_toNearEntryS.l0 k x0 (x3.set (x4 : Int).toNat (⟨bt125.1, bt125.2.1, bt125.2.2⟩ : S99)) (wrap64 (x4 + 1))) else (none))) else (none)) else (some x3)
def laws_toNearEntryS.f (k : Nat) (l0 : List (S135)) : Option ((List (S99))) := if 0 ≤ (l0.length : Int) then (if ((l0.length : Int) : Int).toNat ≤ 11728124029610 then (laws_toNearEntryS.l0 k l0 (List.replicate ((l0.length : Int) : Int).toNat z99) 0) else (none)) else (none)
theorem laws_toNearEntryS.mono_l : ∀ k, (∀ y0 y1 y2, LeO (laws_toNearEntryS.l0 k y0 y1 y2) (laws_toNearEntryS.l0 (k + 1) y0 y1 y2))
 | 0 => fun _ _ _ r h => by simp [laws_toNearEntryS.l0] at h
 | k + 1 => by
  have ih0 := laws_toNearEntryS.mono_l k
  ·intro y0 y1 y2
   unfold laws_toNearEntryS.l0
   repeat' first
   | (with_reducible exact ih0 _ _ _)
   | (with_reducible exact LeO.refl _)
   | (with_reducible exact LeO.none _)
   | (with_reducible refine LeO.ite ?_ ?_)
   | (with_reducible refine LeO.bind ?_ (fun _ => ?_))
   | exact ih0 _ _ _
   | exact LeO.none _
   | refine LeO.ite ?_ ?_
   | refine LeO.bind ?_ (fun _ => ?_)
theorem laws_toNearEntryS.mono : ∀ a0 k, LeO (laws_toNearEntryS.f k a0) (laws_toNearEntryS.f (k + 1) a0) := by
 intro a0 k;have ih0 := laws_toNearEntryS.mono_l k
 unfold laws_toNearEntryS.f
 repeat' first
   | (with_reducible exact ih0 _ _ _)
   | (with_reducible exact LeO.refl _)
   | (with_reducible exact LeO.none _)
   | (with_reducible refine LeO.ite ?_ ?_)
   | (with_reducible refine LeO.bind ?_ (fun _ => ?_))
   | exact ih0 _ _ _
   | exact LeO.none _
   | refine LeO.ite ?_ ?_
   | refine LeO.bind ?_ (fun _ => ?_)
set_option maxHeartbeats 8000000 in
set_option maxRecDepth 100000 in
theorem laws_toNearEntryS.calls (k : Nat) (A0 : Option Addr) (c0 : Nat) (l0 : List (S135)) (r : List (S99)) (w : World) (hr0 : Kd.C k135 w A0 l0.length l0) (hc0 : l0.length ≤ c0) (h : laws_toNearEntryS.f k l0 = some r) :
  Calls Try.prog 68 #[.slice A0 l0.length c0] w fun e w' => ∃ v0_ : Value, e = .returned (v0_) ∧ Kd.R k99 99 w' w.heap.size (fun _ => True) v0_ r ∧ Below w.heap.size w w' := by
 have hu135 := Try.underlying135;have hu99 := Try.underlying99;have HR0 := Aside0.mk hr0;have HC0 := Aside0.mk hc0;clear hr0 hc0;have HB := Aside0.mk (Below.refl w.heap.size w);have H : (if 0 ≤ (l0.length : Int) then (if ((l0.length : Int) : Int).toNat ≤ 11728124029610 then (laws_toNearEntryS.l0 k l0 (List.replicate ((l0.length : Int) : Int).toNat z99) 0) else (none)) else (none)) = some r := h;clear h
 by_cases c2 : 0 ≤ (l0.length : Int)
 ·rw [if_pos c2] at H
  have c2b0 := eq_true c2;have c2b1 : decide (0 ≤ (l0.length : Int)) = true := decide_eq_true c2;clear c2
  by_cases c3 : ((l0.length : Int) : Int).toNat ≤ 11728124029610
  ·rw [if_pos c3] at H
   have c3b0 := eq_true c3;have c3b1 : decide (((l0.length : Int) : Int).toNat ≤ 11728124029610) = true := decide_eq_true c3;clear c3;obtain ⟨y121, hy121⟩ : ∃ y_ : List (S99), y_ = (List.replicate ((l0.length : Int) : Int).toNat z99) := ⟨_, rfl⟩
   replace H : (laws_toNearEntryS.l0 k l0 y121 0) = some r := by first | (rw [hy121]; with_reducible exact H) | (have H2_ := (Option.bind_some _ _).symm.trans H; rw [hy121]; with_reducible exact H2_) | (have H2_ := (Option.bind_some _ _).symm.trans H; with_reducible exact H2_) | with_reducible exact H | (rw [hy121]; exact H) | exact H
   have Ny121 := Aside0.mk hy121;clear hy121;have H' := Aside0.mk H;clear H
   go_enter Try.func68, Try.ntmps68
   go_wp2_with (first | ((with_reducible refine gate_dst (N := 7) rfl ?_); refine Kd.R_make k99 _ 99 rfl (N := 7) rfl 39 _ _ rfl (l0.length : Int) rfl rfl Try.underlying39 (.agg #[(.int .i64 0), (.int .i64 0), (.int .i64 0)]) 24 info99 rfl (by decide) (by omega) z99 (ok := fun _ => True) (okp := fun _ => True) (k99_mkM _ _ _ z99 ) (fun _ hk => hk) trivial (of_decide_eq_true (by first | (with_reducible assumption) | assumption)) (Nat.le_trans (Nat.mul_le_mul_right _ (of_decide_eq_true (by first | (with_reducible assumption) | assumption) : (l0.length : Int).toNat ≤ 11728124029610)) (by omega)) (Below.refl _ _) (Nat.le_refl _) ?_; intro v122 w4 ho5 hb hg_ hnew_; clear hg_ hnew_; (first | rw [← Ny121.out] at ho5 | (simp only [Int.reduceToNat] at ho5; rw [← Ny121.out] at ho5)); have n0_ := Aside0.mk (Kd.R_lower ho5 (below_size (by repeat (first | (with_reducible first | exact HB.out | apply below_alloc | apply pw_below_drewN | apply below_drew1) | exact HB.out)))); have n1_ := Aside0.mk (below_step (by repeat (first | (with_reducible first | exact HB.out | apply below_alloc | apply pw_below_drewN | apply below_drew1) | exact HB.out)) hb); clear HB; have HO123 := n0_; have HB := n1_; clear n0_ n1_; clear hb ho5))
   go_loopg [4] k (fun kq v4 w' => ∃ (x3_1 : List (S99)) (x4_1 : Int), v4 = .int .i64 x4_1 ∧ Aside0 (laws_toNearEntryS.l0 kq l0 x3_1 x4_1 = some r) ∧ Aside0 (kq ≤ k) ∧ Aside0 (Kd.R k99 99 w' w.heap.size (fun _ => True) v122 x3_1) ∧ Aside0 (Below w.heap.size w w'))
   case atStart => exact ⟨(y121), (0), (by first | rfl | (simp; done) | (simp [*]; done)), H', ⟨Nat.le_refl _⟩, ⟨by (with_reducible repeat (first | apply Kd.R_alloc | apply Kd.R_drewN | apply Kd.R_drew)); exact HO123.out⟩, ⟨by repeat (first | (with_reducible first | exact HB.out | apply below_alloc | apply pw_below_drewN | apply below_drew1) | exact HB.out)⟩⟩
   case round =>
    clear H'
    try clear c2
    try clear c2b0
    try clear c2b1
    try clear p2
    try clear c3
    try clear c3b0
    try clear c3b1
    obtain ⟨x3_1, x4_1, rfl, HA, HK1, HO_3, HB⟩ := hrel
    cases gk with
    | zero => exact absurd HA.out (by simp [laws_toNearEntryS.l0])
    | succ k1 =>
     have H := HA.out;clear HA;simp only [laws_toNearEntryS.l0] at H
     by_cases c6 : x4_1 < (l0.length : Int)
     ·rw [if_pos c6] at H
      have c6b0 : decide (x4_1 < (l0.length : Int)) = true := decide_eq_true c6;clear c6
      by_cases c7 : 0 ≤ x4_1
      ·rw [if_pos c7] at H
       have c7b0 : decide (0 ≤ x4_1) = true := decide_eq_true c7;clear c7;replace H := ze H;obtain ⟨⟨t125, t126, t127⟩, A80, H⟩ := H;replace H : (if x4_1 < (x3_1.length : Int) then (laws_toNearEntryS.l0 k1 l0 (x3_1.set (x4_1 : Int).toNat (⟨t125, t126, t127⟩ : S99)) (wrap64 (x4_1 + 1))) else (none)) = some r := H;have A8 := Aside0.mk A80;clear A80
       by_cases c9 : x4_1 < (x3_1.length : Int)
       ·rw [if_pos c9] at H
        have c9b0 : decide (x4_1 < (x3_1.length : Int)) = true := decide_eq_true c9;clear c9;obtain ⟨y128, hy128⟩ : ∃ y_ : List (S99), y_ = (x3_1.set (x4_1 : Int).toNat (⟨t125, t126, t127⟩ : S99)) := ⟨_, rfl⟩
        replace H : (laws_toNearEntryS.l0 k1 l0 y128 (wrap64 (x4_1 + 1))) = some r := by first | (rw [hy128]; with_reducible exact H) | (have H2_ := (Option.bind_some _ _).symm.trans H; rw [hy128]; with_reducible exact H2_) | (have H2_ := (Option.bind_some _ _).symm.trans H; with_reducible exact H2_) | with_reducible exact H | (rw [hy128]; exact H) | exact H
        have Ny128 := Aside0.mk hy128;clear hy128;have H' := Aside0.mk H;clear H;have p124 : 0 ≤ (x4_1 : Int) := of_decide_eq_true (by first | (with_reducible assumption) | assumption);have q124 : x4_1 < (l0.length : Int) := of_decide_eq_true (by first | (with_reducible assumption) | assumption);obtain ⟨ad124, e124, hx124_0, hx124_1, hx124_2⟩ := at_T135 HR0.out x4_1 p124 q124
        cases e124
        replace hx124_0 := (HB.out.cell (World.block_lt_of_cell? w _ hx124_0)).trans hx124_0;replace hx124_1 := (HB.out.cell (World.block_lt_of_cell? w _ hx124_1)).trans hx124_1;replace hx124_2 := (HB.out.cell (World.block_lt_of_cell? w _ hx124_2)).trans hx124_2;replace p124 := eq_true p124;replace q124 := eq_true q124
        go_wp2_with (first | ((with_reducible refine gate_callee (f := 111) rfl ?_); refine goesL_ (some 20) rfl rfl Try.func111 (by kernel_rfl) rfl #[.agg #[.int .i64 ((rd_T135 l0 x4_1).f0), .int .i64 ((rd_T135 l0 x4_1).f1), .int .i64 ((rd_T135 l0 x4_1).f2)]] rfl (by (try simp only [zm]); first | done | rfl | (simp only [zl]; rfl)) ?_; (with_reducible refine (laws_toNearEntry.calls ((rd_T135 l0 x4_1).f0) ((rd_T135 l0 x4_1).f1) ((rd_T135 l0 x4_1).f2) t125 t126 t127 _ A8.out).mono ?_); rintro e w11 ⟨rfl, hb⟩; refine ⟨_, rfl, ?_⟩; have n0_ := Aside0.mk (Kd.R_below (by (with_reducible repeat (first | apply Kd.R_alloc | apply Kd.R_drewN | apply Kd.R_drew)); exact HO_3.out) hb); have n1_ := Aside0.mk (below_step (by repeat (first | (with_reducible first | exact HB.out | apply below_alloc | apply pw_below_drewN | apply below_drew1) | exact HB.out)) hb); clear HO_3; clear HB; have HO_3 := n0_; have HB := n1_; clear n0_ n1_; (try clear hb); (try clear hb2); (try clear hk); (try clear hi); have p10 : 0 ≤ (x4_1 : Int) := of_decide_eq_true (by first | (with_reducible assumption) | assumption); have q10 : (x4_1 : Int) < ((x3_1.length : Int) : Int) := of_decide_eq_true (by first | (with_reducible assumption) | assumption); obtain ⟨go10, co10, eo10, gb10, gl10, cl10, HG10⟩ := Kd.R_form HO_3.out (by omega); (first | cases eo10 | (injection eo10 with ea_ en_ ec_; (first | subst ea_ | (injection ea_ with ea_; subst ea_)); subst ec_; clear en_)); have GB10 := Aside0.mk gb10; have GG10 := Aside0.mk HG10; clear gb10 gl10 HG10; obtain ⟨ce10, hcl10, hM10, hcc10, hfr10⟩ := Kd.R_elem HO_3.out z99 (x4_1 : Int) p10 q10; obtain rfl := k99_openM hM10; have hx10_0 : w11.cell? ⟨go10, (x4_1 : Int).toNat * 3, none⟩ = some (.int .i64 ((rd_T99 x3_1 x4_1).f0)) := hcc10 0 _ rfl; have hx10_1 : w11.cell? ⟨go10, (x4_1 : Int).toNat * 3 + 1, none⟩ = some (.int .i64 ((rd_T99 x3_1 x4_1).f1)) := hcc10 1 _ rfl; have hx10_2 : w11.cell? ⟨go10, (x4_1 : Int).toNat * 3 + 2, none⟩ = some (.int .i64 ((rd_T99 x3_1 x4_1).f2)) := hcc10 2 _ rfl; have hf10_0 : w11.frozen? ⟨go10, (x4_1 : Int).toNat * 3, none⟩ = false := hfr10 0; have hf10_1 : w11.frozen? ⟨go10, (x4_1 : Int).toNat * 3 + 1, none⟩ = false := hfr10 1; have hf10_2 : w11.frozen? ⟨go10, (x4_1 : Int).toNat * 3 + 2, none⟩ = false := hfr10 2; clear hcl10 hcc10 hfr10 hM10; replace p10 := eq_true p10; replace q10 := eq_true q10; have HX12 := Aside0.mk (show Kd.R k99 99 w11 w.heap.size (fun _ => True) (.slice (some ⟨go10, 0, none⟩) x3_1.length co10) x3_1 from (by (with_reducible repeat (first | apply Kd.R_alloc | apply Kd.R_drewN | apply Kd.R_drew)); exact HO_3.out)); obtain ⟨ce12, hcl12, hM12, hcc12, hfr12⟩ := Kd.R_elem HX12.out z99 (x4_1 : Int) (of_decide_eq_true (by first | (with_reducible assumption) | assumption)) (by have h_ : (x4_1 : Int) < ((x3_1.length : Int) : Int) := of_decide_eq_true (by first | (with_reducible assumption) | assumption); first | exact h_ | (have e_ := (Kd.R_reads' HO_3.out).1; omega) | simpa using h_); obtain rfl := k99_openM hM12; have HP12 := Kd.R_seg HX12.out (x4_1 : Int) (of_decide_eq_true (by first | (with_reducible assumption) | assumption)) (by have h_ : (x4_1 : Int) < ((x3_1.length : Int) : Int) := of_decide_eq_true (by first | (with_reducible assumption) | assumption); first | exact h_ | (have e_ := (Kd.R_reads' HO_3.out).1; omega) | simpa using h_) (seg := [.int .i64 t125, .int .i64 t126, .int .i64 t127]) (j := 0) hcl12 hcc12 (show 3 ≤ 3 from by decide) (x' := (⟨t125, t126, t127⟩ : S99)) (k99_mkM _ _ _ (⟨t125, t126, t127⟩ : S99) ) (fun _ hk => hk); have hx12_0 := hcc12 0 _ rfl; (try simp only [show (k99).sz = 3 from rfl, Nat.mul_one, Nat.add_zero] at hx12_0); have hf12_0 := hfr12 0; (try simp only [show (k99).sz = 3 from rfl, Nat.mul_one, Nat.add_zero] at hf12_0); have hx12_1 := hcc12 1 _ rfl; (try simp only [show (k99).sz = 3 from rfl, Nat.mul_one, Nat.add_zero] at hx12_1); have hf12_1 := hfr12 1; (try simp only [show (k99).sz = 3 from rfl, Nat.mul_one, Nat.add_zero] at hf12_1); have hx12_2 := hcc12 2 _ rfl; (try simp only [show (k99).sz = 3 from rfl, Nat.mul_one, Nat.add_zero] at hx12_2); have hf12_2 := hfr12 2; (try simp only [show (k99).sz = 3 from rfl, Nat.mul_one, Nat.add_zero] at hf12_2); clear hcl12 hcc12 hfr12 hM12) | ((with_reducible refine gate_store (t := 99) (p := 21) rfl ?_); refine store_event (t := 99) (p := 21) (v := ?vo_w13) (w1 := (((w11.setCell ⟨go10, (x4_1 : Int).toNat * 3, none⟩ (.int .i64 t125)).setCell ⟨go10, (x4_1 : Int).toNat * 3 + 1, none⟩ (.int .i64 t126)).setCell ⟨go10, (x4_1 : Int).toNat * 3 + 2, none⟩ (.int .i64 t127))) ?hg ?ho ?hn ?hr ?_; (case ho => rfl); (case hg => rfl); (case hn => rfl); (case hr => first | (go_simp; done) | (go_simp; rfl)); intro w13 hw; have hg : w11.grownBy w13 (some go10) := (by rw [hw]; exact HP12.2); have hp_ : Kd.R k99 99 w13 w.heap.size (fun _ => True) (.slice (some ⟨go10, 0, none⟩) x3_1.length co10) y128 := (by rw [hw, Ny128.out]; exact HP12.1); clear HP12; have n0_ := Aside0.mk (hp_); have n1_ := Aside0.mk ((by rw [hw]; exact below_set (below_set (below_set (HB.out) GB10.out) GB10.out) GB10.out : Below w.heap.size w w13)); clear HO_3; clear HB; have HO_3 := n0_; have HB := n1_; clear n0_ n1_; clear hg hw hp_))
        go_roundg k1
        case measure => have := HK1.out; omega
        case rel => exact ⟨(y128), (wrap64 (x4_1 + 1)), (by first | rfl | (simp; done) | (simp [*]; done)), H', ⟨by have := HK1.out; omega⟩, ⟨by (with_reducible repeat (first | apply Kd.R_alloc | apply Kd.R_drewN | apply Kd.R_drew)); exact HO_3.out⟩, ⟨by repeat (first | (with_reducible first | exact HB.out | apply below_alloc | apply pw_below_drewN | apply below_drew1) | exact HB.out)⟩⟩
       ·rw [if_neg c9] at H
        exact absurd H (by simp)
      ·rw [if_neg c7] at H
       exact absurd H (by simp)
     ·rw [if_neg c6] at H
      have c6b0 : decide (x4_1 < (l0.length : Int)) = false := decide_eq_false c6;clear c6;obtain rfl := Option.some.inj H
      go_wp2
      go_ret;exact ⟨_, by first | rfl | (simp <;> rfl) | (simp [*] <;> rfl), by (with_reducible repeat (first | apply Kd.R_alloc | apply Kd.R_drewN | apply Kd.R_drew)); exact HO_3.out, by repeat (first | (with_reducible first | exact HB.out | apply below_alloc | apply pw_below_drewN | apply below_drew1) | exact HB.out)⟩
  ·rw [if_neg c3] at H
   exact absurd H (by simp)
 ·rw [if_neg c2] at H
  exact absurd H (by simp)

/-! ### laws_toByteS: function 40 -/
def laws_toByteS.l0 : Nat → List Int → List Int → Int → Option (List Int)
 | 0, _, _, _ => none
 | k + 1, x0, x3, x4 => if x4 < (x0.length : Int) then (if 0 ≤ x4 then (if x4 < (x3.length : Int) then (laws_toByteS.l0 k x0 (x3.set (x4 : Int).toNat (rd x0 x4)) (wrap64 (x4 + 1))) else (none)) else (none)) else (some x3)
def laws_toByteS.f (k : Nat) (l0 : List Int) : Option (List Int) := if 0 ≤ (l0.length : Int) then (if ((l0.length : Int) : Int).toNat ≤ 281474976710656 then (laws_toByteS.l0 k l0 (List.replicate ((l0.length : Int) : Int).toNat 0) 0) else (none)) else (none)
theorem laws_toByteS.mono_l : ∀ k, (∀ y0 y1 y2, LeO (laws_toByteS.l0 k y0 y1 y2) (laws_toByteS.l0 (k + 1) y0 y1 y2))
 | 0 => fun _ _ _ r h => by simp [laws_toByteS.l0] at h
 | k + 1 => by
  have ih0 := laws_toByteS.mono_l k
  ·intro y0 y1 y2
   unfold laws_toByteS.l0
   repeat' first
   | (with_reducible exact ih0 _ _ _)
   | (with_reducible exact LeO.refl _)
   | (with_reducible exact LeO.none _)
   | (with_reducible refine LeO.ite ?_ ?_)
   | (with_reducible refine LeO.bind ?_ (fun _ => ?_))
   | exact ih0 _ _ _
   | exact LeO.none _
   | refine LeO.ite ?_ ?_
   | refine LeO.bind ?_ (fun _ => ?_)
theorem laws_toByteS.mono : ∀ a0 k, LeO (laws_toByteS.f k a0) (laws_toByteS.f (k + 1) a0) := by
 intro a0 k;have ih0 := laws_toByteS.mono_l k
 unfold laws_toByteS.f
 repeat' first
   | (with_reducible exact ih0 _ _ _)
   | (with_reducible exact LeO.refl _)
   | (with_reducible exact LeO.none _)
   | (with_reducible refine LeO.ite ?_ ?_)
   | (with_reducible refine LeO.bind ?_ (fun _ => ?_))
   | exact ih0 _ _ _
   | exact LeO.none _
   | refine LeO.ite ?_ ?_
   | refine LeO.bind ?_ (fun _ => ?_)
set_option maxHeartbeats 8000000 in
set_option maxRecDepth 100000 in
theorem laws_toByteS.calls (k : Nat) (A0 : Option Addr) (c0 : Nat) (l0 : List Int) (r : List Int) (w : World) (hr0 : Kd.C (Kd.int .u8) w A0 l0.length l0) (hc0 : l0.length ≤ c0) (h : laws_toByteS.f k l0 = some r) :
  Calls Try.prog 40 #[.slice A0 l0.length c0] w fun e w' => ∃ v0_ : Value, e = .returned (v0_) ∧ Kd.R (Kd.int .u8) 5 w' w.heap.size (fun _ => True) v0_ r ∧ Below w.heap.size w w' := by
 have HR0 := Aside0.mk hr0;have HC0 := Aside0.mk hc0;clear hr0 hc0;have HB := Aside0.mk (Below.refl w.heap.size w);have H : (if 0 ≤ (l0.length : Int) then (if ((l0.length : Int) : Int).toNat ≤ 281474976710656 then (laws_toByteS.l0 k l0 (List.replicate ((l0.length : Int) : Int).toNat 0) 0) else (none)) else (none)) = some r := h;clear h
 by_cases c2 : 0 ≤ (l0.length : Int)
 ·rw [if_pos c2] at H
  have c2b0 := eq_true c2;have c2b1 : decide (0 ≤ (l0.length : Int)) = true := decide_eq_true c2;clear c2
  by_cases c3 : ((l0.length : Int) : Int).toNat ≤ 281474976710656
  ·rw [if_pos c3] at H
   have c3b0 := eq_true c3;have c3b1 : decide (((l0.length : Int) : Int).toNat ≤ 281474976710656) = true := decide_eq_true c3;clear c3;obtain ⟨y129, hy129⟩ : ∃ y_ : List Int, y_ = (List.replicate ((l0.length : Int) : Int).toNat 0) := ⟨_, rfl⟩
   replace H : (laws_toByteS.l0 k l0 y129 0) = some r := by first | (rw [hy129]; with_reducible exact H) | (have H2_ := (Option.bind_some _ _).symm.trans H; rw [hy129]; with_reducible exact H2_) | (have H2_ := (Option.bind_some _ _).symm.trans H; with_reducible exact H2_) | with_reducible exact H | (rw [hy129]; exact H) | exact H
   have Ny129 := Aside0.mk hy129;clear hy129;have H' := Aside0.mk H;clear H
   go_enter Try.func40, Try.ntmps40
   go_wp2_with (first | ((with_reducible refine gate_dst (N := 7) rfl ?_); refine Kd.R_make (Kd.int .u8) _ 5 rfl (N := 7) rfl 46 _ _ rfl (l0.length : Int) rfl rfl Try.underlying46 (.int .u8 0) 1 info5 rfl (by decide) (by omega) 0 (ok := fun _ => True) (okp := fun _ => True) rfl (fun _ hk => hk) trivial (of_decide_eq_true (by first | (with_reducible assumption) | assumption)) (Nat.le_trans (Nat.mul_le_mul_right _ (of_decide_eq_true (by first | (with_reducible assumption) | assumption) : (l0.length : Int).toNat ≤ 281474976710656)) (by omega)) (Below.refl _ _) (Nat.le_refl _) ?_; intro v130 w4 ho5 hb hg_ hnew_; clear hg_ hnew_; (first | rw [← Ny129.out] at ho5 | (simp only [Int.reduceToNat] at ho5; rw [← Ny129.out] at ho5)); have n0_ := Aside0.mk (Kd.R_lower ho5 (below_size (by repeat (first | (with_reducible first | exact HB.out | apply below_alloc | apply pw_below_drewN | apply below_drew1) | exact HB.out)))); have n1_ := Aside0.mk (below_step (by repeat (first | (with_reducible first | exact HB.out | apply below_alloc | apply pw_below_drewN | apply below_drew1) | exact HB.out)) hb); clear HB; have HO131 := n0_; have HB := n1_; clear n0_ n1_; clear hb ho5))
   go_loopg [4] k (fun kq v4 w' => ∃ (x3_1 : List Int) (x4_1 : Int), v4 = .int .i64 x4_1 ∧ Aside0 (laws_toByteS.l0 kq l0 x3_1 x4_1 = some r) ∧ Aside0 (kq ≤ k) ∧ Aside0 (Kd.R (Kd.int .u8) 5 w' w.heap.size (fun _ => True) v130 x3_1) ∧ Aside0 (Below w.heap.size w w'))
   case atStart => exact ⟨(y129), (0), (by first | rfl | (simp; done) | (simp [*]; done)), H', ⟨Nat.le_refl _⟩, ⟨by (with_reducible repeat (first | apply Kd.R_alloc | apply Kd.R_drewN | apply Kd.R_drew)); exact HO131.out⟩, ⟨by repeat (first | (with_reducible first | exact HB.out | apply below_alloc | apply pw_below_drewN | apply below_drew1) | exact HB.out)⟩⟩
   case round =>
    clear H'
    try clear c2
    try clear c2b0
    try clear c2b1
    try clear p2
    try clear c3
    try clear c3b0
    try clear c3b1
    try clear c4
    obtain ⟨x3_1, x4_1, rfl, HA, HK1, HO_3, HB⟩ := hrel
    cases gk with
    | zero => exact absurd HA.out (by simp [laws_toByteS.l0])
    | succ k1 =>
     have H := HA.out;clear HA;simp only [laws_toByteS.l0] at H
     by_cases c6 : x4_1 < (l0.length : Int)
     ·rw [if_pos c6] at H
      have c6b0 : decide (x4_1 < (l0.length : Int)) = true := decide_eq_true c6;clear c6
      by_cases c7 : 0 ≤ x4_1
      ·rw [if_pos c7] at H
       have c7b0 : decide (0 ≤ x4_1) = true := decide_eq_true c7;clear c7
       by_cases c8 : x4_1 < (x3_1.length : Int)
       ·rw [if_pos c8] at H
        have c8b0 : decide (x4_1 < (x3_1.length : Int)) = true := decide_eq_true c8;clear c8;obtain ⟨y133, hy133⟩ : ∃ y_ : List Int, y_ = (x3_1.set (x4_1 : Int).toNat (rd l0 x4_1)) := ⟨_, rfl⟩
        replace H : (laws_toByteS.l0 k1 l0 y133 (wrap64 (x4_1 + 1))) = some r := by first | (rw [hy133]; with_reducible exact H) | (have H2_ := (Option.bind_some _ _).symm.trans H; rw [hy133]; with_reducible exact H2_) | (have H2_ := (Option.bind_some _ _).symm.trans H; with_reducible exact H2_) | with_reducible exact H | (rw [hy133]; exact H) | exact H
        have Ny133 := Aside0.mk hy133;clear hy133;have H' := Aside0.mk H;clear H;have p132 : 0 ≤ (x4_1 : Int) := of_decide_eq_true (by first | (with_reducible assumption) | assumption);have q132 : x4_1 < (l0.length : Int) := of_decide_eq_true (by first | (with_reducible assumption) | assumption);obtain ⟨ad132, e132, hx132_0⟩ := Kd.at_int HR0.out x4_1 p132 q132
        cases e132
        replace hx132_0 := (HB.out.cell (World.block_lt_of_cell? w _ hx132_0)).trans hx132_0;replace p132 := eq_true p132;replace q132 := eq_true q132;have p9 : 0 ≤ (x4_1 : Int) := of_decide_eq_true (by first | (with_reducible assumption) | assumption);have q9 : (x4_1 : Int) < ((x3_1.length : Int) : Int) := of_decide_eq_true (by first | (with_reducible assumption) | assumption);obtain ⟨go9, co9, eo9, gb9, gl9, cl9, HG9⟩ := Kd.R_form HO_3.out (by omega)
        (first | cases eo9 | (injection eo9 with ea_ en_ ec_; (first | subst ea_ | (injection ea_ with ea_; subst ea_)); subst ec_; clear en_))
        have GB9 := Aside0.mk gb9;have GG9 := Aside0.mk HG9;clear gb9 gl9 HG9;obtain ⟨hx9_0, hf9_0⟩ := Kd.R_celln 0 HO_3.out (x4_1 : Int) p9 q9;replace p9 := eq_true p9;replace q9 := eq_true q9;have HP10 := Kd.R_putg HO_3.out (x4_1 : Int) (rd l0 x4_1)
        go_wp2_with (first | ((with_reducible refine gate_store (t := 5) (p := 20) rfl ?_); refine store_event (t := 5) (p := 20) (v := ?vo_w11) (w1 := (wr.setCell ⟨go9, (x4_1 : Int).toNat, none⟩ (.int .u8 (rd l0 x4_1)))) ?hg ?ho ?hn ?hr ?_; (case ho => rfl); (case hg => rfl); (case hn => rfl); (case hr => first | (go_simp; done) | (go_simp; rfl)); intro w11 hw; have hg : wr.grownBy w11 (some go9) := (by rw [hw]; exact HP10.2); have hp_ : Kd.R (Kd.int .u8) 5 w11 w.heap.size (fun _ => True) (.slice (some ⟨go9, 0, none⟩) x3_1.length co9) y133 := (by rw [hw, Ny133.out]; exact HP10.1); clear HP10; have n0_ := Aside0.mk (hp_); have n1_ := Aside0.mk ((by rw [hw]; exact below_set (HB.out) GB9.out : Below w.heap.size w w11)); clear HO_3; clear HB; have HO_3 := n0_; have HB := n1_; clear n0_ n1_; clear hg hw hp_))
        go_roundg k1
        case measure => have := HK1.out; omega
        case rel => exact ⟨(y133), (wrap64 (x4_1 + 1)), (by first | rfl | (simp; done) | (simp [*]; done)), H', ⟨by have := HK1.out; omega⟩, ⟨by (with_reducible repeat (first | apply Kd.R_alloc | apply Kd.R_drewN | apply Kd.R_drew)); exact HO_3.out⟩, ⟨by repeat (first | (with_reducible first | exact HB.out | apply below_alloc | apply pw_below_drewN | apply below_drew1) | exact HB.out)⟩⟩
       ·rw [if_neg c8] at H
        exact absurd H (by simp)
      ·rw [if_neg c7] at H
       exact absurd H (by simp)
     ·rw [if_neg c6] at H
      have c6b0 : decide (x4_1 < (l0.length : Int)) = false := decide_eq_false c6;clear c6;obtain rfl := Option.some.inj H
      go_wp2
      go_ret;exact ⟨_, by first | rfl | (simp <;> rfl) | (simp [*] <;> rfl), by (with_reducible repeat (first | apply Kd.R_alloc | apply Kd.R_drewN | apply Kd.R_drew)); exact HO_3.out, by repeat (first | (with_reducible first | exact HB.out | apply below_alloc | apply pw_below_drewN | apply below_drew1) | exact HB.out)⟩
  ·rw [if_neg c3] at H
   exact absurd H (by simp)
 ·rw [if_neg c2] at H
  exact absurd H (by simp)

/-! ### laws_toNearHeld: function 112 -/
def laws_toNearHeld.f (k : Nat) (a0_0 : Int) (l0_1 : List Int) : Option (Int × List Int) := (laws_toByteS.f k l0_1).bind fun t137 => (some (a0_0, t137))
theorem laws_toNearHeld.mono : ∀ a0 a1 k, LeO (laws_toNearHeld.f k a0 a1) (laws_toNearHeld.f (k + 1) a0 a1) := by
 intro a0 a1 k
 unfold laws_toNearHeld.f
 repeat' first
   | (with_reducible exact laws_toByteS.mono _ _)
   | (with_reducible exact LeO.refl _)
   | (with_reducible exact LeO.none _)
   | (with_reducible refine LeO.ite ?_ ?_)
   | (with_reducible refine LeO.bind ?_ (fun _ => ?_))
   | exact laws_toByteS.mono _ _
   | exact LeO.none _
   | refine LeO.ite ?_ ?_
   | refine LeO.bind ?_ (fun _ => ?_)
set_option maxHeartbeats 8000000 in
set_option maxRecDepth 100000 in
theorem laws_toNearHeld.calls (k : Nat) (a0_0 : Int) (A0_1 : Option Addr) (c0_1 : Nat) (l0_1 : List Int) (r1 : Int) (r2 : List Int) (w : World) (hr0_1 : Kd.C (Kd.int .u8) w A0_1 l0_1.length l0_1) (hc0_1 : l0_1.length ≤ c0_1) (h : laws_toNearHeld.f k a0_0 l0_1 = some (r1, r2)) :
  Calls Try.prog 112 #[.agg #[.int .i64 a0_0, .slice A0_1 l0_1.length c0_1]] w fun e w' => ∃ v1_ : Value, e = .returned (.agg #[.int .i64 r1, v1_]) ∧ Kd.R (Kd.int .u8) 5 w' w.heap.size (fun _ => True) v1_ r2 ∧ Below w.heap.size w w' := by
 have hu133 := Try.underlying133;have hu101 := Try.underlying101;have HR0_1 := Aside0.mk hr0_1;have HC0_1 := Aside0.mk hc0_1;clear hr0_1 hc0_1;have HB := Aside0.mk (Below.refl w.heap.size w);have H : ((laws_toByteS.f k l0_1).bind fun t137 => (some (a0_0, t137))) = some (r1, r2) := h;clear h;replace H := ze H;obtain ⟨t137, A20, H⟩ := H;replace H : (some (a0_0, t137)) = some (r1, r2) := H;have A2 := Aside0.mk A20;clear A20;simp only [Option.some.injEq, Prod.mk.injEq] at H;obtain ⟨rfl, rfl⟩ := H
 go_enter Try.func112, Try.ntmps112
 go_wp2_with (first | ((with_reducible refine gate_dst (N := 1) rfl ?_); refine box_event ?hg (N := 1) ?hd (cs := #[.int .i64 a0_0, .slice A0_1 l0_1.length c0_1]) (t := 133) ?hr ?_; (case hd => rfl); (case hg => rfl); (case hr => first | (go_simp; done) | (go_simp; rfl)); intro gb134 hg w3 hbox hb; have n0_ := Aside0.mk (below_step (by repeat (first | (with_reducible first | exact HB.out | apply below_alloc | apply pw_below_drewN | apply below_drew1) | exact HB.out)) hb); have n1_ := Aside0.mk (hbox); have n2_ := Aside0.mk ((by rw [hg]; exact (below_size (by repeat (first | (with_reducible first | exact HB.out | apply below_alloc | apply pw_below_drewN | apply below_drew1) | exact HB.out))) : w.heap.size ≤ gb134)); have n3_ := n2_; clear HB; have HB := n0_; have BK134 := n1_; have GW134 := n2_; have GE134 := n3_; clear n0_ n1_ n2_ n3_; clear hb hbox hg) | ((with_reducible refine gate_dst (N := 2) rfl ?_); refine box_event ?hg (N := 2) ?hd (cs := #[.int .i64 0, .slice none 0 0]) (t := 101) ?hr ?_; (case hd => rfl); (case hg => rfl); (case hr => first | (go_simp; done) | (go_simp; rfl)); intro gb135 hg w4 hbox hb; have n0_ := Aside0.mk (blk_below (g := gb134) (o := .cells #[.int .i64 a0_0, .slice A0_1 l0_1.length c0_1] 133 (0, 0)) (by (with_reducible repeat (first | apply blk_drewN | apply blk_drew | apply blk_alloc)); exact BK134.out) hb); have n1_ := Aside0.mk (below_step (by repeat (first | (with_reducible first | exact HB.out | apply below_alloc | apply pw_below_drewN | apply below_drew1 | refine below_set ?_ GE134.out) | exact HB.out)) hb); have n2_ := Aside0.mk (hbox); have n3_ := Aside0.mk ((by rw [hg]; exact (below_size (by repeat (first | (with_reducible first | exact HB.out | apply below_alloc | apply pw_below_drewN | apply below_drew1 | refine below_set ?_ GE134.out) | exact HB.out))) : w.heap.size ≤ gb135)); have n4_ := n3_; have n5_ := Aside0.mk ((by rw [hg]; exact Nat.ne_of_lt (blk_lt (g := gb134) (o := .cells #[.int .i64 a0_0, .slice A0_1 l0_1.length c0_1] 133 (0, 0)) (by (with_reducible repeat (first | apply blk_drewN | apply blk_drew | apply blk_alloc)); exact BK134.out)) : gb134 ≠ gb135)); have n6_ := Aside0.mk ((by rw [hg]; exact Nat.ne_of_gt (blk_lt (g := gb134) (o := .cells #[.int .i64 a0_0, .slice A0_1 l0_1.length c0_1] 133 (0, 0)) (by (with_reducible repeat (first | apply blk_drewN | apply blk_drew | apply blk_alloc)); exact BK134.out)) : gb135 ≠ gb134)); clear BK134; clear HB; have BK134 := n0_; have HB := n1_; have BK135 := n2_; have GW135 := n3_; have GE135 := n4_; have NB134_135 := n5_; have NB135_134 := n6_; clear n0_ n1_ n2_ n3_ n4_ n5_ n6_; clear hb hbox hg) | ((with_reducible refine gate_dst (N := 3) rfl ?_); refine box_event ?hg (N := 3) ?hd (cs := #[.int .i64 0, .slice none 0 0]) (t := 101) ?hr ?_; (case hd => rfl); (case hg => rfl); (case hr => first | (go_simp; done) | (go_simp; rfl)); intro gb136 hg w5 hbox hb; have n0_ := Aside0.mk (blk_below (g := gb134) (o := .cells #[.int .i64 a0_0, .slice A0_1 l0_1.length c0_1] 133 (0, 0)) (by (with_reducible repeat (first | apply blk_drewN | apply blk_drew | apply blk_alloc)); exact BK134.out) hb); have n1_ := Aside0.mk (blk_below (g := gb135) (o := .cells #[.int .i64 0, .slice none 0 0] 101 (0, 0)) (by (with_reducible repeat (first | apply blk_drewN | apply blk_drew | apply blk_alloc)); exact BK135.out) hb); have n2_ := Aside0.mk (below_step (by repeat (first | (with_reducible first | exact HB.out | apply below_alloc | apply pw_below_drewN | apply below_drew1 | refine below_set ?_ GE134.out | refine below_set ?_ GE135.out) | exact HB.out)) hb); have n3_ := Aside0.mk (hbox); have n4_ := Aside0.mk ((by rw [hg]; exact (below_size (by repeat (first | (with_reducible first | exact HB.out | apply below_alloc | apply pw_below_drewN | apply below_drew1 | refine below_set ?_ GE134.out | refine below_set ?_ GE135.out) | exact HB.out))) : w.heap.size ≤ gb136)); have n5_ := n4_; have n6_ := Aside0.mk ((by rw [hg]; exact Nat.ne_of_lt (blk_lt (g := gb134) (o := .cells #[.int .i64 a0_0, .slice A0_1 l0_1.length c0_1] 133 (0, 0)) (by (with_reducible repeat (first | apply blk_drewN | apply blk_drew | apply blk_alloc)); exact BK134.out)) : gb134 ≠ gb136)); have n7_ := Aside0.mk ((by rw [hg]; exact Nat.ne_of_gt (blk_lt (g := gb134) (o := .cells #[.int .i64 a0_0, .slice A0_1 l0_1.length c0_1] 133 (0, 0)) (by (with_reducible repeat (first | apply blk_drewN | apply blk_drew | apply blk_alloc)); exact BK134.out)) : gb136 ≠ gb134)); have n8_ := Aside0.mk ((by rw [hg]; exact Nat.ne_of_lt (blk_lt (g := gb135) (o := .cells #[.int .i64 0, .slice none 0 0] 101 (0, 0)) (by (with_reducible repeat (first | apply blk_drewN | apply blk_drew | apply blk_alloc)); exact BK135.out)) : gb135 ≠ gb136)); have n9_ := Aside0.mk ((by rw [hg]; exact Nat.ne_of_gt (blk_lt (g := gb135) (o := .cells #[.int .i64 0, .slice none 0 0] 101 (0, 0)) (by (with_reducible repeat (first | apply blk_drewN | apply blk_drew | apply blk_alloc)); exact BK135.out)) : gb136 ≠ gb135)); clear BK134; clear BK135; clear HB; have BK134 := n0_; have BK135 := n1_; have HB := n2_; have BK136 := n3_; have GW136 := n4_; have GE136 := n5_; have NB134_136 := n6_; have NB136_134 := n7_; have NB135_136 := n8_; have NB136_135 := n9_; clear n0_ n1_ n2_ n3_ n4_ n5_ n6_ n7_ n8_ n9_; clear hb hbox hg; have hnb6 := NB134_135.out; have hnc6 := NB135_134.out; have hnb7 := NB134_136.out; have hnc7 := NB136_134.out; obtain ⟨hcz8_0, hcz8_1, hfz8_0, hfz8_1⟩ := zc2 BK134.out; have hnb9 := NB136_135.out; have hnc9 := NB135_136.out; obtain ⟨hcz10_0, hcz10_1, hfz10_0, hfz10_1⟩ := zc2 BK136.out) | ((with_reducible refine gate_callee (f := 40) rfl ?_); refine goesL_ (some 9) rfl rfl Try.func40 (by kernel_rfl) rfl #[.slice A0_1 l0_1.length c0_1] rfl (by (try simp only [zm]); first | done | rfl | (simp only [zl]; rfl)) ?_; (with_reducible refine (laws_toByteS.calls k _ _ l0_1 t137 _ ?side1 ?side2 A2.out).mono ?_); (case side1 => exact Kd.C_below HR0_1.out (by repeat (first | (with_reducible first | exact HB.out | apply below_alloc | apply pw_below_drewN | apply below_drew1 | refine below_set ?_ GE134.out | refine below_set ?_ GE135.out | refine below_set ?_ GE136.out) | exact HB.out))); (case side2 => exact HC0_1.out); rintro e w11 ⟨v138, rfl, ho0, hb⟩; refine ⟨_, rfl, ?_⟩; have n0_ := Aside0.mk (Kd.R_lower ho0 (below_size (by repeat (first | (with_reducible first | exact HB.out | apply below_alloc | apply pw_below_drewN | apply below_drew1 | refine below_set ?_ GE134.out | refine below_set ?_ GE135.out | refine below_set ?_ GE136.out) | exact HB.out)))); have n1_ := Aside0.mk (blk_below (g := gb134) (o := .cells #[.int .i64 a0_0, .slice A0_1 l0_1.length c0_1] 133 (0, 0)) (by (with_reducible repeat (first | apply blk_drewN | apply blk_drew | apply blk_alloc)); refine blk_far ?_ NB134_136.out _; (with_reducible repeat (first | apply blk_drewN | apply blk_drew | apply blk_alloc)); exact BK134.out) hb); have n2_ := Aside0.mk (blk_below (g := gb135) (o := .cells #[.int .i64 0, .slice none 0 0] 101 (0, 0)) (by (with_reducible repeat (first | apply blk_drewN | apply blk_drew | apply blk_alloc)); refine blk_far ?_ NB135_136.out _; (with_reducible repeat (first | apply blk_drewN | apply blk_drew | apply blk_alloc)); exact BK135.out) hb); have n3_ := Aside0.mk (blk_below (g := gb136) (o := .cells #[.int .i64 a0_0, .slice none 0 0] 101 (0, 0)) (by (with_reducible repeat (first | apply blk_drewN | apply blk_drew | apply blk_alloc)); refine blk_put (cs := #[.int .i64 0, .slice none 0 0]) ?_ 0 _ rfl; (with_reducible repeat (first | apply blk_drewN | apply blk_drew | apply blk_alloc)); exact BK136.out) hb); have n4_ := Aside0.mk (below_step (by repeat (first | (with_reducible first | exact HB.out | apply below_alloc | apply pw_below_drewN | apply below_drew1 | refine below_set ?_ GE134.out | refine below_set ?_ GE135.out | refine below_set ?_ GE136.out) | exact HB.out)) hb); clear BK134; clear BK135; clear BK136; clear HB; have HO139 := n0_; have BK134 := n1_; have BK135 := n2_; have BK136 := n3_; have HB := n4_; clear n0_ n1_ n2_ n3_ n4_; (try clear hb); (try clear hb2); (try clear hk); (try clear hi); (try clear ho0); obtain ⟨Ao12, co12, eo12⟩ := Kd.R_slice HO139.out; subst eo12; obtain ⟨hcz13_0, hcz13_1, hfz13_0, hfz13_1⟩ := zc2 BK136.out; obtain ⟨hcz14_0, hcz14_1, hfz14_0, hfz14_1⟩ := zc2 BK135.out))
 refine bodyPost_ret (results_cell_row rfl _ _ gb135 101 #[.int .i64 a0_0, .slice Ao12 t137.length co12] (0, 0) _ rfl (by (with_reducible repeat (first | apply blk_drewN | apply blk_drew | apply blk_alloc)); refine blk_put (cs := #[.int .i64 a0_0, .slice none 0 0]) ?_ 1 _ rfl; refine blk_put (cs := #[.int .i64 0, .slice none 0 0]) ?_ 0 _ rfl; refine blk_far ?_ NB135_136.out _; (with_reducible repeat (first | apply blk_drewN | apply blk_drew | apply blk_alloc)); exact BK135.out) Try.underlying101 rfl (by kernel_rfl)) rfl ?_;exact ⟨_, by first | rfl | (simp <;> rfl) | (simp [*] <;> rfl), by (with_reducible repeat (first | apply Kd.R_alloc | apply Kd.R_drewN | apply Kd.R_drew)); exact Kd.R_mono (Kd.R_far (p := ⟨gb135, 1, none⟩) (Kd.R_far (p := ⟨gb135, 0, none⟩) (Kd.R_far (p := ⟨gb136, 1, none⟩) (Kd.R_types (Kd.R_types HO139.out BK136.out (by decide)) BK135.out (by decide)) (fun _ hk => hk.1.2) (.slice Ao12 t137.length co12)) (fun _ hk => hk.2) (.int .i64 a0_0)) (fun _ hk => hk.2) (.slice Ao12 t137.length co12)) (fun _ hk => trivial), by repeat (first | (with_reducible first | exact HB.out | apply below_alloc | apply pw_below_drewN | apply below_drew1 | refine below_set ?_ GE134.out | refine below_set ?_ GE135.out | refine below_set ?_ GE136.out) | exact HB.out)⟩

/-! ### laws_toNearHeldS: function 69 -/
def laws_toNearHeldS.l0 : Nat → List (S133) → List (S101) → Int → Option ((List (S101)))
 | 0, _, _, _ => none
 | k + 1, x0, x3, x4 => if x4 < (x0.length : Int) then (if 0 ≤ x4 then ((laws_toNearHeld.f k ((rd_T133 x0 x4).f0) ((rd_T133 x0 x4).f1)).bind fun bt144 => (if x4 < (x3.length : Int) then (laws_toNearHeldS.l0 k x0 (x3.set (x4 : Int).toNat (⟨bt144.1, bt144.2⟩ : S101)) (wrap64 (x4 + 1))) else (none))) else (none)) else (some x3)
def laws_toNearHeldS.f (k : Nat) (l0 : List (S133)) : Option ((List (S101))) := if 0 ≤ (l0.length : Int) then (if ((l0.length : Int) : Int).toNat ≤ 8796093022208 then (laws_toNearHeldS.l0 k l0 (List.replicate ((l0.length : Int) : Int).toNat z101) 0) else (none)) else (none)
theorem laws_toNearHeldS.mono_l : ∀ k, (∀ y0 y1 y2, LeO (laws_toNearHeldS.l0 k y0 y1 y2) (laws_toNearHeldS.l0 (k + 1) y0 y1 y2))
 | 0 => fun _ _ _ r h => by simp [laws_toNearHeldS.l0] at h
 | k + 1 => by
  have ih0 := laws_toNearHeldS.mono_l k
  ·intro y0 y1 y2
   unfold laws_toNearHeldS.l0
   repeat' first
   | (with_reducible exact ih0 _ _ _)
   | (with_reducible exact laws_toNearHeld.mono _ _ _)
   | (with_reducible exact LeO.refl _)
   | (with_reducible exact LeO.none _)
   | (with_reducible refine LeO.ite ?_ ?_)
   | (with_reducible refine LeO.bind ?_ (fun _ => ?_))
   | exact ih0 _ _ _
   | exact laws_toNearHeld.mono _ _ _
   | exact LeO.none _
   | refine LeO.ite ?_ ?_
   | refine LeO.bind ?_ (fun _ => ?_)
theorem laws_toNearHeldS.mono : ∀ a0 k, LeO (laws_toNearHeldS.f k a0) (laws_toNearHeldS.f (k + 1) a0) := by
 intro a0 k;have ih0 := laws_toNearHeldS.mono_l k
 unfold laws_toNearHeldS.f
 repeat' first
   | (with_reducible exact ih0 _ _ _)
   | (with_reducible exact laws_toNearHeld.mono _ _ _)
   | (with_reducible exact LeO.refl _)
   | (with_reducible exact LeO.none _)
   | (with_reducible refine LeO.ite ?_ ?_)
   | (with_reducible refine LeO.bind ?_ (fun _ => ?_))
   | exact ih0 _ _ _
   | exact laws_toNearHeld.mono _ _ _
   | exact LeO.none _
   | refine LeO.ite ?_ ?_
   | refine LeO.bind ?_ (fun _ => ?_)
set_option maxHeartbeats 8000000 in
set_option maxRecDepth 100000 in
theorem laws_toNearHeldS.calls (k : Nat) (A0 : Option Addr) (c0 : Nat) (l0 : List (S133)) (r : List (S101)) (w : World) (hr0 : Kd.C k133 w A0 l0.length l0) (hc0 : l0.length ≤ c0) (h : laws_toNearHeldS.f k l0 = some r) :
  Calls Try.prog 69 #[.slice A0 l0.length c0] w fun e w' => ∃ v0_ : Value, e = .returned (v0_) ∧ Kd.S k101 101 w' w.heap.size (fun _ => True) v0_ r ∧ Below w.heap.size w w' := by
 have hu133 := Try.underlying133;have hu101 := Try.underlying101;have HR0 := Aside0.mk hr0;have HC0 := Aside0.mk hc0;clear hr0 hc0;have HB := Aside0.mk (Below.refl w.heap.size w);have H : (if 0 ≤ (l0.length : Int) then (if ((l0.length : Int) : Int).toNat ≤ 8796093022208 then (laws_toNearHeldS.l0 k l0 (List.replicate ((l0.length : Int) : Int).toNat z101) 0) else (none)) else (none)) = some r := h;clear h
 by_cases c2 : 0 ≤ (l0.length : Int)
 ·rw [if_pos c2] at H
  have c2b0 := eq_true c2;have c2b1 : decide (0 ≤ (l0.length : Int)) = true := decide_eq_true c2;clear c2
  by_cases c3 : ((l0.length : Int) : Int).toNat ≤ 8796093022208
  ·rw [if_pos c3] at H
   have c3b0 := eq_true c3;have c3b1 : decide (((l0.length : Int) : Int).toNat ≤ 8796093022208) = true := decide_eq_true c3;clear c3;obtain ⟨y140, hy140⟩ : ∃ y_ : List (S101), y_ = (List.replicate ((l0.length : Int) : Int).toNat z101) := ⟨_, rfl⟩
   replace H : (laws_toNearHeldS.l0 k l0 y140 0) = some r := by first | (rw [hy140]; with_reducible exact H) | (have H2_ := (Option.bind_some _ _).symm.trans H; rw [hy140]; with_reducible exact H2_) | (have H2_ := (Option.bind_some _ _).symm.trans H; with_reducible exact H2_) | with_reducible exact H | (rw [hy140]; exact H) | exact H
   have Ny140 := Aside0.mk hy140;clear hy140;have H' := Aside0.mk H;clear H
   go_enter Try.func69, Try.ntmps69
   go_wp2_with (first | ((with_reducible refine gate_dst (N := 7) rfl ?_); refine Kd.S_make k101 _ 101 rfl (N := 7) rfl 40 _ _ rfl (l0.length : Int) rfl rfl Try.underlying40 (.agg #[(.int .i64 0), (.slice none 0 0)]) 32 info101 rfl (by decide) (by omega) z101 (ok := fun _ => True) (okp := fun _ => True) (k101_mkM _ _ _ z101 (Kd.R_nil _ _ _ _ _)) (fun _ hk => hk) trivial (of_decide_eq_true (by first | (with_reducible assumption) | assumption)) (Nat.le_trans (Nat.mul_le_mul_right _ (of_decide_eq_true (by first | (with_reducible assumption) | assumption) : (l0.length : Int).toNat ≤ 8796093022208)) (by omega)) (Below.refl _ _) (Nat.le_refl _) ?_; intro v141 w4 ho5 hb hg_ hnew_; clear hg_ hnew_; (first | rw [← Ny140.out] at ho5 | (simp only [Int.reduceToNat] at ho5; rw [← Ny140.out] at ho5)); have n0_ := Aside0.mk (Kd.S_lower ho5 (below_size (by repeat (first | (with_reducible first | exact HB.out | apply below_alloc | apply pw_below_drewN | apply below_drew1) | exact HB.out)))); have n1_ := Aside0.mk (below_step (by repeat (first | (with_reducible first | exact HB.out | apply below_alloc | apply pw_below_drewN | apply below_drew1) | exact HB.out)) hb); clear HB; have HO142 := n0_; have HB := n1_; clear n0_ n1_; clear hb ho5))
   go_loopg [4] k (fun kq v4 w' => ∃ (x3_1 : List (S101)) (x4_1 : Int), v4 = .int .i64 x4_1 ∧ Aside0 (laws_toNearHeldS.l0 kq l0 x3_1 x4_1 = some r) ∧ Aside0 (kq ≤ k) ∧ Aside0 (Kd.S k101 101 w' w.heap.size (fun _ => True) v141 x3_1) ∧ Aside0 (Below w.heap.size w w'))
   case atStart => exact ⟨(y140), (0), (by first | rfl | (simp; done) | (simp [*]; done)), H', ⟨Nat.le_refl _⟩, ⟨by (with_reducible repeat (first | apply Kd.S_alloc | apply Kd.S_drewN | apply Kd.S_drew)); exact HO142.out⟩, ⟨by repeat (first | (with_reducible first | exact HB.out | apply below_alloc | apply pw_below_drewN | apply below_drew1) | exact HB.out)⟩⟩
   case round =>
    clear H'
    try clear c2
    try clear c2b0
    try clear c2b1
    try clear p2
    try clear c3
    try clear c3b0
    try clear c3b1
    obtain ⟨x3_1, x4_1, rfl, HA, HK1, HO_3, HB⟩ := hrel
    cases gk with
    | zero => exact absurd HA.out (by simp [laws_toNearHeldS.l0])
    | succ k1 =>
     have H := HA.out;clear HA;simp only [laws_toNearHeldS.l0] at H
     by_cases c6 : x4_1 < (l0.length : Int)
     ·rw [if_pos c6] at H
      have c6b0 : decide (x4_1 < (l0.length : Int)) = true := decide_eq_true c6;clear c6
      by_cases c7 : 0 ≤ x4_1
      ·rw [if_pos c7] at H
       have c7b0 : decide (0 ≤ x4_1) = true := decide_eq_true c7;clear c7;replace H := ze H;obtain ⟨⟨t144, t145⟩, A80, H⟩ := H;replace H : (if x4_1 < (x3_1.length : Int) then (laws_toNearHeldS.l0 k1 l0 (x3_1.set (x4_1 : Int).toNat (⟨t144, t145⟩ : S101)) (wrap64 (x4_1 + 1))) else (none)) = some r := H;have A8 := Aside0.mk A80;clear A80
       by_cases c9 : x4_1 < (x3_1.length : Int)
       ·rw [if_pos c9] at H
        have c9b0 : decide (x4_1 < (x3_1.length : Int)) = true := decide_eq_true c9;clear c9;obtain ⟨y148, hy148⟩ : ∃ y_ : List (S101), y_ = (x3_1.set (x4_1 : Int).toNat (⟨t144, t145⟩ : S101)) := ⟨_, rfl⟩
        replace H : (laws_toNearHeldS.l0 k1 l0 y148 (wrap64 (x4_1 + 1))) = some r := by first | (rw [hy148]; with_reducible exact H) | (have H2_ := (Option.bind_some _ _).symm.trans H; rw [hy148]; with_reducible exact H2_) | (have H2_ := (Option.bind_some _ _).symm.trans H; with_reducible exact H2_) | with_reducible exact H | (rw [hy148]; exact H) | exact H
        have Ny148 := Aside0.mk hy148;clear hy148;have H' := Aside0.mk H;clear H;have p143 : 0 ≤ (x4_1 : Int) := of_decide_eq_true (by first | (with_reducible assumption) | assumption);have q143 : x4_1 < (l0.length : Int) := of_decide_eq_true (by first | (with_reducible assumption) | assumption);obtain ⟨ad143, A143_1, c143_1, e143, hx143_0, hx143_1, hl143_1, hi143_1⟩ := at_T133 HR0.out x4_1 p143 q143
        cases e143
        replace hx143_0 := (HB.out.cell (World.block_lt_of_cell? w _ hx143_0)).trans hx143_0;replace hx143_1 := (HB.out.cell (World.block_lt_of_cell? w _ hx143_1)).trans hx143_1;have HR143_1 := Aside0.mk hi143_1;have HC143_1 := Aside0.mk hl143_1;clear hi143_1 hl143_1;replace p143 := eq_true p143;replace q143 := eq_true q143
        go_wp2_with (first | ((with_reducible refine gate_callee (f := 112) rfl ?_); refine goesL_ (some 20) rfl rfl Try.func112 (by kernel_rfl) rfl #[.agg #[.int .i64 ((rd_T133 l0 x4_1).f0), .slice A143_1 ((rd_T133 l0 x4_1).f1).length c143_1]] rfl (by (try simp only [zm]); first | done | rfl | (simp only [zl]; rfl)) ?_; (with_reducible refine (laws_toNearHeld.calls k1 ((rd_T133 l0 x4_1).f0) _ _ ((rd_T133 l0 x4_1).f1) t144 t145 _ ?side1 ?side2 A8.out).mono ?_); (case side1 => repeat (first | exact (Kd.C_below HR143_1.out HB.out) | (with_reducible first | refine Kd.C_alloc ?_ _ | refine Kd.C_drewN ?_ _ | refine Kd.C_drew ?_))); (case side2 => exact HC143_1.out); rintro e w11 ⟨v146, rfl, ho0, hb⟩; obtain ⟨Ax146, cx146, ex146⟩ := Kd.R_slice ho0; subst ex146; refine ⟨_, rfl, ?_⟩; have n0_ := Aside0.mk (Kd.S_elder' (by (with_reducible repeat (first | apply Kd.S_alloc | apply Kd.S_drewN | apply Kd.S_drew)); exact HO_3.out) (Kd.R_base ho0) hb); have n1_ := Aside0.mk (Kd.R_lower ho0 (below_size (by repeat (first | (with_reducible first | exact HB.out | apply below_alloc | apply pw_below_drewN | apply below_drew1) | exact HB.out)))); have n2_ := Aside0.mk (below_step (by repeat (first | (with_reducible first | exact HB.out | apply below_alloc | apply pw_below_drewN | apply below_drew1) | exact HB.out)) hb); clear HO_3; clear HB; have HO_3 := n0_; have HO147 := n1_; have HB := n2_; clear n0_ n1_ n2_; (try clear hb); (try clear hb2); (try clear hk); (try clear hi); (try clear ho0); have p10 : 0 ≤ (x4_1 : Int) := of_decide_eq_true (by first | (with_reducible assumption) | assumption); have q10 : (x4_1 : Int) < ((x3_1.length : Int) : Int) := of_decide_eq_true (by first | (with_reducible assumption) | assumption); obtain ⟨go10, co10, eo10, gb10, gl10, cl10, HG10⟩ := Kd.S_form HO_3.out (by omega); (first | cases eo10 | (injection eo10 with ea_ en_ ec_; (first | subst ea_ | (injection ea_ with ea_; subst ea_)); subst ec_; clear en_)); have GB10 := Aside0.mk gb10; have GG10 := Aside0.mk HG10; clear gb10 gl10 HG10; obtain ⟨_, ce10, hcl10, hM10, hcc10, hfr10, _, _⟩ := Kd.S_elem HO_3.out z101 (x4_1 : Int) p10 q10; obtain ⟨ve10_1, rfl, ge10_1⟩ := k101_openM hM10; have hx10_0 : w11.cell? ⟨go10, (x4_1 : Int).toNat * 2, none⟩ = some (.int .i64 ((rd_T101 x3_1 x4_1).f0)) := hcc10 0 _ rfl; have hx10_1 : w11.cell? ⟨go10, (x4_1 : Int).toNat * 2 + 1, none⟩ = some (ve10_1) := hcc10 1 _ rfl; have hf10_0 : w11.frozen? ⟨go10, (x4_1 : Int).toNat * 2, none⟩ = false := hfr10 0; have hf10_1 : w11.frozen? ⟨go10, (x4_1 : Int).toNat * 2 + 1, none⟩ = false := hfr10 1; clear hcl10 hcc10 hfr10 hM10; replace p10 := eq_true p10; replace q10 := eq_true q10; have n_ := Aside0.mk (Kd.S_mono (ok' := (fun k_ => some k_ ≠ ((.slice Ax146 t145.length cx146 : Value) : Value).ownBlock)) HO_3.out (fun k_ hk => hk.2)); clear HO_3; have HO_3 := n_; clear n_; have HX12 := Aside0.mk (show Kd.S k101 101 w11 w.heap.size (fun k_ => ((fun _ => True)) k_ ∧ ¬ ((fun k_ => some k_ = ((.slice Ax146 t145.length cx146 : Value) : Value).ownBlock)) k_) (.slice (some ⟨go10, 0, none⟩) x3_1.length co10) x3_1 from (by (with_reducible repeat (first | apply Kd.S_alloc | apply Kd.S_drewN | apply Kd.S_drew)); exact Kd.S_mono HO_3.out (fun k_ hk => ⟨trivial, fun e_ => hk e_⟩))); obtain ⟨oki12, ce12, hcl12, hM12, hcc12, hfr12, hoki12, hH12⟩ := Kd.S_elem HX12.out z101 (x4_1 : Int) (of_decide_eq_true (by first | (with_reducible assumption) | assumption)) (by have h_ : (x4_1 : Int) < ((x3_1.length : Int) : Int) := of_decide_eq_true (by first | (with_reducible assumption) | assumption); first | exact h_ | (have e_ := (Kd.S_reads' HO_3.out).1; omega) | simpa using h_); obtain ⟨ve12_1, rfl, ge12_1⟩ := k101_openM hM12; have HP12 := Kd.S_seg hH12 (of_decide_eq_true (by first | (with_reducible assumption) | assumption)) (by have h_ : (x4_1 : Int) < ((x3_1.length : Int) : Int) := of_decide_eq_true (by first | (with_reducible assumption) | assumption); first | exact h_ | (have e_ := (Kd.S_reads' HO_3.out).1; omega) | simpa using h_) (seg := [.int .i64 t144, (.slice Ax146 t145.length cx146 : Value)]) (j := 0) (show 2 ≤ 2 from by decide) (x' := (⟨t144, t145⟩ : S101)) (k101_mkM _ _ _ (⟨t144, t145⟩ : S101) (Kd.R_mono (Kd.R_tight rfl (Kd.R_mono (ok' := fun k_ => ((fun _ => True)) k_ ∧ k_ ≠ go10) (Kd.R_apart' (HO147.out) (Kd.S_typed HO_3.out) (by decide)) (fun k_ hk => ⟨trivial, fun e_ => (hk.2) (by rw [e_]; rfl)⟩))) (fun _ h_ => Or.inr (h_)))) (fun _ hk => hk) (fun k_ hk_ => ((Kd.R_mono (ok' := fun k_ => ((fun _ => True)) k_ ∧ k_ ≠ go10) (Kd.R_apart' (HO147.out) (Kd.S_typed HO_3.out) (by decide)) (fun k_ hk => ⟨trivial, fun e_ => (hk.2) (by rw [e_]; rfl)⟩))).1 k_ hk_.symm); have hx12_0 := hcc12 0 _ rfl; (try simp only [show (k101).sz = 2 from rfl, Nat.mul_one, Nat.add_zero] at hx12_0); have hf12_0 := hfr12 0; (try simp only [show (k101).sz = 2 from rfl, Nat.mul_one, Nat.add_zero] at hf12_0); have hx12_1 := hcc12 1 _ rfl; (try simp only [show (k101).sz = 2 from rfl, Nat.mul_one, Nat.add_zero] at hx12_1); have hf12_1 := hfr12 1; (try simp only [show (k101).sz = 2 from rfl, Nat.mul_one, Nat.add_zero] at hf12_1); clear hcl12 hcc12 hfr12 hM12 hoki12 hH12) | ((with_reducible refine gate_store (t := 101) (p := 21) rfl ?_); refine store_event (t := 101) (p := 21) (v := ?vo_w13) (w1 := ((w11.setCell ⟨go10, (x4_1 : Int).toNat * 2, none⟩ (.int .i64 t144)).setCell ⟨go10, (x4_1 : Int).toNat * 2 + 1, none⟩ ((.slice Ax146 t145.length cx146 : Value)))) ?hg ?ho ?hn ?hr ?_; (case ho => rfl); (case hg => rfl); (case hn => rfl); (case hr => first | (go_simp; done) | (go_simp; rfl)); intro w13 hw; have hg : w11.grownBy w13 (some go10) := (by rw [hw]; exact HP12.2); have hp_ : Kd.S k101 101 w13 w.heap.size (fun _ => True) (.slice (some ⟨go10, 0, none⟩) x3_1.length co10) y148 := (by rw [hw, Ny148.out]; exact HP12.1); clear HP12; have n0_ := Aside0.mk (hp_); have n1_ := Aside0.mk ((by rw [hw]; exact below_set (below_set (HB.out) GB10.out) GB10.out : Below w.heap.size w w13)); clear HO_3; clear HB; clear HO147; have HO_3 := n0_; have HB := n1_; clear n0_ n1_; clear hg hw hp_))
        go_roundg k1
        case measure => have := HK1.out; omega
        case rel => exact ⟨(y148), (wrap64 (x4_1 + 1)), (by first | rfl | (simp; done) | (simp [*]; done)), H', ⟨by have := HK1.out; omega⟩, ⟨by (with_reducible repeat (first | apply Kd.S_alloc | apply Kd.S_drewN | apply Kd.S_drew)); exact HO_3.out⟩, ⟨by repeat (first | (with_reducible first | exact HB.out | apply below_alloc | apply pw_below_drewN | apply below_drew1) | exact HB.out)⟩⟩
       ·rw [if_neg c9] at H
        exact absurd H (by simp)
      ·rw [if_neg c7] at H
       exact absurd H (by simp)
     ·rw [if_neg c6] at H
      have c6b0 : decide (x4_1 < (l0.length : Int)) = false := decide_eq_false c6;clear c6;obtain rfl := Option.some.inj H
      go_wp2
      go_ret;exact ⟨_, by first | rfl | (simp <;> rfl) | (simp [*] <;> rfl), by (with_reducible repeat (first | apply Kd.S_alloc | apply Kd.S_drewN | apply Kd.S_drew)); exact HO_3.out, by repeat (first | (with_reducible first | exact HB.out | apply below_alloc | apply pw_below_drewN | apply below_drew1) | exact HB.out)⟩
  ·rw [if_neg c3] at H
   exact absurd H (by simp)
 ·rw [if_neg c2] at H
  exact absurd H (by simp)

/-! ### laws_toNear: function 20 -/
def laws_toNear.f (k : Nat) (l0_0 : List (S135)) (l0_1 : List (S133)) : Option ((List (S99)) × (List (S101))) := (laws_toNearEntryS.f k l0_0).bind fun t152 => ((laws_toNearHeldS.f k l0_1).bind fun t155 => (some (t152, t155)))
theorem laws_toNear.mono : ∀ a0 a1 k, LeO (laws_toNear.f k a0 a1) (laws_toNear.f (k + 1) a0 a1) := by
 intro a0 a1 k
 unfold laws_toNear.f
 repeat' first
   | (with_reducible exact laws_toNearEntryS.mono _ _)
   | (with_reducible exact laws_toNearHeldS.mono _ _)
   | (with_reducible exact LeO.refl _)
   | (with_reducible exact LeO.none _)
   | (with_reducible refine LeO.ite ?_ ?_)
   | (with_reducible refine LeO.bind ?_ (fun _ => ?_))
   | exact laws_toNearEntryS.mono _ _
   | exact laws_toNearHeldS.mono _ _
   | exact LeO.none _
   | refine LeO.ite ?_ ?_
   | refine LeO.bind ?_ (fun _ => ?_)
set_option maxHeartbeats 8000000 in
set_option maxRecDepth 100000 in
theorem laws_toNear.calls (k : Nat) (A0_0 : Option Addr) (c0_0 : Nat) (l0_0 : List (S135)) (A0_1 : Option Addr) (c0_1 : Nat) (l0_1 : List (S133)) (r1 : List (S99)) (r2 : List (S101)) (w : World) (hr0_0 : Kd.C k135 w A0_0 l0_0.length l0_0) (hc0_0 : l0_0.length ≤ c0_0) (hr0_1 : Kd.C k133 w A0_1 l0_1.length l0_1) (hc0_1 : l0_1.length ≤ c0_1) (h : laws_toNear.f k l0_0 l0_1 = some (r1, r2)) :
  Calls Try.prog 20 #[.agg #[.slice A0_0 l0_0.length c0_0, .slice A0_1 l0_1.length c0_1]] w fun e w' => ∃ v0_ v1_ : Value, e = .returned (.agg #[v0_, v1_]) ∧ Kd.R k99 99 w' w.heap.size (fun _ => True) v0_ r1 ∧ Kd.S k101 101 w' w.heap.size (fun _ => True) v1_ r2 ∧ Below w.heap.size w w' := by
 have hu36 := Try.underlying36;have hu42 := Try.underlying42;have HR0_0 := Aside0.mk hr0_0;have HC0_0 := Aside0.mk hc0_0;clear hr0_0 hc0_0;have HR0_1 := Aside0.mk hr0_1;have HC0_1 := Aside0.mk hc0_1;clear hr0_1 hc0_1;have HB := Aside0.mk (Below.refl w.heap.size w);have H : ((laws_toNearEntryS.f k l0_0).bind fun t152 => ((laws_toNearHeldS.f k l0_1).bind fun t155 => (some (t152, t155)))) = some (r1, r2) := h;clear h;replace H := ze H;obtain ⟨t152, A20, H⟩ := H;replace H : ((laws_toNearHeldS.f k l0_1).bind fun t155 => (some (t152, t155))) = some (r1, r2) := H;have A2 := Aside0.mk A20;clear A20;replace H := ze H;obtain ⟨t155, A30, H⟩ := H;replace H : (some (t152, t155)) = some (r1, r2) := H;have A3 := Aside0.mk A30;clear A30;simp only [Option.some.injEq, Prod.mk.injEq] at H;obtain ⟨rfl, rfl⟩ := H
 go_enter Try.func20, Try.ntmps20
 go_wp2_with (first | ((with_reducible refine gate_dst (N := 1) rfl ?_); refine box_event ?hg (N := 1) ?hd (cs := #[.slice A0_0 l0_0.length c0_0, .slice A0_1 l0_1.length c0_1]) (t := 36) ?hr ?_; (case hd => rfl); (case hg => rfl); (case hr => first | (go_simp; done) | (go_simp; rfl)); intro gb149 hg w4 hbox hb; have n0_ := Aside0.mk (below_step (by repeat (first | (with_reducible first | exact HB.out | apply below_alloc | apply pw_below_drewN | apply below_drew1) | exact HB.out)) hb); have n1_ := Aside0.mk (hbox); have n2_ := Aside0.mk ((by rw [hg]; exact (below_size (by repeat (first | (with_reducible first | exact HB.out | apply below_alloc | apply pw_below_drewN | apply below_drew1) | exact HB.out))) : w.heap.size ≤ gb149)); have n3_ := n2_; clear HB; have HB := n0_; have BK149 := n1_; have GW149 := n2_; have GE149 := n3_; clear n0_ n1_ n2_ n3_; clear hb hbox hg) | ((with_reducible refine gate_dst (N := 2) rfl ?_); refine box_event ?hg (N := 2) ?hd (cs := #[.slice none 0 0, .slice none 0 0]) (t := 42) ?hr ?_; (case hd => rfl); (case hg => rfl); (case hr => first | (go_simp; done) | (go_simp; rfl)); intro gb150 hg w5 hbox hb; have n0_ := Aside0.mk (blk_below (g := gb149) (o := .cells #[.slice A0_0 l0_0.length c0_0, .slice A0_1 l0_1.length c0_1] 36 (0, 0)) (by (with_reducible repeat (first | apply blk_drewN | apply blk_drew | apply blk_alloc)); exact BK149.out) hb); have n1_ := Aside0.mk (below_step (by repeat (first | (with_reducible first | exact HB.out | apply below_alloc | apply pw_below_drewN | apply below_drew1 | refine below_set ?_ GE149.out) | exact HB.out)) hb); have n2_ := Aside0.mk (hbox); have n3_ := Aside0.mk ((by rw [hg]; exact (below_size (by repeat (first | (with_reducible first | exact HB.out | apply below_alloc | apply pw_below_drewN | apply below_drew1 | refine below_set ?_ GE149.out) | exact HB.out))) : w.heap.size ≤ gb150)); have n4_ := n3_; have n5_ := Aside0.mk ((by rw [hg]; exact Nat.ne_of_lt (blk_lt (g := gb149) (o := .cells #[.slice A0_0 l0_0.length c0_0, .slice A0_1 l0_1.length c0_1] 36 (0, 0)) (by (with_reducible repeat (first | apply blk_drewN | apply blk_drew | apply blk_alloc)); exact BK149.out)) : gb149 ≠ gb150)); have n6_ := Aside0.mk ((by rw [hg]; exact Nat.ne_of_gt (blk_lt (g := gb149) (o := .cells #[.slice A0_0 l0_0.length c0_0, .slice A0_1 l0_1.length c0_1] 36 (0, 0)) (by (with_reducible repeat (first | apply blk_drewN | apply blk_drew | apply blk_alloc)); exact BK149.out)) : gb150 ≠ gb149)); clear BK149; clear HB; have BK149 := n0_; have HB := n1_; have BK150 := n2_; have GW150 := n3_; have GE150 := n4_; have NB149_150 := n5_; have NB150_149 := n6_; clear n0_ n1_ n2_ n3_ n4_ n5_ n6_; clear hb hbox hg) | ((with_reducible refine gate_dst (N := 3) rfl ?_); refine box_event ?hg (N := 3) ?hd (cs := #[.slice none 0 0, .slice none 0 0]) (t := 42) ?hr ?_; (case hd => rfl); (case hg => rfl); (case hr => first | (go_simp; done) | (go_simp; rfl)); intro gb151 hg w6 hbox hb; have n0_ := Aside0.mk (blk_below (g := gb149) (o := .cells #[.slice A0_0 l0_0.length c0_0, .slice A0_1 l0_1.length c0_1] 36 (0, 0)) (by (with_reducible repeat (first | apply blk_drewN | apply blk_drew | apply blk_alloc)); exact BK149.out) hb); have n1_ := Aside0.mk (blk_below (g := gb150) (o := .cells #[.slice none 0 0, .slice none 0 0] 42 (0, 0)) (by (with_reducible repeat (first | apply blk_drewN | apply blk_drew | apply blk_alloc)); exact BK150.out) hb); have n2_ := Aside0.mk (below_step (by repeat (first | (with_reducible first | exact HB.out | apply below_alloc | apply pw_below_drewN | apply below_drew1 | refine below_set ?_ GE149.out | refine below_set ?_ GE150.out) | exact HB.out)) hb); have n3_ := Aside0.mk (hbox); have n4_ := Aside0.mk ((by rw [hg]; exact (below_size (by repeat (first | (with_reducible first | exact HB.out | apply below_alloc | apply pw_below_drewN | apply below_drew1 | refine below_set ?_ GE149.out | refine below_set ?_ GE150.out) | exact HB.out))) : w.heap.size ≤ gb151)); have n5_ := n4_; have n6_ := Aside0.mk ((by rw [hg]; exact Nat.ne_of_lt (blk_lt (g := gb149) (o := .cells #[.slice A0_0 l0_0.length c0_0, .slice A0_1 l0_1.length c0_1] 36 (0, 0)) (by (with_reducible repeat (first | apply blk_drewN | apply blk_drew | apply blk_alloc)); exact BK149.out)) : gb149 ≠ gb151)); have n7_ := Aside0.mk ((by rw [hg]; exact Nat.ne_of_gt (blk_lt (g := gb149) (o := .cells #[.slice A0_0 l0_0.length c0_0, .slice A0_1 l0_1.length c0_1] 36 (0, 0)) (by (with_reducible repeat (first | apply blk_drewN | apply blk_drew | apply blk_alloc)); exact BK149.out)) : gb151 ≠ gb149)); have n8_ := Aside0.mk ((by rw [hg]; exact Nat.ne_of_lt (blk_lt (g := gb150) (o := .cells #[.slice none 0 0, .slice none 0 0] 42 (0, 0)) (by (with_reducible repeat (first | apply blk_drewN | apply blk_drew | apply blk_alloc)); exact BK150.out)) : gb150 ≠ gb151)); have n9_ := Aside0.mk ((by rw [hg]; exact Nat.ne_of_gt (blk_lt (g := gb150) (o := .cells #[.slice none 0 0, .slice none 0 0] 42 (0, 0)) (by (with_reducible repeat (first | apply blk_drewN | apply blk_drew | apply blk_alloc)); exact BK150.out)) : gb151 ≠ gb150)); clear BK149; clear BK150; clear HB; have BK149 := n0_; have BK150 := n1_; have HB := n2_; have BK151 := n3_; have GW151 := n4_; have GE151 := n5_; have NB149_151 := n6_; have NB151_149 := n7_; have NB150_151 := n8_; have NB151_150 := n9_; clear n0_ n1_ n2_ n3_ n4_ n5_ n6_ n7_ n8_ n9_; clear hb hbox hg; have hnb7 := NB149_150.out; have hnc7 := NB150_149.out; have hnb8 := NB149_151.out; have hnc8 := NB151_149.out; obtain ⟨hcz9_0, hcz9_1, hfz9_0, hfz9_1⟩ := zc2 BK149.out) | ((with_reducible refine gate_callee (f := 68) rfl ?_); refine goesL_ (some 6) rfl rfl Try.func68 (by kernel_rfl) rfl #[.slice A0_0 l0_0.length c0_0] rfl (by (try simp only [zm]); first | done | rfl | (simp only [zl]; rfl)) ?_; (with_reducible refine (laws_toNearEntryS.calls k _ _ l0_0 t152 _ ?side1 ?side2 A2.out).mono ?_); (case side1 => repeat (first | exact (Kd.C_below HR0_0.out HB.out) | (with_reducible first | refine Kd.C_alloc ?_ _ | refine Kd.C_drewN ?_ _ | refine Kd.C_drew ?_))); (case side2 => exact HC0_0.out); rintro e w10 ⟨v153, rfl, ho0, hb⟩; refine ⟨_, rfl, ?_⟩; have n0_ := Aside0.mk (Kd.R_lower ho0 (below_size (by repeat (first | (with_reducible first | exact HB.out | apply below_alloc | apply pw_below_drewN | apply below_drew1 | refine below_set ?_ GE149.out | refine below_set ?_ GE150.out | refine below_set ?_ GE151.out) | exact HB.out)))); have n1_ := Aside0.mk (blk_below (g := gb149) (o := .cells #[.slice A0_0 l0_0.length c0_0, .slice A0_1 l0_1.length c0_1] 36 (0, 0)) (by (with_reducible repeat (first | apply blk_drewN | apply blk_drew | apply blk_alloc)); exact BK149.out) hb); have n2_ := Aside0.mk (blk_below (g := gb150) (o := .cells #[.slice none 0 0, .slice none 0 0] 42 (0, 0)) (by (with_reducible repeat (first | apply blk_drewN | apply blk_drew | apply blk_alloc)); exact BK150.out) hb); have n3_ := Aside0.mk (blk_below (g := gb151) (o := .cells #[.slice none 0 0, .slice none 0 0] 42 (0, 0)) (by (with_reducible repeat (first | apply blk_drewN | apply blk_drew | apply blk_alloc)); exact BK151.out) hb); have n4_ := Aside0.mk (below_step (by repeat (first | (with_reducible first | exact HB.out | apply below_alloc | apply pw_below_drewN | apply below_drew1 | refine below_set ?_ GE149.out | refine below_set ?_ GE150.out | refine below_set ?_ GE151.out) | exact HB.out)) hb); clear BK149; clear BK150; clear BK151; clear HB; have HO154 := n0_; have BK149 := n1_; have BK150 := n2_; have BK151 := n3_; have HB := n4_; clear n0_ n1_ n2_ n3_ n4_; (try clear hb); (try clear hb2); (try clear hk); (try clear hi); (try clear ho0); obtain ⟨Ao11, co11, eo11⟩ := Kd.R_slice HO154.out; subst eo11; have hnb12 := NB151_150.out; have hnc12 := NB150_151.out; obtain ⟨hcz13_0, hcz13_1, hfz13_0, hfz13_1⟩ := zc2 BK151.out; obtain ⟨hcz14_0, hcz14_1, hfz14_0, hfz14_1⟩ := zc2 BK149.out) | ((with_reducible refine gate_callee (f := 69) rfl ?_); refine goesL_ (some 10) rfl rfl Try.func69 (by kernel_rfl) rfl #[.slice A0_1 l0_1.length c0_1] rfl (by (try simp only [zm]); first | done | rfl | (simp only [zl]; rfl)) ?_; (with_reducible refine (laws_toNearHeldS.calls k _ _ l0_1 t155 _ ?side1 ?side2 A3.out).mono ?_); (case side1 => exact Kd.C_below HR0_1.out (by repeat (first | (with_reducible first | exact HB.out | apply below_alloc | apply pw_below_drewN | apply below_drew1 | refine below_set ?_ GE149.out | refine below_set ?_ GE150.out | refine below_set ?_ GE151.out) | exact HB.out))); (case side2 => exact HC0_1.out); rintro e w15 ⟨v156, rfl, ho0, hb⟩; refine ⟨_, rfl, ?_⟩; have n0_ := Aside0.mk (Kd.R_below (by (with_reducible repeat (first | apply Kd.R_alloc | apply Kd.R_drewN | apply Kd.R_drew)); exact (Kd.R_mono (Kd.R_far (p := ⟨gb151, 0, none⟩) (Kd.R_types HO154.out BK151.out (by decide)) (fun _ hk => hk.2) (.slice Ao11 t152.length co11)) (fun _ h_ => h_.1))) hb); have n1_ := Aside0.mk (Kd.S_lower ho0 (below_size (by repeat (first | (with_reducible first | exact HB.out | apply below_alloc | apply pw_below_drewN | apply below_drew1 | refine below_set ?_ GE149.out | refine below_set ?_ GE150.out | refine below_set ?_ GE151.out) | exact HB.out)))); have n2_ := Aside0.mk (blk_below (g := gb149) (o := .cells #[.slice A0_0 l0_0.length c0_0, .slice A0_1 l0_1.length c0_1] 36 (0, 0)) (by (with_reducible repeat (first | apply blk_drewN | apply blk_drew | apply blk_alloc)); refine blk_far ?_ NB149_151.out _; (with_reducible repeat (first | apply blk_drewN | apply blk_drew | apply blk_alloc)); exact BK149.out) hb); have n3_ := Aside0.mk (blk_below (g := gb150) (o := .cells #[.slice none 0 0, .slice none 0 0] 42 (0, 0)) (by (with_reducible repeat (first | apply blk_drewN | apply blk_drew | apply blk_alloc)); refine blk_far ?_ NB150_151.out _; (with_reducible repeat (first | apply blk_drewN | apply blk_drew | apply blk_alloc)); exact BK150.out) hb); have n4_ := Aside0.mk (blk_below (g := gb151) (o := .cells #[.slice Ao11 t152.length co11, .slice none 0 0] 42 (0, 0)) (by (with_reducible repeat (first | apply blk_drewN | apply blk_drew | apply blk_alloc)); refine blk_put (cs := #[.slice none 0 0, .slice none 0 0]) ?_ 0 _ rfl; (with_reducible repeat (first | apply blk_drewN | apply blk_drew | apply blk_alloc)); exact BK151.out) hb); have n5_ := Aside0.mk (below_step (by repeat (first | (with_reducible first | exact HB.out | apply below_alloc | apply pw_below_drewN | apply below_drew1 | refine below_set ?_ GE149.out | refine below_set ?_ GE150.out | refine below_set ?_ GE151.out) | exact HB.out)) hb); clear HO154; clear BK149; clear BK150; clear BK151; clear HB; have HO154 := n0_; have HO157 := n1_; have BK149 := n2_; have BK150 := n3_; have BK151 := n4_; have HB := n5_; clear n0_ n1_ n2_ n3_ n4_ n5_; (try clear hb); (try clear hb2); (try clear hk); (try clear hi); (try clear ho0); obtain ⟨Ao16, co16, eo16⟩ := Kd.S_slice HO157.out; subst eo16; obtain ⟨hcz17_0, hcz17_1, hfz17_0, hfz17_1⟩ := zc2 BK151.out; obtain ⟨hcz18_0, hcz18_1, hfz18_0, hfz18_1⟩ := zc2 BK150.out))
 refine bodyPost_ret (results_cell_row rfl _ _ gb150 42 #[.slice Ao11 t152.length co11, .slice Ao16 t155.length co16] (0, 0) _ rfl (by (with_reducible repeat (first | apply blk_drewN | apply blk_drew | apply blk_alloc)); refine blk_put (cs := #[.slice Ao11 t152.length co11, .slice none 0 0]) ?_ 1 _ rfl; refine blk_put (cs := #[.slice none 0 0, .slice none 0 0]) ?_ 0 _ rfl; refine blk_far ?_ NB150_151.out _; (with_reducible repeat (first | apply blk_drewN | apply blk_drew | apply blk_alloc)); exact BK150.out) Try.underlying42 rfl (by kernel_rfl)) rfl ?_;exact ⟨_, _, by first | rfl | (simp <;> rfl) | (simp [*] <;> rfl), by (with_reducible repeat (first | apply Kd.R_alloc | apply Kd.R_drewN | apply Kd.R_drew)); exact Kd.R_mono (Kd.R_far (p := ⟨gb150, 1, none⟩) (Kd.R_far (p := ⟨gb150, 0, none⟩) (Kd.R_far (p := ⟨gb151, 1, none⟩) (Kd.R_types (Kd.R_types HO154.out BK151.out (by decide)) BK150.out (by decide)) (fun _ hk => hk.1.2) (.slice Ao16 t155.length co16)) (fun _ hk => hk.2) (.slice Ao11 t152.length co11)) (fun _ hk => hk.2) (.slice Ao16 t155.length co16)) (fun _ hk => trivial), by (with_reducible repeat (first | apply Kd.S_alloc | apply Kd.S_drewN | apply Kd.S_drew)); exact Kd.S_mono (Kd.S_far (p := ⟨gb150, 1, none⟩) (Kd.S_far (p := ⟨gb150, 0, none⟩) (Kd.S_far (p := ⟨gb151, 1, none⟩) (Kd.S_types (Kd.S_types HO157.out BK151.out (by decide)) BK150.out (by decide)) (fun _ hk => hk.1.2) (.slice Ao16 t155.length co16)) (fun _ hk => hk.2) (.slice Ao11 t152.length co11)) (fun _ hk => hk.2) (.slice Ao16 t155.length co16)) (fun _ hk => trivial), by repeat (first | (with_reducible first | exact HB.out | apply below_alloc | apply pw_below_drewN | apply below_drew1 | refine below_set ?_ GE149.out | refine below_set ?_ GE150.out | refine below_set ?_ GE151.out) | exact HB.out)⟩

/-! ### impl_in: function 64 -/
def impl_in.f (a0 : Int) (a1 : Int) (a2 : Int) : Option (Bool) := if a0 ≥ a1 then (some (decide (a0 ≤ a2))) else (some false)
set_option maxHeartbeats 8000000 in
set_option maxRecDepth 100000 in
theorem impl_in.calls (a0 : Int) (a1 : Int) (a2 : Int) (r : Bool) (w : World) (h : impl_in.f a0 a1 a2 = some r) :
  Calls Try.prog 64 #[.int .i64 a0, .int .i64 a1, .int .i64 a2] w fun e w' => e = .returned (.bool r) ∧ Drawn0 w w' := by
 have H : (if a0 ≥ a1 then (some (decide (a0 ≤ a2))) else (some false)) = some r := h;clear h
 by_cases c4 : a0 ≥ a1
 ·rw [if_pos c4] at H
  have c4b0 : decide (a1 ≤ a0) = true := decide_eq_true c4;clear c4;obtain rfl := Option.some.inj H
  go_enter Try.func64, Try.ntmps64
  go_wp2
  go_ret;exact ⟨by first | rfl | (simp; done) | (simp [*]; done), by repeat (first | exact Drawn0.refl _ | apply Drawn0.step)⟩
 ·rw [if_neg c4] at H
  have c4b0 : decide (a1 ≤ a0) = false := decide_eq_false c4;clear c4;obtain rfl := Option.some.inj H
  go_enter Try.func64, Try.ntmps64
  go_wp2
  go_ret;exact ⟨by first | rfl | (simp; done) | (simp [*]; done), by repeat (first | exact Drawn0.refl _ | apply Drawn0.step)⟩

/-! ### impl_word: function 70 -/
def impl_word.f (a0 : Int) : Option (Bool) := (impl_in.f a0 0 65535).bind fun t158 => (some t158)
set_option maxHeartbeats 8000000 in
set_option maxRecDepth 100000 in
theorem impl_word.calls (a0 : Int) (r : Bool) (w : World) (h : impl_word.f a0 = some r) :
  Calls Try.prog 70 #[.int .i64 a0] w fun e w' => e = .returned (.bool r) ∧ Drawn0 w w' := by
 have H : ((impl_in.f a0 0 65535).bind fun t158 => (some t158)) = some r := h;clear h;replace H := ze H;obtain ⟨t158, A20, H⟩ := H;replace H : (some t158) = some r := H;have A2 := Aside0.mk A20;clear A20;obtain rfl := Option.some.inj H
 go_enter Try.func70, Try.ntmps70
 go_wp2_with (first | ((with_reducible refine gate_callee (f := 64) rfl ?_); refine goesL_ (some 4) rfl rfl Try.func64 (by kernel_rfl) rfl #[.int .i64 a0, .int .i64 0, .int .i64 65535] rfl (by (try simp only [zm]); first | done | rfl | (simp only [zl]; rfl)) ?_; (with_reducible refine (impl_in.calls a0 0 65535 t158 _ A2.out).mono ?_); rintro e w' ⟨rfl, ⟨nd, rfl⟩⟩; refine ⟨_, rfl, ?_⟩))
 go_ret;exact ⟨by first | rfl | (simp; done) | (simp [*]; done), by repeat (first | exact Drawn0.refl _ | apply Drawn0.step)⟩

-- NOT PRINTED: function 113 (impl_NearEntry)

/-! ### impl_Near_at: function 71 -/
/-- The first place of a list at which something holds; -1 if there is none. -/
def nearIdx (p : S99 → Bool) (xs : List (S99)) : Int := match xs.findIdx? p with | some i => (i : Int) | none => -1
theorem nearRd (xs : List (S99)) (i : Nat) (h : i < xs.length) : rd_T99 xs (i : Int) = xs[i] := by
 unfold rd_T99; simp [List.getD_eq_getElem?_getD, List.getElem?_eq_getElem h]
theorem nearIdx_hit (p : S99 → Bool) (xs : List (S99)) (k : Nat) (hk : k < xs.length) (hp : p (rd_T99 xs (k : Int)) = true) (no : ∀ j : Nat, j < k → p (rd_T99 xs (j : Int)) = false) : nearIdx p xs = (k : Int) := by
 have e : xs.findIdx? p = some k := by
  rw [List.findIdx?_eq_some_iff_getElem]
  refine ⟨hk, by rw [← nearRd xs k hk]; exact hp, fun j hj => ?_⟩;have := no j hj
  rw [nearRd xs j (by omega)] at this
  simp [this]
 unfold nearIdx; rw [e]
theorem nearIdx_miss (p : S99 → Bool) (xs : List (S99)) (no : ∀ j : Nat, j < xs.length → p (rd_T99 xs (j : Int)) = false) : nearIdx p xs = -1 := by
 have e : xs.findIdx? p = none := by
  rw [List.findIdx?_eq_none_iff]
  intro x hx;obtain ⟨j, hj, rfl⟩ := List.getElem_of_mem hx
  rw [← nearRd xs j hj]
  exact no j hj
 unfold nearIdx; rw [e]
set_option maxHeartbeats 1000000 in
/-- The closure of the search. -/
theorem nearEq.calls (x0 x1 x2 a : Int) (gb : Nat) (w : World) (hbx : w.cell? ⟨gb, 0, none⟩ = some (.int .i64 a)) :
  Calls Try.prog 114 #[.agg #[.int .i64 x0, .int .i64 x1, .int .i64 x2], .pointer (some ⟨gb, 0, none⟩)] w fun e w' => e = .returned (.bool (x0 == a)) ∧ Below w.heap.size w w' := by
 have hs := World.block_lt_of_cell? w _ hbx;have HB := Aside0.mk (Below.refl w.heap.size w);have HX := Aside0.mk hbx;clear hbx
 go_enter Try.func114, Try.ntmps114
 go_wp2_with (first | ((with_reducible refine gate_dst (N := 2) rfl ?_); refine box_event ?hg (N := 2) ?hd (cs := #[.int .i64 x0, .int .i64 x1, .int .i64 x2]) (t := 99) ?hr ?_; (case hd => rfl); (case hg => rfl); (case hr => first | (go_simp; done) | (go_simp; rfl)); intro ge hg w1 hbox hb; have hx := (hb.cell (p := ⟨gb, 0, none⟩) hs).trans HX.out; have h0 : w1.cell? ⟨ge, 0, none⟩ = some (.int .i64 x0) := (blk_cell hbox 0).trans rfl; have HB1 := Aside0.mk (below_step HB.out hb); clear HB; clear hb hbox hg))
 go_ret;exact ⟨rfl, HB1.out⟩
set_option maxHeartbeats 1000000 in
/-- slices.IndexFunc over the entries. -/
theorem nearIdx.calls (a : Int) (gb : Nat) (A : Option Addr) (c : Nat) (xs : List (S99)) (w : World) (hr : Kd.C k99 w A xs.length xs) (hbig : xs.length ≤ 9223372036854775807) (hbx : w.cell? ⟨gb, 0, none⟩ = some (.int .i64 a)) :
  Calls Try.prog 113 #[.slice A xs.length c, .func (.func 114) #[] #[.pointer (some ⟨gb, 0, none⟩)]] w fun e w' => e = .returned (.int .i64 (nearIdx (fun x => x.f0 == a) xs)) ∧ Below w.heap.size w w' := by
 have hs := World.block_lt_of_cell? w _ hbx;have HX := Aside0.mk hbx;have HR := Aside0.mk hr;clear hr hbx
 go_enter Try.func113, Try.ntmps113
 go_wp2
 go_loopg [5, 8] xs.length (fun gg _ s8 wr => ∃ kk : Nat, kk ≤ xs.length ∧ xs.length - kk ≤ gg ∧ s8 = .int .i64 kk ∧ Aside (Below w.heap.size w wr) ∧ Aside (∀ j : Nat, j < kk → ((rd_T99 xs (j : Int)).f0 == a) = false))
 case atStart => exact ⟨0, Nat.zero_le _, by omega, rfl, Below.refl _ w, fun j hj => absurd hj (Nat.not_lt_zero _)⟩
 case round =>
  obtain ⟨kk, hkk, hg, rfl, BW, NO⟩ := hrel
  by_cases hlt : kk < xs.length
  ·have hltz : (kk : Int) < (xs.length : Int) := by omega
   have h0z : (0 : Int) ≤ (kk : Int) := by omega
   obtain ⟨ad, eA, hx0, hx1, hx2⟩ := at_T99 HR.out (kk : Int) h0z hltz
   subst eA
   replace hx0 := (BW.out.cell (World.block_lt_of_cell? w _ hx0)).trans hx0;replace hx1 := (BW.out.cell (World.block_lt_of_cell? w _ hx1)).trans hx1;replace hx2 := (BW.out.cell (World.block_lt_of_cell? w _ hx2)).trans hx2;simp only [Int.toNat_natCast] at hx0 hx1 hx2;have HC := Aside0.mk (nearEq.calls (rd_T99 xs (kk : Int)).f0 (rd_T99 xs (kk : Int)).f1 (rd_T99 xs (kk : Int)).f2 a gb wr ((BW.out.cell (p := ⟨gb, 0, none⟩) hs).trans HX.out))
   generalize hy : rd_T99 xs (kk : Int) = y at hx0 hx1 hx2 HC
   have B : Aside (rd_T99 xs (kk : Int) = y) := hy;clear hy
   cases hq : (y.f0 == a) with
   | true =>
    rw [hq] at HC
    go_wp2_with (go_at_call 114; refine HC.out.mono ?_; rintro e w' ⟨rfl, hb'⟩)
    go_ret;refine ⟨?_, below_step BW.out hb'⟩
    rw [nearIdx_hit _ xs kk hlt (by rw [B.out]; exact hq) NO.out]
    rfl
   | false =>
    rw [hq] at HC
    go_wp2_with (go_at_call 114; refine HC.out.mono ?_; rintro e w' ⟨rfl, hb'⟩)
    go_roundg (xs.length - (kk + 1))
    case measure => omega
    case rel =>
     refine ⟨kk + 1, by omega, by omega, by go_num, below_step BW.out hb', (show Aside _ from fun j hj => ?_)⟩
     by_cases e : j = kk
     ·subst e
      rw [B.out]; exact hq
     ·exact NO.out j (by omega)
  ·have hltz : ¬ (kk : Int) < (xs.length : Int) := by omega
   obtain rfl : kk = xs.length := by omega
   go_wp2
   go_ret;exact ⟨by rw [nearIdx_miss _ xs NO.out]; rfl, BW.out⟩
def impl_Near_at.f (l0_0 : List (S99)) (l0_1 : List (S101)) (a1 : Int) : Option (Int) := if l0_0.length ≤ 1099511627776 then some (nearIdx (fun x => x.f0 == a1) l0_0) else none
set_option maxHeartbeats 1000000 in
/-- The place of an address that is known. -/
theorem impl_Near_at.calls (A0_0 : Option Addr) (c0_0 : Nat) (l0_0 : List (S99)) (A0_1 : Option Addr) (c0_1 : Nat) (l0_1 : List (S101)) (a1 : Int) (r : Int) (w : World) (hr0_0 : Kd.C k99 w A0_0 l0_0.length l0_0) (hc0_0 : l0_0.length ≤ c0_0) (hr0_1 : Kd.C k101 w A0_1 l0_1.length l0_1) (hc0_1 : l0_1.length ≤ c0_1) (h : impl_Near_at.f l0_0 l0_1 a1 = some r) :
  Calls Try.prog 71 #[.agg #[.slice A0_0 l0_0.length c0_0, .slice A0_1 l0_1.length c0_1], .int .i64 a1] w fun e w' => e = .returned (.int .i64 r) ∧ Below w.heap.size w w' := by
 unfold impl_Near_at.f at h
 by_cases hb : l0_0.length ≤ 1099511627776
 ·rw [if_pos hb] at h
  obtain rfl := Option.some.inj h;clear h hc0_0 hr0_1 hc0_1;have HR := Aside0.mk hr0_0;have HL := Aside0.mk (show l0_0.length ≤ 9223372036854775807 by omega);have HB := Aside0.mk (Below.refl w.heap.size w);clear hr0_0 hb
  go_enter Try.func71, Try.ntmps71
  go_wp2_with (first
   | ((with_reducible refine gate_dst (N := 2) rfl ?_); refine box_event ?hg (N := 2) ?hd (cs := #[.slice A0_0 l0_0.length c0_0, .slice A0_1 l0_1.length c0_1]) (t := 42) ?hr ?_; (case hd => rfl); (case hg => rfl); (case hr => first | (go_simp; done) | (go_simp; rfl)); intro ge hg w1 hbox hb; have h0 : w1.cell? ⟨ge, 0, none⟩ = some (.slice A0_0 l0_0.length c0_0) := (blk_cell hbox 0).trans rfl; have HB1 := Aside0.mk (below_step HB.out hb); clear HB; clear hb hbox hg)
   | ((with_reducible refine gate_dst (N := 3) rfl ?_); refine box_event ?hg (N := 3) ?hd (cs := #[.int .i64 a1]) (t := 3) ?hr ?_; (case hd => rfl); (case hg => rfl); (case hr => first | (go_simp; done) | (go_simp; rfl)); intro gb hg w2 hbox hb; have h1 : w2.cell? ⟨gb, 0, none⟩ = some (.int .i64 a1) := (blk_cell hbox 0).trans rfl; replace h0 := (hb.cell (p := ⟨ge, 0, none⟩) (World.block_lt_of_cell? _ _ h0)).trans h0; have HB2 := Aside0.mk (below_step HB1.out hb); clear HB1; clear hb hbox hg)
   | (go_at_call 113; refine (nearIdx.calls a1 gb A0_0 c0_0 l0_0 _ (Kd.C_below HR.out HB2.out) HL.out h1).mono ?_; rintro e w3 ⟨rfl, hb⟩; have HB3 := Aside0.mk (below_step HB2.out hb); clear HB2; clear hb))
  go_ret;exact ⟨rfl, HB3.out⟩
 ·rw [if_neg hb] at h; cases h

/-! ### impl_NearHeld_72: function 72 -/
/-- What is kept is too much. -/
def heldBadB (x : S101) : Bool := !(decide (0 ≤ x.f0 ∧ x.f0 ≤ 65535)) || decide (64 < (x.f1.length : Int))
/-- The first place of an element that is too much; -1 if there is none. -/
def heldIdx (xs : List (S101)) : Int := match xs.findIdx? heldBadB with | some i => (i : Int) | none => -1
theorem heldRd (xs : List (S101)) (i : Nat) (h : i < xs.length) : rd_T101 xs (i : Int) = xs[i] := by
 unfold rd_T101; simp [List.getD_eq_getElem?_getD, List.getElem?_eq_getElem h]
theorem heldIdx_hit (xs : List (S101)) (k : Nat) (hk : k < xs.length) (hp : heldBadB (rd_T101 xs (k : Int)) = true) (no : ∀ j : Nat, j < k → heldBadB (rd_T101 xs (j : Int)) = false) : heldIdx xs = (k : Int) := by
 have e : xs.findIdx? heldBadB = some k := by
  rw [List.findIdx?_eq_some_iff_getElem]
  refine ⟨hk, by rw [← heldRd xs k hk]; exact hp, fun j hj => ?_⟩;have := no j hj
  rw [heldRd xs j (by omega)] at this
  simp [this]
 unfold heldIdx; rw [e]
theorem heldIdx_miss (xs : List (S101)) (no : ∀ j : Nat, j < xs.length → heldBadB (rd_T101 xs (j : Int)) = false) : heldIdx xs = -1 := by
 have e : xs.findIdx? heldBadB = none := by
  rw [List.findIdx?_eq_none_iff]
  intro x hx;obtain ⟨j, hj, rfl⟩ := List.getElem_of_mem hx
  rw [← heldRd xs j hj]
  exact no j hj
 unfold heldIdx; rw [e]
theorem heldIdx_any (xs : List (S101)) : decide (heldIdx xs ≥ 0) = xs.any heldBadB := by
 unfold heldIdx
 cases h : xs.findIdx? heldBadB with
 | none =>
  rw [List.findIdx?_eq_none_iff] at h
  rw [List.any_eq_false.2 (fun x hx => by rw [h x hx]; decide)]
  rfl
 | some i =>
  obtain ⟨hi, hp, _⟩ := List.findIdx?_eq_some_iff_getElem.1 h
  rw [List.any_eq_true.2 ⟨_, List.getElem_mem hi, hp⟩]
  exact decide_eq_true (by show (0 : Int) ≤ ((i : Nat) : Int); omega)
theorem heldWord (a : Int) : impl_word.f a = some (decide (0 ≤ a ∧ a ≤ 65535)) := by
 unfold impl_word.f impl_in.f
 by_cases h : a ≥ 0 <;> simp [h]
set_option maxHeartbeats 1000000 in
/-- The closure of the search. -/
theorem heldEq.calls (x : S101) (A : Option Addr) (c : Nat) (w : World) :
  Calls Try.prog 73 #[.agg #[.int .i64 x.f0, .slice A x.f1.length c]] w fun e w' => e = .returned (.bool (heldBadB x)) ∧ Below w.heap.size w w' := by
 have HB := Aside0.mk (Below.refl w.heap.size w)
 cases hw : decide (0 ≤ x.f0 ∧ x.f0 ≤ 65535) with
 | true =>
  have HW := Aside0.mk (impl_word.calls x.f0 true · ((heldWord x.f0).trans (by rw [hw])))
  have e : heldBadB x = decide (64 < (x.f1.length : Int)) := by unfold heldBadB; rw [hw]; rfl
  rw [e]
  clear hw e
  go_enter Try.func73, Try.ntmps73
  go_wp2_with (first
   | ((with_reducible refine gate_dst (N := 1) rfl ?_); refine box_event ?hg (N := 1) ?hd (cs := #[.int .i64 x.f0, .slice A x.f1.length c]) (t := 101) ?hr ?_; (case hd => rfl); (case hg => rfl); (case hr => first | (go_simp; done) | (go_simp; rfl)); intro ge hg w1 hbox hb; have h0 : w1.cell? ⟨ge, 0, none⟩ = some (.int .i64 x.f0) := (blk_cell hbox 0).trans rfl; have h1 : w1.cell? ⟨ge, 1, none⟩ = some (.slice A x.f1.length c) := (blk_cell hbox 1).trans rfl; have HB1 := Aside0.mk (below_step HB.out hb); clear HB; clear hb hbox hg)
   | (go_at_call 70; refine (HW.out _).mono ?_; rintro e w2 ⟨rfl, ⟨nd, rfl⟩⟩))
  go_ret;exact ⟨rfl, by repeat (first | exact HB1.out | apply pw_below_drewN)⟩
 | false =>
  have HW := Aside0.mk (impl_word.calls x.f0 false · ((heldWord x.f0).trans (by rw [hw])))
  have e : heldBadB x = true := by unfold heldBadB; rw [hw]; rfl
  rw [e]
  clear hw e
  go_enter Try.func73, Try.ntmps73
  go_wp2_with (first
   | ((with_reducible refine gate_dst (N := 1) rfl ?_); refine box_event ?hg (N := 1) ?hd (cs := #[.int .i64 x.f0, .slice A x.f1.length c]) (t := 101) ?hr ?_; (case hd => rfl); (case hg => rfl); (case hr => first | (go_simp; done) | (go_simp; rfl)); intro ge hg w1 hbox hb; have h0 : w1.cell? ⟨ge, 0, none⟩ = some (.int .i64 x.f0) := (blk_cell hbox 0).trans rfl; have h1 : w1.cell? ⟨ge, 1, none⟩ = some (.slice A x.f1.length c) := (blk_cell hbox 1).trans rfl; have HB1 := Aside0.mk (below_step HB.out hb); clear HB; clear hb hbox hg)
   | (go_at_call 70; refine (HW.out _).mono ?_; rintro e w2 ⟨rfl, ⟨nd, rfl⟩⟩))
  go_ret;exact ⟨rfl, by repeat (first | exact HB1.out | apply pw_below_drewN)⟩
set_option maxHeartbeats 1000000 in
/-- slices.IndexFunc over what is kept. -/
theorem heldIdx.calls (A : Option Addr) (c : Nat) (xs : List (S101)) (w : World) (hr : Kd.C k101 w A xs.length xs) (hbig : xs.length ≤ 9223372036854775807) :
  Calls Try.prog 115 #[.slice A xs.length c, .func (.func 73) #[] #[]] w fun e w' => e = .returned (.int .i64 (heldIdx xs)) ∧ Below w.heap.size w w' := by
 have HR := Aside0.mk hr;clear hr
 go_enter Try.func115, Try.ntmps115
 go_wp2
 go_loopg [5, 8] xs.length (fun gg _ s8 wr => ∃ kk : Nat, kk ≤ xs.length ∧ xs.length - kk ≤ gg ∧ s8 = .int .i64 kk ∧ Aside (Below w.heap.size w wr) ∧ Aside (∀ j : Nat, j < kk → heldBadB (rd_T101 xs (j : Int)) = false))
 case atStart => exact ⟨0, Nat.zero_le _, by omega, rfl, Below.refl _ w, fun j hj => absurd hj (Nat.not_lt_zero _)⟩
 case round =>
  obtain ⟨kk, hkk, hg, rfl, BW, NO⟩ := hrel
  by_cases hlt : kk < xs.length
  ·have hltz : (kk : Int) < (xs.length : Int) := by omega
   have h0z : (0 : Int) ≤ (kk : Int) := by omega
   obtain ⟨ad, A1, c1, eA, hx0, hx1, _, _⟩ := at_T101 HR.out (kk : Int) h0z hltz
   subst eA
   replace hx0 := (BW.out.cell (World.block_lt_of_cell? w _ hx0)).trans hx0;replace hx1 := (BW.out.cell (World.block_lt_of_cell? w _ hx1)).trans hx1;simp only [Int.toNat_natCast] at hx0 hx1;have HC := Aside0.mk (heldEq.calls (rd_T101 xs (kk : Int)) A1 c1 wr)
   generalize hy : rd_T101 xs (kk : Int) = y at hx0 hx1 HC
   have B : Aside (rd_T101 xs (kk : Int) = y) := hy;clear hy
   cases hq : heldBadB y with
   | true =>
    rw [hq] at HC
    go_wp2_with (go_at_call 73; refine HC.out.mono ?_; rintro e w' ⟨rfl, hb'⟩)
    go_ret;refine ⟨?_, below_step BW.out hb'⟩
    rw [heldIdx_hit xs kk hlt (by rw [B.out]; exact hq) NO.out]
    rfl
   | false =>
    rw [hq] at HC
    go_wp2_with (go_at_call 73; refine HC.out.mono ?_; rintro e w' ⟨rfl, hb'⟩)
    go_roundg (xs.length - (kk + 1))
    case measure => omega
    case rel =>
     refine ⟨kk + 1, by omega, by omega, by go_num, below_step BW.out hb', (show Aside _ from fun j hj => ?_)⟩
     by_cases e : j = kk
     ·subst e
      rw [B.out]; exact hq
     ·exact NO.out j (by omega)
  ·have hltz : ¬ (kk : Int) < (xs.length : Int) := by omega
   obtain rfl : kk = xs.length := by omega
   go_wp2
   go_ret;exact ⟨by rw [heldIdx_miss xs NO.out]; rfl, BW.out⟩
def impl_NearHeld_72.f (l0 : List (S101)) : Option (Bool) := if l0.length ≤ 1099511627776 then some (l0.any heldBadB) else none
set_option maxHeartbeats 1000000 in
/-- slices.ContainsFunc over what is kept. -/
theorem impl_NearHeld_72.calls (A0 : Option Addr) (c0 : Nat) (l0 : List (S101)) (r : Bool) (w : World) (hr0 : Kd.C k101 w A0 l0.length l0) (hc0 : l0.length ≤ c0) (h : impl_NearHeld_72.f l0 = some r) :
  Calls Try.prog 72 #[.slice A0 l0.length c0, .func (.func 73) #[] #[]] w fun e w' => e = .returned (.bool r) ∧ Below w.heap.size w w' := by
 unfold impl_NearHeld_72.f at h
 by_cases hb : l0.length ≤ 1099511627776
 ·rw [if_pos hb] at h
  obtain rfl := Option.some.inj h;clear h hc0;have HC := Aside0.mk (heldIdx.calls A0 c0 l0 w hr0 (by omega));clear hr0 hb
  rw [← heldIdx_any]
  generalize heldIdx l0 = q at HC
  go_enter Try.func72, Try.ntmps72
  go_wp2_with (go_at_call 115; refine HC.out.mono ?_; rintro e w' ⟨rfl, hb'⟩)
  go_ret;exact ⟨rfl, hb'⟩
 ·rw [if_neg hb] at h; cases h

/-! ### impl_NearOk: function 21 -/
def impl_NearOk.l0 : Nat → List (S99) → Int → Int → List (S99) → List (S101) → Option (Bool)
 | 0, _, _, _, _, _ => none
 | k + 1, x6, x7, x8, x160000, x160001 => if x8 < x7 then (if 0 ≤ x8 then (if x8 < (x6.length : Int) then ((impl_word.f ((rd_T99 x6 x8).f0)).bind fun t163 => (if t163 = true then ((impl_in.f ((rd_T99 x6 x8).f1) 0 254).bind fun t164 => (if t164 = true then ((impl_in.f ((rd_T99 x6 x8).f2) 0 1000000).bind fun t165 => (if t165 = true then ((impl_Near_at.f x160000 x160001 ((rd_T99 x6 x8).f0)).bind fun t166 => (if t166 < x8 then (some false) else (impl_NearOk.l0 k x6 x7 (wrap64 (x8 + 1)) x160000 x160001))) else (some false))) else (some false))) else (some false))) else (none)) else (none)) else (if (x160000.length : Int) ≤ 4 then (if (x160001.length : Int) ≤ 4 then ((impl_NearHeld_72.f x160001).bind fun t160 => (some (!t160))) else (some false)) else (some false))
def impl_NearOk.f (k : Nat) (l0_0 : List (S99)) (l0_1 : List (S101)) : Option (Bool) := impl_NearOk.l0 k l0_0 (l0_0.length : Int) 0 l0_0 l0_1
theorem impl_NearOk.mono_l : ∀ k, (∀ y0 y1 y2 y3 y4, LeO (impl_NearOk.l0 k y0 y1 y2 y3 y4) (impl_NearOk.l0 (k + 1) y0 y1 y2 y3 y4))
 | 0 => fun _ _ _ _ _ r h => by simp [impl_NearOk.l0] at h
 | k + 1 => by
  have ih0 := impl_NearOk.mono_l k
  ·intro y0 y1 y2 y3 y4
   unfold impl_NearOk.l0
   repeat' first
   | (with_reducible exact ih0 _ _ _ _ _)
   | (with_reducible exact LeO.refl _)
   | (with_reducible exact LeO.none _)
   | (with_reducible refine LeO.ite ?_ ?_)
   | (with_reducible refine LeO.bind ?_ (fun _ => ?_))
   | exact ih0 _ _ _ _ _
   | exact LeO.none _
   | refine LeO.ite ?_ ?_
   | refine LeO.bind ?_ (fun _ => ?_)
theorem impl_NearOk.mono : ∀ a0 a1 k, LeO (impl_NearOk.f k a0 a1) (impl_NearOk.f (k + 1) a0 a1) := by
 intro a0 a1 k;have ih0 := impl_NearOk.mono_l k
 unfold impl_NearOk.f
 repeat' first
   | (with_reducible exact ih0 _ _ _ _ _)
   | (with_reducible exact LeO.refl _)
   | (with_reducible exact LeO.none _)
   | (with_reducible refine LeO.ite ?_ ?_)
   | (with_reducible refine LeO.bind ?_ (fun _ => ?_))
   | exact ih0 _ _ _ _ _
   | exact LeO.none _
   | refine LeO.ite ?_ ?_
   | refine LeO.bind ?_ (fun _ => ?_)
set_option maxHeartbeats 8000000 in
set_option maxRecDepth 100000 in
theorem impl_NearOk.calls (k : Nat) (A0_0 : Option Addr) (c0_0 : Nat) (l0_0 : List (S99)) (A0_1 : Option Addr) (c0_1 : Nat) (l0_1 : List (S101)) (r : Bool) (w : World) (hr0_0 : Kd.C k99 w A0_0 l0_0.length l0_0) (hc0_0 : l0_0.length ≤ c0_0) (hr0_1 : Kd.C k101 w A0_1 l0_1.length l0_1) (hc0_1 : l0_1.length ≤ c0_1) (h : impl_NearOk.f k l0_0 l0_1 = some r) :
  Calls Try.prog 21 #[.agg #[.slice A0_0 l0_0.length c0_0, .slice A0_1 l0_1.length c0_1]] w fun e w' => e = .returned (.bool r) ∧ Below w.heap.size w w' := by
 have hu42 := Try.underlying42;have hu99 := Try.underlying99;have HR0_0 := Aside0.mk hr0_0;have HC0_0 := Aside0.mk hc0_0;clear hr0_0 hc0_0;have HR0_1 := Aside0.mk hr0_1;have HC0_1 := Aside0.mk hc0_1;clear hr0_1 hc0_1;have HB := Aside0.mk (Below.refl w.heap.size w);have H : (impl_NearOk.l0 k l0_0 (l0_0.length : Int) 0 l0_0 l0_1) = some r := h;clear h;have H' := Aside0.mk H;clear H
 go_enter Try.func21, Try.ntmps21
 go_wp2_with (first | ((with_reducible refine gate_dst (N := 1) rfl ?_); (try (refine gate_guard (by rfl) ?_; dsimp only)); refine box_event ?hg (N := 1) ?hd (cs := #[.slice A0_0 l0_0.length c0_0, .slice A0_1 l0_1.length c0_1]) (t := 42) ?hr ?_; (case hd => rfl); (case hg => rfl); (case hr => first | (go_simp; done) | (go_simp; rfl)); intro gb159 hg w2 hbox hb; have n0_ := Aside0.mk (below_step (by repeat (first | (with_reducible first | exact HB.out | apply below_alloc | apply pw_below_drewN | apply below_drew1) | exact HB.out)) hb); have n1_ := Aside0.mk (hbox); have n2_ := Aside0.mk ((by rw [hg]; exact (below_size (by repeat (first | (with_reducible first | exact HB.out | apply below_alloc | apply pw_below_drewN | apply below_drew1) | exact HB.out))) : w.heap.size ≤ gb159)); have n3_ := n2_; clear HB; have HB := n0_; have BK159 := n1_; have GW159 := n2_; have GE159 := n3_; clear n0_ n1_ n2_ n3_; clear hb hbox hg; obtain ⟨hcz3_0, hcz3_1, hfz3_0, hfz3_1⟩ := zc2 BK159.out))
 go_loopg [8] k (fun kq v8 w' => ∃ (x8_1 : Int), v8 = .int .i64 x8_1 ∧ Aside0 (impl_NearOk.l0 kq l0_0 (l0_0.length : Int) x8_1 l0_0 l0_1 = some r) ∧ Aside0 (kq ≤ k) ∧ Aside0 (w'.heap[gb159]? = some (.cells #[(.slice A0_0 l0_0.length c0_0), (.slice A0_1 l0_1.length c0_1)] 42 (0, 0))) ∧ Aside0 (Below w.heap.size w w'))
 case atStart => exact ⟨(0), (by first | rfl | (simp; done) | (simp [*]; done)), H', ⟨Nat.le_refl _⟩, ⟨by (with_reducible repeat (first | apply blk_drewN | apply blk_drew | apply blk_alloc)); exact BK159.out⟩, ⟨by repeat (first | (with_reducible first | exact HB.out | apply below_alloc | apply pw_below_drewN | apply below_drew1 | refine below_set ?_ GE159.out) | exact HB.out)⟩⟩
 case round =>
  clear H'
  try clear c2
  try clear p2
  try clear hcz3_0
  try clear hcz3_1
  try clear hfz3_0
  try clear hfz3_1
  obtain ⟨x8_1, rfl, HA, HK1, BK159, HB⟩ := hrel
  cases gk with
  | zero => exact absurd HA.out (by simp [impl_NearOk.l0])
  | succ k1 =>
   have H := HA.out;clear HA;simp only [impl_NearOk.l0] at H
   by_cases c4 : x8_1 < (l0_0.length : Int)
   ·rw [if_pos c4] at H
    have c4b0 : decide (x8_1 < (l0_0.length : Int)) = true := decide_eq_true c4;clear c4
    by_cases c5 : 0 ≤ x8_1
    ·rw [if_pos c5] at H
     have c5b0 : decide (0 ≤ x8_1) = true := decide_eq_true c5;clear c5
     by_cases c6 : x8_1 < (l0_0.length : Int)
     ·rw [if_pos c6] at H
      have c6b0 : decide (x8_1 < (l0_0.length : Int)) = true := decide_eq_true c6;clear c6;replace H := ze H;obtain ⟨t163, A70, H⟩ := H;replace H : (if t163 = true then ((impl_in.f ((rd_T99 l0_0 x8_1).f1) 0 254).bind fun t164 => (if t164 = true then ((impl_in.f ((rd_T99 l0_0 x8_1).f2) 0 1000000).bind fun t165 => (if t165 = true then ((impl_Near_at.f l0_0 l0_1 ((rd_T99 l0_0 x8_1).f0)).bind fun t166 => (if t166 < x8_1 then (some false) else (impl_NearOk.l0 k1 l0_0 (l0_0.length : Int) (wrap64 (x8_1 + 1)) l0_0 l0_1))) else (some false))) else (some false))) else (some false)) = some r := H;have A7 := Aside0.mk A70;clear A70
      by_cases c8 : t163 = true
      ·subst c8
       have H1 : ((impl_in.f ((rd_T99 l0_0 x8_1).f1) 0 254).bind fun t164 => (if t164 = true then ((impl_in.f ((rd_T99 l0_0 x8_1).f2) 0 1000000).bind fun t165 => (if t165 = true then ((impl_Near_at.f l0_0 l0_1 ((rd_T99 l0_0 x8_1).f0)).bind fun t166 => (if t166 < x8_1 then (some false) else (impl_NearOk.l0 k1 l0_0 (l0_0.length : Int) (wrap64 (x8_1 + 1)) l0_0 l0_1))) else (some false))) else (some false))) = some r := by rw [if_pos rfl] at H; exact H
       clear H;have H := H1;clear H1;replace H := ze H;obtain ⟨t164, A90, H⟩ := H;replace H : (if t164 = true then ((impl_in.f ((rd_T99 l0_0 x8_1).f2) 0 1000000).bind fun t165 => (if t165 = true then ((impl_Near_at.f l0_0 l0_1 ((rd_T99 l0_0 x8_1).f0)).bind fun t166 => (if t166 < x8_1 then (some false) else (impl_NearOk.l0 k1 l0_0 (l0_0.length : Int) (wrap64 (x8_1 + 1)) l0_0 l0_1))) else (some false))) else (some false)) = some r := H;have A9 := Aside0.mk A90;clear A90
       by_cases c10 : t164 = true
       ·subst c10
        have H1 : ((impl_in.f ((rd_T99 l0_0 x8_1).f2) 0 1000000).bind fun t165 => (if t165 = true then ((impl_Near_at.f l0_0 l0_1 ((rd_T99 l0_0 x8_1).f0)).bind fun t166 => (if t166 < x8_1 then (some false) else (impl_NearOk.l0 k1 l0_0 (l0_0.length : Int) (wrap64 (x8_1 + 1)) l0_0 l0_1))) else (some false))) = some r := by rw [if_pos rfl] at H; exact H
        clear H;have H := H1;clear H1;replace H := ze H;obtain ⟨t165, A110, H⟩ := H;replace H : (if t165 = true then ((impl_Near_at.f l0_0 l0_1 ((rd_T99 l0_0 x8_1).f0)).bind fun t166 => (if t166 < x8_1 then (some false) else (impl_NearOk.l0 k1 l0_0 (l0_0.length : Int) (wrap64 (x8_1 + 1)) l0_0 l0_1))) else (some false)) = some r := H;have A11 := Aside0.mk A110;clear A110
        by_cases c12 : t165 = true
        ·subst c12
         have H1 : ((impl_Near_at.f l0_0 l0_1 ((rd_T99 l0_0 x8_1).f0)).bind fun t166 => (if t166 < x8_1 then (some false) else (impl_NearOk.l0 k1 l0_0 (l0_0.length : Int) (wrap64 (x8_1 + 1)) l0_0 l0_1))) = some r := by rw [if_pos rfl] at H; exact H
         clear H;have H := H1;clear H1;replace H := ze H;obtain ⟨t166, A130, H⟩ := H;replace H : (if t166 < x8_1 then (some false) else (impl_NearOk.l0 k1 l0_0 (l0_0.length : Int) (wrap64 (x8_1 + 1)) l0_0 l0_1)) = some r := H;have A13 := Aside0.mk A130;clear A130
         by_cases c14 : t166 < x8_1
         ·rw [if_pos c14] at H
          have c14b0 : decide (t166 < x8_1) = true := decide_eq_true c14;clear c14;obtain rfl := Option.some.inj H;have p161 : 0 ≤ (x8_1 : Int) := of_decide_eq_true (by first | (with_reducible assumption) | assumption);have q161 : x8_1 < (l0_0.length : Int) := of_decide_eq_true (by first | (with_reducible assumption) | assumption);obtain ⟨ad161, e161, hx161_0, hx161_1, hx161_2⟩ := at_T99 HR0_0.out x8_1 p161 q161
          cases e161
          replace hx161_0 := (HB.out.cell (World.block_lt_of_cell? w _ hx161_0)).trans hx161_0;replace hx161_1 := (HB.out.cell (World.block_lt_of_cell? w _ hx161_1)).trans hx161_1;replace hx161_2 := (HB.out.cell (World.block_lt_of_cell? w _ hx161_2)).trans hx161_2;replace p161 := eq_true p161;replace q161 := eq_true q161
          go_wp2_with (first | ((with_reducible refine gate_dst (N := 4) rfl ?_); (try (refine gate_guard (by rfl) ?_; dsimp only)); refine box_event ?hg (N := 4) ?hd (cs := #[.int .i64 0, .int .i64 0, .int .i64 0]) (t := 99) ?hr ?_; (case hd => rfl); (case hg => rfl); (case hr => first | (go_simp; done) | (go_simp; rfl)); intro gb162 hg w15 hbox hb; have n0_ := Aside0.mk (blk_below (g := gb159) (o := .cells #[.slice (some ad161) l0_0.length c0_0, .slice A0_1 l0_1.length c0_1] 42 (0, 0)) (by (with_reducible repeat (first | apply blk_drewN | apply blk_drew | apply blk_alloc)); exact BK159.out) hb); have n1_ := Aside0.mk (below_step (by repeat (first | (with_reducible first | exact HB.out | apply below_alloc | apply pw_below_drewN | apply below_drew1 | refine below_set ?_ GE159.out) | exact HB.out)) hb); have n2_ := Aside0.mk (hbox); have n3_ := Aside0.mk ((by rw [hg]; exact (below_size (by repeat (first | (with_reducible first | exact HB.out | apply below_alloc | apply pw_below_drewN | apply below_drew1 | refine below_set ?_ GE159.out) | exact HB.out))) : w.heap.size ≤ gb162)); have n4_ := n3_; have n5_ := Aside0.mk ((by rw [hg]; exact Nat.ne_of_lt (blk_lt (g := gb159) (o := .cells #[.slice (some ad161) l0_0.length c0_0, .slice A0_1 l0_1.length c0_1] 42 (0, 0)) (by (with_reducible repeat (first | apply blk_drewN | apply blk_drew | apply blk_alloc)); exact BK159.out)) : gb159 ≠ gb162)); have n6_ := Aside0.mk ((by rw [hg]; exact Nat.ne_of_gt (blk_lt (g := gb159) (o := .cells #[.slice (some ad161) l0_0.length c0_0, .slice A0_1 l0_1.length c0_1] 42 (0, 0)) (by (with_reducible repeat (first | apply blk_drewN | apply blk_drew | apply blk_alloc)); exact BK159.out)) : gb162 ≠ gb159)); clear BK159; clear HB; have BK159 := n0_; have HB := n1_; have BK162 := n2_; have GW162 := n3_; have GE162 := n4_; have NB159_162 := n5_; have NB162_159 := n6_; clear n0_ n1_ n2_ n3_ n4_ n5_ n6_; clear hb hbox hg; have hnb16 := NB162_159.out; have hnc16 := NB159_162.out; obtain ⟨hcz17_0, hcz17_1, hcz17_2, hfz17_0, hfz17_1, hfz17_2⟩ := zc3 BK162.out) | ((with_reducible refine gate_callee (f := 70) rfl ?_); refine goesL_ (some 15) rfl rfl Try.func70 (by kernel_rfl) rfl #[.int .i64 ((rd_T99 l0_0 x8_1).f0)] rfl (by (try simp only [zm]); first | done | rfl | (simp only [zl]; rfl)) ?_; (with_reducible refine (impl_word.calls ((rd_T99 l0_0 x8_1).f0) true _ A7.out).mono ?_); rintro e w' ⟨rfl, ⟨nd, rfl⟩⟩; refine ⟨_, rfl, ?_⟩) | (go_at_call 64; (with_reducible refine (impl_in.calls ((rd_T99 l0_0 x8_1).f1) 0 254 true _ A9.out).mono ?_); rintro e w' ⟨rfl, ⟨nd, rfl⟩⟩) | (go_at_call 64; (with_reducible refine (impl_in.calls ((rd_T99 l0_0 x8_1).f2) 0 1000000 true _ A11.out).mono ?_); rintro e w' ⟨rfl, ⟨nd, rfl⟩⟩; obtain ⟨hcz18_0, hcz18_1, hfz18_0, hfz18_1⟩ := zc2 BK159.out) | (go_at_call 71; (with_reducible refine (impl_Near_at.calls _ _ l0_0 _ _ l0_1 ((rd_T99 l0_0 x8_1).f0) t166 _ ?side1 ?side2 ?side3 ?side4 A13.out).mono ?_); (case side1 => exact Kd.C_below HR0_0.out (by repeat (first | (with_reducible first | exact HB.out | apply below_alloc | apply pw_below_drewN | apply below_drew1 | refine below_set ?_ GE159.out | refine below_set ?_ GE162.out) | exact HB.out))); (case side2 => exact HC0_0.out); (case side3 => exact Kd.C_below HR0_1.out (by repeat (first | (with_reducible first | exact HB.out | apply below_alloc | apply pw_below_drewN | apply below_drew1 | refine below_set ?_ GE159.out | refine below_set ?_ GE162.out) | exact HB.out))); (case side4 => exact HC0_1.out); rintro e w19 ⟨rfl, hb⟩; have n0_ := Aside0.mk (blk_below (g := gb159) (o := .cells #[.slice (some ad161) l0_0.length c0_0, .slice A0_1 l0_1.length c0_1] 42 (0, 0)) (by (with_reducible repeat (first | apply blk_drewN | apply blk_drew | apply blk_alloc)); refine blk_far ?_ NB159_162.out _; refine blk_far ?_ NB159_162.out _; refine blk_far ?_ NB159_162.out _; (with_reducible repeat (first | apply blk_drewN | apply blk_drew | apply blk_alloc)); exact BK159.out) hb); have n1_ := Aside0.mk (blk_below (g := gb162) (o := .cells #[.int .i64 ((rd_T99 l0_0 x8_1).f0), .int .i64 ((rd_T99 l0_0 x8_1).f1), .int .i64 ((rd_T99 l0_0 x8_1).f2)] 99 (0, 0)) (by (with_reducible repeat (first | apply blk_drewN | apply blk_drew | apply blk_alloc)); refine blk_put (cs := #[.int .i64 ((rd_T99 l0_0 x8_1).f0), .int .i64 ((rd_T99 l0_0 x8_1).f1), .int .i64 0]) ?_ 2 _ rfl; refine blk_put (cs := #[.int .i64 ((rd_T99 l0_0 x8_1).f0), .int .i64 0, .int .i64 0]) ?_ 1 _ rfl; refine blk_put (cs := #[.int .i64 0, .int .i64 0, .int .i64 0]) ?_ 0 _ rfl; (with_reducible repeat (first | apply blk_drewN | apply blk_drew | apply blk_alloc)); exact BK162.out) hb); have n2_ := Aside0.mk (below_step (by repeat (first | (with_reducible first | exact HB.out | apply below_alloc | apply pw_below_drewN | apply below_drew1 | refine below_set ?_ GE159.out | refine below_set ?_ GE162.out) | exact HB.out)) hb); clear BK159; clear BK162; clear HB; have BK159 := n0_; have BK162 := n1_; have HB := n2_; clear n0_ n1_ n2_; (try clear hb); (try clear hb2); (try clear hk); (try clear hi)))
          go_ret;exact ⟨by first | rfl | (simp <;> rfl) | (simp [*] <;> rfl), by repeat (first | (with_reducible first | exact HB.out | apply below_alloc | apply pw_below_drewN | apply below_drew1 | refine below_set ?_ GE159.out | refine below_set ?_ GE162.out) | exact HB.out)⟩
         ·rw [if_neg c14] at H
          have c14b0 : decide (t166 < x8_1) = false := decide_eq_false c14;clear c14;have H' := Aside0.mk H;clear H;have p161 : 0 ≤ (x8_1 : Int) := of_decide_eq_true (by first | (with_reducible assumption) | assumption);have q161 : x8_1 < (l0_0.length : Int) := of_decide_eq_true (by first | (with_reducible assumption) | assumption);obtain ⟨ad161, e161, hx161_0, hx161_1, hx161_2⟩ := at_T99 HR0_0.out x8_1 p161 q161
          cases e161
          replace hx161_0 := (HB.out.cell (World.block_lt_of_cell? w _ hx161_0)).trans hx161_0;replace hx161_1 := (HB.out.cell (World.block_lt_of_cell? w _ hx161_1)).trans hx161_1;replace hx161_2 := (HB.out.cell (World.block_lt_of_cell? w _ hx161_2)).trans hx161_2;replace p161 := eq_true p161;replace q161 := eq_true q161
          go_wp2_with (first | ((with_reducible refine gate_dst (N := 4) rfl ?_); (try (refine gate_guard (by rfl) ?_; dsimp only)); refine box_event ?hg (N := 4) ?hd (cs := #[.int .i64 0, .int .i64 0, .int .i64 0]) (t := 99) ?hr ?_; (case hd => rfl); (case hg => rfl); (case hr => first | (go_simp; done) | (go_simp; rfl)); intro gb162 hg w20 hbox hb; have n0_ := Aside0.mk (blk_below (g := gb159) (o := .cells #[.slice (some ad161) l0_0.length c0_0, .slice A0_1 l0_1.length c0_1] 42 (0, 0)) (by (with_reducible repeat (first | apply blk_drewN | apply blk_drew | apply blk_alloc)); exact BK159.out) hb); have n1_ := Aside0.mk (below_step (by repeat (first | (with_reducible first | exact HB.out | apply below_alloc | apply pw_below_drewN | apply below_drew1 | refine below_set ?_ GE159.out) | exact HB.out)) hb); have n2_ := Aside0.mk (hbox); have n3_ := Aside0.mk ((by rw [hg]; exact (below_size (by repeat (first | (with_reducible first | exact HB.out | apply below_alloc | apply pw_below_drewN | apply below_drew1 | refine below_set ?_ GE159.out) | exact HB.out))) : w.heap.size ≤ gb162)); have n4_ := n3_; have n5_ := Aside0.mk ((by rw [hg]; exact Nat.ne_of_lt (blk_lt (g := gb159) (o := .cells #[.slice (some ad161) l0_0.length c0_0, .slice A0_1 l0_1.length c0_1] 42 (0, 0)) (by (with_reducible repeat (first | apply blk_drewN | apply blk_drew | apply blk_alloc)); exact BK159.out)) : gb159 ≠ gb162)); have n6_ := Aside0.mk ((by rw [hg]; exact Nat.ne_of_gt (blk_lt (g := gb159) (o := .cells #[.slice (some ad161) l0_0.length c0_0, .slice A0_1 l0_1.length c0_1] 42 (0, 0)) (by (with_reducible repeat (first | apply blk_drewN | apply blk_drew | apply blk_alloc)); exact BK159.out)) : gb162 ≠ gb159)); clear BK159; clear HB; have BK159 := n0_; have HB := n1_; have BK162 := n2_; have GW162 := n3_; have GE162 := n4_; have NB159_162 := n5_; have NB162_159 := n6_; clear n0_ n1_ n2_ n3_ n4_ n5_ n6_; clear hb hbox hg; have hnb21 := NB162_159.out; have hnc21 := NB159_162.out; obtain ⟨hcz22_0, hcz22_1, hcz22_2, hfz22_0, hfz22_1, hfz22_2⟩ := zc3 BK162.out) | ((with_reducible refine gate_callee (f := 70) rfl ?_); refine goesL_ (some 15) rfl rfl Try.func70 (by kernel_rfl) rfl #[.int .i64 ((rd_T99 l0_0 x8_1).f0)] rfl (by (try simp only [zm]); first | done | rfl | (simp only [zl]; rfl)) ?_; (with_reducible refine (impl_word.calls ((rd_T99 l0_0 x8_1).f0) true _ A7.out).mono ?_); rintro e w' ⟨rfl, ⟨nd, rfl⟩⟩; refine ⟨_, rfl, ?_⟩) | (go_at_call 64; (with_reducible refine (impl_in.calls ((rd_T99 l0_0 x8_1).f1) 0 254 true _ A9.out).mono ?_); rintro e w' ⟨rfl, ⟨nd, rfl⟩⟩) | (go_at_call 64; (with_reducible refine (impl_in.calls ((rd_T99 l0_0 x8_1).f2) 0 1000000 true _ A11.out).mono ?_); rintro e w' ⟨rfl, ⟨nd, rfl⟩⟩; obtain ⟨hcz23_0, hcz23_1, hfz23_0, hfz23_1⟩ := zc2 BK159.out) | (go_at_call 71; (with_reducible refine (impl_Near_at.calls _ _ l0_0 _ _ l0_1 ((rd_T99 l0_0 x8_1).f0) t166 _ ?side1 ?side2 ?side3 ?side4 A13.out).mono ?_); (case side1 => exact Kd.C_below HR0_0.out (by repeat (first | (with_reducible first | exact HB.out | apply below_alloc | apply pw_below_drewN | apply below_drew1 | refine below_set ?_ GE159.out | refine below_set ?_ GE162.out) | exact HB.out))); (case side2 => exact HC0_0.out); (case side3 => exact Kd.C_below HR0_1.out (by repeat (first | (with_reducible first | exact HB.out | apply below_alloc | apply pw_below_drewN | apply below_drew1 | refine below_set ?_ GE159.out | refine below_set ?_ GE162.out) | exact HB.out))); (case side4 => exact HC0_1.out); rintro e w24 ⟨rfl, hb⟩; have n0_ := Aside0.mk (blk_below (g := gb159) (o := .cells #[.slice (some ad161) l0_0.length c0_0, .slice A0_1 l0_1.length c0_1] 42 (0, 0)) (by (with_reducible repeat (first | apply blk_drewN | apply blk_drew | apply blk_alloc)); refine blk_far ?_ NB159_162.out _; refine blk_far ?_ NB159_162.out _; refine blk_far ?_ NB159_162.out _; (with_reducible repeat (first | apply blk_drewN | apply blk_drew | apply blk_alloc)); exact BK159.out) hb); have n1_ := Aside0.mk (blk_below (g := gb162) (o := .cells #[.int .i64 ((rd_T99 l0_0 x8_1).f0), .int .i64 ((rd_T99 l0_0 x8_1).f1), .int .i64 ((rd_T99 l0_0 x8_1).f2)] 99 (0, 0)) (by (with_reducible repeat (first | apply blk_drewN | apply blk_drew | apply blk_alloc)); refine blk_put (cs := #[.int .i64 ((rd_T99 l0_0 x8_1).f0), .int .i64 ((rd_T99 l0_0 x8_1).f1), .int .i64 0]) ?_ 2 _ rfl; refine blk_put (cs := #[.int .i64 ((rd_T99 l0_0 x8_1).f0), .int .i64 0, .int .i64 0]) ?_ 1 _ rfl; refine blk_put (cs := #[.int .i64 0, .int .i64 0, .int .i64 0]) ?_ 0 _ rfl; (with_reducible repeat (first | apply blk_drewN | apply blk_drew | apply blk_alloc)); exact BK162.out) hb); have n2_ := Aside0.mk (below_step (by repeat (first | (with_reducible first | exact HB.out | apply below_alloc | apply pw_below_drewN | apply below_drew1 | refine below_set ?_ GE159.out | refine below_set ?_ GE162.out) | exact HB.out)) hb); clear BK159; clear BK162; clear HB; have BK159 := n0_; have BK162 := n1_; have HB := n2_; clear n0_ n1_ n2_; (try clear hb); (try clear hb2); (try clear hk); (try clear hi)))
          go_roundg k1
          case measure => have := HK1.out; omega
          case rel => exact ⟨(wrap64 (x8_1 + 1)), (by first | rfl | (simp; done) | (simp [*]; done)), H', ⟨by have := HK1.out; omega⟩, ⟨by (with_reducible repeat (first | apply blk_drewN | apply blk_drew | apply blk_alloc)); exact BK159.out⟩, ⟨by repeat (first | (with_reducible first | exact HB.out | apply below_alloc | apply pw_below_drewN | apply below_drew1 | refine below_set ?_ GE159.out | refine below_set ?_ GE162.out) | exact HB.out)⟩⟩
        ·replace c12 := Bool.eq_false_iff.mpr c12
         subst c12
         have H1 : (some false) = some r := by rw [if_neg (show ¬ (false = true) by decide)] at H; exact H
         clear H;have H := H1;clear H1;obtain rfl := Option.some.inj H;have p161 : 0 ≤ (x8_1 : Int) := of_decide_eq_true (by first | (with_reducible assumption) | assumption);have q161 : x8_1 < (l0_0.length : Int) := of_decide_eq_true (by first | (with_reducible assumption) | assumption);obtain ⟨ad161, e161, hx161_0, hx161_1, hx161_2⟩ := at_T99 HR0_0.out x8_1 p161 q161
         cases e161
         replace hx161_0 := (HB.out.cell (World.block_lt_of_cell? w _ hx161_0)).trans hx161_0;replace hx161_1 := (HB.out.cell (World.block_lt_of_cell? w _ hx161_1)).trans hx161_1;replace hx161_2 := (HB.out.cell (World.block_lt_of_cell? w _ hx161_2)).trans hx161_2;replace p161 := eq_true p161;replace q161 := eq_true q161
         go_wp2_with (first | ((with_reducible refine gate_dst (N := 4) rfl ?_); (try (refine gate_guard (by rfl) ?_; dsimp only)); refine box_event ?hg (N := 4) ?hd (cs := #[.int .i64 0, .int .i64 0, .int .i64 0]) (t := 99) ?hr ?_; (case hd => rfl); (case hg => rfl); (case hr => first | (go_simp; done) | (go_simp; rfl)); intro gb162 hg w25 hbox hb; have n0_ := Aside0.mk (blk_below (g := gb159) (o := .cells #[.slice (some ad161) l0_0.length c0_0, .slice A0_1 l0_1.length c0_1] 42 (0, 0)) (by (with_reducible repeat (first | apply blk_drewN | apply blk_drew | apply blk_alloc)); exact BK159.out) hb); have n1_ := Aside0.mk (below_step (by repeat (first | (with_reducible first | exact HB.out | apply below_alloc | apply pw_below_drewN | apply below_drew1 | refine below_set ?_ GE159.out) | exact HB.out)) hb); have n2_ := Aside0.mk (hbox); have n3_ := Aside0.mk ((by rw [hg]; exact (below_size (by repeat (first | (with_reducible first | exact HB.out | apply below_alloc | apply pw_below_drewN | apply below_drew1 | refine below_set ?_ GE159.out) | exact HB.out))) : w.heap.size ≤ gb162)); have n4_ := n3_; have n5_ := Aside0.mk ((by rw [hg]; exact Nat.ne_of_lt (blk_lt (g := gb159) (o := .cells #[.slice (some ad161) l0_0.length c0_0, .slice A0_1 l0_1.length c0_1] 42 (0, 0)) (by (with_reducible repeat (first | apply blk_drewN | apply blk_drew | apply blk_alloc)); exact BK159.out)) : gb159 ≠ gb162)); have n6_ := Aside0.mk ((by rw [hg]; exact Nat.ne_of_gt (blk_lt (g := gb159) (o := .cells #[.slice (some ad161) l0_0.length c0_0, .slice A0_1 l0_1.length c0_1] 42 (0, 0)) (by (with_reducible repeat (first | apply blk_drewN | apply blk_drew | apply blk_alloc)); exact BK159.out)) : gb162 ≠ gb159)); clear BK159; clear HB; have BK159 := n0_; have HB := n1_; have BK162 := n2_; have GW162 := n3_; have GE162 := n4_; have NB159_162 := n5_; have NB162_159 := n6_; clear n0_ n1_ n2_ n3_ n4_ n5_ n6_; clear hb hbox hg; have hnb26 := NB162_159.out; have hnc26 := NB159_162.out; obtain ⟨hcz27_0, hcz27_1, hcz27_2, hfz27_0, hfz27_1, hfz27_2⟩ := zc3 BK162.out) | ((with_reducible refine gate_callee (f := 70) rfl ?_); refine goesL_ (some 15) rfl rfl Try.func70 (by kernel_rfl) rfl #[.int .i64 ((rd_T99 l0_0 x8_1).f0)] rfl (by (try simp only [zm]); first | done | rfl | (simp only [zl]; rfl)) ?_; (with_reducible refine (impl_word.calls ((rd_T99 l0_0 x8_1).f0) true _ A7.out).mono ?_); rintro e w' ⟨rfl, ⟨nd, rfl⟩⟩; refine ⟨_, rfl, ?_⟩) | (go_at_call 64; (with_reducible refine (impl_in.calls ((rd_T99 l0_0 x8_1).f1) 0 254 true _ A9.out).mono ?_); rintro e w' ⟨rfl, ⟨nd, rfl⟩⟩) | (go_at_call 64; (with_reducible refine (impl_in.calls ((rd_T99 l0_0 x8_1).f2) 0 1000000 false _ A11.out).mono ?_); rintro e w' ⟨rfl, ⟨nd, rfl⟩⟩))
         go_ret;exact ⟨by first | rfl | (simp <;> rfl) | (simp [*] <;> rfl), by repeat (first | (with_reducible first | exact HB.out | apply below_alloc | apply pw_below_drewN | apply below_drew1 | refine below_set ?_ GE159.out | refine below_set ?_ GE162.out) | exact HB.out)⟩
       ·replace c10 := Bool.eq_false_iff.mpr c10
        subst c10
        have H1 : (some false) = some r := by rw [if_neg (show ¬ (false = true) by decide)] at H; exact H
        clear H;have H := H1;clear H1;obtain rfl := Option.some.inj H;have p161 : 0 ≤ (x8_1 : Int) := of_decide_eq_true (by first | (with_reducible assumption) | assumption);have q161 : x8_1 < (l0_0.length : Int) := of_decide_eq_true (by first | (with_reducible assumption) | assumption);obtain ⟨ad161, e161, hx161_0, hx161_1, hx161_2⟩ := at_T99 HR0_0.out x8_1 p161 q161
        cases e161
        replace hx161_0 := (HB.out.cell (World.block_lt_of_cell? w _ hx161_0)).trans hx161_0;replace hx161_1 := (HB.out.cell (World.block_lt_of_cell? w _ hx161_1)).trans hx161_1;replace hx161_2 := (HB.out.cell (World.block_lt_of_cell? w _ hx161_2)).trans hx161_2;replace p161 := eq_true p161;replace q161 := eq_true q161
        go_wp2_with (first | ((with_reducible refine gate_dst (N := 4) rfl ?_); (try (refine gate_guard (by rfl) ?_; dsimp only)); refine box_event ?hg (N := 4) ?hd (cs := #[.int .i64 0, .int .i64 0, .int .i64 0]) (t := 99) ?hr ?_; (case hd => rfl); (case hg => rfl); (case hr => first | (go_simp; done) | (go_simp; rfl)); intro gb162 hg w28 hbox hb; have n0_ := Aside0.mk (blk_below (g := gb159) (o := .cells #[.slice (some ad161) l0_0.length c0_0, .slice A0_1 l0_1.length c0_1] 42 (0, 0)) (by (with_reducible repeat (first | apply blk_drewN | apply blk_drew | apply blk_alloc)); exact BK159.out) hb); have n1_ := Aside0.mk (below_step (by repeat (first | (with_reducible first | exact HB.out | apply below_alloc | apply pw_below_drewN | apply below_drew1 | refine below_set ?_ GE159.out) | exact HB.out)) hb); have n2_ := Aside0.mk (hbox); have n3_ := Aside0.mk ((by rw [hg]; exact (below_size (by repeat (first | (with_reducible first | exact HB.out | apply below_alloc | apply pw_below_drewN | apply below_drew1 | refine below_set ?_ GE159.out) | exact HB.out))) : w.heap.size ≤ gb162)); have n4_ := n3_; have n5_ := Aside0.mk ((by rw [hg]; exact Nat.ne_of_lt (blk_lt (g := gb159) (o := .cells #[.slice (some ad161) l0_0.length c0_0, .slice A0_1 l0_1.length c0_1] 42 (0, 0)) (by (with_reducible repeat (first | apply blk_drewN | apply blk_drew | apply blk_alloc)); exact BK159.out)) : gb159 ≠ gb162)); have n6_ := Aside0.mk ((by rw [hg]; exact Nat.ne_of_gt (blk_lt (g := gb159) (o := .cells #[.slice (some ad161) l0_0.length c0_0, .slice A0_1 l0_1.length c0_1] 42 (0, 0)) (by (with_reducible repeat (first | apply blk_drewN | apply blk_drew | apply blk_alloc)); exact BK159.out)) : gb162 ≠ gb159)); clear BK159; clear HB; have BK159 := n0_; have HB := n1_; have BK162 := n2_; have GW162 := n3_; have GE162 := n4_; have NB159_162 := n5_; have NB162_159 := n6_; clear n0_ n1_ n2_ n3_ n4_ n5_ n6_; clear hb hbox hg; have hnb29 := NB162_159.out; have hnc29 := NB159_162.out; obtain ⟨hcz30_0, hcz30_1, hcz30_2, hfz30_0, hfz30_1, hfz30_2⟩ := zc3 BK162.out) | ((with_reducible refine gate_callee (f := 70) rfl ?_); refine goesL_ (some 15) rfl rfl Try.func70 (by kernel_rfl) rfl #[.int .i64 ((rd_T99 l0_0 x8_1).f0)] rfl (by (try simp only [zm]); first | done | rfl | (simp only [zl]; rfl)) ?_; (with_reducible refine (impl_word.calls ((rd_T99 l0_0 x8_1).f0) true _ A7.out).mono ?_); rintro e w' ⟨rfl, ⟨nd, rfl⟩⟩; refine ⟨_, rfl, ?_⟩) | (go_at_call 64; (with_reducible refine (impl_in.calls ((rd_T99 l0_0 x8_1).f1) 0 254 false _ A9.out).mono ?_); rintro e w' ⟨rfl, ⟨nd, rfl⟩⟩))
        go_ret;exact ⟨by first | rfl | (simp <;> rfl) | (simp [*] <;> rfl), by repeat (first | (with_reducible first | exact HB.out | apply below_alloc | apply pw_below_drewN | apply below_drew1 | refine below_set ?_ GE159.out | refine below_set ?_ GE162.out) | exact HB.out)⟩
      ·replace c8 := Bool.eq_false_iff.mpr c8
       subst c8
       have H1 : (some false) = some r := by rw [if_neg (show ¬ (false = true) by decide)] at H; exact H
       clear H;have H := H1;clear H1;obtain rfl := Option.some.inj H;have p161 : 0 ≤ (x8_1 : Int) := of_decide_eq_true (by first | (with_reducible assumption) | assumption);have q161 : x8_1 < (l0_0.length : Int) := of_decide_eq_true (by first | (with_reducible assumption) | assumption);obtain ⟨ad161, e161, hx161_0, hx161_1, hx161_2⟩ := at_T99 HR0_0.out x8_1 p161 q161
       cases e161
       replace hx161_0 := (HB.out.cell (World.block_lt_of_cell? w _ hx161_0)).trans hx161_0;replace hx161_1 := (HB.out.cell (World.block_lt_of_cell? w _ hx161_1)).trans hx161_1;replace hx161_2 := (HB.out.cell (World.block_lt_of_cell? w _ hx161_2)).trans hx161_2;replace p161 := eq_true p161;replace q161 := eq_true q161
       go_wp2_with (first | ((with_reducible refine gate_dst (N := 4) rfl ?_); (try (refine gate_guard (by rfl) ?_; dsimp only)); refine box_event ?hg (N := 4) ?hd (cs := #[.int .i64 0, .int .i64 0, .int .i64 0]) (t := 99) ?hr ?_; (case hd => rfl); (case hg => rfl); (case hr => first | (go_simp; done) | (go_simp; rfl)); intro gb162 hg w31 hbox hb; have n0_ := Aside0.mk (blk_below (g := gb159) (o := .cells #[.slice (some ad161) l0_0.length c0_0, .slice A0_1 l0_1.length c0_1] 42 (0, 0)) (by (with_reducible repeat (first | apply blk_drewN | apply blk_drew | apply blk_alloc)); exact BK159.out) hb); have n1_ := Aside0.mk (below_step (by repeat (first | (with_reducible first | exact HB.out | apply below_alloc | apply pw_below_drewN | apply below_drew1 | refine below_set ?_ GE159.out) | exact HB.out)) hb); have n2_ := Aside0.mk (hbox); have n3_ := Aside0.mk ((by rw [hg]; exact (below_size (by repeat (first | (with_reducible first | exact HB.out | apply below_alloc | apply pw_below_drewN | apply below_drew1 | refine below_set ?_ GE159.out) | exact HB.out))) : w.heap.size ≤ gb162)); have n4_ := n3_; have n5_ := Aside0.mk ((by rw [hg]; exact Nat.ne_of_lt (blk_lt (g := gb159) (o := .cells #[.slice (some ad161) l0_0.length c0_0, .slice A0_1 l0_1.length c0_1] 42 (0, 0)) (by (with_reducible repeat (first | apply blk_drewN | apply blk_drew | apply blk_alloc)); exact BK159.out)) : gb159 ≠ gb162)); have n6_ := Aside0.mk ((by rw [hg]; exact Nat.ne_of_gt (blk_lt (g := gb159) (o := .cells #[.slice (some ad161) l0_0.length c0_0, .slice A0_1 l0_1.length c0_1] 42 (0, 0)) (by (with_reducible repeat (first | apply blk_drewN | apply blk_drew | apply blk_alloc)); exact BK159.out)) : gb162 ≠ gb159)); clear BK159; clear HB; have BK159 := n0_; have HB := n1_; have BK162 := n2_; have GW162 := n3_; have GE162 := n4_; have NB159_162 := n5_; have NB162_159 := n6_; clear n0_ n1_ n2_ n3_ n4_ n5_ n6_; clear hb hbox hg; have hnb32 := NB162_159.out; have hnc32 := NB159_162.out; obtain ⟨hcz33_0, hcz33_1, hcz33_2, hfz33_0, hfz33_1, hfz33_2⟩ := zc3 BK162.out) | ((with_reducible refine gate_callee (f := 70) rfl ?_); refine goesL_ (some 15) rfl rfl Try.func70 (by kernel_rfl) rfl #[.int .i64 ((rd_T99 l0_0 x8_1).f0)] rfl (by (try simp only [zm]); first | done | rfl | (simp only [zl]; rfl)) ?_; (with_reducible refine (impl_word.calls ((rd_T99 l0_0 x8_1).f0) false _ A7.out).mono ?_); rintro e w' ⟨rfl, ⟨nd, rfl⟩⟩; refine ⟨_, rfl, ?_⟩))
       go_ret;exact ⟨by first | rfl | (simp <;> rfl) | (simp [*] <;> rfl), by repeat (first | (with_reducible first | exact HB.out | apply below_alloc | apply pw_below_drewN | apply below_drew1 | refine below_set ?_ GE159.out | refine below_set ?_ GE162.out) | exact HB.out)⟩
     ·rw [if_neg c6] at H
      exact absurd H (by simp)
    ·rw [if_neg c5] at H
     exact absurd H (by simp)
   ·rw [if_neg c4] at H
    have c4b0 : decide (x8_1 < (l0_0.length : Int)) = false := decide_eq_false c4;clear c4
    by_cases c34 : (l0_0.length : Int) ≤ 4
    ·rw [if_pos c34] at H
     have c34b0 : decide ((l0_0.length : Int) ≤ 4) = true := decide_eq_true c34;have c34b1 : decide (l0_0.length ≤ 4) = true := decide_eq_true (by omega);clear c34
     by_cases c35 : (l0_1.length : Int) ≤ 4
     ·rw [if_pos c35] at H
      have c35b0 : decide ((l0_1.length : Int) ≤ 4) = true := decide_eq_true c35;have c35b1 : decide (l0_1.length ≤ 4) = true := decide_eq_true (by omega);clear c35;replace H := ze H;obtain ⟨t160, A360, H⟩ := H;replace H : (some (!t160)) = some r := H;have A36 := Aside0.mk A360;clear A360;obtain rfl := Option.some.inj H;obtain ⟨hcz37_0, hcz37_1, hfz37_0, hfz37_1⟩ := zc2 BK159.out
      go_wp2_with (first | (go_at_call 72; (with_reducible refine (impl_NearHeld_72.calls _ _ l0_1 t160 _ ?side1 ?side2 A36.out).mono ?_); (case side1 => repeat (first | exact (Kd.C_below HR0_1.out HB.out) | (with_reducible first | refine Kd.C_alloc ?_ _ | refine Kd.C_drewN ?_ _ | refine Kd.C_drew ?_))); (case side2 => exact HC0_1.out); rintro e w38 ⟨rfl, hb⟩; have n0_ := Aside0.mk (blk_below (g := gb159) (o := .cells #[.slice A0_0 l0_0.length c0_0, .slice A0_1 l0_1.length c0_1] 42 (0, 0)) (by (with_reducible repeat (first | apply blk_drewN | apply blk_drew | apply blk_alloc)); exact BK159.out) hb); have n1_ := Aside0.mk (below_step (by repeat (first | (with_reducible first | exact HB.out | apply below_alloc | apply pw_below_drewN | apply below_drew1 | refine below_set ?_ GE159.out) | exact HB.out)) hb); clear BK159; clear HB; have BK159 := n0_; have HB := n1_; clear n0_ n1_; (try clear hb); (try clear hb2); (try clear hk); (try clear hi)))
      go_ret;exact ⟨by first | rfl | (simp <;> rfl) | (simp [*] <;> rfl), by repeat (first | (with_reducible first | exact HB.out | apply below_alloc | apply pw_below_drewN | apply below_drew1 | refine below_set ?_ GE159.out) | exact HB.out)⟩
     ·rw [if_neg c35] at H
      have c35b0 : decide ((l0_1.length : Int) ≤ 4) = false := decide_eq_false c35;have c35b1 : decide (l0_1.length ≤ 4) = false := decide_eq_false (by omega);clear c35;obtain rfl := Option.some.inj H;obtain ⟨hcz39_0, hcz39_1, hfz39_0, hfz39_1⟩ := zc2 BK159.out
      go_wp2
      go_ret;exact ⟨by first | rfl | (simp <;> rfl) | (simp [*] <;> rfl), by repeat (first | (with_reducible first | exact HB.out | apply below_alloc | apply pw_below_drewN | apply below_drew1 | refine below_set ?_ GE159.out) | exact HB.out)⟩
    ·rw [if_neg c34] at H
     have c34b0 : decide ((l0_0.length : Int) ≤ 4) = false := decide_eq_false c34;have c34b1 : decide (l0_0.length ≤ 4) = false := decide_eq_false (by omega);clear c34;obtain rfl := Option.some.inj H;obtain ⟨hcz40_0, hcz40_1, hfz40_0, hfz40_1⟩ := zc2 BK159.out
     go_wp2
     go_ret;exact ⟨by first | rfl | (simp <;> rfl) | (simp [*] <;> rfl), by repeat (first | (with_reducible first | exact HB.out | apply below_alloc | apply pw_below_drewN | apply below_drew1 | refine below_set ?_ GE159.out) | exact HB.out)⟩

/-! ### laws_eqNearEntry: function 116 -/
def laws_eqNearEntry.f (a0_0 : Int) (a0_1 : Int) (a0_2 : Int) (a1_0 : Int) (a1_1 : Int) (a1_2 : Int) : Option (Bool) := if a0_0 = a1_0 then (if a0_1 = a1_1 then (if a0_2 = a1_2 then (some true) else (some false)) else (some false)) else (some false)
set_option maxHeartbeats 8000000 in
set_option maxRecDepth 100000 in
theorem laws_eqNearEntry.calls (a0_0 : Int) (a0_1 : Int) (a0_2 : Int) (a1_0 : Int) (a1_1 : Int) (a1_2 : Int) (r : Bool) (w : World) (h : laws_eqNearEntry.f a0_0 a0_1 a0_2 a1_0 a1_1 a1_2 = some r) :
  Calls Try.prog 116 #[.agg #[.int .i64 a0_0, .int .i64 a0_1, .int .i64 a0_2], .agg #[.int .i64 a1_0, .int .i64 a1_1, .int .i64 a1_2]] w fun e w' => e = .returned (.bool r) ∧ Below w.heap.size w w' := by
 have hu99 := Try.underlying99;have HB := Aside0.mk (Below.refl w.heap.size w);have H : (if a0_0 = a1_0 then (if a0_1 = a1_1 then (if a0_2 = a1_2 then (some true) else (some false)) else (some false)) else (some false)) = some r := h;clear h
 by_cases c3 : a0_0 = a1_0
 ·rw [if_pos c3] at H
  have c3b0 : (a0_0 == a1_0) = true := beq_iff_eq.mpr c3;have c3b1 : (a0_0 != a1_0) = false := bne_eq_false_iff_eq.mpr c3;clear c3
  by_cases c4 : a0_1 = a1_1
  ·rw [if_pos c4] at H
   have c4b0 : (a0_1 == a1_1) = true := beq_iff_eq.mpr c4;have c4b1 : (a0_1 != a1_1) = false := bne_eq_false_iff_eq.mpr c4;clear c4
   by_cases c5 : a0_2 = a1_2
   ·rw [if_pos c5] at H
    have c5b0 : (a0_2 == a1_2) = true := beq_iff_eq.mpr c5;have c5b1 : (a0_2 != a1_2) = false := bne_eq_false_iff_eq.mpr c5;clear c5;obtain rfl := Option.some.inj H
    go_enter Try.func116, Try.ntmps116
    go_wp2_with (first | ((with_reducible refine gate_dst (N := 2) rfl ?_); refine box_event ?hg (N := 2) ?hd (cs := #[.int .i64 a0_0, .int .i64 a0_1, .int .i64 a0_2]) (t := 99) ?hr ?_; (case hd => rfl); (case hg => rfl); (case hr => first | (go_simp; done) | (go_simp; rfl)); intro gb167 hg w6 hbox hb; have n0_ := Aside0.mk (below_step (by repeat (first | (with_reducible first | exact HB.out | apply below_alloc | apply pw_below_drewN | apply below_drew1) | exact HB.out)) hb); have n1_ := Aside0.mk (hbox); have n2_ := Aside0.mk ((by rw [hg]; exact (below_size (by repeat (first | (with_reducible first | exact HB.out | apply below_alloc | apply pw_below_drewN | apply below_drew1) | exact HB.out))) : w.heap.size ≤ gb167)); have n3_ := n2_; clear HB; have HB := n0_; have BK167 := n1_; have GW167 := n2_; have GE167 := n3_; clear n0_ n1_ n2_ n3_; clear hb hbox hg) | ((with_reducible refine gate_dst (N := 3) rfl ?_); refine box_event ?hg (N := 3) ?hd (cs := #[.int .i64 a1_0, .int .i64 a1_1, .int .i64 a1_2]) (t := 99) ?hr ?_; (case hd => rfl); (case hg => rfl); (case hr => first | (go_simp; done) | (go_simp; rfl)); intro gb168 hg w7 hbox hb; have n0_ := Aside0.mk (blk_below (g := gb167) (o := .cells #[.int .i64 a0_0, .int .i64 a0_1, .int .i64 a0_2] 99 (0, 0)) (by (with_reducible repeat (first | apply blk_drewN | apply blk_drew | apply blk_alloc)); exact BK167.out) hb); have n1_ := Aside0.mk (below_step (by repeat (first | (with_reducible first | exact HB.out | apply below_alloc | apply pw_below_drewN | apply below_drew1 | refine below_set ?_ GE167.out) | exact HB.out)) hb); have n2_ := Aside0.mk (hbox); have n3_ := Aside0.mk ((by rw [hg]; exact (below_size (by repeat (first | (with_reducible first | exact HB.out | apply below_alloc | apply pw_below_drewN | apply below_drew1 | refine below_set ?_ GE167.out) | exact HB.out))) : w.heap.size ≤ gb168)); have n4_ := n3_; have n5_ := Aside0.mk ((by rw [hg]; exact Nat.ne_of_lt (blk_lt (g := gb167) (o := .cells #[.int .i64 a0_0, .int .i64 a0_1, .int .i64 a0_2] 99 (0, 0)) (by (with_reducible repeat (first | apply blk_drewN | apply blk_drew | apply blk_alloc)); exact BK167.out)) : gb167 ≠ gb168)); have n6_ := Aside0.mk ((by rw [hg]; exact Nat.ne_of_gt (blk_lt (g := gb167) (o := .cells #[.int .i64 a0_0, .int .i64 a0_1, .int .i64 a0_2] 99 (0, 0)) (by (with_reducible repeat (first | apply blk_drewN | apply blk_drew | apply blk_alloc)); exact BK167.out)) : gb168 ≠ gb167)); clear BK167; clear HB; have BK167 := n0_; have HB := n1_; have BK168 := n2_; have GW168 := n3_; have GE168 := n4_; have NB167_168 := n5_; have NB168_167 := n6_; clear n0_ n1_ n2_ n3_ n4_ n5_ n6_; clear hb hbox hg; have hnb8 := NB167_168.out; have hnc8 := NB168_167.out; obtain ⟨hcz9_0, hcz9_1, hcz9_2, hfz9_0, hfz9_1, hfz9_2⟩ := zc3 BK167.out; obtain ⟨hcz10_0, hcz10_1, hcz10_2, hfz10_0, hfz10_1, hfz10_2⟩ := zc3 BK168.out))
    go_ret;exact ⟨by first | rfl | (simp <;> rfl) | (simp [*] <;> rfl), by repeat (first | (with_reducible first | exact HB.out | apply below_alloc | apply pw_below_drewN | apply below_drew1 | refine below_set ?_ GE167.out | refine below_set ?_ GE168.out) | exact HB.out)⟩
   ·rw [if_neg c5] at H
    have c5b0 : (a0_2 == a1_2) = false := beq_eq_false_iff_ne.mpr c5;have c5b1 : (a0_2 != a1_2) = true := bne_iff_ne.mpr c5;obtain rfl := Option.some.inj H
    go_enter Try.func116, Try.ntmps116
    go_wp2_with (first | ((with_reducible refine gate_dst (N := 2) rfl ?_); refine box_event ?hg (N := 2) ?hd (cs := #[.int .i64 a0_0, .int .i64 a0_1, .int .i64 a0_2]) (t := 99) ?hr ?_; (case hd => rfl); (case hg => rfl); (case hr => first | (go_simp; done) | (go_simp; rfl)); intro gb167 hg w11 hbox hb; have n0_ := Aside0.mk (below_step (by repeat (first | (with_reducible first | exact HB.out | apply below_alloc | apply pw_below_drewN | apply below_drew1) | exact HB.out)) hb); have n1_ := Aside0.mk (hbox); have n2_ := Aside0.mk ((by rw [hg]; exact (below_size (by repeat (first | (with_reducible first | exact HB.out | apply below_alloc | apply pw_below_drewN | apply below_drew1) | exact HB.out))) : w.heap.size ≤ gb167)); have n3_ := n2_; clear HB; have HB := n0_; have BK167 := n1_; have GW167 := n2_; have GE167 := n3_; clear n0_ n1_ n2_ n3_; clear hb hbox hg) | ((with_reducible refine gate_dst (N := 3) rfl ?_); refine box_event ?hg (N := 3) ?hd (cs := #[.int .i64 a1_0, .int .i64 a1_1, .int .i64 a1_2]) (t := 99) ?hr ?_; (case hd => rfl); (case hg => rfl); (case hr => first | (go_simp; done) | (go_simp; rfl)); intro gb168 hg w12 hbox hb; have n0_ := Aside0.mk (blk_below (g := gb167) (o := .cells #[.int .i64 a0_0, .int .i64 a0_1, .int .i64 a0_2] 99 (0, 0)) (by (with_reducible repeat (first | apply blk_drewN | apply blk_drew | apply blk_alloc)); exact BK167.out) hb); have n1_ := Aside0.mk (below_step (by repeat (first | (with_reducible first | exact HB.out | apply below_alloc | apply pw_below_drewN | apply below_drew1 | refine below_set ?_ GE167.out) | exact HB.out)) hb); have n2_ := Aside0.mk (hbox); have n3_ := Aside0.mk ((by rw [hg]; exact (below_size (by repeat (first | (with_reducible first | exact HB.out | apply below_alloc | apply pw_below_drewN | apply below_drew1 | refine below_set ?_ GE167.out) | exact HB.out))) : w.heap.size ≤ gb168)); have n4_ := n3_; have n5_ := Aside0.mk ((by rw [hg]; exact Nat.ne_of_lt (blk_lt (g := gb167) (o := .cells #[.int .i64 a0_0, .int .i64 a0_1, .int .i64 a0_2] 99 (0, 0)) (by (with_reducible repeat (first | apply blk_drewN | apply blk_drew | apply blk_alloc)); exact BK167.out)) : gb167 ≠ gb168)); have n6_ := Aside0.mk ((by rw [hg]; exact Nat.ne_of_gt (blk_lt (g := gb167) (o := .cells #[.int .i64 a0_0, .int .i64 a0_1, .int .i64 a0_2] 99 (0, 0)) (by (with_reducible repeat (first | apply blk_drewN | apply blk_drew | apply blk_alloc)); exact BK167.out)) : gb168 ≠ gb167)); clear BK167; clear HB; have BK167 := n0_; have HB := n1_; have BK168 := n2_; have GW168 := n3_; have GE168 := n4_; have NB167_168 := n5_; have NB168_167 := n6_; clear n0_ n1_ n2_ n3_ n4_ n5_ n6_; clear hb hbox hg; have hnb13 := NB167_168.out; have hnc13 := NB168_167.out; obtain ⟨hcz14_0, hcz14_1, hcz14_2, hfz14_0, hfz14_1, hfz14_2⟩ := zc3 BK167.out; obtain ⟨hcz15_0, hcz15_1, hcz15_2, hfz15_0, hfz15_1, hfz15_2⟩ := zc3 BK168.out))
    go_ret;exact ⟨by first | rfl | (simp <;> rfl) | (simp [*] <;> rfl), by repeat (first | (with_reducible first | exact HB.out | apply below_alloc | apply pw_below_drewN | apply below_drew1 | refine below_set ?_ GE167.out | refine below_set ?_ GE168.out) | exact HB.out)⟩
  ·rw [if_neg c4] at H
   have c4b0 : (a0_1 == a1_1) = false := beq_eq_false_iff_ne.mpr c4;have c4b1 : (a0_1 != a1_1) = true := bne_iff_ne.mpr c4;obtain rfl := Option.some.inj H
   go_enter Try.func116, Try.ntmps116
   go_wp2_with (first | ((with_reducible refine gate_dst (N := 2) rfl ?_); refine box_event ?hg (N := 2) ?hd (cs := #[.int .i64 a0_0, .int .i64 a0_1, .int .i64 a0_2]) (t := 99) ?hr ?_; (case hd => rfl); (case hg => rfl); (case hr => first | (go_simp; done) | (go_simp; rfl)); intro gb167 hg w16 hbox hb; have n0_ := Aside0.mk (below_step (by repeat (first | (with_reducible first | exact HB.out | apply below_alloc | apply pw_below_drewN | apply below_drew1) | exact HB.out)) hb); have n1_ := Aside0.mk (hbox); have n2_ := Aside0.mk ((by rw [hg]; exact (below_size (by repeat (first | (with_reducible first | exact HB.out | apply below_alloc | apply pw_below_drewN | apply below_drew1) | exact HB.out))) : w.heap.size ≤ gb167)); have n3_ := n2_; clear HB; have HB := n0_; have BK167 := n1_; have GW167 := n2_; have GE167 := n3_; clear n0_ n1_ n2_ n3_; clear hb hbox hg) | ((with_reducible refine gate_dst (N := 3) rfl ?_); refine box_event ?hg (N := 3) ?hd (cs := #[.int .i64 a1_0, .int .i64 a1_1, .int .i64 a1_2]) (t := 99) ?hr ?_; (case hd => rfl); (case hg => rfl); (case hr => first | (go_simp; done) | (go_simp; rfl)); intro gb168 hg w17 hbox hb; have n0_ := Aside0.mk (blk_below (g := gb167) (o := .cells #[.int .i64 a0_0, .int .i64 a0_1, .int .i64 a0_2] 99 (0, 0)) (by (with_reducible repeat (first | apply blk_drewN | apply blk_drew | apply blk_alloc)); exact BK167.out) hb); have n1_ := Aside0.mk (below_step (by repeat (first | (with_reducible first | exact HB.out | apply below_alloc | apply pw_below_drewN | apply below_drew1 | refine below_set ?_ GE167.out) | exact HB.out)) hb); have n2_ := Aside0.mk (hbox); have n3_ := Aside0.mk ((by rw [hg]; exact (below_size (by repeat (first | (with_reducible first | exact HB.out | apply below_alloc | apply pw_below_drewN | apply below_drew1 | refine below_set ?_ GE167.out) | exact HB.out))) : w.heap.size ≤ gb168)); have n4_ := n3_; have n5_ := Aside0.mk ((by rw [hg]; exact Nat.ne_of_lt (blk_lt (g := gb167) (o := .cells #[.int .i64 a0_0, .int .i64 a0_1, .int .i64 a0_2] 99 (0, 0)) (by (with_reducible repeat (first | apply blk_drewN | apply blk_drew | apply blk_alloc)); exact BK167.out)) : gb167 ≠ gb168)); have n6_ := Aside0.mk ((by rw [hg]; exact Nat.ne_of_gt (blk_lt (g := gb167) (o := .cells #[.int .i64 a0_0, .int .i64 a0_1, .int .i64 a0_2] 99 (0, 0)) (by (with_reducible repeat (first | apply blk_drewN | apply blk_drew | apply blk_alloc)); exact BK167.out)) : gb168 ≠ gb167)); clear BK167; clear HB; have BK167 := n0_; have HB := n1_; have BK168 := n2_; have GW168 := n3_; have GE168 := n4_; have NB167_168 := n5_; have NB168_167 := n6_; clear n0_ n1_ n2_ n3_ n4_ n5_ n6_; clear hb hbox hg; have hnb18 := NB167_168.out; have hnc18 := NB168_167.out; obtain ⟨hcz19_0, hcz19_1, hcz19_2, hfz19_0, hfz19_1, hfz19_2⟩ := zc3 BK167.out; obtain ⟨hcz20_0, hcz20_1, hcz20_2, hfz20_0, hfz20_1, hfz20_2⟩ := zc3 BK168.out))
   go_ret;exact ⟨by first | rfl | (simp <;> rfl) | (simp [*] <;> rfl), by repeat (first | (with_reducible first | exact HB.out | apply below_alloc | apply pw_below_drewN | apply below_drew1 | refine below_set ?_ GE167.out | refine below_set ?_ GE168.out) | exact HB.out)⟩
 ·rw [if_neg c3] at H
  have c3b0 : (a0_0 == a1_0) = false := beq_eq_false_iff_ne.mpr c3;have c3b1 : (a0_0 != a1_0) = true := bne_iff_ne.mpr c3;obtain rfl := Option.some.inj H
  go_enter Try.func116, Try.ntmps116
  go_wp2_with (first | ((with_reducible refine gate_dst (N := 2) rfl ?_); refine box_event ?hg (N := 2) ?hd (cs := #[.int .i64 a0_0, .int .i64 a0_1, .int .i64 a0_2]) (t := 99) ?hr ?_; (case hd => rfl); (case hg => rfl); (case hr => first | (go_simp; done) | (go_simp; rfl)); intro gb167 hg w21 hbox hb; have n0_ := Aside0.mk (below_step (by repeat (first | (with_reducible first | exact HB.out | apply below_alloc | apply pw_below_drewN | apply below_drew1) | exact HB.out)) hb); have n1_ := Aside0.mk (hbox); have n2_ := Aside0.mk ((by rw [hg]; exact (below_size (by repeat (first | (with_reducible first | exact HB.out | apply below_alloc | apply pw_below_drewN | apply below_drew1) | exact HB.out))) : w.heap.size ≤ gb167)); have n3_ := n2_; clear HB; have HB := n0_; have BK167 := n1_; have GW167 := n2_; have GE167 := n3_; clear n0_ n1_ n2_ n3_; clear hb hbox hg) | ((with_reducible refine gate_dst (N := 3) rfl ?_); refine box_event ?hg (N := 3) ?hd (cs := #[.int .i64 a1_0, .int .i64 a1_1, .int .i64 a1_2]) (t := 99) ?hr ?_; (case hd => rfl); (case hg => rfl); (case hr => first | (go_simp; done) | (go_simp; rfl)); intro gb168 hg w22 hbox hb; have n0_ := Aside0.mk (blk_below (g := gb167) (o := .cells #[.int .i64 a0_0, .int .i64 a0_1, .int .i64 a0_2] 99 (0, 0)) (by (with_reducible repeat (first | apply blk_drewN | apply blk_drew | apply blk_alloc)); exact BK167.out) hb); have n1_ := Aside0.mk (below_step (by repeat (first | (with_reducible first | exact HB.out | apply below_alloc | apply pw_below_drewN | apply below_drew1 | refine below_set ?_ GE167.out) | exact HB.out)) hb); have n2_ := Aside0.mk (hbox); have n3_ := Aside0.mk ((by rw [hg]; exact (below_size (by repeat (first | (with_reducible first | exact HB.out | apply below_alloc | apply pw_below_drewN | apply below_drew1 | refine below_set ?_ GE167.out) | exact HB.out))) : w.heap.size ≤ gb168)); have n4_ := n3_; have n5_ := Aside0.mk ((by rw [hg]; exact Nat.ne_of_lt (blk_lt (g := gb167) (o := .cells #[.int .i64 a0_0, .int .i64 a0_1, .int .i64 a0_2] 99 (0, 0)) (by (with_reducible repeat (first | apply blk_drewN | apply blk_drew | apply blk_alloc)); exact BK167.out)) : gb167 ≠ gb168)); have n6_ := Aside0.mk ((by rw [hg]; exact Nat.ne_of_gt (blk_lt (g := gb167) (o := .cells #[.int .i64 a0_0, .int .i64 a0_1, .int .i64 a0_2] 99 (0, 0)) (by (with_reducible repeat (first | apply blk_drewN | apply blk_drew | apply blk_alloc)); exact BK167.out)) : gb168 ≠ gb167)); clear BK167; clear HB; have BK167 := n0_; have HB := n1_; have BK168 := n2_; have GW168 := n3_; have GE168 := n4_; have NB167_168 := n5_; have NB168_167 := n6_; clear n0_ n1_ n2_ n3_ n4_ n5_ n6_; clear hb hbox hg; have hnb23 := NB167_168.out; have hnc23 := NB168_167.out; obtain ⟨hcz24_0, hcz24_1, hcz24_2, hfz24_0, hfz24_1, hfz24_2⟩ := zc3 BK167.out; obtain ⟨hcz25_0, hcz25_1, hcz25_2, hfz25_0, hfz25_1, hfz25_2⟩ := zc3 BK168.out))
  go_ret;exact ⟨by first | rfl | (simp <;> rfl) | (simp [*] <;> rfl), by repeat (first | (with_reducible first | exact HB.out | apply below_alloc | apply pw_below_drewN | apply below_drew1 | refine below_set ?_ GE167.out | refine below_set ?_ GE168.out) | exact HB.out)⟩

end Go.Proofs.Ytdplboenlcppkaa.PFnExactNearOk

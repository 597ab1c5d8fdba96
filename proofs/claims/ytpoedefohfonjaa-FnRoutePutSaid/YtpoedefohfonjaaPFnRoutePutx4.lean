/- The machine side of some functions: each comes to its pure answer (written by a program of this session with the kit's print). No condition. -/
import Derived.Test.YtpoedefohfonjaaPFnRoutePutx0
import Derived.Test.YtpoedefohfonjaaPFnRoutePutx2
import Derived.Test.YtpoedefohfonjaaPFnRoutePutx3
namespace Go.Proofs.Ytpoedefohfonjaa.PFnRoutePut
open Go.RowKit Go.Proofs.YtpoedefohfonjaaUFnRoutePut.PrintWords Go.Proofs.YtpoedefohfonjaaUFnRoutePut.PrintLast Go.Proofs.YtpoedefohfonjaaUFnRoutePut.PrintMore
attribute [local go_sem] max2_int min2_int max_two min_two max_three min_three max_four min_four   -- for this text's walks alone
set_option linter.unusedVariables false
set_option linter.unusedSimpArgs false

/-! ### spec_RoutePut: function 21 -/
mutual
def spec_RoutePut.l0 : Nat → List (S24) → List (S24) → Bool → Int → Int → Int → Int → Int → Option ((List (S24)) × Bool)
 | 0, _, _, _, _, _, _, _, _ => none
 | k + 1, x0, x6, x7, x8, x142000, x142001, x142002, x142003 => if x8 < (x0.length : Int) then (if 0 ≤ x8 then (if x7 = true then (spec_RoutePut.j1 k x0 x6 x7 x8 false x142000 x142001 x142002 x142003 ((rd_T24 x0 x8).f0) ((rd_T24 x0 x8).f1) ((rd_T24 x0 x8).f2) ((rd_T24 x0 x8).f3)) else (if x142001 < ((rd_T24 x0 x8).f1) then (spec_RoutePut.j1 k x0 x6 x7 x8 true x142000 x142001 x142002 x142003 ((rd_T24 x0 x8).f0) ((rd_T24 x0 x8).f1) ((rd_T24 x0 x8).f2) ((rd_T24 x0 x8).f3)) else (if x142001 = ((rd_T24 x0 x8).f1) then (spec_RoutePut.j1 k x0 x6 x7 x8 (decide (x142000 ≤ ((rd_T24 x0 x8).f0))) x142000 x142001 x142002 x142003 ((rd_T24 x0 x8).f0) ((rd_T24 x0 x8).f1) ((rd_T24 x0 x8).f2) ((rd_T24 x0 x8).f3)) else (spec_RoutePut.j1 k x0 x6 x7 x8 false x142000 x142001 x142002 x142003 ((rd_T24 x0 x8).f0) ((rd_T24 x0 x8).f1) ((rd_T24 x0 x8).f2) ((rd_T24 x0 x8).f3))))) else (none)) else (if x7 = true then (spec_RoutePut.j2 k x0 x6 x142000 x142001 x142002 x142003) else (if x6.length < 4398046511104 then (spec_RoutePut.j2 k x0 (x6 ++ [(⟨x142000, x142001, x142002, x142003⟩ : S24)]) x142000 x142001 x142002 x142003) else (none)))
def spec_RoutePut.j1 : Nat → List (S24) → List (S24) → Bool → Int → Bool → Int → Int → Int → Int → Int → Int → Int → Int → Option ((List (S24)) × Bool)
 | 0, _, _, _, _, _, _, _, _, _, _, _, _, _ => none
 | k + 1, x0, x6, x7, x8, x43, x142000, x142001, x142002, x142003, x147000, x147001, x147002, x147003 => if x43 = true then (if x6.length < 4398046511104 then ((some (x6 ++ [(⟨x142000, x142001, x142002, x142003⟩ : S24)] : List (S24))).bind fun y147 => (if x147001 = x142001 then (if x147000 = x142000 then (spec_RoutePut.l0 k x0 y147 true (wrap64 (x8 + 1)) x142000 x142001 x142002 x142003) else (if y147.length < 4398046511104 then (spec_RoutePut.l0 k x0 (y147 ++ [(⟨x147000, x147001, x147002, x147003⟩ : S24)]) true (wrap64 (x8 + 1)) x142000 x142001 x142002 x142003) else (none))) else (if y147.length < 4398046511104 then (spec_RoutePut.l0 k x0 (y147 ++ [(⟨x147000, x147001, x147002, x147003⟩ : S24)]) true (wrap64 (x8 + 1)) x142000 x142001 x142002 x142003) else (none)))) else (none)) else (if x147001 = x142001 then (if x147000 = x142000 then (spec_RoutePut.l0 k x0 x6 x7 (wrap64 (x8 + 1)) x142000 x142001 x142002 x142003) else (if x6.length < 4398046511104 then (spec_RoutePut.l0 k x0 (x6 ++ [(⟨x147000, x147001, x147002, x147003⟩ : S24)]) x7 (wrap64 (x8 + 1)) x142000 x142001 x142002 x142003) else (none))) else (if x6.length < 4398046511104 then (spec_RoutePut.l0 k x0 (x6 ++ [(⟨x147000, x147001, x147002, x147003⟩ : S24)]) x7 (wrap64 (x8 + 1)) x142000 x142001 x142002 x142003) else (none)))
def spec_RoutePut.j2 : Nat → List (S24) → List (S24) → Int → Int → Int → Int → Option ((List (S24)) × Bool)
 | 0, _, _, _, _, _, _ => none
 | k + 1, x0, x6, x142000, x142001, x142002, x142003 => (spec_RoutesOk.f k x0).bind fun t165 => (if t165 = true then ((spec_RouteOk.f x142000 x142001 x142002 x142003).bind fun t166 => (if t166 = true then (if (x6.length : Int) > 8 then (some ((([] : List (S24))), false)) else (some (x6, true))) else (some ((([] : List (S24))), false)))) else (some ((([] : List (S24))), false)))
end
def spec_RoutePut.f (k : Nat) (l0 : List (S24)) (a1_0 : Int) (a1_1 : Int) (a1_2 : Int) (a1_3 : Int) : Option ((List (S24)) × Bool) := spec_RoutePut.l0 k l0 (([] : List (S24))) false 0 a1_0 a1_1 a1_2 a1_3
theorem spec_RoutePut.mono_l : ∀ k, (∀ y0 y1 y2 y3 y4 y5 y6 y7, LeO (spec_RoutePut.l0 k y0 y1 y2 y3 y4 y5 y6 y7) (spec_RoutePut.l0 (k + 1) y0 y1 y2 y3 y4 y5 y6 y7)) ∧ (∀ y0 y1 y2 y3 y4 y5 y6 y7 y8 y9 y10 y11 y12, LeO (spec_RoutePut.j1 k y0 y1 y2 y3 y4 y5 y6 y7 y8 y9 y10 y11 y12) (spec_RoutePut.j1 (k + 1) y0 y1 y2 y3 y4 y5 y6 y7 y8 y9 y10 y11 y12)) ∧ (∀ y0 y1 y2 y3 y4 y5, LeO (spec_RoutePut.j2 k y0 y1 y2 y3 y4 y5) (spec_RoutePut.j2 (k + 1) y0 y1 y2 y3 y4 y5))
 | 0 => ⟨fun _ _ _ _ _ _ _ _ r h => by simp [spec_RoutePut.l0] at h, fun _ _ _ _ _ _ _ _ _ _ _ _ _ r h => by simp [spec_RoutePut.j1] at h, fun _ _ _ _ _ _ r h => by simp [spec_RoutePut.j2] at h⟩
 | k + 1 => by
  obtain ⟨ih0, ih1, ih2⟩ := spec_RoutePut.mono_l k;refine ⟨?_, ?_, ?_⟩
  ·intro y0 y1 y2 y3 y4 y5 y6 y7
   unfold spec_RoutePut.l0
   repeat' first
   | (with_reducible exact ih0 _ _ _ _ _ _ _ _)
   | (with_reducible exact ih1 _ _ _ _ _ _ _ _ _ _ _ _ _)
   | (with_reducible exact ih2 _ _ _ _ _ _)
   | (with_reducible exact spec_RoutesOk.mono _ _)
   | (with_reducible exact LeO.refl _)
   | (with_reducible exact LeO.none _)
   | (with_reducible refine LeO.ite ?_ ?_)
   | (with_reducible refine LeO.bind ?_ (fun _ => ?_))
   | exact ih0 _ _ _ _ _ _ _ _
   | exact ih1 _ _ _ _ _ _ _ _ _ _ _ _ _
   | exact ih2 _ _ _ _ _ _
   | exact spec_RoutesOk.mono _ _
   | exact LeO.none _
   | refine LeO.ite ?_ ?_
   | refine LeO.bind ?_ (fun _ => ?_)
  ·intro y0 y1 y2 y3 y4 y5 y6 y7 y8 y9 y10 y11 y12
   unfold spec_RoutePut.j1
   repeat' first
   | (with_reducible exact ih0 _ _ _ _ _ _ _ _)
   | (with_reducible exact ih1 _ _ _ _ _ _ _ _ _ _ _ _ _)
   | (with_reducible exact ih2 _ _ _ _ _ _)
   | (with_reducible exact spec_RoutesOk.mono _ _)
   | (with_reducible exact LeO.refl _)
   | (with_reducible exact LeO.none _)
   | (with_reducible refine LeO.ite ?_ ?_)
   | (with_reducible refine LeO.bind ?_ (fun _ => ?_))
   | exact ih0 _ _ _ _ _ _ _ _
   | exact ih1 _ _ _ _ _ _ _ _ _ _ _ _ _
   | exact ih2 _ _ _ _ _ _
   | exact spec_RoutesOk.mono _ _
   | exact LeO.none _
   | refine LeO.ite ?_ ?_
   | refine LeO.bind ?_ (fun _ => ?_)
  ·intro y0 y1 y2 y3 y4 y5
   unfold spec_RoutePut.j2
   repeat' first
   | (with_reducible exact ih0 _ _ _ _ _ _ _ _)
   | (with_reducible exact ih1 _ _ _ _ _ _ _ _ _ _ _ _ _)
   | (with_reducible exact ih2 _ _ _ _ _ _)
   | (with_reducible exact spec_RoutesOk.mono _ _)
   | (with_reducible exact LeO.refl _)
   | (with_reducible exact LeO.none _)
   | (with_reducible refine LeO.ite ?_ ?_)
   | (with_reducible refine LeO.bind ?_ (fun _ => ?_))
   | exact ih0 _ _ _ _ _ _ _ _
   | exact ih1 _ _ _ _ _ _ _ _ _ _ _ _ _
   | exact ih2 _ _ _ _ _ _
   | exact spec_RoutesOk.mono _ _
   | exact LeO.none _
   | refine LeO.ite ?_ ?_
   | refine LeO.bind ?_ (fun _ => ?_)
theorem spec_RoutePut.mono : ∀ a0 a1 a2 a3 a4 k, LeO (spec_RoutePut.f k a0 a1 a2 a3 a4) (spec_RoutePut.f (k + 1) a0 a1 a2 a3 a4) := by
 intro a0 a1 a2 a3 a4 k;obtain ⟨ih0, ih1, ih2⟩ := spec_RoutePut.mono_l k
 unfold spec_RoutePut.f
 repeat' first
   | (with_reducible exact ih0 _ _ _ _ _ _ _ _)
   | (with_reducible exact ih1 _ _ _ _ _ _ _ _ _ _ _ _ _)
   | (with_reducible exact ih2 _ _ _ _ _ _)
   | (with_reducible exact spec_RoutesOk.mono _ _)
   | (with_reducible exact LeO.refl _)
   | (with_reducible exact LeO.none _)
   | (with_reducible refine LeO.ite ?_ ?_)
   | (with_reducible refine LeO.bind ?_ (fun _ => ?_))
   | exact ih0 _ _ _ _ _ _ _ _
   | exact ih1 _ _ _ _ _ _ _ _ _ _ _ _ _
   | exact ih2 _ _ _ _ _ _
   | exact spec_RoutesOk.mono _ _
   | exact LeO.none _
   | refine LeO.ite ?_ ?_
   | refine LeO.bind ?_ (fun _ => ?_)
set_option maxHeartbeats 8000000 in
set_option maxRecDepth 100000 in
theorem spec_RoutePut.calls (k : Nat) (A0 : Option Addr) (c0 : Nat) (l0 : List (S24)) (a1_0 : Int) (a1_1 : Int) (a1_2 : Int) (a1_3 : Int) (r1 : List (S24)) (r2 : Bool) (w : World) (hr0 : Kd.C k24 w A0 l0.length l0) (hc0 : l0.length ≤ c0) (h : spec_RoutePut.f k l0 a1_0 a1_1 a1_2 a1_3 = some (r1, r2)) :
  Calls Try.prog 21 #[.slice A0 l0.length c0, .agg #[.int .i64 a1_0, .int .i64 a1_1, .int .i64 a1_2, .int .i64 a1_3]] w fun e w' => ∃ v0_ : Value, e = .returned (.tuple #[v0_, .bool r2]) ∧ Kd.R k24 24 w' w.heap.size (fun _ => True) v0_ r1 ∧ Below w.heap.size w w' := by
 have hu24 := Try.underlying24;have HR0 := Aside0.mk hr0;have HC0 := Aside0.mk hc0;clear hr0 hc0;have HB := Aside0.mk (Below.refl w.heap.size w);have H : (spec_RoutePut.l0 k l0 (([] : List (S24))) false 0 a1_0 a1_1 a1_2 a1_3) = some (r1, r2) := h;clear h;obtain ⟨y142, hy142⟩ : ∃ y_ : List (S24), y_ = (([] : List (S24))) := ⟨_, rfl⟩
 replace H : (spec_RoutePut.l0 k l0 y142 false 0 a1_0 a1_1 a1_2 a1_3) = some (r1, r2) := by first | (rw [hy142]; with_reducible exact H) | (have H2_ := (Option.bind_some _ _).symm.trans H; rw [hy142]; with_reducible exact H2_) | (have H2_ := (Option.bind_some _ _).symm.trans H; with_reducible exact H2_) | with_reducible exact H | (rw [hy142]; exact H) | exact H
 have Ny142 := Aside0.mk hy142;clear hy142;have H' := Aside0.mk H;clear H
 go_enter Try.func21, Try.ntmps21
 go_wp2_with (first | ((with_reducible refine gate_dst (N := 3) rfl ?_); (try (refine gate_guard (by rfl) ?_; dsimp only)); refine box_event ?hg (N := 3) ?hd (cs := #[.int .i64 a1_0, .int .i64 a1_1, .int .i64 a1_2, .int .i64 a1_3]) (t := 24) ?hr ?_; (case hd => rfl); (case hg => rfl); (case hr => first | (go_simp; done) | (go_simp; rfl)); intro gb141 hg w3 hbox hb; have n0_ := Aside0.mk (below_step (by repeat (first | (with_reducible first | exact HB.out | apply below_alloc | apply pw_below_drewN | apply below_drew1) | exact HB.out)) hb); have n1_ := Aside0.mk (hbox); have n2_ := Aside0.mk ((by rw [hg]; exact (below_size (by repeat (first | (with_reducible first | exact HB.out | apply below_alloc | apply pw_below_drewN | apply below_drew1) | exact HB.out))) : w.heap.size ≤ gb141)); have n3_ := n2_; clear HB; have HB := n0_; have BK141 := n1_; have GW141 := n2_; have GE141 := n3_; clear n0_ n1_ n2_ n3_; clear hb hbox hg) | ((with_reducible refine gate_dst (N := 10) rfl ?_); (try (refine gate_guard (by rfl) ?_; dsimp only)); refine Kd.R_lit k24 _ 24 ?hg (N := 10) ?hd (xs := ([] : List (S24))) (inner := []) (ok := fun _ => True) (okp := fun _ => True) ?hr ?hp (fun _ hk => hk) trivial (Below.refl _ _) (Nat.le_refl _) (by simp) ?_; (case hd => rfl); (case hg => rfl); (case hr => first | (go_simp; done) | (go_simp; rfl)); (case hp => exact (Reps.none _ _)); intro v143 w4 ho5 hb hg_ hnew_; clear hg_ hnew_; (first | rw [← Ny142.out] at ho5 | (simp only [Int.reduceToNat] at ho5; rw [← Ny142.out] at ho5)); have n0_ := Aside0.mk (Kd.R_lower (Kd.R_newB ho5 (g := gb141) (o := .cells #[.int .i64 a1_0, .int .i64 a1_1, .int .i64 a1_2, .int .i64 a1_3] 24 (0, 0)) (by (with_reducible repeat (first | apply blk_drewN | apply blk_drew | apply blk_alloc)); exact BK141.out)) (below_size (by repeat (first | (with_reducible first | exact HB.out | apply below_alloc | apply pw_below_drewN | apply below_drew1 | refine below_set ?_ GE141.out) | exact HB.out)))); have n1_ := Aside0.mk (blk_below (g := gb141) (o := .cells #[.int .i64 a1_0, .int .i64 a1_1, .int .i64 a1_2, .int .i64 a1_3] 24 (0, 0)) (by (with_reducible repeat (first | apply blk_drewN | apply blk_drew | apply blk_alloc)); exact BK141.out) hb); have n2_ := Aside0.mk (below_step (by repeat (first | (with_reducible first | exact HB.out | apply below_alloc | apply pw_below_drewN | apply below_drew1 | refine below_set ?_ GE141.out) | exact HB.out)) hb); clear BK141; clear HB; have HO144 := n0_; have BK141 := n1_; have HB := n2_; clear n0_ n1_ n2_; clear hb ho5))
 go_loopg [6, 7, 8] k (fun kq v6 v7 v8 w' => ∃ (x6_1 : List (S24)) (x7_1 : Bool) (x8_1 : Int), v7 = .bool x7_1 ∧ v8 = .int .i64 x8_1 ∧ Aside0 (spec_RoutePut.l0 kq l0 x6_1 x7_1 x8_1 a1_0 a1_1 a1_2 a1_3 = some (r1, r2)) ∧ Aside0 (kq ≤ k) ∧ Aside0 (Kd.R k24 24 w' w.heap.size (fun k_ => k_ ≠ gb141) v6 x6_1) ∧ Aside0 (w'.heap[gb141]? = some (.cells #[.int .i64 a1_0, .int .i64 a1_1, .int .i64 a1_2, .int .i64 a1_3] 24 (0, 0))) ∧ Aside0 (Below w.heap.size w w'))
 case atStart => exact ⟨(y142), (false), (0), (by first | rfl | (simp; done) | (simp [*]; done)), (by first | rfl | (simp; done) | (simp [*]; done)), H', ⟨Nat.le_refl _⟩, ⟨by (with_reducible repeat (first | apply Kd.R_alloc | apply Kd.R_drewN | apply Kd.R_drew)); exact Kd.R_mono HO144.out (fun _ hk => hk.2)⟩, ⟨by (with_reducible repeat (first | apply blk_drewN | apply blk_drew | apply blk_alloc)); exact BK141.out⟩, ⟨by repeat (first | (with_reducible first | exact HB.out | apply below_alloc | apply pw_below_drewN | apply below_drew1 | refine below_set ?_ GE141.out) | exact HB.out)⟩⟩
 case round =>
  clear H'
  try clear c2
  try clear p2
  obtain ⟨x6_1, x7_1, x8_1, rfl, rfl, HA, HK1, HO_6, BK141, HB⟩ := hrel
  cases gk with
  | zero => exact absurd HA.out (by simp [spec_RoutePut.l0])
  | succ k1 =>
   have H := HA.out;clear HA;simp only [spec_RoutePut.l0] at H
   by_cases c6 : x8_1 < (l0.length : Int)
   ·rw [if_pos c6] at H
    have c6b0 : decide (x8_1 < (l0.length : Int)) = true := decide_eq_true c6;clear c6
    by_cases c7 : 0 ≤ x8_1
    ·rw [if_pos c7] at H
     have c7b0 : decide (0 ≤ x8_1) = true := decide_eq_true c7;clear c7;have HC8 := Aside0.mk H;clear H;have p145 : 0 ≤ (x8_1 : Int) := of_decide_eq_true (by first | (with_reducible assumption) | assumption);have q145 : x8_1 < (l0.length : Int) := of_decide_eq_true (by first | (with_reducible assumption) | assumption);obtain ⟨ad145, e145, hx145_0, hx145_1, hx145_2, hx145_3⟩ := at_T24 HR0.out x8_1 p145 q145
     cases e145
     replace hx145_0 := (HB.out.cell (World.block_lt_of_cell? w _ hx145_0)).trans hx145_0;replace hx145_1 := (HB.out.cell (World.block_lt_of_cell? w _ hx145_1)).trans hx145_1;replace hx145_2 := (HB.out.cell (World.block_lt_of_cell? w _ hx145_2)).trans hx145_2;replace hx145_3 := (HB.out.cell (World.block_lt_of_cell? w _ hx145_3)).trans hx145_3;replace p145 := eq_true p145;replace q145 := eq_true q145
     go_upto_region 7 with (first | ((with_reducible refine gate_dst (N := 9) rfl ?_); (try (refine gate_guard (by rfl) ?_; dsimp only)); refine box_event ?hg (N := 9) ?hd (cs := #[.int .i64 0, .int .i64 0, .int .i64 0, .int .i64 0]) (t := 24) ?hr ?_; (case hd => rfl); (case hg => rfl); (case hr => first | (go_simp; done) | (go_simp; rfl)); intro gb146 hg w9 hbox hb; have n0_ := Aside0.mk (Kd.R_below (Kd.R_elderB (by (with_reducible repeat (first | apply Kd.R_alloc | apply Kd.R_drewN | apply Kd.R_drew)); exact HO_6.out) gb146 (Nat.le_of_eq hg.symm)) hb); have n1_ := Aside0.mk (blk_below (g := gb141) (o := .cells #[.int .i64 a1_0, .int .i64 a1_1, .int .i64 a1_2, .int .i64 a1_3] 24 (0, 0)) (by (with_reducible repeat (first | apply blk_drewN | apply blk_drew | apply blk_alloc)); exact BK141.out) hb); have n2_ := Aside0.mk (below_step (by repeat (first | (with_reducible first | exact HB.out | apply below_alloc | apply pw_below_drewN | apply below_drew1 | refine below_set ?_ GE141.out) | exact HB.out)) hb); have n3_ := Aside0.mk (hbox); have n4_ := Aside0.mk ((by rw [hg]; exact (below_size (by repeat (first | (with_reducible first | exact HB.out | apply below_alloc | apply pw_below_drewN | apply below_drew1 | refine below_set ?_ GE141.out) | exact HB.out))) : w.heap.size ≤ gb146)); have n5_ := n4_; have n6_ := Aside0.mk ((by rw [hg]; exact Nat.ne_of_lt (blk_lt (g := gb141) (o := .cells #[.int .i64 a1_0, .int .i64 a1_1, .int .i64 a1_2, .int .i64 a1_3] 24 (0, 0)) (by (with_reducible repeat (first | apply blk_drewN | apply blk_drew | apply blk_alloc)); exact BK141.out)) : gb141 ≠ gb146)); have n7_ := Aside0.mk ((by rw [hg]; exact Nat.ne_of_gt (blk_lt (g := gb141) (o := .cells #[.int .i64 a1_0, .int .i64 a1_1, .int .i64 a1_2, .int .i64 a1_3] 24 (0, 0)) (by (with_reducible repeat (first | apply blk_drewN | apply blk_drew | apply blk_alloc)); exact BK141.out)) : gb146 ≠ gb141)); clear HO_6; clear BK141; clear HB; have HO_6 := n0_; have BK141 := n1_; have HB := n2_; have BK146 := n3_; have GW146 := n4_; have GE146 := n5_; have NB141_146 := n6_; have NB146_141 := n7_; clear n0_ n1_ n2_ n3_ n4_ n5_ n6_ n7_; clear hb hbox hg; have hnb10 := NB146_141.out; have hnc10 := NB141_146.out; obtain ⟨hcz11_0, hcz11_1, hcz11_2, hcz11_3, hfz11_0, hfz11_1, hfz11_2, hfz11_3⟩ := zc4 BK146.out))
     (try simp only [Act.put, List.setIfInBounds_toArray, List.set_cons_zero, List.set_cons_succ])
     go_cut [43] (fun v43 wc => ∃ (kq : Nat) (x43_7 : Bool), v43 = .bool x43_7 ∧ Aside0 (spec_RoutePut.j1 kq l0 x6_1 x7_1 x8_1 x43_7 a1_0 a1_1 a1_2 a1_3 ((rd_T24 l0 x8_1).f0) ((rd_T24 l0 x8_1).f1) ((rd_T24 l0 x8_1).f2) ((rd_T24 l0 x8_1).f3) = some (r1, r2)) ∧ Aside0 (kq ≤ k1) ∧ Aside0 (Kd.R k24 24 wc w.heap.size (fun k_ => k_ ≠ gb141 ∧ k_ ≠ gb146) u6 x6_1) ∧ Aside0 (wc.heap[gb141]? = some (.cells #[.int .i64 a1_0, .int .i64 a1_1, .int .i64 a1_2, .int .i64 a1_3] 24 (0, 0))) ∧ Aside0 (wc.heap[gb146]? = some (.cells #[.int .i64 ((rd_T24 l0 x8_1).f0), .int .i64 ((rd_T24 l0 x8_1).f1), .int .i64 ((rd_T24 l0 x8_1).f2), .int .i64 ((rd_T24 l0 x8_1).f3)] 24 (0, 0))) ∧ Aside0 (Below w.heap.size w wc))
     case first =>
      have H := HC8.out;clear HC8
      by_cases c12 : x7_1 = true
      ·subst c12
       have H1 : (spec_RoutePut.j1 k1 l0 x6_1 true x8_1 false a1_0 a1_1 a1_2 a1_3 ((rd_T24 l0 x8_1).f0) ((rd_T24 l0 x8_1).f1) ((rd_T24 l0 x8_1).f2) ((rd_T24 l0 x8_1).f3)) = some (r1, r2) := by rw [if_pos rfl] at H; exact H
       clear H;have H := H1;clear H1;have H' := Aside0.mk H;clear H
       go_wp2
       go_meet
       case rel => exact ⟨_, (false), (by first | rfl | (simp; done) | (simp [*]; done)), H', ⟨by have := HK1.out; first | omega | exact Nat.le_refl _⟩, ⟨by (with_reducible repeat (first | apply Kd.R_alloc | apply Kd.R_drewN | apply Kd.R_drew)); exact Kd.R_mono (Kd.R_far (p := ⟨gb146, 3, none⟩) (Kd.R_far (p := ⟨gb146, 2, none⟩) (Kd.R_far (p := ⟨gb146, 1, none⟩) (Kd.R_far (p := ⟨gb146, 0, none⟩) (Kd.R_mono HO_6.out (fun k_ hk => (⟨hk, hk.2⟩ : _ ∧ k_ ≠ gb146))) (fun _ hk => hk.2) (.int .i64 ((rd_T24 l0 x8_1).f0))) (fun _ hk => hk.2) (.int .i64 ((rd_T24 l0 x8_1).f1))) (fun _ hk => hk.2) (.int .i64 ((rd_T24 l0 x8_1).f2))) (fun _ hk => hk.2) (.int .i64 ((rd_T24 l0 x8_1).f3))) (fun _ hk => ⟨hk.1.1, hk.1.2⟩)⟩, ⟨by (with_reducible repeat (first | apply blk_drewN | apply blk_drew | apply blk_alloc)); refine blk_far ?_ NB141_146.out _; refine blk_far ?_ NB141_146.out _; refine blk_far ?_ NB141_146.out _; refine blk_far ?_ NB141_146.out _; (with_reducible repeat (first | apply blk_drewN | apply blk_drew | apply blk_alloc)); exact BK141.out⟩, ⟨by (with_reducible repeat (first | apply blk_drewN | apply blk_drew | apply blk_alloc)); refine blk_put (cs := #[.int .i64 ((rd_T24 l0 x8_1).f0), .int .i64 ((rd_T24 l0 x8_1).f1), .int .i64 ((rd_T24 l0 x8_1).f2), .int .i64 0]) ?_ 3 _ rfl; refine blk_put (cs := #[.int .i64 ((rd_T24 l0 x8_1).f0), .int .i64 ((rd_T24 l0 x8_1).f1), .int .i64 0, .int .i64 0]) ?_ 2 _ rfl; refine blk_put (cs := #[.int .i64 ((rd_T24 l0 x8_1).f0), .int .i64 0, .int .i64 0, .int .i64 0]) ?_ 1 _ rfl; refine blk_put (cs := #[.int .i64 0, .int .i64 0, .int .i64 0, .int .i64 0]) ?_ 0 _ rfl; (with_reducible repeat (first | apply blk_drewN | apply blk_drew | apply blk_alloc)); exact BK146.out⟩, ⟨by repeat (first | (with_reducible first | exact HB.out | apply below_alloc | apply pw_below_drewN | apply below_drew1 | refine below_set ?_ GE141.out | refine below_set ?_ GE146.out) | exact HB.out)⟩⟩
      ·replace c12 := Bool.eq_false_iff.mpr c12
       subst c12
       have H1 : (if a1_1 < ((rd_T24 l0 x8_1).f1) then (spec_RoutePut.j1 k1 l0 x6_1 false x8_1 true a1_0 a1_1 a1_2 a1_3 ((rd_T24 l0 x8_1).f0) ((rd_T24 l0 x8_1).f1) ((rd_T24 l0 x8_1).f2) ((rd_T24 l0 x8_1).f3)) else (if a1_1 = ((rd_T24 l0 x8_1).f1) then (spec_RoutePut.j1 k1 l0 x6_1 false x8_1 (decide (a1_0 ≤ ((rd_T24 l0 x8_1).f0))) a1_0 a1_1 a1_2 a1_3 ((rd_T24 l0 x8_1).f0) ((rd_T24 l0 x8_1).f1) ((rd_T24 l0 x8_1).f2) ((rd_T24 l0 x8_1).f3)) else (spec_RoutePut.j1 k1 l0 x6_1 false x8_1 false a1_0 a1_1 a1_2 a1_3 ((rd_T24 l0 x8_1).f0) ((rd_T24 l0 x8_1).f1) ((rd_T24 l0 x8_1).f2) ((rd_T24 l0 x8_1).f3)))) = some (r1, r2) := by rw [if_neg (show ¬ (false = true) by decide)] at H; exact H
       clear H;have H := H1;clear H1
       by_cases c13 : a1_1 < ((rd_T24 l0 x8_1).f1)
       ·rw [if_pos c13] at H
        have c13b0 : decide (a1_1 < ((rd_T24 l0 x8_1).f1)) = true := decide_eq_true c13;clear c13
        (first | rw [c13b0] | (simp only [i64_w, i32_w]; rw [c13b0]) | skip)
        have H' := Aside0.mk H;clear H;have hnb14 := NB141_146.out;have hnc14 := NB146_141.out;obtain ⟨hcz15_0, hcz15_1, hcz15_2, hcz15_3, hfz15_0, hfz15_1, hfz15_2, hfz15_3⟩ := zc4 BK141.out;obtain ⟨hcz16_0, hcz16_1, hcz16_2, hcz16_3, hfz16_0, hfz16_1, hfz16_2, hfz16_3⟩ := zc4 BK146.out
        go_wp2
        go_meet
        case rel => exact ⟨_, (true), (by first | rfl | (simp; done) | (simp [*]; done)), H', ⟨by have := HK1.out; first | omega | exact Nat.le_refl _⟩, ⟨by (with_reducible repeat (first | apply Kd.R_alloc | apply Kd.R_drewN | apply Kd.R_drew)); exact Kd.R_mono (Kd.R_far (p := ⟨gb146, 3, none⟩) (Kd.R_far (p := ⟨gb146, 2, none⟩) (Kd.R_far (p := ⟨gb146, 1, none⟩) (Kd.R_far (p := ⟨gb146, 0, none⟩) (Kd.R_mono HO_6.out (fun k_ hk => (⟨hk, hk.2⟩ : _ ∧ k_ ≠ gb146))) (fun _ hk => hk.2) (.int .i64 ((rd_T24 l0 x8_1).f0))) (fun _ hk => hk.2) (.int .i64 ((rd_T24 l0 x8_1).f1))) (fun _ hk => hk.2) (.int .i64 ((rd_T24 l0 x8_1).f2))) (fun _ hk => hk.2) (.int .i64 ((rd_T24 l0 x8_1).f3))) (fun _ hk => ⟨hk.1.1, hk.1.2⟩)⟩, ⟨by (with_reducible repeat (first | apply blk_drewN | apply blk_drew | apply blk_alloc)); refine blk_far ?_ NB141_146.out _; refine blk_far ?_ NB141_146.out _; refine blk_far ?_ NB141_146.out _; refine blk_far ?_ NB141_146.out _; (with_reducible repeat (first | apply blk_drewN | apply blk_drew | apply blk_alloc)); exact BK141.out⟩, ⟨by (with_reducible repeat (first | apply blk_drewN | apply blk_drew | apply blk_alloc)); refine blk_put (cs := #[.int .i64 ((rd_T24 l0 x8_1).f0), .int .i64 ((rd_T24 l0 x8_1).f1), .int .i64 ((rd_T24 l0 x8_1).f2), .int .i64 0]) ?_ 3 _ rfl; refine blk_put (cs := #[.int .i64 ((rd_T24 l0 x8_1).f0), .int .i64 ((rd_T24 l0 x8_1).f1), .int .i64 0, .int .i64 0]) ?_ 2 _ rfl; refine blk_put (cs := #[.int .i64 ((rd_T24 l0 x8_1).f0), .int .i64 0, .int .i64 0, .int .i64 0]) ?_ 1 _ rfl; refine blk_put (cs := #[.int .i64 0, .int .i64 0, .int .i64 0, .int .i64 0]) ?_ 0 _ rfl; (with_reducible repeat (first | apply blk_drewN | apply blk_drew | apply blk_alloc)); exact BK146.out⟩, ⟨by repeat (first | (with_reducible first | exact HB.out | apply below_alloc | apply pw_below_drewN | apply below_drew1 | refine below_set ?_ GE141.out | refine below_set ?_ GE146.out) | exact HB.out)⟩⟩
       ·rw [if_neg c13] at H
        have c13b0 : decide (a1_1 < ((rd_T24 l0 x8_1).f1)) = false := decide_eq_false c13;clear c13
        (first | rw [c13b0] | (simp only [i64_w, i32_w]; rw [c13b0]) | skip)
        by_cases c17 : a1_1 = ((rd_T24 l0 x8_1).f1)
        ·rw [if_pos c17] at H
         have c17b0 : (a1_1 == ((rd_T24 l0 x8_1).f1)) = true := beq_iff_eq.mpr c17;have c17b1 : (a1_1 != ((rd_T24 l0 x8_1).f1)) = false := bne_eq_false_iff_eq.mpr c17;clear c17;have H' := Aside0.mk H;clear H;have hnb18 := NB141_146.out;have hnc18 := NB146_141.out;obtain ⟨hcz19_0, hcz19_1, hcz19_2, hcz19_3, hfz19_0, hfz19_1, hfz19_2, hfz19_3⟩ := zc4 BK141.out;obtain ⟨hcz20_0, hcz20_1, hcz20_2, hcz20_3, hfz20_0, hfz20_1, hfz20_2, hfz20_3⟩ := zc4 BK146.out
         go_wp2
         go_meet
         case rel => exact ⟨_, (decide (a1_0 ≤ ((rd_T24 l0 x8_1).f0))), (by first | rfl | (simp; done) | (simp [*]; done)), H', ⟨by have := HK1.out; first | omega | exact Nat.le_refl _⟩, ⟨by (with_reducible repeat (first | apply Kd.R_alloc | apply Kd.R_drewN | apply Kd.R_drew)); exact Kd.R_mono (Kd.R_far (p := ⟨gb146, 3, none⟩) (Kd.R_far (p := ⟨gb146, 2, none⟩) (Kd.R_far (p := ⟨gb146, 1, none⟩) (Kd.R_far (p := ⟨gb146, 0, none⟩) (Kd.R_mono HO_6.out (fun k_ hk => (⟨hk, hk.2⟩ : _ ∧ k_ ≠ gb146))) (fun _ hk => hk.2) (.int .i64 ((rd_T24 l0 x8_1).f0))) (fun _ hk => hk.2) (.int .i64 ((rd_T24 l0 x8_1).f1))) (fun _ hk => hk.2) (.int .i64 ((rd_T24 l0 x8_1).f2))) (fun _ hk => hk.2) (.int .i64 ((rd_T24 l0 x8_1).f3))) (fun _ hk => ⟨hk.1.1, hk.1.2⟩)⟩, ⟨by (with_reducible repeat (first | apply blk_drewN | apply blk_drew | apply blk_alloc)); refine blk_far ?_ NB141_146.out _; refine blk_far ?_ NB141_146.out _; refine blk_far ?_ NB141_146.out _; refine blk_far ?_ NB141_146.out _; (with_reducible repeat (first | apply blk_drewN | apply blk_drew | apply blk_alloc)); exact BK141.out⟩, ⟨by (with_reducible repeat (first | apply blk_drewN | apply blk_drew | apply blk_alloc)); refine blk_put (cs := #[.int .i64 ((rd_T24 l0 x8_1).f0), .int .i64 ((rd_T24 l0 x8_1).f1), .int .i64 ((rd_T24 l0 x8_1).f2), .int .i64 0]) ?_ 3 _ rfl; refine blk_put (cs := #[.int .i64 ((rd_T24 l0 x8_1).f0), .int .i64 ((rd_T24 l0 x8_1).f1), .int .i64 0, .int .i64 0]) ?_ 2 _ rfl; refine blk_put (cs := #[.int .i64 ((rd_T24 l0 x8_1).f0), .int .i64 0, .int .i64 0, .int .i64 0]) ?_ 1 _ rfl; refine blk_put (cs := #[.int .i64 0, .int .i64 0, .int .i64 0, .int .i64 0]) ?_ 0 _ rfl; (with_reducible repeat (first | apply blk_drewN | apply blk_drew | apply blk_alloc)); exact BK146.out⟩, ⟨by repeat (first | (with_reducible first | exact HB.out | apply below_alloc | apply pw_below_drewN | apply below_drew1 | refine below_set ?_ GE141.out | refine below_set ?_ GE146.out) | exact HB.out)⟩⟩
        ·rw [if_neg c17] at H
         have c17b0 : (a1_1 == ((rd_T24 l0 x8_1).f1)) = false := beq_eq_false_iff_ne.mpr c17;have c17b1 : (a1_1 != ((rd_T24 l0 x8_1).f1)) = true := bne_iff_ne.mpr c17;have H' := Aside0.mk H;clear H;have hnb21 := NB141_146.out;have hnc21 := NB146_141.out;obtain ⟨hcz22_0, hcz22_1, hcz22_2, hcz22_3, hfz22_0, hfz22_1, hfz22_2, hfz22_3⟩ := zc4 BK141.out;obtain ⟨hcz23_0, hcz23_1, hcz23_2, hcz23_3, hfz23_0, hfz23_1, hfz23_2, hfz23_3⟩ := zc4 BK146.out
         go_wp2
         go_meet
         case rel => exact ⟨_, (false), (by first | rfl | (simp; done) | (simp [*]; done)), H', ⟨by have := HK1.out; first | omega | exact Nat.le_refl _⟩, ⟨by (with_reducible repeat (first | apply Kd.R_alloc | apply Kd.R_drewN | apply Kd.R_drew)); exact Kd.R_mono (Kd.R_far (p := ⟨gb146, 3, none⟩) (Kd.R_far (p := ⟨gb146, 2, none⟩) (Kd.R_far (p := ⟨gb146, 1, none⟩) (Kd.R_far (p := ⟨gb146, 0, none⟩) (Kd.R_mono HO_6.out (fun k_ hk => (⟨hk, hk.2⟩ : _ ∧ k_ ≠ gb146))) (fun _ hk => hk.2) (.int .i64 ((rd_T24 l0 x8_1).f0))) (fun _ hk => hk.2) (.int .i64 ((rd_T24 l0 x8_1).f1))) (fun _ hk => hk.2) (.int .i64 ((rd_T24 l0 x8_1).f2))) (fun _ hk => hk.2) (.int .i64 ((rd_T24 l0 x8_1).f3))) (fun _ hk => ⟨hk.1.1, hk.1.2⟩)⟩, ⟨by (with_reducible repeat (first | apply blk_drewN | apply blk_drew | apply blk_alloc)); refine blk_far ?_ NB141_146.out _; refine blk_far ?_ NB141_146.out _; refine blk_far ?_ NB141_146.out _; refine blk_far ?_ NB141_146.out _; (with_reducible repeat (first | apply blk_drewN | apply blk_drew | apply blk_alloc)); exact BK141.out⟩, ⟨by (with_reducible repeat (first | apply blk_drewN | apply blk_drew | apply blk_alloc)); refine blk_put (cs := #[.int .i64 ((rd_T24 l0 x8_1).f0), .int .i64 ((rd_T24 l0 x8_1).f1), .int .i64 ((rd_T24 l0 x8_1).f2), .int .i64 0]) ?_ 3 _ rfl; refine blk_put (cs := #[.int .i64 ((rd_T24 l0 x8_1).f0), .int .i64 ((rd_T24 l0 x8_1).f1), .int .i64 0, .int .i64 0]) ?_ 2 _ rfl; refine blk_put (cs := #[.int .i64 ((rd_T24 l0 x8_1).f0), .int .i64 0, .int .i64 0, .int .i64 0]) ?_ 1 _ rfl; refine blk_put (cs := #[.int .i64 0, .int .i64 0, .int .i64 0, .int .i64 0]) ?_ 0 _ rfl; (with_reducible repeat (first | apply blk_drewN | apply blk_drew | apply blk_alloc)); exact BK146.out⟩, ⟨by repeat (first | (with_reducible first | exact HB.out | apply below_alloc | apply pw_below_drewN | apply below_drew1 | refine below_set ?_ GE141.out | refine below_set ?_ GE146.out) | exact HB.out)⟩⟩
     case rest =>
      clear HC8
      try clear c1
      try clear p1
      try clear q1
      try clear hx1
      try clear c2
      try clear p2
      try clear c6
      try clear c6b0
      try clear c7
      try clear c7b0
      try clear c10
      try clear c12
      try clear c13
      try clear c13b0
      try clear c14
      try clear p14
      try clear q14
      try clear hx14
      try clear c17
      try clear c17b0
      try clear c17b1
      try clear c18
      try clear c21
      try clear hcz11_0
      try clear hcz11_1
      try clear hcz11_2
      try clear hcz11_3
      try clear hcz15_0
      try clear hcz15_1
      try clear hcz15_2
      try clear hcz15_3
      try clear hcz16_0
      try clear hcz16_1
      try clear hcz16_2
      try clear hcz16_3
      try clear hcz19_0
      try clear hcz19_1
      try clear hcz19_2
      try clear hcz19_3
      try clear hcz20_0
      try clear hcz20_1
      try clear hcz20_2
      try clear hcz20_3
      try clear hcz22_0
      try clear hcz22_1
      try clear hcz22_2
      try clear hcz22_3
      try clear hcz23_0
      try clear hcz23_1
      try clear hcz23_2
      try clear hcz23_3
      try clear hfz11_0
      try clear hfz11_1
      try clear hfz11_2
      try clear hfz11_3
      try clear hfz15_0
      try clear hfz15_1
      try clear hfz15_2
      try clear hfz15_3
      try clear hfz16_0
      try clear hfz16_1
      try clear hfz16_2
      try clear hfz16_3
      try clear hfz19_0
      try clear hfz19_1
      try clear hfz19_2
      try clear hfz19_3
      try clear hfz20_0
      try clear hfz20_1
      try clear hfz20_2
      try clear hfz20_3
      try clear hfz22_0
      try clear hfz22_1
      try clear hfz22_2
      try clear hfz22_3
      try clear hfz23_0
      try clear hfz23_1
      try clear hfz23_2
      try clear hfz23_3
      try clear hx145_0
      try clear hx145_1
      try clear hx145_2
      try clear hx145_3
      try clear p145
      try clear p2
      try clear q145
      obtain ⟨kq, x43_7, rfl, HA, HJ7, HO_6, BK141, BK146, HB⟩ := hcut
      cases kq with
      | zero => exact absurd HA.out (by simp [spec_RoutePut.j1])
      | succ kj7 =>
       have H := HA.out;clear HA;simp only [spec_RoutePut.j1] at H
       by_cases c24 : x43_7 = true
       ·subst c24
        have H1 : (if x6_1.length < 4398046511104 then ((some (x6_1 ++ [(⟨a1_0, a1_1, a1_2, a1_3⟩ : S24)] : List (S24))).bind fun y147 => (if ((rd_T24 l0 x8_1).f1) = a1_1 then (if ((rd_T24 l0 x8_1).f0) = a1_0 then (spec_RoutePut.l0 kj7 l0 y147 true (wrap64 (x8_1 + 1)) a1_0 a1_1 a1_2 a1_3) else (if y147.length < 4398046511104 then (spec_RoutePut.l0 kj7 l0 (y147 ++ [(⟨((rd_T24 l0 x8_1).f0), ((rd_T24 l0 x8_1).f1), ((rd_T24 l0 x8_1).f2), ((rd_T24 l0 x8_1).f3)⟩ : S24)]) true (wrap64 (x8_1 + 1)) a1_0 a1_1 a1_2 a1_3) else (none))) else (if y147.length < 4398046511104 then (spec_RoutePut.l0 kj7 l0 (y147 ++ [(⟨((rd_T24 l0 x8_1).f0), ((rd_T24 l0 x8_1).f1), ((rd_T24 l0 x8_1).f2), ((rd_T24 l0 x8_1).f3)⟩ : S24)]) true (wrap64 (x8_1 + 1)) a1_0 a1_1 a1_2 a1_3) else (none)))) else (none)) = some (r1, r2) := by rw [if_pos rfl] at H; exact H
        clear H;have H := H1;clear H1
        by_cases c25 : x6_1.length < 4398046511104
        ·rw [if_pos c25] at H
         have LMc25 := Aside0.mk c25;clear c25;obtain ⟨y147, hy147⟩ : ∃ y_ : List (S24), y_ = (x6_1 ++ [(⟨a1_0, a1_1, a1_2, a1_3⟩ : S24)]) := ⟨_, rfl⟩
         replace H : (if ((rd_T24 l0 x8_1).f1) = a1_1 then (if ((rd_T24 l0 x8_1).f0) = a1_0 then (spec_RoutePut.l0 kj7 l0 y147 true (wrap64 (x8_1 + 1)) a1_0 a1_1 a1_2 a1_3) else (if y147.length < 4398046511104 then (spec_RoutePut.l0 kj7 l0 (y147 ++ [(⟨((rd_T24 l0 x8_1).f0), ((rd_T24 l0 x8_1).f1), ((rd_T24 l0 x8_1).f2), ((rd_T24 l0 x8_1).f3)⟩ : S24)]) true (wrap64 (x8_1 + 1)) a1_0 a1_1 a1_2 a1_3) else (none))) else (if y147.length < 4398046511104 then (spec_RoutePut.l0 kj7 l0 (y147 ++ [(⟨((rd_T24 l0 x8_1).f0), ((rd_T24 l0 x8_1).f1), ((rd_T24 l0 x8_1).f2), ((rd_T24 l0 x8_1).f3)⟩ : S24)]) true (wrap64 (x8_1 + 1)) a1_0 a1_1 a1_2 a1_3) else (none))) = some (r1, r2) := by first | (rw [hy147]; with_reducible exact H) | (have H2_ := (Option.bind_some _ _).symm.trans H; rw [hy147]; with_reducible exact H2_) | (have H2_ := (Option.bind_some _ _).symm.trans H; with_reducible exact H2_) | with_reducible exact H | (rw [hy147]; exact H) | exact H
         have Ny147 := Aside0.mk hy147;clear hy147
         by_cases c26 : ((rd_T24 l0 x8_1).f1) = a1_1
         ·rw [if_pos c26] at H
          have c26b0 : (((rd_T24 l0 x8_1).f1) == a1_1) = true := beq_iff_eq.mpr c26;have c26b1 : (((rd_T24 l0 x8_1).f1) != a1_1) = false := bne_eq_false_iff_eq.mpr c26;clear c26
          by_cases c27 : ((rd_T24 l0 x8_1).f0) = a1_0
          ·rw [if_pos c27] at H
           have c27b0 : (((rd_T24 l0 x8_1).f0) == a1_0) = true := beq_iff_eq.mpr c27;have c27b1 : (((rd_T24 l0 x8_1).f0) != a1_0) = false := bne_eq_false_iff_eq.mpr c27;clear c27;have H' := Aside0.mk H;clear H;have hnb28 := NB141_146.out;have hnc28 := NB146_141.out;obtain ⟨hcz29_0, hcz29_1, hcz29_2, hcz29_3, hfz29_0, hfz29_1, hfz29_2, hfz29_3⟩ := zc4 BK141.out
           go_wp2_with (first | ((with_reducible refine gate_builtin (b := .append) (xs := #[.tmp 44, .tmp 46]) rfl ?_); (try (refine gate_guard (by rfl) ?_; dsimp only)); at_builtin; refine Kd.R_append k24 (w0 := w) w.heap.size rfl (.tmp 44) (.tmp 46) 33 24 (.agg #[(.int .i64 0), (.int .i64 0), (.int .i64 0), (.int .i64 0)]) 32 rfl Try.underlying33 info24 rfl (by decide) (by omega) u6 x6_1 (⟨a1_0, a1_1, a1_2, a1_3⟩ : S24) [.int .i64 a1_0, .int .i64 a1_1, .int .i64 a1_2, .int .i64 a1_3] (fun k_ => k_ ≠ gb141 ∧ k_ ≠ gb146) (fun _ => False) rfl rfl ?aP (fun _ hk => hk.elim) ?aF ?aO ?aB ?aS ?aL ?_; (case aP => exact k24_mkM _ _ _ (⟨a1_0, a1_1, a1_2, a1_3⟩ : S24)); (case aB => exact (by repeat (first | (with_reducible first | exact HB.out | apply below_alloc | apply pw_below_drewN | apply below_drew1 | refine below_set ?_ GE141.out | refine below_set ?_ GE146.out) | exact HB.out))); (case aF => exact (fun k_ hk => ⟨Kd.freshB (g := gb141) (o := .cells #[.int .i64 a1_0, .int .i64 a1_1, .int .i64 a1_2, .int .i64 a1_3] 24 (0, 0)) (by (with_reducible repeat (first | apply blk_drewN | apply blk_drew | apply blk_alloc)); exact BK141.out) k_ hk, Kd.freshB (g := gb146) (o := .cells #[.int .i64 ((rd_T24 l0 x8_1).f0), .int .i64 ((rd_T24 l0 x8_1).f1), .int .i64 ((rd_T24 l0 x8_1).f2), .int .i64 ((rd_T24 l0 x8_1).f3)] 24 (0, 0)) (by (with_reducible repeat (first | apply blk_drewN | apply blk_drew | apply blk_alloc)); exact BK146.out) k_ hk⟩)); (case aO => exact (by (with_reducible repeat (first | apply Kd.R_alloc | apply Kd.R_drewN | apply Kd.R_drew)); exact HO_6.out)); (case aS => exact (below_size (by repeat (first | (with_reducible first | exact HB.out | apply below_alloc | apply pw_below_drewN | apply below_drew1 | refine below_set ?_ GE141.out | refine below_set ?_ GE146.out) | exact HB.out)))); (case aL => have := LMc25.out; omega); intro v148 w30 ho hb hg hat; rw [← Ny147.out] at ho; have n0_ := Aside0.mk (blk_grown (g := gb141) (o := .cells #[.int .i64 a1_0, .int .i64 a1_1, .int .i64 a1_2, .int .i64 a1_3] 24 (0, 0)) (by (with_reducible repeat (first | apply blk_drewN | apply blk_drew | apply blk_alloc)); exact BK141.out) hg (Kd.R_away HO_6.out (fun _ hk => hk.1))); have n1_ := Aside0.mk (blk_grown (g := gb146) (o := .cells #[.int .i64 ((rd_T24 l0 x8_1).f0), .int .i64 ((rd_T24 l0 x8_1).f1), .int .i64 ((rd_T24 l0 x8_1).f2), .int .i64 ((rd_T24 l0 x8_1).f3)] 24 (0, 0)) (by (with_reducible repeat (first | apply blk_drewN | apply blk_drew | apply blk_alloc)); exact BK146.out) hg (Kd.R_away HO_6.out (fun _ hk => hk.2))); have n2_ := Aside0.mk (hb); have n3_ := Aside0.mk (ho); clear BK141; clear BK146; clear HB; clear HO_6; have BK141 := n0_; have BK146 := n1_; have HB := n2_; have HO149 := n3_; clear n0_ n1_ n2_ n3_; clear ho hb hg hat; obtain ⟨hcz31_0, hcz31_1, hcz31_2, hcz31_3, hfz31_0, hfz31_1, hfz31_2, hfz31_3⟩ := zc4 BK146.out; obtain ⟨hcz32_0, hcz32_1, hcz32_2, hcz32_3, hfz32_0, hfz32_1, hfz32_2, hfz32_3⟩ := zc4 BK141.out))
           go_roundg kj7
           case measure => have := HK1.out; have := HJ7.out; omega
           case rel => exact ⟨(y147), (true), (wrap64 (x8_1 + 1)), (by first | rfl | (simp; done) | (simp [*]; done)), (by first | rfl | (simp; done) | (simp [*]; done)), H', ⟨by have := HK1.out; have := HJ7.out; omega⟩, ⟨by (with_reducible repeat (first | apply Kd.R_alloc | apply Kd.R_drewN | apply Kd.R_drew)); exact Kd.R_mono HO149.out (fun _ hk => hk.1)⟩, ⟨by (with_reducible repeat (first | apply blk_drewN | apply blk_drew | apply blk_alloc)); exact BK141.out⟩, ⟨by repeat (first | (with_reducible first | exact HB.out | apply below_alloc | apply pw_below_drewN | apply below_drew1 | refine below_set ?_ GE141.out | refine below_set ?_ GE146.out) | exact HB.out)⟩⟩
          ·rw [if_neg c27] at H
           have c27b0 : (((rd_T24 l0 x8_1).f0) == a1_0) = false := beq_eq_false_iff_ne.mpr c27;have c27b1 : (((rd_T24 l0 x8_1).f0) != a1_0) = true := bne_iff_ne.mpr c27
           by_cases c33 : y147.length < 4398046511104
           ·rw [if_pos c33] at H
            have LMc33 := Aside0.mk c33;clear c33;obtain ⟨y150, hy150⟩ : ∃ y_ : List (S24), y_ = (y147 ++ [(⟨((rd_T24 l0 x8_1).f0), ((rd_T24 l0 x8_1).f1), ((rd_T24 l0 x8_1).f2), ((rd_T24 l0 x8_1).f3)⟩ : S24)]) := ⟨_, rfl⟩
            replace H : (spec_RoutePut.l0 kj7 l0 y150 true (wrap64 (x8_1 + 1)) a1_0 a1_1 a1_2 a1_3) = some (r1, r2) := by first | (rw [hy150]; with_reducible exact H) | (have H2_ := (Option.bind_some _ _).symm.trans H; rw [hy150]; with_reducible exact H2_) | (have H2_ := (Option.bind_some _ _).symm.trans H; with_reducible exact H2_) | with_reducible exact H | (rw [hy150]; exact H) | exact H
            have Ny150 := Aside0.mk hy150;clear hy150;have H' := Aside0.mk H;clear H;have hnb34 := NB141_146.out;have hnc34 := NB146_141.out;obtain ⟨hcz35_0, hcz35_1, hcz35_2, hcz35_3, hfz35_0, hfz35_1, hfz35_2, hfz35_3⟩ := zc4 BK141.out
            go_wp2_with (first | ((with_reducible refine gate_builtin (b := .append) (xs := #[.tmp 44, .tmp 46]) rfl ?_); (try (refine gate_guard (by rfl) ?_; dsimp only)); at_builtin; refine Kd.R_append k24 (w0 := w) w.heap.size rfl (.tmp 44) (.tmp 46) 33 24 (.agg #[(.int .i64 0), (.int .i64 0), (.int .i64 0), (.int .i64 0)]) 32 rfl Try.underlying33 info24 rfl (by decide) (by omega) u6 x6_1 (⟨a1_0, a1_1, a1_2, a1_3⟩ : S24) [.int .i64 a1_0, .int .i64 a1_1, .int .i64 a1_2, .int .i64 a1_3] (fun k_ => k_ ≠ gb141 ∧ k_ ≠ gb146) (fun _ => False) rfl rfl ?aP (fun _ hk => hk.elim) ?aF ?aO ?aB ?aS ?aL ?_; (case aP => exact k24_mkM _ _ _ (⟨a1_0, a1_1, a1_2, a1_3⟩ : S24)); (case aB => exact (by repeat (first | (with_reducible first | exact HB.out | apply below_alloc | apply pw_below_drewN | apply below_drew1 | refine below_set ?_ GE141.out | refine below_set ?_ GE146.out) | exact HB.out))); (case aF => exact (fun k_ hk => ⟨Kd.freshB (g := gb141) (o := .cells #[.int .i64 a1_0, .int .i64 a1_1, .int .i64 a1_2, .int .i64 a1_3] 24 (0, 0)) (by (with_reducible repeat (first | apply blk_drewN | apply blk_drew | apply blk_alloc)); exact BK141.out) k_ hk, Kd.freshB (g := gb146) (o := .cells #[.int .i64 ((rd_T24 l0 x8_1).f0), .int .i64 ((rd_T24 l0 x8_1).f1), .int .i64 ((rd_T24 l0 x8_1).f2), .int .i64 ((rd_T24 l0 x8_1).f3)] 24 (0, 0)) (by (with_reducible repeat (first | apply blk_drewN | apply blk_drew | apply blk_alloc)); exact BK146.out) k_ hk⟩)); (case aO => exact (by (with_reducible repeat (first | apply Kd.R_alloc | apply Kd.R_drewN | apply Kd.R_drew)); exact HO_6.out)); (case aS => exact (below_size (by repeat (first | (with_reducible first | exact HB.out | apply below_alloc | apply pw_below_drewN | apply below_drew1 | refine below_set ?_ GE141.out | refine below_set ?_ GE146.out) | exact HB.out)))); (case aL => have := LMc25.out; omega); intro v148 w36 ho hb hg hat; rw [← Ny147.out] at ho; have n0_ := Aside0.mk (blk_grown (g := gb141) (o := .cells #[.int .i64 a1_0, .int .i64 a1_1, .int .i64 a1_2, .int .i64 a1_3] 24 (0, 0)) (by (with_reducible repeat (first | apply blk_drewN | apply blk_drew | apply blk_alloc)); exact BK141.out) hg (Kd.R_away HO_6.out (fun _ hk => hk.1))); have n1_ := Aside0.mk (blk_grown (g := gb146) (o := .cells #[.int .i64 ((rd_T24 l0 x8_1).f0), .int .i64 ((rd_T24 l0 x8_1).f1), .int .i64 ((rd_T24 l0 x8_1).f2), .int .i64 ((rd_T24 l0 x8_1).f3)] 24 (0, 0)) (by (with_reducible repeat (first | apply blk_drewN | apply blk_drew | apply blk_alloc)); exact BK146.out) hg (Kd.R_away HO_6.out (fun _ hk => hk.2))); have n2_ := Aside0.mk (hb); have n3_ := Aside0.mk (ho); clear BK141; clear BK146; clear HB; clear HO_6; have BK141 := n0_; have BK146 := n1_; have HB := n2_; have HO149 := n3_; clear n0_ n1_ n2_ n3_; clear ho hb hg hat; obtain ⟨hcz37_0, hcz37_1, hcz37_2, hcz37_3, hfz37_0, hfz37_1, hfz37_2, hfz37_3⟩ := zc4 BK146.out; obtain ⟨hcz38_0, hcz38_1, hcz38_2, hcz38_3, hfz38_0, hfz38_1, hfz38_2, hfz38_3⟩ := zc4 BK141.out) | ((with_reducible refine gate_builtin (b := .append) (xs := #[.tmp 60, .tmp 62]) rfl ?_); (try (refine gate_guard (by rfl) ?_; dsimp only)); at_builtin; refine Kd.R_append k24 (w0 := w) w.heap.size rfl (.tmp 60) (.tmp 62) 33 24 (.agg #[(.int .i64 0), (.int .i64 0), (.int .i64 0), (.int .i64 0)]) 32 rfl Try.underlying33 info24 rfl (by decide) (by omega) v148 y147 (⟨((rd_T24 l0 x8_1).f0), ((rd_T24 l0 x8_1).f1), ((rd_T24 l0 x8_1).f2), ((rd_T24 l0 x8_1).f3)⟩ : S24) [.int .i64 ((rd_T24 l0 x8_1).f0), .int .i64 ((rd_T24 l0 x8_1).f1), .int .i64 ((rd_T24 l0 x8_1).f2), .int .i64 ((rd_T24 l0 x8_1).f3)] (fun k_ => k_ ≠ gb141 ∧ k_ ≠ gb146) (fun _ => False) rfl rfl ?aP (fun _ hk => hk.elim) ?aF ?aO ?aB ?aS ?aL ?_; (case aP => exact k24_mkM _ _ _ (⟨((rd_T24 l0 x8_1).f0), ((rd_T24 l0 x8_1).f1), ((rd_T24 l0 x8_1).f2), ((rd_T24 l0 x8_1).f3)⟩ : S24)); (case aB => exact (by repeat (first | (with_reducible first | exact HB.out | apply below_alloc | apply pw_below_drewN | apply below_drew1 | refine below_set ?_ GE141.out | refine below_set ?_ GE146.out) | exact HB.out))); (case aF => exact (fun k_ hk => ⟨Kd.freshB (g := gb141) (o := .cells #[.int .i64 a1_0, .int .i64 a1_1, .int .i64 a1_2, .int .i64 a1_3] 24 (0, 0)) (by (with_reducible repeat (first | apply blk_drewN | apply blk_drew | apply blk_alloc)); exact BK141.out) k_ hk, Kd.freshB (g := gb146) (o := .cells #[.int .i64 ((rd_T24 l0 x8_1).f0), .int .i64 ((rd_T24 l0 x8_1).f1), .int .i64 ((rd_T24 l0 x8_1).f2), .int .i64 ((rd_T24 l0 x8_1).f3)] 24 (0, 0)) (by (with_reducible repeat (first | apply blk_drewN | apply blk_drew | apply blk_alloc)); exact BK146.out) k_ hk⟩)); (case aO => exact (by (with_reducible repeat (first | apply Kd.R_alloc | apply Kd.R_drewN | apply Kd.R_drew)); exact HO149.out)); (case aS => exact (below_size (by repeat (first | (with_reducible first | exact HB.out | apply below_alloc | apply pw_below_drewN | apply below_drew1 | refine below_set ?_ GE141.out | refine below_set ?_ GE146.out) | exact HB.out)))); (case aL => have := LMc33.out; omega); intro v151 w39 ho hb hg hat; rw [← Ny150.out] at ho; have n0_ := Aside0.mk (blk_grown (g := gb141) (o := .cells #[.int .i64 a1_0, .int .i64 a1_1, .int .i64 a1_2, .int .i64 a1_3] 24 (0, 0)) (by (with_reducible repeat (first | apply blk_drewN | apply blk_drew | apply blk_alloc)); exact BK141.out) hg (Kd.R_away HO149.out (fun _ hk => hk.1))); have n1_ := Aside0.mk (blk_grown (g := gb146) (o := .cells #[.int .i64 ((rd_T24 l0 x8_1).f0), .int .i64 ((rd_T24 l0 x8_1).f1), .int .i64 ((rd_T24 l0 x8_1).f2), .int .i64 ((rd_T24 l0 x8_1).f3)] 24 (0, 0)) (by (with_reducible repeat (first | apply blk_drewN | apply blk_drew | apply blk_alloc)); exact BK146.out) hg (Kd.R_away HO149.out (fun _ hk => hk.2))); have n2_ := Aside0.mk (hb); have n3_ := Aside0.mk (ho); clear BK141; clear BK146; clear HB; clear HO149; have BK141 := n0_; have BK146 := n1_; have HB := n2_; have HO152 := n3_; clear n0_ n1_ n2_ n3_; clear ho hb hg hat))
            go_roundg kj7
            case measure => have := HK1.out; have := HJ7.out; omega
            case rel => exact ⟨(y150), (true), (wrap64 (x8_1 + 1)), (by first | rfl | (simp; done) | (simp [*]; done)), (by first | rfl | (simp; done) | (simp [*]; done)), H', ⟨by have := HK1.out; have := HJ7.out; omega⟩, ⟨by (with_reducible repeat (first | apply Kd.R_alloc | apply Kd.R_drewN | apply Kd.R_drew)); exact Kd.R_mono HO152.out (fun _ hk => hk.1)⟩, ⟨by (with_reducible repeat (first | apply blk_drewN | apply blk_drew | apply blk_alloc)); exact BK141.out⟩, ⟨by repeat (first | (with_reducible first | exact HB.out | apply below_alloc | apply pw_below_drewN | apply below_drew1 | refine below_set ?_ GE141.out | refine below_set ?_ GE146.out) | exact HB.out)⟩⟩
           ·rw [if_neg c33] at H
            exact absurd H (by simp)
         ·rw [if_neg c26] at H
          have c26b0 : (((rd_T24 l0 x8_1).f1) == a1_1) = false := beq_eq_false_iff_ne.mpr c26;have c26b1 : (((rd_T24 l0 x8_1).f1) != a1_1) = true := bne_iff_ne.mpr c26
          by_cases c40 : y147.length < 4398046511104
          ·rw [if_pos c40] at H
           have LMc40 := Aside0.mk c40;clear c40;obtain ⟨y153, hy153⟩ : ∃ y_ : List (S24), y_ = (y147 ++ [(⟨((rd_T24 l0 x8_1).f0), ((rd_T24 l0 x8_1).f1), ((rd_T24 l0 x8_1).f2), ((rd_T24 l0 x8_1).f3)⟩ : S24)]) := ⟨_, rfl⟩
           replace H : (spec_RoutePut.l0 kj7 l0 y153 true (wrap64 (x8_1 + 1)) a1_0 a1_1 a1_2 a1_3) = some (r1, r2) := by first | (rw [hy153]; with_reducible exact H) | (have H2_ := (Option.bind_some _ _).symm.trans H; rw [hy153]; with_reducible exact H2_) | (have H2_ := (Option.bind_some _ _).symm.trans H; with_reducible exact H2_) | with_reducible exact H | (rw [hy153]; exact H) | exact H
           have Ny153 := Aside0.mk hy153;clear hy153;have H' := Aside0.mk H;clear H;have hnb41 := NB141_146.out;have hnc41 := NB146_141.out;obtain ⟨hcz42_0, hcz42_1, hcz42_2, hcz42_3, hfz42_0, hfz42_1, hfz42_2, hfz42_3⟩ := zc4 BK141.out
           go_wp2_with (first | ((with_reducible refine gate_builtin (b := .append) (xs := #[.tmp 44, .tmp 46]) rfl ?_); (try (refine gate_guard (by rfl) ?_; dsimp only)); at_builtin; refine Kd.R_append k24 (w0 := w) w.heap.size rfl (.tmp 44) (.tmp 46) 33 24 (.agg #[(.int .i64 0), (.int .i64 0), (.int .i64 0), (.int .i64 0)]) 32 rfl Try.underlying33 info24 rfl (by decide) (by omega) u6 x6_1 (⟨a1_0, a1_1, a1_2, a1_3⟩ : S24) [.int .i64 a1_0, .int .i64 a1_1, .int .i64 a1_2, .int .i64 a1_3] (fun k_ => k_ ≠ gb141 ∧ k_ ≠ gb146) (fun _ => False) rfl rfl ?aP (fun _ hk => hk.elim) ?aF ?aO ?aB ?aS ?aL ?_; (case aP => exact k24_mkM _ _ _ (⟨a1_0, a1_1, a1_2, a1_3⟩ : S24)); (case aB => exact (by repeat (first | (with_reducible first | exact HB.out | apply below_alloc | apply pw_below_drewN | apply below_drew1 | refine below_set ?_ GE141.out | refine below_set ?_ GE146.out) | exact HB.out))); (case aF => exact (fun k_ hk => ⟨Kd.freshB (g := gb141) (o := .cells #[.int .i64 a1_0, .int .i64 a1_1, .int .i64 a1_2, .int .i64 a1_3] 24 (0, 0)) (by (with_reducible repeat (first | apply blk_drewN | apply blk_drew | apply blk_alloc)); exact BK141.out) k_ hk, Kd.freshB (g := gb146) (o := .cells #[.int .i64 ((rd_T24 l0 x8_1).f0), .int .i64 ((rd_T24 l0 x8_1).f1), .int .i64 ((rd_T24 l0 x8_1).f2), .int .i64 ((rd_T24 l0 x8_1).f3)] 24 (0, 0)) (by (with_reducible repeat (first | apply blk_drewN | apply blk_drew | apply blk_alloc)); exact BK146.out) k_ hk⟩)); (case aO => exact (by (with_reducible repeat (first | apply Kd.R_alloc | apply Kd.R_drewN | apply Kd.R_drew)); exact HO_6.out)); (case aS => exact (below_size (by repeat (first | (with_reducible first | exact HB.out | apply below_alloc | apply pw_below_drewN | apply below_drew1 | refine below_set ?_ GE141.out | refine below_set ?_ GE146.out) | exact HB.out)))); (case aL => have := LMc25.out; omega); intro v148 w43 ho hb hg hat; rw [← Ny147.out] at ho; have n0_ := Aside0.mk (blk_grown (g := gb141) (o := .cells #[.int .i64 a1_0, .int .i64 a1_1, .int .i64 a1_2, .int .i64 a1_3] 24 (0, 0)) (by (with_reducible repeat (first | apply blk_drewN | apply blk_drew | apply blk_alloc)); exact BK141.out) hg (Kd.R_away HO_6.out (fun _ hk => hk.1))); have n1_ := Aside0.mk (blk_grown (g := gb146) (o := .cells #[.int .i64 ((rd_T24 l0 x8_1).f0), .int .i64 ((rd_T24 l0 x8_1).f1), .int .i64 ((rd_T24 l0 x8_1).f2), .int .i64 ((rd_T24 l0 x8_1).f3)] 24 (0, 0)) (by (with_reducible repeat (first | apply blk_drewN | apply blk_drew | apply blk_alloc)); exact BK146.out) hg (Kd.R_away HO_6.out (fun _ hk => hk.2))); have n2_ := Aside0.mk (hb); have n3_ := Aside0.mk (ho); clear BK141; clear BK146; clear HB; clear HO_6; have BK141 := n0_; have BK146 := n1_; have HB := n2_; have HO149 := n3_; clear n0_ n1_ n2_ n3_; clear ho hb hg hat; obtain ⟨hcz44_0, hcz44_1, hcz44_2, hcz44_3, hfz44_0, hfz44_1, hfz44_2, hfz44_3⟩ := zc4 BK146.out; obtain ⟨hcz45_0, hcz45_1, hcz45_2, hcz45_3, hfz45_0, hfz45_1, hfz45_2, hfz45_3⟩ := zc4 BK141.out) | ((with_reducible refine gate_builtin (b := .append) (xs := #[.tmp 60, .tmp 62]) rfl ?_); (try (refine gate_guard (by rfl) ?_; dsimp only)); at_builtin; refine Kd.R_append k24 (w0 := w) w.heap.size rfl (.tmp 60) (.tmp 62) 33 24 (.agg #[(.int .i64 0), (.int .i64 0), (.int .i64 0), (.int .i64 0)]) 32 rfl Try.underlying33 info24 rfl (by decide) (by omega) v148 y147 (⟨((rd_T24 l0 x8_1).f0), ((rd_T24 l0 x8_1).f1), ((rd_T24 l0 x8_1).f2), ((rd_T24 l0 x8_1).f3)⟩ : S24) [.int .i64 ((rd_T24 l0 x8_1).f0), .int .i64 ((rd_T24 l0 x8_1).f1), .int .i64 ((rd_T24 l0 x8_1).f2), .int .i64 ((rd_T24 l0 x8_1).f3)] (fun k_ => k_ ≠ gb141 ∧ k_ ≠ gb146) (fun _ => False) rfl rfl ?aP (fun _ hk => hk.elim) ?aF ?aO ?aB ?aS ?aL ?_; (case aP => exact k24_mkM _ _ _ (⟨((rd_T24 l0 x8_1).f0), ((rd_T24 l0 x8_1).f1), ((rd_T24 l0 x8_1).f2), ((rd_T24 l0 x8_1).f3)⟩ : S24)); (case aB => exact (by repeat (first | (with_reducible first | exact HB.out | apply below_alloc | apply pw_below_drewN | apply below_drew1 | refine below_set ?_ GE141.out | refine below_set ?_ GE146.out) | exact HB.out))); (case aF => exact (fun k_ hk => ⟨Kd.freshB (g := gb141) (o := .cells #[.int .i64 a1_0, .int .i64 a1_1, .int .i64 a1_2, .int .i64 a1_3] 24 (0, 0)) (by (with_reducible repeat (first | apply blk_drewN | apply blk_drew | apply blk_alloc)); exact BK141.out) k_ hk, Kd.freshB (g := gb146) (o := .cells #[.int .i64 ((rd_T24 l0 x8_1).f0), .int .i64 ((rd_T24 l0 x8_1).f1), .int .i64 ((rd_T24 l0 x8_1).f2), .int .i64 ((rd_T24 l0 x8_1).f3)] 24 (0, 0)) (by (with_reducible repeat (first | apply blk_drewN | apply blk_drew | apply blk_alloc)); exact BK146.out) k_ hk⟩)); (case aO => exact (by (with_reducible repeat (first | apply Kd.R_alloc | apply Kd.R_drewN | apply Kd.R_drew)); exact HO149.out)); (case aS => exact (below_size (by repeat (first | (with_reducible first | exact HB.out | apply below_alloc | apply pw_below_drewN | apply below_drew1 | refine below_set ?_ GE141.out | refine below_set ?_ GE146.out) | exact HB.out)))); (case aL => have := LMc40.out; omega); intro v154 w46 ho hb hg hat; rw [← Ny153.out] at ho; have n0_ := Aside0.mk (blk_grown (g := gb141) (o := .cells #[.int .i64 a1_0, .int .i64 a1_1, .int .i64 a1_2, .int .i64 a1_3] 24 (0, 0)) (by (with_reducible repeat (first | apply blk_drewN | apply blk_drew | apply blk_alloc)); exact BK141.out) hg (Kd.R_away HO149.out (fun _ hk => hk.1))); have n1_ := Aside0.mk (blk_grown (g := gb146) (o := .cells #[.int .i64 ((rd_T24 l0 x8_1).f0), .int .i64 ((rd_T24 l0 x8_1).f1), .int .i64 ((rd_T24 l0 x8_1).f2), .int .i64 ((rd_T24 l0 x8_1).f3)] 24 (0, 0)) (by (with_reducible repeat (first | apply blk_drewN | apply blk_drew | apply blk_alloc)); exact BK146.out) hg (Kd.R_away HO149.out (fun _ hk => hk.2))); have n2_ := Aside0.mk (hb); have n3_ := Aside0.mk (ho); clear BK141; clear BK146; clear HB; clear HO149; have BK141 := n0_; have BK146 := n1_; have HB := n2_; have HO155 := n3_; clear n0_ n1_ n2_ n3_; clear ho hb hg hat))
           go_roundg kj7
           case measure => have := HK1.out; have := HJ7.out; omega
           case rel => exact ⟨(y153), (true), (wrap64 (x8_1 + 1)), (by first | rfl | (simp; done) | (simp [*]; done)), (by first | rfl | (simp; done) | (simp [*]; done)), H', ⟨by have := HK1.out; have := HJ7.out; omega⟩, ⟨by (with_reducible repeat (first | apply Kd.R_alloc | apply Kd.R_drewN | apply Kd.R_drew)); exact Kd.R_mono HO155.out (fun _ hk => hk.1)⟩, ⟨by (with_reducible repeat (first | apply blk_drewN | apply blk_drew | apply blk_alloc)); exact BK141.out⟩, ⟨by repeat (first | (with_reducible first | exact HB.out | apply below_alloc | apply pw_below_drewN | apply below_drew1 | refine below_set ?_ GE141.out | refine below_set ?_ GE146.out) | exact HB.out)⟩⟩
          ·rw [if_neg c40] at H
           exact absurd H (by simp)
        ·rw [if_neg c25] at H
         exact absurd H (by simp)
       ·replace c24 := Bool.eq_false_iff.mpr c24
        subst c24
        have H1 : (if ((rd_T24 l0 x8_1).f1) = a1_1 then (if ((rd_T24 l0 x8_1).f0) = a1_0 then (spec_RoutePut.l0 kj7 l0 x6_1 x7_1 (wrap64 (x8_1 + 1)) a1_0 a1_1 a1_2 a1_3) else (if x6_1.length < 4398046511104 then (spec_RoutePut.l0 kj7 l0 (x6_1 ++ [(⟨((rd_T24 l0 x8_1).f0), ((rd_T24 l0 x8_1).f1), ((rd_T24 l0 x8_1).f2), ((rd_T24 l0 x8_1).f3)⟩ : S24)]) x7_1 (wrap64 (x8_1 + 1)) a1_0 a1_1 a1_2 a1_3) else (none))) else (if x6_1.length < 4398046511104 then (spec_RoutePut.l0 kj7 l0 (x6_1 ++ [(⟨((rd_T24 l0 x8_1).f0), ((rd_T24 l0 x8_1).f1), ((rd_T24 l0 x8_1).f2), ((rd_T24 l0 x8_1).f3)⟩ : S24)]) x7_1 (wrap64 (x8_1 + 1)) a1_0 a1_1 a1_2 a1_3) else (none))) = some (r1, r2) := by rw [if_neg (show ¬ (false = true) by decide)] at H; exact H
        clear H;have H := H1;clear H1
        by_cases c47 : ((rd_T24 l0 x8_1).f1) = a1_1
        ·rw [if_pos c47] at H
         have c47b0 : (((rd_T24 l0 x8_1).f1) == a1_1) = true := beq_iff_eq.mpr c47;have c47b1 : (((rd_T24 l0 x8_1).f1) != a1_1) = false := bne_eq_false_iff_eq.mpr c47;clear c47
         by_cases c48 : ((rd_T24 l0 x8_1).f0) = a1_0
         ·rw [if_pos c48] at H
          have c48b0 : (((rd_T24 l0 x8_1).f0) == a1_0) = true := beq_iff_eq.mpr c48;have c48b1 : (((rd_T24 l0 x8_1).f0) != a1_0) = false := bne_eq_false_iff_eq.mpr c48;clear c48;have H' := Aside0.mk H;clear H;have hnb49 := NB146_141.out;have hnc49 := NB141_146.out;obtain ⟨hcz50_0, hcz50_1, hcz50_2, hcz50_3, hfz50_0, hfz50_1, hfz50_2, hfz50_3⟩ := zc4 BK146.out;obtain ⟨hcz51_0, hcz51_1, hcz51_2, hcz51_3, hfz51_0, hfz51_1, hfz51_2, hfz51_3⟩ := zc4 BK141.out
          go_wp2
          go_roundg kj7
          case measure => have := HK1.out; have := HJ7.out; omega
          case rel => exact ⟨(x6_1), (x7_1), (wrap64 (x8_1 + 1)), (by first | rfl | (simp; done) | (simp [*]; done)), (by first | rfl | (simp; done) | (simp [*]; done)), H', ⟨by have := HK1.out; have := HJ7.out; omega⟩, ⟨by (with_reducible repeat (first | apply Kd.R_alloc | apply Kd.R_drewN | apply Kd.R_drew)); exact Kd.R_mono HO_6.out (fun _ hk => hk.1)⟩, ⟨by (with_reducible repeat (first | apply blk_drewN | apply blk_drew | apply blk_alloc)); exact BK141.out⟩, ⟨by repeat (first | (with_reducible first | exact HB.out | apply below_alloc | apply pw_below_drewN | apply below_drew1 | refine below_set ?_ GE141.out | refine below_set ?_ GE146.out) | exact HB.out)⟩⟩
         ·rw [if_neg c48] at H
          have c48b0 : (((rd_T24 l0 x8_1).f0) == a1_0) = false := beq_eq_false_iff_ne.mpr c48;have c48b1 : (((rd_T24 l0 x8_1).f0) != a1_0) = true := bne_iff_ne.mpr c48
          by_cases c52 : x6_1.length < 4398046511104
          ·rw [if_pos c52] at H
           have LMc52 := Aside0.mk c52;clear c52;obtain ⟨y156, hy156⟩ : ∃ y_ : List (S24), y_ = (x6_1 ++ [(⟨((rd_T24 l0 x8_1).f0), ((rd_T24 l0 x8_1).f1), ((rd_T24 l0 x8_1).f2), ((rd_T24 l0 x8_1).f3)⟩ : S24)]) := ⟨_, rfl⟩
           replace H : (spec_RoutePut.l0 kj7 l0 y156 x7_1 (wrap64 (x8_1 + 1)) a1_0 a1_1 a1_2 a1_3) = some (r1, r2) := by first | (rw [hy156]; with_reducible exact H) | (have H2_ := (Option.bind_some _ _).symm.trans H; rw [hy156]; with_reducible exact H2_) | (have H2_ := (Option.bind_some _ _).symm.trans H; with_reducible exact H2_) | with_reducible exact H | (rw [hy156]; exact H) | exact H
           have Ny156 := Aside0.mk hy156;clear hy156;have H' := Aside0.mk H;clear H;have hnb53 := NB146_141.out;have hnc53 := NB141_146.out;obtain ⟨hcz54_0, hcz54_1, hcz54_2, hcz54_3, hfz54_0, hfz54_1, hfz54_2, hfz54_3⟩ := zc4 BK146.out;obtain ⟨hcz55_0, hcz55_1, hcz55_2, hcz55_3, hfz55_0, hfz55_1, hfz55_2, hfz55_3⟩ := zc4 BK141.out
           go_wp2_with (first | ((with_reducible refine gate_builtin (b := .append) (xs := #[.tmp 60, .tmp 62]) rfl ?_); (try (refine gate_guard (by rfl) ?_; dsimp only)); at_builtin; refine Kd.R_append k24 (w0 := w) w.heap.size rfl (.tmp 60) (.tmp 62) 33 24 (.agg #[(.int .i64 0), (.int .i64 0), (.int .i64 0), (.int .i64 0)]) 32 rfl Try.underlying33 info24 rfl (by decide) (by omega) u6 x6_1 (⟨((rd_T24 l0 x8_1).f0), ((rd_T24 l0 x8_1).f1), ((rd_T24 l0 x8_1).f2), ((rd_T24 l0 x8_1).f3)⟩ : S24) [.int .i64 ((rd_T24 l0 x8_1).f0), .int .i64 ((rd_T24 l0 x8_1).f1), .int .i64 ((rd_T24 l0 x8_1).f2), .int .i64 ((rd_T24 l0 x8_1).f3)] (fun k_ => k_ ≠ gb141 ∧ k_ ≠ gb146) (fun _ => False) rfl rfl ?aP (fun _ hk => hk.elim) ?aF ?aO ?aB ?aS ?aL ?_; (case aP => exact k24_mkM _ _ _ (⟨((rd_T24 l0 x8_1).f0), ((rd_T24 l0 x8_1).f1), ((rd_T24 l0 x8_1).f2), ((rd_T24 l0 x8_1).f3)⟩ : S24)); (case aB => exact (by repeat (first | (with_reducible first | exact HB.out | apply below_alloc | apply pw_below_drewN | apply below_drew1 | refine below_set ?_ GE141.out | refine below_set ?_ GE146.out) | exact HB.out))); (case aF => exact (fun k_ hk => ⟨Kd.freshB (g := gb141) (o := .cells #[.int .i64 a1_0, .int .i64 a1_1, .int .i64 a1_2, .int .i64 a1_3] 24 (0, 0)) (by (with_reducible repeat (first | apply blk_drewN | apply blk_drew | apply blk_alloc)); exact BK141.out) k_ hk, Kd.freshB (g := gb146) (o := .cells #[.int .i64 ((rd_T24 l0 x8_1).f0), .int .i64 ((rd_T24 l0 x8_1).f1), .int .i64 ((rd_T24 l0 x8_1).f2), .int .i64 ((rd_T24 l0 x8_1).f3)] 24 (0, 0)) (by (with_reducible repeat (first | apply blk_drewN | apply blk_drew | apply blk_alloc)); exact BK146.out) k_ hk⟩)); (case aO => exact (by (with_reducible repeat (first | apply Kd.R_alloc | apply Kd.R_drewN | apply Kd.R_drew)); exact HO_6.out)); (case aS => exact (below_size (by repeat (first | (with_reducible first | exact HB.out | apply below_alloc | apply pw_below_drewN | apply below_drew1 | refine below_set ?_ GE141.out | refine below_set ?_ GE146.out) | exact HB.out)))); (case aL => have := LMc52.out; omega); intro v157 w56 ho hb hg hat; rw [← Ny156.out] at ho; have n0_ := Aside0.mk (blk_grown (g := gb141) (o := .cells #[.int .i64 a1_0, .int .i64 a1_1, .int .i64 a1_2, .int .i64 a1_3] 24 (0, 0)) (by (with_reducible repeat (first | apply blk_drewN | apply blk_drew | apply blk_alloc)); exact BK141.out) hg (Kd.R_away HO_6.out (fun _ hk => hk.1))); have n1_ := Aside0.mk (blk_grown (g := gb146) (o := .cells #[.int .i64 ((rd_T24 l0 x8_1).f0), .int .i64 ((rd_T24 l0 x8_1).f1), .int .i64 ((rd_T24 l0 x8_1).f2), .int .i64 ((rd_T24 l0 x8_1).f3)] 24 (0, 0)) (by (with_reducible repeat (first | apply blk_drewN | apply blk_drew | apply blk_alloc)); exact BK146.out) hg (Kd.R_away HO_6.out (fun _ hk => hk.2))); have n2_ := Aside0.mk (hb); have n3_ := Aside0.mk (ho); clear BK141; clear BK146; clear HB; clear HO_6; have BK141 := n0_; have BK146 := n1_; have HB := n2_; have HO158 := n3_; clear n0_ n1_ n2_ n3_; clear ho hb hg hat))
           go_roundg kj7
           case measure => have := HK1.out; have := HJ7.out; omega
           case rel => exact ⟨(y156), (x7_1), (wrap64 (x8_1 + 1)), (by first | rfl | (simp; done) | (simp [*]; done)), (by first | rfl | (simp; done) | (simp [*]; done)), H', ⟨by have := HK1.out; have := HJ7.out; omega⟩, ⟨by (with_reducible repeat (first | apply Kd.R_alloc | apply Kd.R_drewN | apply Kd.R_drew)); exact Kd.R_mono HO158.out (fun _ hk => hk.1)⟩, ⟨by (with_reducible repeat (first | apply blk_drewN | apply blk_drew | apply blk_alloc)); exact BK141.out⟩, ⟨by repeat (first | (with_reducible first | exact HB.out | apply below_alloc | apply pw_below_drewN | apply below_drew1 | refine below_set ?_ GE141.out | refine below_set ?_ GE146.out) | exact HB.out)⟩⟩
          ·rw [if_neg c52] at H
           exact absurd H (by simp)
        ·rw [if_neg c47] at H
         have c47b0 : (((rd_T24 l0 x8_1).f1) == a1_1) = false := beq_eq_false_iff_ne.mpr c47;have c47b1 : (((rd_T24 l0 x8_1).f1) != a1_1) = true := bne_iff_ne.mpr c47
         by_cases c57 : x6_1.length < 4398046511104
         ·rw [if_pos c57] at H
          have LMc57 := Aside0.mk c57;clear c57;obtain ⟨y159, hy159⟩ : ∃ y_ : List (S24), y_ = (x6_1 ++ [(⟨((rd_T24 l0 x8_1).f0), ((rd_T24 l0 x8_1).f1), ((rd_T24 l0 x8_1).f2), ((rd_T24 l0 x8_1).f3)⟩ : S24)]) := ⟨_, rfl⟩
          replace H : (spec_RoutePut.l0 kj7 l0 y159 x7_1 (wrap64 (x8_1 + 1)) a1_0 a1_1 a1_2 a1_3) = some (r1, r2) := by first | (rw [hy159]; with_reducible exact H) | (have H2_ := (Option.bind_some _ _).symm.trans H; rw [hy159]; with_reducible exact H2_) | (have H2_ := (Option.bind_some _ _).symm.trans H; with_reducible exact H2_) | with_reducible exact H | (rw [hy159]; exact H) | exact H
          have Ny159 := Aside0.mk hy159;clear hy159;have H' := Aside0.mk H;clear H;have hnb58 := NB146_141.out;have hnc58 := NB141_146.out;obtain ⟨hcz59_0, hcz59_1, hcz59_2, hcz59_3, hfz59_0, hfz59_1, hfz59_2, hfz59_3⟩ := zc4 BK146.out;obtain ⟨hcz60_0, hcz60_1, hcz60_2, hcz60_3, hfz60_0, hfz60_1, hfz60_2, hfz60_3⟩ := zc4 BK141.out
          go_wp2_with (first | ((with_reducible refine gate_builtin (b := .append) (xs := #[.tmp 60, .tmp 62]) rfl ?_); (try (refine gate_guard (by rfl) ?_; dsimp only)); at_builtin; refine Kd.R_append k24 (w0 := w) w.heap.size rfl (.tmp 60) (.tmp 62) 33 24 (.agg #[(.int .i64 0), (.int .i64 0), (.int .i64 0), (.int .i64 0)]) 32 rfl Try.underlying33 info24 rfl (by decide) (by omega) u6 x6_1 (⟨((rd_T24 l0 x8_1).f0), ((rd_T24 l0 x8_1).f1), ((rd_T24 l0 x8_1).f2), ((rd_T24 l0 x8_1).f3)⟩ : S24) [.int .i64 ((rd_T24 l0 x8_1).f0), .int .i64 ((rd_T24 l0 x8_1).f1), .int .i64 ((rd_T24 l0 x8_1).f2), .int .i64 ((rd_T24 l0 x8_1).f3)] (fun k_ => k_ ≠ gb141 ∧ k_ ≠ gb146) (fun _ => False) rfl rfl ?aP (fun _ hk => hk.elim) ?aF ?aO ?aB ?aS ?aL ?_; (case aP => exact k24_mkM _ _ _ (⟨((rd_T24 l0 x8_1).f0), ((rd_T24 l0 x8_1).f1), ((rd_T24 l0 x8_1).f2), ((rd_T24 l0 x8_1).f3)⟩ : S24)); (case aB => exact (by repeat (first | (with_reducible first | exact HB.out | apply below_alloc | apply pw_below_drewN | apply below_drew1 | refine below_set ?_ GE141.out | refine below_set ?_ GE146.out) | exact HB.out))); (case aF => exact (fun k_ hk => ⟨Kd.freshB (g := gb141) (o := .cells #[.int .i64 a1_0, .int .i64 a1_1, .int .i64 a1_2, .int .i64 a1_3] 24 (0, 0)) (by (with_reducible repeat (first | apply blk_drewN | apply blk_drew | apply blk_alloc)); exact BK141.out) k_ hk, Kd.freshB (g := gb146) (o := .cells #[.int .i64 ((rd_T24 l0 x8_1).f0), .int .i64 ((rd_T24 l0 x8_1).f1), .int .i64 ((rd_T24 l0 x8_1).f2), .int .i64 ((rd_T24 l0 x8_1).f3)] 24 (0, 0)) (by (with_reducible repeat (first | apply blk_drewN | apply blk_drew | apply blk_alloc)); exact BK146.out) k_ hk⟩)); (case aO => exact (by (with_reducible repeat (first | apply Kd.R_alloc | apply Kd.R_drewN | apply Kd.R_drew)); exact HO_6.out)); (case aS => exact (below_size (by repeat (first | (with_reducible first | exact HB.out | apply below_alloc | apply pw_below_drewN | apply below_drew1 | refine below_set ?_ GE141.out | refine below_set ?_ GE146.out) | exact HB.out)))); (case aL => have := LMc57.out; omega); intro v160 w61 ho hb hg hat; rw [← Ny159.out] at ho; have n0_ := Aside0.mk (blk_grown (g := gb141) (o := .cells #[.int .i64 a1_0, .int .i64 a1_1, .int .i64 a1_2, .int .i64 a1_3] 24 (0, 0)) (by (with_reducible repeat (first | apply blk_drewN | apply blk_drew | apply blk_alloc)); exact BK141.out) hg (Kd.R_away HO_6.out (fun _ hk => hk.1))); have n1_ := Aside0.mk (blk_grown (g := gb146) (o := .cells #[.int .i64 ((rd_T24 l0 x8_1).f0), .int .i64 ((rd_T24 l0 x8_1).f1), .int .i64 ((rd_T24 l0 x8_1).f2), .int .i64 ((rd_T24 l0 x8_1).f3)] 24 (0, 0)) (by (with_reducible repeat (first | apply blk_drewN | apply blk_drew | apply blk_alloc)); exact BK146.out) hg (Kd.R_away HO_6.out (fun _ hk => hk.2))); have n2_ := Aside0.mk (hb); have n3_ := Aside0.mk (ho); clear BK141; clear BK146; clear HB; clear HO_6; have BK141 := n0_; have BK146 := n1_; have HB := n2_; have HO161 := n3_; clear n0_ n1_ n2_ n3_; clear ho hb hg hat))
          go_roundg kj7
          case measure => have := HK1.out; have := HJ7.out; omega
          case rel => exact ⟨(y159), (x7_1), (wrap64 (x8_1 + 1)), (by first | rfl | (simp; done) | (simp [*]; done)), (by first | rfl | (simp; done) | (simp [*]; done)), H', ⟨by have := HK1.out; have := HJ7.out; omega⟩, ⟨by (with_reducible repeat (first | apply Kd.R_alloc | apply Kd.R_drewN | apply Kd.R_drew)); exact Kd.R_mono HO161.out (fun _ hk => hk.1)⟩, ⟨by (with_reducible repeat (first | apply blk_drewN | apply blk_drew | apply blk_alloc)); exact BK141.out⟩, ⟨by repeat (first | (with_reducible first | exact HB.out | apply below_alloc | apply pw_below_drewN | apply below_drew1 | refine below_set ?_ GE141.out | refine below_set ?_ GE146.out) | exact HB.out)⟩⟩
         ·rw [if_neg c57] at H
          exact absurd H (by simp)
    ·rw [if_neg c7] at H
     exact absurd H (by simp)
   ·rw [if_neg c6] at H
    have c6b0 : decide (x8_1 < (l0.length : Int)) = false := decide_eq_false c6;clear c6;have HC62 := Aside0.mk H;clear H
    go_upto_if 65 with (fail)
    go_cut [6] (fun v6 wc => ∃ (kq : Nat) (x6_61 : List (S24)), Aside0 (spec_RoutePut.j2 kq l0 x6_61 a1_0 a1_1 a1_2 a1_3 = some (r1, r2)) ∧ Aside0 (kq ≤ k1) ∧ Aside0 (Kd.R k24 24 wc w.heap.size (fun k_ => k_ ≠ gb141) v6 x6_61) ∧ Aside0 (wc.heap[gb141]? = some (.cells #[.int .i64 a1_0, .int .i64 a1_1, .int .i64 a1_2, .int .i64 a1_3] 24 (0, 0))) ∧ Aside0 (Below w.heap.size w wc))
    case first =>
     have H := HC62.out;clear HC62
     by_cases c63 : x7_1 = true
     ·subst c63
      have H1 : (spec_RoutePut.j2 k1 l0 x6_1 a1_0 a1_1 a1_2 a1_3) = some (r1, r2) := by rw [if_pos rfl] at H; exact H
      clear H;have H := H1;clear H1;have H' := Aside0.mk H;clear H
      go_wp2
      go_meet
      case rel => exact ⟨_, (x6_1), H', ⟨by have := HK1.out; first | omega | exact Nat.le_refl _⟩, ⟨by (with_reducible repeat (first | apply Kd.R_alloc | apply Kd.R_drewN | apply Kd.R_drew)); exact HO_6.out⟩, ⟨by (with_reducible repeat (first | apply blk_drewN | apply blk_drew | apply blk_alloc)); exact BK141.out⟩, ⟨by repeat (first | (with_reducible first | exact HB.out | apply below_alloc | apply pw_below_drewN | apply below_drew1 | refine below_set ?_ GE141.out) | exact HB.out)⟩⟩
     ·replace c63 := Bool.eq_false_iff.mpr c63
      subst c63
      have H1 : (if x6_1.length < 4398046511104 then (spec_RoutePut.j2 k1 l0 (x6_1 ++ [(⟨a1_0, a1_1, a1_2, a1_3⟩ : S24)]) a1_0 a1_1 a1_2 a1_3) else (none)) = some (r1, r2) := by rw [if_neg (show ¬ (false = true) by decide)] at H; exact H
      clear H;have H := H1;clear H1
      by_cases c64 : x6_1.length < 4398046511104
      ·rw [if_pos c64] at H
       have LMc64 := Aside0.mk c64;clear c64;obtain ⟨y162, hy162⟩ : ∃ y_ : List (S24), y_ = (x6_1 ++ [(⟨a1_0, a1_1, a1_2, a1_3⟩ : S24)]) := ⟨_, rfl⟩
       replace H : (spec_RoutePut.j2 k1 l0 y162 a1_0 a1_1 a1_2 a1_3) = some (r1, r2) := by first | (rw [hy162]; with_reducible exact H) | (have H2_ := (Option.bind_some _ _).symm.trans H; rw [hy162]; with_reducible exact H2_) | (have H2_ := (Option.bind_some _ _).symm.trans H; with_reducible exact H2_) | with_reducible exact H | (rw [hy162]; exact H) | exact H
       have Ny162 := Aside0.mk hy162;clear hy162;have H' := Aside0.mk H;clear H;obtain ⟨hcz65_0, hcz65_1, hcz65_2, hcz65_3, hfz65_0, hfz65_1, hfz65_2, hfz65_3⟩ := zc4 BK141.out
       go_wp2_with (first | ((with_reducible refine gate_builtin (b := .append) (xs := #[.tmp 66, .tmp 68]) rfl ?_); (try (refine gate_guard (by rfl) ?_; dsimp only)); at_builtin; refine Kd.R_append k24 (w0 := w) w.heap.size rfl (.tmp 66) (.tmp 68) 33 24 (.agg #[(.int .i64 0), (.int .i64 0), (.int .i64 0), (.int .i64 0)]) 32 rfl Try.underlying33 info24 rfl (by decide) (by omega) u6 x6_1 (⟨a1_0, a1_1, a1_2, a1_3⟩ : S24) [.int .i64 a1_0, .int .i64 a1_1, .int .i64 a1_2, .int .i64 a1_3] (fun k_ => k_ ≠ gb141) (fun _ => False) rfl rfl ?aP (fun _ hk => hk.elim) ?aF ?aO ?aB ?aS ?aL ?_; (case aP => exact k24_mkM _ _ _ (⟨a1_0, a1_1, a1_2, a1_3⟩ : S24)); (case aB => exact (by repeat (first | (with_reducible first | exact HB.out | apply below_alloc | apply pw_below_drewN | apply below_drew1 | refine below_set ?_ GE141.out) | exact HB.out))); (case aF => exact (fun k_ hk => Kd.freshB (g := gb141) (o := .cells #[.int .i64 a1_0, .int .i64 a1_1, .int .i64 a1_2, .int .i64 a1_3] 24 (0, 0)) (by (with_reducible repeat (first | apply blk_drewN | apply blk_drew | apply blk_alloc)); exact BK141.out) k_ hk)); (case aO => exact (by (with_reducible repeat (first | apply Kd.R_alloc | apply Kd.R_drewN | apply Kd.R_drew)); exact HO_6.out)); (case aS => exact (below_size (by repeat (first | (with_reducible first | exact HB.out | apply below_alloc | apply pw_below_drewN | apply below_drew1 | refine below_set ?_ GE141.out) | exact HB.out)))); (case aL => have := LMc64.out; omega); intro v163 w66 ho hb hg hat; rw [← Ny162.out] at ho; have n0_ := Aside0.mk (blk_grown (g := gb141) (o := .cells #[.int .i64 a1_0, .int .i64 a1_1, .int .i64 a1_2, .int .i64 a1_3] 24 (0, 0)) (by (with_reducible repeat (first | apply blk_drewN | apply blk_drew | apply blk_alloc)); exact BK141.out) hg (Kd.R_away HO_6.out (fun _ hk => hk))); have n1_ := Aside0.mk (hb); have n2_ := Aside0.mk (ho); clear BK141; clear HB; clear HO_6; have BK141 := n0_; have HB := n1_; have HO164 := n2_; clear n0_ n1_ n2_; clear ho hb hg hat))
       go_meet
       case rel => exact ⟨_, (y162), H', ⟨by have := HK1.out; first | omega | exact Nat.le_refl _⟩, ⟨by (with_reducible repeat (first | apply Kd.R_alloc | apply Kd.R_drewN | apply Kd.R_drew)); exact HO164.out⟩, ⟨by (with_reducible repeat (first | apply blk_drewN | apply blk_drew | apply blk_alloc)); exact BK141.out⟩, ⟨by repeat (first | (with_reducible first | exact HB.out | apply below_alloc | apply pw_below_drewN | apply below_drew1 | refine below_set ?_ GE141.out) | exact HB.out)⟩⟩
      ·rw [if_neg c64] at H
       exact absurd H (by simp)
    case rest =>
     clear HC62
     try clear c1
     try clear p1
     try clear q1
     try clear hx1
     try clear c2
     try clear p2
     try clear c3
     try clear c4
     try clear c5
     try clear c6
     try clear c6b0
     try clear p6
     try clear c7
     try clear c7b0
     try clear c10
     try clear c12
     try clear c13
     try clear c13b0
     try clear c14
     try clear p14
     try clear q14
     try clear hx14
     try clear c17
     try clear c17b0
     try clear c17b1
     try clear c18
     try clear c21
     try clear c24
     try clear c25
     try clear c26
     try clear c26b0
     try clear c26b1
     try clear c27
     try clear c27b0
     try clear c27b1
     try clear c28
     try clear c33
     try clear c34
     try clear c40
     try clear c41
     try clear c47
     try clear c47b0
     try clear c47b1
     try clear c48
     try clear c48b0
     try clear c48b1
     try clear c49
     try clear c52
     try clear c53
     try clear c57
     try clear c58
     try clear c63
     try clear c64
     try clear p64
     try clear hcz11_0
     try clear hcz11_1
     try clear hcz11_2
     try clear hcz11_3
     try clear hcz15_0
     try clear hcz15_1
     try clear hcz15_2
     try clear hcz15_3
     try clear hcz16_0
     try clear hcz16_1
     try clear hcz16_2
     try clear hcz16_3
     try clear hcz19_0
     try clear hcz19_1
     try clear hcz19_2
     try clear hcz19_3
     try clear hcz20_0
     try clear hcz20_1
     try clear hcz20_2
     try clear hcz20_3
     try clear hcz22_0
     try clear hcz22_1
     try clear hcz22_2
     try clear hcz22_3
     try clear hcz23_0
     try clear hcz23_1
     try clear hcz23_2
     try clear hcz23_3
     try clear hcz29_0
     try clear hcz29_1
     try clear hcz29_2
     try clear hcz29_3
     try clear hcz31_0
     try clear hcz31_1
     try clear hcz31_2
     try clear hcz31_3
     try clear hcz32_0
     try clear hcz32_1
     try clear hcz32_2
     try clear hcz32_3
     try clear hcz35_0
     try clear hcz35_1
     try clear hcz35_2
     try clear hcz35_3
     try clear hcz37_0
     try clear hcz37_1
     try clear hcz37_2
     try clear hcz37_3
     try clear hcz38_0
     try clear hcz38_1
     try clear hcz38_2
     try clear hcz38_3
     try clear hcz42_0
     try clear hcz42_1
     try clear hcz42_2
     try clear hcz42_3
     try clear hcz44_0
     try clear hcz44_1
     try clear hcz44_2
     try clear hcz44_3
     try clear hcz45_0
     try clear hcz45_1
     try clear hcz45_2
     try clear hcz45_3
     try clear hcz50_0
     try clear hcz50_1
     try clear hcz50_2
     try clear hcz50_3
     try clear hcz51_0
     try clear hcz51_1
     try clear hcz51_2
     try clear hcz51_3
     try clear hcz54_0
     try clear hcz54_1
     try clear hcz54_2
     try clear hcz54_3
     try clear hcz55_0
     try clear hcz55_1
     try clear hcz55_2
     try clear hcz55_3
     try clear hcz59_0
     try clear hcz59_1
     try clear hcz59_2
     try clear hcz59_3
     try clear hcz60_0
     try clear hcz60_1
     try clear hcz60_2
     try clear hcz60_3
     try clear hcz65_0
     try clear hcz65_1
     try clear hcz65_2
     try clear hcz65_3
     try clear hfz11_0
     try clear hfz11_1
     try clear hfz11_2
     try clear hfz11_3
     try clear hfz15_0
     try clear hfz15_1
     try clear hfz15_2
     try clear hfz15_3
     try clear hfz16_0
     try clear hfz16_1
     try clear hfz16_2
     try clear hfz16_3
     try clear hfz19_0
     try clear hfz19_1
     try clear hfz19_2
     try clear hfz19_3
     try clear hfz20_0
     try clear hfz20_1
     try clear hfz20_2
     try clear hfz20_3
     try clear hfz22_0
     try clear hfz22_1
     try clear hfz22_2
     try clear hfz22_3
     try clear hfz23_0
     try clear hfz23_1
     try clear hfz23_2
     try clear hfz23_3
     try clear hfz29_0
     try clear hfz29_1
     try clear hfz29_2
     try clear hfz29_3
     try clear hfz31_0
     try clear hfz31_1
     try clear hfz31_2
     try clear hfz31_3
     try clear hfz32_0
     try clear hfz32_1
     try clear hfz32_2
     try clear hfz32_3
     try clear hfz35_0
     try clear hfz35_1
     try clear hfz35_2
     try clear hfz35_3
     try clear hfz37_0
     try clear hfz37_1
     try clear hfz37_2
     try clear hfz37_3
     try clear hfz38_0
     try clear hfz38_1
     try clear hfz38_2
     try clear hfz38_3
     try clear hfz42_0
     try clear hfz42_1
     try clear hfz42_2
     try clear hfz42_3
     try clear hfz44_0
     try clear hfz44_1
     try clear hfz44_2
     try clear hfz44_3
     try clear hfz45_0
     try clear hfz45_1
     try clear hfz45_2
     try clear hfz45_3
     try clear hfz50_0
     try clear hfz50_1
     try clear hfz50_2
     try clear hfz50_3
     try clear hfz51_0
     try clear hfz51_1
     try clear hfz51_2
     try clear hfz51_3
     try clear hfz54_0
     try clear hfz54_1
     try clear hfz54_2
     try clear hfz54_3
     try clear hfz55_0
     try clear hfz55_1
     try clear hfz55_2
     try clear hfz55_3
     try clear hfz59_0
     try clear hfz59_1
     try clear hfz59_2
     try clear hfz59_3
     try clear hfz60_0
     try clear hfz60_1
     try clear hfz60_2
     try clear hfz60_3
     try clear hfz65_0
     try clear hfz65_1
     try clear hfz65_2
     try clear hfz65_3
     try clear hx145_0
     try clear hx145_1
     try clear hx145_2
     try clear hx145_3
     try clear p1
     try clear p14
     try clear p145
     try clear p2
     try clear q1
     try clear q14
     try clear q145
     obtain ⟨kq, x6_61, HA, HJ61, HO_6, BK141, HB⟩ := hcut
     cases kq with
     | zero => exact absurd HA.out (by simp [spec_RoutePut.j2])
     | succ kj61 =>
      have H := HA.out;clear HA;simp only [spec_RoutePut.j2] at H;replace H := ze H;obtain ⟨t165, A670, H⟩ := H;replace H : (if t165 = true then ((spec_RouteOk.f a1_0 a1_1 a1_2 a1_3).bind fun t166 => (if t166 = true then (if (x6_61.length : Int) > 8 then (some ((([] : List (S24))), false)) else (some (x6_61, true))) else (some ((([] : List (S24))), false)))) else (some ((([] : List (S24))), false))) = some (r1, r2) := H;have A67 := Aside0.mk A670;clear A670
      by_cases c68 : t165 = true
      ·subst c68
       have H1 : ((spec_RouteOk.f a1_0 a1_1 a1_2 a1_3).bind fun t166 => (if t166 = true then (if (x6_61.length : Int) > 8 then (some ((([] : List (S24))), false)) else (some (x6_61, true))) else (some ((([] : List (S24))), false)))) = some (r1, r2) := by rw [if_pos rfl] at H; exact H
       clear H;have H := H1;clear H1;replace H := ze H;obtain ⟨t166, A690, H⟩ := H;replace H : (if t166 = true then (if (x6_61.length : Int) > 8 then (some ((([] : List (S24))), false)) else (some (x6_61, true))) else (some ((([] : List (S24))), false))) = some (r1, r2) := H;have A69 := Aside0.mk A690;clear A690
       by_cases c70 : t166 = true
       ·subst c70
        have H1 : (if (x6_61.length : Int) > 8 then (some ((([] : List (S24))), false)) else (some (x6_61, true))) = some (r1, r2) := by rw [if_pos rfl] at H; exact H
        clear H;have H := H1;clear H1
        by_cases c71 : (x6_61.length : Int) > 8
        ·rw [if_pos c71] at H
         have c71b0 : decide (8 < (x6_61.length : Int)) = true := decide_eq_true c71;have c71b1 : decide (8 < x6_61.length) = true := decide_eq_true (by omega);clear c71;obtain ⟨y167, hy167⟩ : ∃ y_ : List (S24), y_ = (([] : List (S24))) := ⟨_, rfl⟩
         replace H : (some (y167, false)) = some (r1, r2) := by first | (rw [hy167]; with_reducible exact H) | (have H2_ := (Option.bind_some _ _).symm.trans H; rw [hy167]; with_reducible exact H2_) | (have H2_ := (Option.bind_some _ _).symm.trans H; with_reducible exact H2_) | with_reducible exact H | (rw [hy167]; exact H) | exact H
         have Ny167 := Aside0.mk hy167;clear hy167;simp only [Option.some.injEq, Prod.mk.injEq] at H;obtain ⟨rfl, rfl⟩ := H
         go_wp2_with (first | ((with_reducible refine gate_callee (f := 68) rfl ?_); refine goesL_ (some 71) rfl rfl Try.func68 (by kernel_rfl) rfl #[.slice A0 l0.length c0] rfl (by (try simp only [zm]); first | done | rfl | (simp only [zl]; rfl)) ?_; (with_reducible refine (spec_RoutesOk.calls kj61 _ _ l0 true _ ?side1 ?side2 A67.out).mono ?_); (case side1 => repeat (first | exact (Kd.C_below HR0.out HB.out) | (with_reducible first | refine Kd.C_alloc ?_ _ | refine Kd.C_drewN ?_ _ | refine Kd.C_drew ?_))); (case side2 => exact HC0.out); rintro e w72 ⟨rfl, hb⟩; refine ⟨_, rfl, ?_⟩; have n0_ := Aside0.mk (Kd.R_below (by (with_reducible repeat (first | apply Kd.R_alloc | apply Kd.R_drewN | apply Kd.R_drew)); exact HO_6.out) hb); have n1_ := Aside0.mk (blk_below (g := gb141) (o := .cells #[.int .i64 a1_0, .int .i64 a1_1, .int .i64 a1_2, .int .i64 a1_3] 24 (0, 0)) (by (with_reducible repeat (first | apply blk_drewN | apply blk_drew | apply blk_alloc)); exact BK141.out) hb); have n2_ := Aside0.mk (below_step (by repeat (first | (with_reducible first | exact HB.out | apply below_alloc | apply pw_below_drewN | apply below_drew1 | refine below_set ?_ GE141.out) | exact HB.out)) hb); clear HO_6; clear BK141; clear HB; have HO_6 := n0_; have BK141 := n1_; have HB := n2_; clear n0_ n1_ n2_; (try clear hb); (try clear hb2); (try clear hk); (try clear hi); obtain ⟨hcz73_0, hcz73_1, hcz73_2, hcz73_3, hfz73_0, hfz73_1, hfz73_2, hfz73_3⟩ := zc4 BK141.out) | (go_at_call 17; (with_reducible refine (spec_RouteOk.calls a1_0 a1_1 a1_2 a1_3 true _ A69.out).mono ?_); rintro e w74 ⟨rfl, hb⟩; have n0_ := Aside0.mk (Kd.R_below (by (with_reducible repeat (first | apply Kd.R_alloc | apply Kd.R_drewN | apply Kd.R_drew)); exact HO_6.out) hb); have n1_ := Aside0.mk (blk_below (g := gb141) (o := .cells #[.int .i64 a1_0, .int .i64 a1_1, .int .i64 a1_2, .int .i64 a1_3] 24 (0, 0)) (by (with_reducible repeat (first | apply blk_drewN | apply blk_drew | apply blk_alloc)); exact BK141.out) hb); have n2_ := Aside0.mk (below_step (by repeat (first | (with_reducible first | exact HB.out | apply below_alloc | apply pw_below_drewN | apply below_drew1 | refine below_set ?_ GE141.out) | exact HB.out)) hb); clear HO_6; clear BK141; clear HB; have HO_6 := n0_; have BK141 := n1_; have HB := n2_; clear n0_ n1_ n2_; (try clear hb); (try clear hb2); (try clear hk); (try clear hi); obtain ⟨Ao75, co75, eo75⟩ := Kd.R_slice HO_6.out; subst eo75) | ((with_reducible refine gate_dst (N := 83) rfl ?_); (try (refine gate_guard (by rfl) ?_; dsimp only)); refine Kd.R_lit k24 _ 24 ?hg (N := 83) ?hd (xs := ([] : List (S24))) (inner := []) (ok := fun _ => True) (okp := fun _ => True) ?hr ?hp (fun _ hk => hk) trivial (Below.refl _ _) (Nat.le_refl _) (by simp) ?_; (case hd => rfl); (case hg => rfl); (case hr => first | (go_simp; done) | (go_simp; rfl)); (case hp => exact (Reps.none _ _)); intro v168 w76 ho77 hb hg_ hnew_; clear hg_ hnew_; (first | rw [← Ny167.out] at ho77 | (simp only [Int.reduceToNat] at ho77; rw [← Ny167.out] at ho77)); have n0_ := Aside0.mk (Kd.R_elder' (by (with_reducible repeat (first | apply Kd.R_alloc | apply Kd.R_drewN | apply Kd.R_drew)); exact HO_6.out) (Kd.R_base ho77) hb); have n1_ := Aside0.mk (Kd.R_lower (Kd.R_newB (Kd.R_new' ho77 (Kd.R_lt (by (with_reducible repeat (first | apply Kd.R_alloc | apply Kd.R_drewN | apply Kd.R_drew)); exact HO_6.out))) (g := gb141) (o := .cells #[.int .i64 a1_0, .int .i64 a1_1, .int .i64 a1_2, .int .i64 a1_3] 24 (0, 0)) (by (with_reducible repeat (first | apply blk_drewN | apply blk_drew | apply blk_alloc)); exact BK141.out)) (below_size (by repeat (first | (with_reducible first | exact HB.out | apply below_alloc | apply pw_below_drewN | apply below_drew1 | refine below_set ?_ GE141.out) | exact HB.out)))); have n2_ := Aside0.mk (blk_below (g := gb141) (o := .cells #[.int .i64 a1_0, .int .i64 a1_1, .int .i64 a1_2, .int .i64 a1_3] 24 (0, 0)) (by (with_reducible repeat (first | apply blk_drewN | apply blk_drew | apply blk_alloc)); exact BK141.out) hb); have n3_ := Aside0.mk (below_step (by repeat (first | (with_reducible first | exact HB.out | apply below_alloc | apply pw_below_drewN | apply below_drew1 | refine below_set ?_ GE141.out) | exact HB.out)) hb); clear HO_6; clear BK141; clear HB; have HO_6 := n0_; have HO169 := n1_; have BK141 := n2_; have HB := n3_; clear n0_ n1_ n2_ n3_; clear hb ho77))
         go_ret2
         exact ⟨_, by first | rfl | (simp <;> rfl) | (simp [*] <;> rfl), by (with_reducible repeat (first | apply Kd.R_alloc | apply Kd.R_drewN | apply Kd.R_drew)); exact Kd.R_mono HO169.out (fun _ hk => trivial), by repeat (first | (with_reducible first | exact HB.out | apply below_alloc | apply pw_below_drewN | apply below_drew1 | refine below_set ?_ GE141.out) | exact HB.out)⟩
        ·rw [if_neg c71] at H
         have c71b0 : decide (8 < (x6_61.length : Int)) = false := decide_eq_false c71;have c71b1 : decide (8 < x6_61.length) = false := decide_eq_false (by omega);clear c71;simp only [Option.some.injEq, Prod.mk.injEq] at H;obtain ⟨rfl, rfl⟩ := H
         go_wp2_with (first | ((with_reducible refine gate_callee (f := 68) rfl ?_); refine goesL_ (some 71) rfl rfl Try.func68 (by kernel_rfl) rfl #[.slice A0 l0.length c0] rfl (by (try simp only [zm]); first | done | rfl | (simp only [zl]; rfl)) ?_; (with_reducible refine (spec_RoutesOk.calls kj61 _ _ l0 true _ ?side1 ?side2 A67.out).mono ?_); (case side1 => repeat (first | exact (Kd.C_below HR0.out HB.out) | (with_reducible first | refine Kd.C_alloc ?_ _ | refine Kd.C_drewN ?_ _ | refine Kd.C_drew ?_))); (case side2 => exact HC0.out); rintro e w78 ⟨rfl, hb⟩; refine ⟨_, rfl, ?_⟩; have n0_ := Aside0.mk (Kd.R_below (by (with_reducible repeat (first | apply Kd.R_alloc | apply Kd.R_drewN | apply Kd.R_drew)); exact HO_6.out) hb); have n1_ := Aside0.mk (blk_below (g := gb141) (o := .cells #[.int .i64 a1_0, .int .i64 a1_1, .int .i64 a1_2, .int .i64 a1_3] 24 (0, 0)) (by (with_reducible repeat (first | apply blk_drewN | apply blk_drew | apply blk_alloc)); exact BK141.out) hb); have n2_ := Aside0.mk (below_step (by repeat (first | (with_reducible first | exact HB.out | apply below_alloc | apply pw_below_drewN | apply below_drew1 | refine below_set ?_ GE141.out) | exact HB.out)) hb); clear HO_6; clear BK141; clear HB; have HO_6 := n0_; have BK141 := n1_; have HB := n2_; clear n0_ n1_ n2_; (try clear hb); (try clear hb2); (try clear hk); (try clear hi); obtain ⟨hcz79_0, hcz79_1, hcz79_2, hcz79_3, hfz79_0, hfz79_1, hfz79_2, hfz79_3⟩ := zc4 BK141.out) | (go_at_call 17; (with_reducible refine (spec_RouteOk.calls a1_0 a1_1 a1_2 a1_3 true _ A69.out).mono ?_); rintro e w80 ⟨rfl, hb⟩; have n0_ := Aside0.mk (Kd.R_below (by (with_reducible repeat (first | apply Kd.R_alloc | apply Kd.R_drewN | apply Kd.R_drew)); exact HO_6.out) hb); have n1_ := Aside0.mk (blk_below (g := gb141) (o := .cells #[.int .i64 a1_0, .int .i64 a1_1, .int .i64 a1_2, .int .i64 a1_3] 24 (0, 0)) (by (with_reducible repeat (first | apply blk_drewN | apply blk_drew | apply blk_alloc)); exact BK141.out) hb); have n2_ := Aside0.mk (below_step (by repeat (first | (with_reducible first | exact HB.out | apply below_alloc | apply pw_below_drewN | apply below_drew1 | refine below_set ?_ GE141.out) | exact HB.out)) hb); clear HO_6; clear BK141; clear HB; have HO_6 := n0_; have BK141 := n1_; have HB := n2_; clear n0_ n1_ n2_; (try clear hb); (try clear hb2); (try clear hk); (try clear hi); obtain ⟨Ao81, co81, eo81⟩ := Kd.R_slice HO_6.out; subst eo81))
         go_ret2
         exact ⟨_, by first | rfl | (simp <;> rfl) | (simp [*] <;> rfl), by (with_reducible repeat (first | apply Kd.R_alloc | apply Kd.R_drewN | apply Kd.R_drew)); exact Kd.R_mono HO_6.out (fun _ hk => trivial), by repeat (first | (with_reducible first | exact HB.out | apply below_alloc | apply pw_below_drewN | apply below_drew1 | refine below_set ?_ GE141.out) | exact HB.out)⟩
       ·replace c70 := Bool.eq_false_iff.mpr c70
        subst c70
        have H1 : (some ((([] : List (S24))), false)) = some (r1, r2) := by rw [if_neg (show ¬ (false = true) by decide)] at H; exact H
        clear H;have H := H1;clear H1;obtain ⟨y170, hy170⟩ : ∃ y_ : List (S24), y_ = (([] : List (S24))) := ⟨_, rfl⟩
        replace H : (some (y170, false)) = some (r1, r2) := by first | (rw [hy170]; with_reducible exact H) | (have H2_ := (Option.bind_some _ _).symm.trans H; rw [hy170]; with_reducible exact H2_) | (have H2_ := (Option.bind_some _ _).symm.trans H; with_reducible exact H2_) | with_reducible exact H | (rw [hy170]; exact H) | exact H
        have Ny170 := Aside0.mk hy170;clear hy170;simp only [Option.some.injEq, Prod.mk.injEq] at H;obtain ⟨rfl, rfl⟩ := H
        go_wp2_with (first | ((with_reducible refine gate_callee (f := 68) rfl ?_); refine goesL_ (some 71) rfl rfl Try.func68 (by kernel_rfl) rfl #[.slice A0 l0.length c0] rfl (by (try simp only [zm]); first | done | rfl | (simp only [zl]; rfl)) ?_; (with_reducible refine (spec_RoutesOk.calls kj61 _ _ l0 true _ ?side1 ?side2 A67.out).mono ?_); (case side1 => repeat (first | exact (Kd.C_below HR0.out HB.out) | (with_reducible first | refine Kd.C_alloc ?_ _ | refine Kd.C_drewN ?_ _ | refine Kd.C_drew ?_))); (case side2 => exact HC0.out); rintro e w82 ⟨rfl, hb⟩; refine ⟨_, rfl, ?_⟩; have n0_ := Aside0.mk (Kd.R_below (by (with_reducible repeat (first | apply Kd.R_alloc | apply Kd.R_drewN | apply Kd.R_drew)); exact HO_6.out) hb); have n1_ := Aside0.mk (blk_below (g := gb141) (o := .cells #[.int .i64 a1_0, .int .i64 a1_1, .int .i64 a1_2, .int .i64 a1_3] 24 (0, 0)) (by (with_reducible repeat (first | apply blk_drewN | apply blk_drew | apply blk_alloc)); exact BK141.out) hb); have n2_ := Aside0.mk (below_step (by repeat (first | (with_reducible first | exact HB.out | apply below_alloc | apply pw_below_drewN | apply below_drew1 | refine below_set ?_ GE141.out) | exact HB.out)) hb); clear HO_6; clear BK141; clear HB; have HO_6 := n0_; have BK141 := n1_; have HB := n2_; clear n0_ n1_ n2_; (try clear hb); (try clear hb2); (try clear hk); (try clear hi); obtain ⟨hcz83_0, hcz83_1, hcz83_2, hcz83_3, hfz83_0, hfz83_1, hfz83_2, hfz83_3⟩ := zc4 BK141.out) | (go_at_call 17; (with_reducible refine (spec_RouteOk.calls a1_0 a1_1 a1_2 a1_3 false _ A69.out).mono ?_); rintro e w84 ⟨rfl, hb⟩; have n0_ := Aside0.mk (Kd.R_below (by (with_reducible repeat (first | apply Kd.R_alloc | apply Kd.R_drewN | apply Kd.R_drew)); exact HO_6.out) hb); have n1_ := Aside0.mk (blk_below (g := gb141) (o := .cells #[.int .i64 a1_0, .int .i64 a1_1, .int .i64 a1_2, .int .i64 a1_3] 24 (0, 0)) (by (with_reducible repeat (first | apply blk_drewN | apply blk_drew | apply blk_alloc)); exact BK141.out) hb); have n2_ := Aside0.mk (below_step (by repeat (first | (with_reducible first | exact HB.out | apply below_alloc | apply pw_below_drewN | apply below_drew1 | refine below_set ?_ GE141.out) | exact HB.out)) hb); clear HO_6; clear BK141; clear HB; have HO_6 := n0_; have BK141 := n1_; have HB := n2_; clear n0_ n1_ n2_; (try clear hb); (try clear hb2); (try clear hk); (try clear hi)) | ((with_reducible refine gate_dst (N := 83) rfl ?_); (try (refine gate_guard (by rfl) ?_; dsimp only)); refine Kd.R_lit k24 _ 24 ?hg (N := 83) ?hd (xs := ([] : List (S24))) (inner := []) (ok := fun _ => True) (okp := fun _ => True) ?hr ?hp (fun _ hk => hk) trivial (Below.refl _ _) (Nat.le_refl _) (by simp) ?_; (case hd => rfl); (case hg => rfl); (case hr => first | (go_simp; done) | (go_simp; rfl)); (case hp => exact (Reps.none _ _)); intro v171 w85 ho86 hb hg_ hnew_; clear hg_ hnew_; (first | rw [← Ny170.out] at ho86 | (simp only [Int.reduceToNat] at ho86; rw [← Ny170.out] at ho86)); have n0_ := Aside0.mk (Kd.R_elder' (by (with_reducible repeat (first | apply Kd.R_alloc | apply Kd.R_drewN | apply Kd.R_drew)); exact HO_6.out) (Kd.R_base ho86) hb); have n1_ := Aside0.mk (Kd.R_lower (Kd.R_newB (Kd.R_new' ho86 (Kd.R_lt (by (with_reducible repeat (first | apply Kd.R_alloc | apply Kd.R_drewN | apply Kd.R_drew)); exact HO_6.out))) (g := gb141) (o := .cells #[.int .i64 a1_0, .int .i64 a1_1, .int .i64 a1_2, .int .i64 a1_3] 24 (0, 0)) (by (with_reducible repeat (first | apply blk_drewN | apply blk_drew | apply blk_alloc)); exact BK141.out)) (below_size (by repeat (first | (with_reducible first | exact HB.out | apply below_alloc | apply pw_below_drewN | apply below_drew1 | refine below_set ?_ GE141.out) | exact HB.out)))); have n2_ := Aside0.mk (blk_below (g := gb141) (o := .cells #[.int .i64 a1_0, .int .i64 a1_1, .int .i64 a1_2, .int .i64 a1_3] 24 (0, 0)) (by (with_reducible repeat (first | apply blk_drewN | apply blk_drew | apply blk_alloc)); exact BK141.out) hb); have n3_ := Aside0.mk (below_step (by repeat (first | (with_reducible first | exact HB.out | apply below_alloc | apply pw_below_drewN | apply below_drew1 | refine below_set ?_ GE141.out) | exact HB.out)) hb); clear HO_6; clear BK141; clear HB; have HO_6 := n0_; have HO172 := n1_; have BK141 := n2_; have HB := n3_; clear n0_ n1_ n2_ n3_; clear hb ho86))
        go_ret2
        exact ⟨_, by first | rfl | (simp <;> rfl) | (simp [*] <;> rfl), by (with_reducible repeat (first | apply Kd.R_alloc | apply Kd.R_drewN | apply Kd.R_drew)); exact Kd.R_mono HO172.out (fun _ hk => trivial), by repeat (first | (with_reducible first | exact HB.out | apply below_alloc | apply pw_below_drewN | apply below_drew1 | refine below_set ?_ GE141.out) | exact HB.out)⟩
      ·replace c68 := Bool.eq_false_iff.mpr c68
       subst c68
       have H1 : (some ((([] : List (S24))), false)) = some (r1, r2) := by rw [if_neg (show ¬ (false = true) by decide)] at H; exact H
       clear H;have H := H1;clear H1;obtain ⟨y173, hy173⟩ : ∃ y_ : List (S24), y_ = (([] : List (S24))) := ⟨_, rfl⟩
       replace H : (some (y173, false)) = some (r1, r2) := by first | (rw [hy173]; with_reducible exact H) | (have H2_ := (Option.bind_some _ _).symm.trans H; rw [hy173]; with_reducible exact H2_) | (have H2_ := (Option.bind_some _ _).symm.trans H; with_reducible exact H2_) | with_reducible exact H | (rw [hy173]; exact H) | exact H
       have Ny173 := Aside0.mk hy173;clear hy173;simp only [Option.some.injEq, Prod.mk.injEq] at H;obtain ⟨rfl, rfl⟩ := H
       go_wp2_with (first | ((with_reducible refine gate_callee (f := 68) rfl ?_); refine goesL_ (some 71) rfl rfl Try.func68 (by kernel_rfl) rfl #[.slice A0 l0.length c0] rfl (by (try simp only [zm]); first | done | rfl | (simp only [zl]; rfl)) ?_; (with_reducible refine (spec_RoutesOk.calls kj61 _ _ l0 false _ ?side1 ?side2 A67.out).mono ?_); (case side1 => repeat (first | exact (Kd.C_below HR0.out HB.out) | (with_reducible first | refine Kd.C_alloc ?_ _ | refine Kd.C_drewN ?_ _ | refine Kd.C_drew ?_))); (case side2 => exact HC0.out); rintro e w87 ⟨rfl, hb⟩; refine ⟨_, rfl, ?_⟩; have n0_ := Aside0.mk (Kd.R_below (by (with_reducible repeat (first | apply Kd.R_alloc | apply Kd.R_drewN | apply Kd.R_drew)); exact HO_6.out) hb); have n1_ := Aside0.mk (blk_below (g := gb141) (o := .cells #[.int .i64 a1_0, .int .i64 a1_1, .int .i64 a1_2, .int .i64 a1_3] 24 (0, 0)) (by (with_reducible repeat (first | apply blk_drewN | apply blk_drew | apply blk_alloc)); exact BK141.out) hb); have n2_ := Aside0.mk (below_step (by repeat (first | (with_reducible first | exact HB.out | apply below_alloc | apply pw_below_drewN | apply below_drew1 | refine below_set ?_ GE141.out) | exact HB.out)) hb); clear HO_6; clear BK141; clear HB; have HO_6 := n0_; have BK141 := n1_; have HB := n2_; clear n0_ n1_ n2_; (try clear hb); (try clear hb2); (try clear hk); (try clear hi)) | ((with_reducible refine gate_dst (N := 83) rfl ?_); (try (refine gate_guard (by rfl) ?_; dsimp only)); refine Kd.R_lit k24 _ 24 ?hg (N := 83) ?hd (xs := ([] : List (S24))) (inner := []) (ok := fun _ => True) (okp := fun _ => True) ?hr ?hp (fun _ hk => hk) trivial (Below.refl _ _) (Nat.le_refl _) (by simp) ?_; (case hd => rfl); (case hg => rfl); (case hr => first | (go_simp; done) | (go_simp; rfl)); (case hp => exact (Reps.none _ _)); intro v174 w88 ho89 hb hg_ hnew_; clear hg_ hnew_; (first | rw [← Ny173.out] at ho89 | (simp only [Int.reduceToNat] at ho89; rw [← Ny173.out] at ho89)); have n0_ := Aside0.mk (Kd.R_elder' (by (with_reducible repeat (first | apply Kd.R_alloc | apply Kd.R_drewN | apply Kd.R_drew)); exact HO_6.out) (Kd.R_base ho89) hb); have n1_ := Aside0.mk (Kd.R_lower (Kd.R_newB (Kd.R_new' ho89 (Kd.R_lt (by (with_reducible repeat (first | apply Kd.R_alloc | apply Kd.R_drewN | apply Kd.R_drew)); exact HO_6.out))) (g := gb141) (o := .cells #[.int .i64 a1_0, .int .i64 a1_1, .int .i64 a1_2, .int .i64 a1_3] 24 (0, 0)) (by (with_reducible repeat (first | apply blk_drewN | apply blk_drew | apply blk_alloc)); exact BK141.out)) (below_size (by repeat (first | (with_reducible first | exact HB.out | apply below_alloc | apply pw_below_drewN | apply below_drew1 | refine below_set ?_ GE141.out) | exact HB.out)))); have n2_ := Aside0.mk (blk_below (g := gb141) (o := .cells #[.int .i64 a1_0, .int .i64 a1_1, .int .i64 a1_2, .int .i64 a1_3] 24 (0, 0)) (by (with_reducible repeat (first | apply blk_drewN | apply blk_drew | apply blk_alloc)); exact BK141.out) hb); have n3_ := Aside0.mk (below_step (by repeat (first | (with_reducible first | exact HB.out | apply below_alloc | apply pw_below_drewN | apply below_drew1 | refine below_set ?_ GE141.out) | exact HB.out)) hb); clear HO_6; clear BK141; clear HB; have HO_6 := n0_; have HO175 := n1_; have BK141 := n2_; have HB := n3_; clear n0_ n1_ n2_ n3_; clear hb ho89))
       go_ret2
       exact ⟨_, by first | rfl | (simp <;> rfl) | (simp [*] <;> rfl), by (with_reducible repeat (first | apply Kd.R_alloc | apply Kd.R_drewN | apply Kd.R_drew)); exact Kd.R_mono HO175.out (fun _ hk => trivial), by repeat (first | (with_reducible first | exact HB.out | apply below_alloc | apply pw_below_drewN | apply below_drew1 | refine below_set ?_ GE141.out) | exact HB.out)⟩

end Go.Proofs.Ytpoedefohfonjaa.PFnRoutePut

/- The machine side of some functions: each comes to its pure answer (written by a program of this session with the kit's print). No condition. -/
import Derived.Test.YtdplboenlcppkaaPFnNearOkx0
namespace Go.Proofs.Ytdplboenlcppkaa.PFnNearOk
open Go.RowKit Go.Proofs.YtdplboenlcppkaaUFnNearOk.PrintWords Go.Proofs.YtdplboenlcppkaaUFnNearOk.PrintLast Go.Proofs.YtdplboenlcppkaaUFnNearOk.PrintMore
attribute [local go_sem] max2_int min2_int max_two min_two max_three min_three max_four min_four   -- for this text's walks alone
set_option linter.unusedVariables false
set_option linter.unusedSimpArgs false

/-! ### spec_l1In: function 60 -/
def spec_l1In.f (a0 : Int) (a1 : Int) (a2 : Int) : Option (Bool) := if a0 ≥ a1 then (some (decide (a0 ≤ a2))) else (some false)
set_option maxHeartbeats 8000000 in
set_option maxRecDepth 100000 in
theorem spec_l1In.calls (a0 : Int) (a1 : Int) (a2 : Int) (r : Bool) (w : World) (h : spec_l1In.f a0 a1 a2 = some r) :
  Calls Try.prog 60 #[.int .i64 a0, .int .i64 a1, .int .i64 a2] w fun e w' => e = .returned (.bool r) ∧ Drawn0 w w' := by
 have H : (if a0 ≥ a1 then (some (decide (a0 ≤ a2))) else (some false)) = some r := h;clear h
 by_cases c4 : a0 ≥ a1
 ·rw [if_pos c4] at H
  have c4b0 : decide (a1 ≤ a0) = true := decide_eq_true c4;clear c4;obtain rfl := Option.some.inj H
  go_enter Try.func60, Try.ntmps60
  go_wp2
  go_ret;exact ⟨by first | rfl | (simp; done) | (simp [*]; done), by repeat (first | exact Drawn0.refl _ | apply Drawn0.step)⟩
 ·rw [if_neg c4] at H
  have c4b0 : decide (a1 ≤ a0) = false := decide_eq_false c4;clear c4;obtain rfl := Option.some.inj H
  go_enter Try.func60, Try.ntmps60
  go_wp2
  go_ret;exact ⟨by first | rfl | (simp; done) | (simp [*]; done), by repeat (first | exact Drawn0.refl _ | apply Drawn0.step)⟩

/-! ### spec_NearOk: function 19 -/
mutual
def spec_NearOk.l0 : Nat → Int → List (S99) → List (S101) → Option (Bool)
 | 0, _, _, _ => none
 | k + 1, x3, x102000, x102001 => if x3 < (x102000.length : Int) then (if 0 ≤ x3 then ((spec_l1In.f ((rd_T99 x102000 x3).f0) 0 65535).bind fun t104 => (if t104 = true then ((spec_l1In.f ((rd_T99 x102000 x3).f1) 0 254).bind fun t105 => (if t105 = true then ((spec_l1In.f ((rd_T99 x102000 x3).f2) 0 1000000).bind fun t106 => (spec_NearOk.j1 k x3 (!t106) x102000 x102001 ((rd_T99 x102000 x3).f0) ((rd_T99 x102000 x3).f1) ((rd_T99 x102000 x3).f2))) else (spec_NearOk.j1 k x3 true x102000 x102001 ((rd_T99 x102000 x3).f0) ((rd_T99 x102000 x3).f1) ((rd_T99 x102000 x3).f2)))) else (spec_NearOk.j1 k x3 true x102000 x102001 ((rd_T99 x102000 x3).f0) ((rd_T99 x102000 x3).f1) ((rd_T99 x102000 x3).f2)))) else (none)) else (spec_NearOk.l2 k 0 x102000 x102001)
def spec_NearOk.j1 : Nat → Int → Bool → List (S99) → List (S101) → Int → Int → Int → Option (Bool)
 | 0, _, _, _, _, _, _, _ => none
 | k + 1, x3, x34, x102000, x102001, x104000, x104001, x104002 => if x34 = true then (some false) else (spec_NearOk.l1 k x3 0 x102000 x102001 x104000 x104001 x104002)
def spec_NearOk.l1 : Nat → Int → Int → List (S99) → List (S101) → Int → Int → Int → Option (Bool)
 | 0, _, _, _, _, _, _, _ => none
 | k + 1, x3, x5, x102000, x102001, x104000, x104001, x104002 => if x5 < x3 then (if 0 ≤ x5 then (if x5 < (x102000.length : Int) then (if ((rd_T99 x102000 x5).f0) = x104000 then (some false) else (spec_NearOk.l1 k x3 (wrap64 (x5 + 1)) x102000 x102001 x104000 x104001 x104002)) else (none)) else (none)) else (spec_NearOk.l0 k (wrap64 (x3 + 1)) x102000 x102001)
def spec_NearOk.l2 : Nat → Int → List (S99) → List (S101) → Option (Bool)
 | 0, _, _, _ => none
 | k + 1, x6, x102000, x102001 => if x6 < (x102001.length : Int) then (if 0 ≤ x6 then ((spec_l1In.f ((rd_T101 x102001 x6).f0) 0 65535).bind fun t109 => (if t109 = true then (if (((rd_T101 x102001 x6).f1).length : Int) > 64 then (some false) else (spec_NearOk.l2 k (wrap64 (x6 + 1)) x102000 x102001)) else (some false))) else (none)) else (if (x102000.length : Int) ≤ 4 then (some (decide ((x102001.length : Int) ≤ 4))) else (some false))
end
def spec_NearOk.f (k : Nat) (l0_0 : List (S99)) (l0_1 : List (S101)) : Option (Bool) := spec_NearOk.l0 k 0 l0_0 l0_1
theorem spec_NearOk.mono_l : ∀ k, (∀ y0 y1 y2, LeO (spec_NearOk.l0 k y0 y1 y2) (spec_NearOk.l0 (k + 1) y0 y1 y2)) ∧ (∀ y0 y1 y2 y3 y4 y5 y6, LeO (spec_NearOk.j1 k y0 y1 y2 y3 y4 y5 y6) (spec_NearOk.j1 (k + 1) y0 y1 y2 y3 y4 y5 y6)) ∧ (∀ y0 y1 y2 y3 y4 y5 y6, LeO (spec_NearOk.l1 k y0 y1 y2 y3 y4 y5 y6) (spec_NearOk.l1 (k + 1) y0 y1 y2 y3 y4 y5 y6)) ∧ (∀ y0 y1 y2, LeO (spec_NearOk.l2 k y0 y1 y2) (spec_NearOk.l2 (k + 1) y0 y1 y2))
 | 0 => ⟨fun _ _ _ r h => by simp [spec_NearOk.l0] at h, fun _ _ _ _ _ _ _ r h => by simp [spec_NearOk.j1] at h, fun _ _ _ _ _ _ _ r h => by simp [spec_NearOk.l1] at h, fun _ _ _ r h => by simp [spec_NearOk.l2] at h⟩
 | k + 1 => by
  obtain ⟨ih0, ih1, ih2, ih3⟩ := spec_NearOk.mono_l k;refine ⟨?_, ?_, ?_, ?_⟩
  ·intro y0 y1 y2
   unfold spec_NearOk.l0
   repeat' first
   | (with_reducible exact ih0 _ _ _)
   | (with_reducible exact ih1 _ _ _ _ _ _ _)
   | (with_reducible exact ih2 _ _ _ _ _ _ _)
   | (with_reducible exact ih3 _ _ _)
   | (with_reducible exact LeO.refl _)
   | (with_reducible exact LeO.none _)
   | (with_reducible refine LeO.ite ?_ ?_)
   | (with_reducible refine LeO.bind ?_ (fun _ => ?_))
   | exact ih0 _ _ _
   | exact ih1 _ _ _ _ _ _ _
   | exact ih2 _ _ _ _ _ _ _
   | exact ih3 _ _ _
   | exact LeO.none _
   | refine LeO.ite ?_ ?_
   | refine LeO.bind ?_ (fun _ => ?_)
  ·intro y0 y1 y2 y3 y4 y5 y6
   unfold spec_NearOk.j1
   repeat' first
   | (with_reducible exact ih0 _ _ _)
   | (with_reducible exact ih1 _ _ _ _ _ _ _)
   | (with_reducible exact ih2 _ _ _ _ _ _ _)
   | (with_reducible exact ih3 _ _ _)
   | (with_reducible exact LeO.refl _)
   | (with_reducible exact LeO.none _)
   | (with_reducible refine LeO.ite ?_ ?_)
   | (with_reducible refine LeO.bind ?_ (fun _ => ?_))
   | exact ih0 _ _ _
   | exact ih1 _ _ _ _ _ _ _
   | exact ih2 _ _ _ _ _ _ _
   | exact ih3 _ _ _
   | exact LeO.none _
   | refine LeO.ite ?_ ?_
   | refine LeO.bind ?_ (fun _ => ?_)
  ·intro y0 y1 y2 y3 y4 y5 y6
   unfold spec_NearOk.l1
   repeat' first
   | (with_reducible exact ih0 _ _ _)
   | (with_reducible exact ih1 _ _ _ _ _ _ _)
   | (with_reducible exact ih2 _ _ _ _ _ _ _)
   | (with_reducible exact ih3 _ _ _)
   | (with_reducible exact LeO.refl _)
   | (with_reducible exact LeO.none _)
   | (with_reducible refine LeO.ite ?_ ?_)
   | (with_reducible refine LeO.bind ?_ (fun _ => ?_))
   | exact ih0 _ _ _
   | exact ih1 _ _ _ _ _ _ _
   | exact ih2 _ _ _ _ _ _ _
   | exact ih3 _ _ _
   | exact LeO.none _
   | refine LeO.ite ?_ ?_
   | refine LeO.bind ?_ (fun _ => ?_)
  ·intro y0 y1 y2
   unfold spec_NearOk.l2
   repeat' first
   | (with_reducible exact ih0 _ _ _)
   | (with_reducible exact ih1 _ _ _ _ _ _ _)
   | (with_reducible exact ih2 _ _ _ _ _ _ _)
   | (with_reducible exact ih3 _ _ _)
   | (with_reducible exact LeO.refl _)
   | (with_reducible exact LeO.none _)
   | (with_reducible refine LeO.ite ?_ ?_)
   | (with_reducible refine LeO.bind ?_ (fun _ => ?_))
   | exact ih0 _ _ _
   | exact ih1 _ _ _ _ _ _ _
   | exact ih2 _ _ _ _ _ _ _
   | exact ih3 _ _ _
   | exact LeO.none _
   | refine LeO.ite ?_ ?_
   | refine LeO.bind ?_ (fun _ => ?_)
theorem spec_NearOk.mono : ∀ a0 a1 k, LeO (spec_NearOk.f k a0 a1) (spec_NearOk.f (k + 1) a0 a1) := by
 intro a0 a1 k;obtain ⟨ih0, ih1, ih2, ih3⟩ := spec_NearOk.mono_l k
 unfold spec_NearOk.f
 repeat' first
   | (with_reducible exact ih0 _ _ _)
   | (with_reducible exact ih1 _ _ _ _ _ _ _)
   | (with_reducible exact ih2 _ _ _ _ _ _ _)
   | (with_reducible exact ih3 _ _ _)
   | (with_reducible exact LeO.refl _)
   | (with_reducible exact LeO.none _)
   | (with_reducible refine LeO.ite ?_ ?_)
   | (with_reducible refine LeO.bind ?_ (fun _ => ?_))
   | exact ih0 _ _ _
   | exact ih1 _ _ _ _ _ _ _
   | exact ih2 _ _ _ _ _ _ _
   | exact ih3 _ _ _
   | exact LeO.none _
   | refine LeO.ite ?_ ?_
   | refine LeO.bind ?_ (fun _ => ?_)
set_option maxHeartbeats 8000000 in
set_option maxRecDepth 100000 in
theorem spec_NearOk.calls (k : Nat) (A0_0 : Option Addr) (c0_0 : Nat) (l0_0 : List (S99)) (A0_1 : Option Addr) (c0_1 : Nat) (l0_1 : List (S101)) (r : Bool) (w : World) (hr0_0 : Kd.C k99 w A0_0 l0_0.length l0_0) (hc0_0 : l0_0.length ≤ c0_0) (hr0_1 : Kd.C k101 w A0_1 l0_1.length l0_1) (hc0_1 : l0_1.length ≤ c0_1) (h : spec_NearOk.f k l0_0 l0_1 = some r) :
  Calls Try.prog 19 #[.agg #[.slice A0_0 l0_0.length c0_0, .slice A0_1 l0_1.length c0_1]] w fun e w' => e = .returned (.bool r) ∧ Below w.heap.size w w' := by
 have hu42 := Try.underlying42;have hu99 := Try.underlying99;have HR0_0 := Aside0.mk hr0_0;have HC0_0 := Aside0.mk hc0_0;clear hr0_0 hc0_0;have HR0_1 := Aside0.mk hr0_1;have HC0_1 := Aside0.mk hc0_1;clear hr0_1 hc0_1;have HB := Aside0.mk (Below.refl w.heap.size w);have H : (spec_NearOk.l0 k 0 l0_0 l0_1) = some r := h;clear h;have H' := Aside0.mk H;clear H
 go_enter Try.func19, Try.ntmps19
 go_wp2_with (first | ((with_reducible refine gate_dst (N := 1) rfl ?_); (try (refine gate_guard (by rfl) ?_; dsimp only)); refine box_event ?hg (N := 1) ?hd (cs := #[.slice A0_0 l0_0.length c0_0, .slice A0_1 l0_1.length c0_1]) (t := 42) ?hr ?_; (case hd => rfl); (case hg => rfl); (case hr => first | (go_simp; done) | (go_simp; rfl)); intro gb101 hg w2 hbox hb; have n0_ := Aside0.mk (below_step (by repeat (first | (with_reducible first | exact HB.out | apply below_alloc | apply pw_below_drewN | apply below_drew1) | exact HB.out)) hb); have n1_ := Aside0.mk (hbox); have n2_ := Aside0.mk ((by rw [hg]; exact (below_size (by repeat (first | (with_reducible first | exact HB.out | apply below_alloc | apply pw_below_drewN | apply below_drew1) | exact HB.out))) : w.heap.size ≤ gb101)); have n3_ := n2_; clear HB; have HB := n0_; have BK101 := n1_; have GW101 := n2_; have GE101 := n3_; clear n0_ n1_ n2_ n3_; clear hb hbox hg))
 repeat (go_quiet (first | ((with_reducible refine gate_dst (N := 1) rfl ?_); (try (refine gate_guard (by rfl) ?_; dsimp only)); refine box_event ?hg (N := 1) ?hd (cs := #[.slice A0_0 l0_0.length c0_0, .slice A0_1 l0_1.length c0_1]) (t := 42) ?hr ?_; (case hd => rfl); (case hg => rfl); (case hr => first | (go_simp; done) | (go_simp; rfl)); intro gb101 hg w2 hbox hb; have n0_ := Aside0.mk (below_step (by repeat (first | (with_reducible first | exact HB.out | apply below_alloc | apply pw_below_drewN | apply below_drew1) | exact HB.out)) hb); have n1_ := Aside0.mk (hbox); have n2_ := Aside0.mk ((by rw [hg]; exact (below_size (by repeat (first | (with_reducible first | exact HB.out | apply below_alloc | apply pw_below_drewN | apply below_drew1) | exact HB.out))) : w.heap.size ≤ gb101)); have n3_ := n2_; clear HB; have HB := n0_; have BK101 := n1_; have GW101 := n2_; have GE101 := n3_; clear n0_ n1_ n2_ n3_; clear hb hbox hg)); try go_wp2_with (first | ((with_reducible refine gate_dst (N := 1) rfl ?_); (try (refine gate_guard (by rfl) ?_; dsimp only)); refine box_event ?hg (N := 1) ?hd (cs := #[.slice A0_0 l0_0.length c0_0, .slice A0_1 l0_1.length c0_1]) (t := 42) ?hr ?_; (case hd => rfl); (case hg => rfl); (case hr => first | (go_simp; done) | (go_simp; rfl)); intro gb101 hg w2 hbox hb; have n0_ := Aside0.mk (below_step (by repeat (first | (with_reducible first | exact HB.out | apply below_alloc | apply pw_below_drewN | apply below_drew1) | exact HB.out)) hb); have n1_ := Aside0.mk (hbox); have n2_ := Aside0.mk ((by rw [hg]; exact (below_size (by repeat (first | (with_reducible first | exact HB.out | apply below_alloc | apply pw_below_drewN | apply below_drew1) | exact HB.out))) : w.heap.size ≤ gb101)); have n3_ := n2_; clear HB; have HB := n0_; have BK101 := n1_; have GW101 := n2_; have GE101 := n3_; clear n0_ n1_ n2_ n3_; clear hb hbox hg)))
 go_loopg [3] k (fun kq v3 w' => ∃ (x3_1 : Int), v3 = .int .i64 x3_1 ∧ Aside0 (spec_NearOk.l0 kq x3_1 l0_0 l0_1 = some r) ∧ Aside0 (kq ≤ k) ∧ Aside0 (w'.heap[gb101]? = some (.cells #[(.slice A0_0 l0_0.length c0_0), (.slice A0_1 l0_1.length c0_1)] 42 (0, 0))) ∧ Aside0 (Below w.heap.size w w'))
 case atStart => exact ⟨(0), (by first | rfl | (simp; done) | (simp [*]; done)), H', ⟨Nat.le_refl _⟩, ⟨by (with_reducible repeat (first | apply blk_drewN | apply blk_drew | apply blk_alloc)); exact BK101.out⟩, ⟨by repeat (first | (with_reducible first | exact HB.out | apply below_alloc | apply pw_below_drewN | apply below_drew1 | refine below_set ?_ GE101.out) | exact HB.out)⟩⟩
 case round =>
  clear H'
  try clear c1
  try clear p2
  obtain ⟨x3_1, rfl, HA, HK1, BK101, HB⟩ := hrel
  cases gk with
  | zero => exact absurd HA.out (by simp [spec_NearOk.l0])
  | succ k1 =>
   have H := HA.out;clear HA;simp only [spec_NearOk.l0] at H
   by_cases c3 : x3_1 < (l0_0.length : Int)
   ·rw [if_pos c3] at H
    have c3b0 : decide (x3_1 < (l0_0.length : Int)) = true := decide_eq_true c3;clear c3
    by_cases c4 : 0 ≤ x3_1
    ·rw [if_pos c4] at H
     have c4b0 : decide (0 ≤ x3_1) = true := decide_eq_true c4;clear c4;have HC5 := Aside0.mk H;clear H;obtain ⟨hcz6_0, hcz6_1, hfz6_0, hfz6_1⟩ := zc2 BK101.out;have p102 : 0 ≤ (x3_1 : Int) := of_decide_eq_true (by first | (with_reducible assumption) | assumption);have q102 : x3_1 < (l0_0.length : Int) := of_decide_eq_true (by first | (with_reducible assumption) | assumption);obtain ⟨ad102, e102, hx102_0, hx102_1, hx102_2⟩ := at_T99 HR0_0.out x3_1 p102 q102
     cases e102
     replace hx102_0 := (HB.out.cell (World.block_lt_of_cell? w _ hx102_0)).trans hx102_0;replace hx102_1 := (HB.out.cell (World.block_lt_of_cell? w _ hx102_1)).trans hx102_1;replace hx102_2 := (HB.out.cell (World.block_lt_of_cell? w _ hx102_2)).trans hx102_2;replace p102 := eq_true p102;replace q102 := eq_true q102
     go_upto_region 5 with (first | ((with_reducible refine gate_dst (N := 4) rfl ?_); (try (refine gate_guard (by rfl) ?_; dsimp only)); refine box_event ?hg (N := 4) ?hd (cs := #[.int .i64 0, .int .i64 0, .int .i64 0]) (t := 99) ?hr ?_; (case hd => rfl); (case hg => rfl); (case hr => first | (go_simp; done) | (go_simp; rfl)); intro gb103 hg w7 hbox hb; have n0_ := Aside0.mk (blk_below (g := gb101) (o := .cells #[.slice (some ad102) l0_0.length c0_0, .slice A0_1 l0_1.length c0_1] 42 (0, 0)) (by (with_reducible repeat (first | apply blk_drewN | apply blk_drew | apply blk_alloc)); exact BK101.out) hb); have n1_ := Aside0.mk (below_step (by repeat (first | (with_reducible first | exact HB.out | apply below_alloc | apply pw_below_drewN | apply below_drew1 | refine below_set ?_ GE101.out) | exact HB.out)) hb); have n2_ := Aside0.mk (hbox); have n3_ := Aside0.mk ((by rw [hg]; exact (below_size (by repeat (first | (with_reducible first | exact HB.out | apply below_alloc | apply pw_below_drewN | apply below_drew1 | refine below_set ?_ GE101.out) | exact HB.out))) : w.heap.size ≤ gb103)); have n4_ := n3_; have n5_ := Aside0.mk ((by rw [hg]; exact Nat.ne_of_lt (blk_lt (g := gb101) (o := .cells #[.slice (some ad102) l0_0.length c0_0, .slice A0_1 l0_1.length c0_1] 42 (0, 0)) (by (with_reducible repeat (first | apply blk_drewN | apply blk_drew | apply blk_alloc)); exact BK101.out)) : gb101 ≠ gb103)); have n6_ := Aside0.mk ((by rw [hg]; exact Nat.ne_of_gt (blk_lt (g := gb101) (o := .cells #[.slice (some ad102) l0_0.length c0_0, .slice A0_1 l0_1.length c0_1] 42 (0, 0)) (by (with_reducible repeat (first | apply blk_drewN | apply blk_drew | apply blk_alloc)); exact BK101.out)) : gb103 ≠ gb101)); clear BK101; clear HB; have BK101 := n0_; have HB := n1_; have BK103 := n2_; have GW103 := n3_; have GE103 := n4_; have NB101_103 := n5_; have NB103_101 := n6_; clear n0_ n1_ n2_ n3_ n4_ n5_ n6_; clear hb hbox hg; have hnb8 := NB103_101.out; have hnc8 := NB101_103.out; obtain ⟨hcz9_0, hcz9_1, hcz9_2, hfz9_0, hfz9_1, hfz9_2⟩ := zc3 BK103.out))
     repeat (go_quiet (first | ((with_reducible refine gate_dst (N := 4) rfl ?_); (try (refine gate_guard (by rfl) ?_; dsimp only)); refine box_event ?hg (N := 4) ?hd (cs := #[.int .i64 0, .int .i64 0, .int .i64 0]) (t := 99) ?hr ?_; (case hd => rfl); (case hg => rfl); (case hr => first | (go_simp; done) | (go_simp; rfl)); intro gb103 hg w7 hbox hb; have n0_ := Aside0.mk (blk_below (g := gb101) (o := .cells #[.slice (some ad102) l0_0.length c0_0, .slice A0_1 l0_1.length c0_1] 42 (0, 0)) (by (with_reducible repeat (first | apply blk_drewN | apply blk_drew | apply blk_alloc)); exact BK101.out) hb); have n1_ := Aside0.mk (below_step (by repeat (first | (with_reducible first | exact HB.out | apply below_alloc | apply pw_below_drewN | apply below_drew1 | refine below_set ?_ GE101.out) | exact HB.out)) hb); have n2_ := Aside0.mk (hbox); have n3_ := Aside0.mk ((by rw [hg]; exact (below_size (by repeat (first | (with_reducible first | exact HB.out | apply below_alloc | apply pw_below_drewN | apply below_drew1 | refine below_set ?_ GE101.out) | exact HB.out))) : w.heap.size ≤ gb103)); have n4_ := n3_; have n5_ := Aside0.mk ((by rw [hg]; exact Nat.ne_of_lt (blk_lt (g := gb101) (o := .cells #[.slice (some ad102) l0_0.length c0_0, .slice A0_1 l0_1.length c0_1] 42 (0, 0)) (by (with_reducible repeat (first | apply blk_drewN | apply blk_drew | apply blk_alloc)); exact BK101.out)) : gb101 ≠ gb103)); have n6_ := Aside0.mk ((by rw [hg]; exact Nat.ne_of_gt (blk_lt (g := gb101) (o := .cells #[.slice (some ad102) l0_0.length c0_0, .slice A0_1 l0_1.length c0_1] 42 (0, 0)) (by (with_reducible repeat (first | apply blk_drewN | apply blk_drew | apply blk_alloc)); exact BK101.out)) : gb103 ≠ gb101)); clear BK101; clear HB; have BK101 := n0_; have HB := n1_; have BK103 := n2_; have GW103 := n3_; have GE103 := n4_; have NB101_103 := n5_; have NB103_101 := n6_; clear n0_ n1_ n2_ n3_ n4_ n5_ n6_; clear hb hbox hg; have hnb8 := NB103_101.out; have hnc8 := NB101_103.out; obtain ⟨hcz9_0, hcz9_1, hcz9_2, hfz9_0, hfz9_1, hfz9_2⟩ := zc3 BK103.out)); go_upto_region 5 with (first | ((with_reducible refine gate_dst (N := 4) rfl ?_); (try (refine gate_guard (by rfl) ?_; dsimp only)); refine box_event ?hg (N := 4) ?hd (cs := #[.int .i64 0, .int .i64 0, .int .i64 0]) (t := 99) ?hr ?_; (case hd => rfl); (case hg => rfl); (case hr => first | (go_simp; done) | (go_simp; rfl)); intro gb103 hg w7 hbox hb; have n0_ := Aside0.mk (blk_below (g := gb101) (o := .cells #[.slice (some ad102) l0_0.length c0_0, .slice A0_1 l0_1.length c0_1] 42 (0, 0)) (by (with_reducible repeat (first | apply blk_drewN | apply blk_drew | apply blk_alloc)); exact BK101.out) hb); have n1_ := Aside0.mk (below_step (by repeat (first | (with_reducible first | exact HB.out | apply below_alloc | apply pw_below_drewN | apply below_drew1 | refine below_set ?_ GE101.out) | exact HB.out)) hb); have n2_ := Aside0.mk (hbox); have n3_ := Aside0.mk ((by rw [hg]; exact (below_size (by repeat (first | (with_reducible first | exact HB.out | apply below_alloc | apply pw_below_drewN | apply below_drew1 | refine below_set ?_ GE101.out) | exact HB.out))) : w.heap.size ≤ gb103)); have n4_ := n3_; have n5_ := Aside0.mk ((by rw [hg]; exact Nat.ne_of_lt (blk_lt (g := gb101) (o := .cells #[.slice (some ad102) l0_0.length c0_0, .slice A0_1 l0_1.length c0_1] 42 (0, 0)) (by (with_reducible repeat (first | apply blk_drewN | apply blk_drew | apply blk_alloc)); exact BK101.out)) : gb101 ≠ gb103)); have n6_ := Aside0.mk ((by rw [hg]; exact Nat.ne_of_gt (blk_lt (g := gb101) (o := .cells #[.slice (some ad102) l0_0.length c0_0, .slice A0_1 l0_1.length c0_1] 42 (0, 0)) (by (with_reducible repeat (first | apply blk_drewN | apply blk_drew | apply blk_alloc)); exact BK101.out)) : gb103 ≠ gb101)); clear BK101; clear HB; have BK101 := n0_; have HB := n1_; have BK103 := n2_; have GW103 := n3_; have GE103 := n4_; have NB101_103 := n5_; have NB103_101 := n6_; clear n0_ n1_ n2_ n3_ n4_ n5_ n6_; clear hb hbox hg; have hnb8 := NB103_101.out; have hnc8 := NB101_103.out; obtain ⟨hcz9_0, hcz9_1, hcz9_2, hfz9_0, hfz9_1, hfz9_2⟩ := zc3 BK103.out)))
     (try simp only [Act.put, List.setIfInBounds_toArray, List.set_cons_zero, List.set_cons_succ])
     go_cut [34] (fun v34 wc => ∃ (kq : Nat) (x34_4 : Bool), v34 = .bool x34_4 ∧ Aside0 (spec_NearOk.j1 kq x3_1 x34_4 l0_0 l0_1 ((rd_T99 l0_0 x3_1).f0) ((rd_T99 l0_0 x3_1).f1) ((rd_T99 l0_0 x3_1).f2) = some r) ∧ Aside0 (kq ≤ k1) ∧ Aside0 (wc.heap[gb101]? = some (.cells #[(.slice (some ad102) l0_0.length c0_0), (.slice A0_1 l0_1.length c0_1)] 42 (0, 0))) ∧ Aside0 (wc.heap[gb103]? = some (.cells #[.int .i64 ((rd_T99 l0_0 x3_1).f0), .int .i64 ((rd_T99 l0_0 x3_1).f1), .int .i64 ((rd_T99 l0_0 x3_1).f2)] 99 (0, 0))) ∧ Aside0 (Below w.heap.size w wc))
     case first =>
      have H := HC5.out;clear HC5;replace H := ze H;obtain ⟨t104, A100, H⟩ := H;replace H : (if t104 = true then ((spec_l1In.f ((rd_T99 l0_0 x3_1).f1) 0 254).bind fun t105 => (if t105 = true then ((spec_l1In.f ((rd_T99 l0_0 x3_1).f2) 0 1000000).bind fun t106 => (spec_NearOk.j1 k1 x3_1 (!t106) l0_0 l0_1 ((rd_T99 l0_0 x3_1).f0) ((rd_T99 l0_0 x3_1).f1) ((rd_T99 l0_0 x3_1).f2))) else (spec_NearOk.j1 k1 x3_1 true l0_0 l0_1 ((rd_T99 l0_0 x3_1).f0) ((rd_T99 l0_0 x3_1).f1) ((rd_T99 l0_0 x3_1).f2)))) else (spec_NearOk.j1 k1 x3_1 true l0_0 l0_1 ((rd_T99 l0_0 x3_1).f0) ((rd_T99 l0_0 x3_1).f1) ((rd_T99 l0_0 x3_1).f2))) = some r := H;have A10 := Aside0.mk A100;clear A100
      by_cases c11 : t104 = true
      ·subst c11
       have H1 : ((spec_l1In.f ((rd_T99 l0_0 x3_1).f1) 0 254).bind fun t105 => (if t105 = true then ((spec_l1In.f ((rd_T99 l0_0 x3_1).f2) 0 1000000).bind fun t106 => (spec_NearOk.j1 k1 x3_1 (!t106) l0_0 l0_1 ((rd_T99 l0_0 x3_1).f0) ((rd_T99 l0_0 x3_1).f1) ((rd_T99 l0_0 x3_1).f2))) else (spec_NearOk.j1 k1 x3_1 true l0_0 l0_1 ((rd_T99 l0_0 x3_1).f0) ((rd_T99 l0_0 x3_1).f1) ((rd_T99 l0_0 x3_1).f2)))) = some r := by rw [if_pos rfl] at H; exact H
       clear H;have H := H1;clear H1;replace H := ze H;obtain ⟨t105, A120, H⟩ := H;replace H : (if t105 = true then ((spec_l1In.f ((rd_T99 l0_0 x3_1).f2) 0 1000000).bind fun t106 => (spec_NearOk.j1 k1 x3_1 (!t106) l0_0 l0_1 ((rd_T99 l0_0 x3_1).f0) ((rd_T99 l0_0 x3_1).f1) ((rd_T99 l0_0 x3_1).f2))) else (spec_NearOk.j1 k1 x3_1 true l0_0 l0_1 ((rd_T99 l0_0 x3_1).f0) ((rd_T99 l0_0 x3_1).f1) ((rd_T99 l0_0 x3_1).f2))) = some r := H;have A12 := Aside0.mk A120;clear A120
       by_cases c13 : t105 = true
       ·subst c13
        have H1 : ((spec_l1In.f ((rd_T99 l0_0 x3_1).f2) 0 1000000).bind fun t106 => (spec_NearOk.j1 k1 x3_1 (!t106) l0_0 l0_1 ((rd_T99 l0_0 x3_1).f0) ((rd_T99 l0_0 x3_1).f1) ((rd_T99 l0_0 x3_1).f2))) = some r := by rw [if_pos rfl] at H; exact H
        clear H;have H := H1;clear H1;replace H := ze H;obtain ⟨t106, A140, H⟩ := H;replace H : (spec_NearOk.j1 k1 x3_1 (!t106) l0_0 l0_1 ((rd_T99 l0_0 x3_1).f0) ((rd_T99 l0_0 x3_1).f1) ((rd_T99 l0_0 x3_1).f2)) = some r := H;have A14 := Aside0.mk A140;clear A140;have H' := Aside0.mk H;clear H;have hnb15 := NB103_101.out;have hnc15 := NB101_103.out;obtain ⟨hcz16_0, hcz16_1, hcz16_2, hfz16_0, hfz16_1, hfz16_2⟩ := zc3 BK103.out
        go_wp2_with (first | (go_at_call 60; (with_reducible refine (spec_l1In.calls ((rd_T99 l0_0 x3_1).f0) 0 65535 true _ A10.out).mono ?_); rintro e w' ⟨rfl, ⟨nd, rfl⟩⟩; (try first | exact ⟨rfl, _, World.drewN_drewN _ _ _⟩ | exact ⟨rfl, _, Eq.trans (World.drewN_drewN _ _ _) (congrArg (World.drewN _) (Nat.add_assoc _ _ _))⟩)) | (go_at_call 60; (with_reducible refine (spec_l1In.calls ((rd_T99 l0_0 x3_1).f1) 0 254 true _ A12.out).mono ?_); rintro e w' ⟨rfl, ⟨nd, rfl⟩⟩; (try first | exact ⟨rfl, _, World.drewN_drewN _ _ _⟩ | exact ⟨rfl, _, Eq.trans (World.drewN_drewN _ _ _) (congrArg (World.drewN _) (Nat.add_assoc _ _ _))⟩)) | (go_at_call 60; (with_reducible refine (spec_l1In.calls ((rd_T99 l0_0 x3_1).f2) 0 1000000 t106 _ A14.out).mono ?_); rintro e w' ⟨rfl, ⟨nd, rfl⟩⟩; (try first | exact ⟨rfl, _, World.drewN_drewN _ _ _⟩ | exact ⟨rfl, _, Eq.trans (World.drewN_drewN _ _ _) (congrArg (World.drewN _) (Nat.add_assoc _ _ _))⟩)))
        repeat (go_quiet (first | (go_at_call 60; (with_reducible refine (spec_l1In.calls ((rd_T99 l0_0 x3_1).f0) 0 65535 true _ A10.out).mono ?_); rintro e w' ⟨rfl, ⟨nd, rfl⟩⟩; (try first | exact ⟨rfl, _, World.drewN_drewN _ _ _⟩ | exact ⟨rfl, _, Eq.trans (World.drewN_drewN _ _ _) (congrArg (World.drewN _) (Nat.add_assoc _ _ _))⟩)) | (go_at_call 60; (with_reducible refine (spec_l1In.calls ((rd_T99 l0_0 x3_1).f1) 0 254 true _ A12.out).mono ?_); rintro e w' ⟨rfl, ⟨nd, rfl⟩⟩; (try first | exact ⟨rfl, _, World.drewN_drewN _ _ _⟩ | exact ⟨rfl, _, Eq.trans (World.drewN_drewN _ _ _) (congrArg (World.drewN _) (Nat.add_assoc _ _ _))⟩)) | (go_at_call 60; (with_reducible refine (spec_l1In.calls ((rd_T99 l0_0 x3_1).f2) 0 1000000 t106 _ A14.out).mono ?_); rintro e w' ⟨rfl, ⟨nd, rfl⟩⟩; (try first | exact ⟨rfl, _, World.drewN_drewN _ _ _⟩ | exact ⟨rfl, _, Eq.trans (World.drewN_drewN _ _ _) (congrArg (World.drewN _) (Nat.add_assoc _ _ _))⟩))); try go_wp2_with (first | (go_at_call 60; (with_reducible refine (spec_l1In.calls ((rd_T99 l0_0 x3_1).f0) 0 65535 true _ A10.out).mono ?_); rintro e w' ⟨rfl, ⟨nd, rfl⟩⟩; (try first | exact ⟨rfl, _, World.drewN_drewN _ _ _⟩ | exact ⟨rfl, _, Eq.trans (World.drewN_drewN _ _ _) (congrArg (World.drewN _) (Nat.add_assoc _ _ _))⟩)) | (go_at_call 60; (with_reducible refine (spec_l1In.calls ((rd_T99 l0_0 x3_1).f1) 0 254 true _ A12.out).mono ?_); rintro e w' ⟨rfl, ⟨nd, rfl⟩⟩; (try first | exact ⟨rfl, _, World.drewN_drewN _ _ _⟩ | exact ⟨rfl, _, Eq.trans (World.drewN_drewN _ _ _) (congrArg (World.drewN _) (Nat.add_assoc _ _ _))⟩)) | (go_at_call 60; (with_reducible refine (spec_l1In.calls ((rd_T99 l0_0 x3_1).f2) 0 1000000 t106 _ A14.out).mono ?_); rintro e w' ⟨rfl, ⟨nd, rfl⟩⟩; (try first | exact ⟨rfl, _, World.drewN_drewN _ _ _⟩ | exact ⟨rfl, _, Eq.trans (World.drewN_drewN _ _ _) (congrArg (World.drewN _) (Nat.add_assoc _ _ _))⟩))))
        go_meet
        case rel => exact ⟨_, (!t106), (by first | rfl | (simp; done) | (simp [*]; done)), H', ⟨by have := HK1.out; first | omega | exact Nat.le_refl _⟩, ⟨by (with_reducible repeat (first | apply blk_drewN | apply blk_drew | apply blk_alloc)); refine blk_far ?_ NB101_103.out _; refine blk_far ?_ NB101_103.out _; refine blk_far ?_ NB101_103.out _; (with_reducible repeat (first | apply blk_drewN | apply blk_drew | apply blk_alloc)); exact BK101.out⟩, ⟨by (with_reducible repeat (first | apply blk_drewN | apply blk_drew | apply blk_alloc)); refine blk_put (cs := #[.int .i64 ((rd_T99 l0_0 x3_1).f0), .int .i64 ((rd_T99 l0_0 x3_1).f1), .int .i64 0]) ?_ 2 _ rfl; refine blk_put (cs := #[.int .i64 ((rd_T99 l0_0 x3_1).f0), .int .i64 0, .int .i64 0]) ?_ 1 _ rfl; refine blk_put (cs := #[.int .i64 0, .int .i64 0, .int .i64 0]) ?_ 0 _ rfl; (with_reducible repeat (first | apply blk_drewN | apply blk_drew | apply blk_alloc)); exact BK103.out⟩, ⟨by repeat (first | (with_reducible first | exact HB.out | apply below_alloc | apply pw_below_drewN | apply below_drew1 | refine below_set ?_ GE101.out | refine below_set ?_ GE103.out) | exact HB.out)⟩⟩
       ·replace c13 := Bool.eq_false_iff.mpr c13
        subst c13
        have H1 : (spec_NearOk.j1 k1 x3_1 true l0_0 l0_1 ((rd_T99 l0_0 x3_1).f0) ((rd_T99 l0_0 x3_1).f1) ((rd_T99 l0_0 x3_1).f2)) = some r := by rw [if_neg (show ¬ (false = true) by decide)] at H; exact H
        clear H;have H := H1;clear H1;have H' := Aside0.mk H;clear H;have hnb17 := NB103_101.out;have hnc17 := NB101_103.out;obtain ⟨hcz18_0, hcz18_1, hcz18_2, hfz18_0, hfz18_1, hfz18_2⟩ := zc3 BK103.out
        go_wp2_with (first | (go_at_call 60; (with_reducible refine (spec_l1In.calls ((rd_T99 l0_0 x3_1).f0) 0 65535 true _ A10.out).mono ?_); rintro e w' ⟨rfl, ⟨nd, rfl⟩⟩; (try first | exact ⟨rfl, _, World.drewN_drewN _ _ _⟩ | exact ⟨rfl, _, Eq.trans (World.drewN_drewN _ _ _) (congrArg (World.drewN _) (Nat.add_assoc _ _ _))⟩)) | (go_at_call 60; (with_reducible refine (spec_l1In.calls ((rd_T99 l0_0 x3_1).f1) 0 254 false _ A12.out).mono ?_); rintro e w' ⟨rfl, ⟨nd, rfl⟩⟩; (try first | exact ⟨rfl, _, World.drewN_drewN _ _ _⟩ | exact ⟨rfl, _, Eq.trans (World.drewN_drewN _ _ _) (congrArg (World.drewN _) (Nat.add_assoc _ _ _))⟩)))
        repeat (go_quiet (first | (go_at_call 60; (with_reducible refine (spec_l1In.calls ((rd_T99 l0_0 x3_1).f0) 0 65535 true _ A10.out).mono ?_); rintro e w' ⟨rfl, ⟨nd, rfl⟩⟩; (try first | exact ⟨rfl, _, World.drewN_drewN _ _ _⟩ | exact ⟨rfl, _, Eq.trans (World.drewN_drewN _ _ _) (congrArg (World.drewN _) (Nat.add_assoc _ _ _))⟩)) | (go_at_call 60; (with_reducible refine (spec_l1In.calls ((rd_T99 l0_0 x3_1).f1) 0 254 false _ A12.out).mono ?_); rintro e w' ⟨rfl, ⟨nd, rfl⟩⟩; (try first | exact ⟨rfl, _, World.drewN_drewN _ _ _⟩ | exact ⟨rfl, _, Eq.trans (World.drewN_drewN _ _ _) (congrArg (World.drewN _) (Nat.add_assoc _ _ _))⟩))); try go_wp2_with (first | (go_at_call 60; (with_reducible refine (spec_l1In.calls ((rd_T99 l0_0 x3_1).f0) 0 65535 true _ A10.out).mono ?_); rintro e w' ⟨rfl, ⟨nd, rfl⟩⟩; (try first | exact ⟨rfl, _, World.drewN_drewN _ _ _⟩ | exact ⟨rfl, _, Eq.trans (World.drewN_drewN _ _ _) (congrArg (World.drewN _) (Nat.add_assoc _ _ _))⟩)) | (go_at_call 60; (with_reducible refine (spec_l1In.calls ((rd_T99 l0_0 x3_1).f1) 0 254 false _ A12.out).mono ?_); rintro e w' ⟨rfl, ⟨nd, rfl⟩⟩; (try first | exact ⟨rfl, _, World.drewN_drewN _ _ _⟩ | exact ⟨rfl, _, Eq.trans (World.drewN_drewN _ _ _) (congrArg (World.drewN _) (Nat.add_assoc _ _ _))⟩))))
        go_meet
        case rel => exact ⟨_, (true), (by first | rfl | (simp; done) | (simp [*]; done)), H', ⟨by have := HK1.out; first | omega | exact Nat.le_refl _⟩, ⟨by (with_reducible repeat (first | apply blk_drewN | apply blk_drew | apply blk_alloc)); refine blk_far ?_ NB101_103.out _; refine blk_far ?_ NB101_103.out _; refine blk_far ?_ NB101_103.out _; (with_reducible repeat (first | apply blk_drewN | apply blk_drew | apply blk_alloc)); exact BK101.out⟩, ⟨by (with_reducible repeat (first | apply blk_drewN | apply blk_drew | apply blk_alloc)); refine blk_put (cs := #[.int .i64 ((rd_T99 l0_0 x3_1).f0), .int .i64 ((rd_T99 l0_0 x3_1).f1), .int .i64 0]) ?_ 2 _ rfl; refine blk_put (cs := #[.int .i64 ((rd_T99 l0_0 x3_1).f0), .int .i64 0, .int .i64 0]) ?_ 1 _ rfl; refine blk_put (cs := #[.int .i64 0, .int .i64 0, .int .i64 0]) ?_ 0 _ rfl; (with_reducible repeat (first | apply blk_drewN | apply blk_drew | apply blk_alloc)); exact BK103.out⟩, ⟨by repeat (first | (with_reducible first | exact HB.out | apply below_alloc | apply pw_below_drewN | apply below_drew1 | refine below_set ?_ GE101.out | refine below_set ?_ GE103.out) | exact HB.out)⟩⟩
      ·replace c11 := Bool.eq_false_iff.mpr c11
       subst c11
       have H1 : (spec_NearOk.j1 k1 x3_1 true l0_0 l0_1 ((rd_T99 l0_0 x3_1).f0) ((rd_T99 l0_0 x3_1).f1) ((rd_T99 l0_0 x3_1).f2)) = some r := by rw [if_neg (show ¬ (false = true) by decide)] at H; exact H
       clear H;have H := H1;clear H1;have H' := Aside0.mk H;clear H;have hnb19 := NB103_101.out;have hnc19 := NB101_103.out;obtain ⟨hcz20_0, hcz20_1, hcz20_2, hfz20_0, hfz20_1, hfz20_2⟩ := zc3 BK103.out
       go_wp2_with (first | (go_at_call 60; (with_reducible refine (spec_l1In.calls ((rd_T99 l0_0 x3_1).f0) 0 65535 false _ A10.out).mono ?_); rintro e w' ⟨rfl, ⟨nd, rfl⟩⟩; (try first | exact ⟨rfl, _, World.drewN_drewN _ _ _⟩ | exact ⟨rfl, _, Eq.trans (World.drewN_drewN _ _ _) (congrArg (World.drewN _) (Nat.add_assoc _ _ _))⟩)))
       repeat (go_quiet (first | (go_at_call 60; (with_reducible refine (spec_l1In.calls ((rd_T99 l0_0 x3_1).f0) 0 65535 false _ A10.out).mono ?_); rintro e w' ⟨rfl, ⟨nd, rfl⟩⟩; (try first | exact ⟨rfl, _, World.drewN_drewN _ _ _⟩ | exact ⟨rfl, _, Eq.trans (World.drewN_drewN _ _ _) (congrArg (World.drewN _) (Nat.add_assoc _ _ _))⟩))); try go_wp2_with (first | (go_at_call 60; (with_reducible refine (spec_l1In.calls ((rd_T99 l0_0 x3_1).f0) 0 65535 false _ A10.out).mono ?_); rintro e w' ⟨rfl, ⟨nd, rfl⟩⟩; (try first | exact ⟨rfl, _, World.drewN_drewN _ _ _⟩ | exact ⟨rfl, _, Eq.trans (World.drewN_drewN _ _ _) (congrArg (World.drewN _) (Nat.add_assoc _ _ _))⟩))))
       go_meet
       case rel => exact ⟨_, (true), (by first | rfl | (simp; done) | (simp [*]; done)), H', ⟨by have := HK1.out; first | omega | exact Nat.le_refl _⟩, ⟨by (with_reducible repeat (first | apply blk_drewN | apply blk_drew | apply blk_alloc)); refine blk_far ?_ NB101_103.out _; refine blk_far ?_ NB101_103.out _; refine blk_far ?_ NB101_103.out _; (with_reducible repeat (first | apply blk_drewN | apply blk_drew | apply blk_alloc)); exact BK101.out⟩, ⟨by (with_reducible repeat (first | apply blk_drewN | apply blk_drew | apply blk_alloc)); refine blk_put (cs := #[.int .i64 ((rd_T99 l0_0 x3_1).f0), .int .i64 ((rd_T99 l0_0 x3_1).f1), .int .i64 0]) ?_ 2 _ rfl; refine blk_put (cs := #[.int .i64 ((rd_T99 l0_0 x3_1).f0), .int .i64 0, .int .i64 0]) ?_ 1 _ rfl; refine blk_put (cs := #[.int .i64 0, .int .i64 0, .int .i64 0]) ?_ 0 _ rfl; (with_reducible repeat (first | apply blk_drewN | apply blk_drew | apply blk_alloc)); exact BK103.out⟩, ⟨by repeat (first | (with_reducible first | exact HB.out | apply below_alloc | apply pw_below_drewN | apply below_drew1 | refine below_set ?_ GE101.out | refine below_set ?_ GE103.out) | exact HB.out)⟩⟩
     case rest =>
      clear HC5
      try clear c1
      try clear p1
      try clear q1
      try clear hx1
      try clear p2
      try clear c3
      try clear c3b0
      try clear c4
      try clear c4b0
      try clear c8
      try clear p10
      try clear q10
      try clear hx10
      try clear c11
      try clear c13
      try clear c15
      try clear c17
      try clear c19
      try clear hcz16_0
      try clear hcz16_1
      try clear hcz16_2
      try clear hcz18_0
      try clear hcz18_1
      try clear hcz18_2
      try clear hcz20_0
      try clear hcz20_1
      try clear hcz20_2
      try clear hcz6_0
      try clear hcz6_1
      try clear hcz9_0
      try clear hcz9_1
      try clear hcz9_2
      try clear hfz16_0
      try clear hfz16_1
      try clear hfz16_2
      try clear hfz18_0
      try clear hfz18_1
      try clear hfz18_2
      try clear hfz20_0
      try clear hfz20_1
      try clear hfz20_2
      try clear hfz6_0
      try clear hfz6_1
      try clear hfz9_0
      try clear hfz9_1
      try clear hfz9_2
      try clear hx102_0
      try clear hx102_1
      try clear hx102_2
      try clear p102
      try clear p2
      try clear q102
      obtain ⟨kq, x34_4, rfl, HA, HJ4, BK101, BK103, HB⟩ := hcut
      cases kq with
      | zero => exact absurd HA.out (by simp [spec_NearOk.j1])
      | succ kj4 =>
       have H := HA.out;clear HA;simp only [spec_NearOk.j1] at H
       by_cases c21 : x34_4 = true
       ·subst c21
        have H1 : (some false) = some r := by rw [if_pos rfl] at H; exact H
        clear H;have H := H1;clear H1;obtain rfl := Option.some.inj H
        go_wp2
        repeat (go_quiet (fail); try go_wp2)
        go_ret;exact ⟨by first | rfl | (simp <;> rfl) | (simp [*] <;> rfl), by repeat (first | (with_reducible first | exact HB.out | apply below_alloc | apply pw_below_drewN | apply below_drew1 | refine below_set ?_ GE101.out | refine below_set ?_ GE103.out) | exact HB.out)⟩
       ·replace c21 := Bool.eq_false_iff.mpr c21
        subst c21
        have H1 : (spec_NearOk.l1 kj4 x3_1 0 l0_0 l0_1 ((rd_T99 l0_0 x3_1).f0) ((rd_T99 l0_0 x3_1).f1) ((rd_T99 l0_0 x3_1).f2)) = some r := by rw [if_neg (show ¬ (false = true) by decide)] at H; exact H
        clear H;have H := H1;clear H1;have H' := Aside0.mk H;clear H
        go_wp2
        repeat (go_quiet (fail); try go_wp2)
        go_loopg [5] kj4 (fun kq v5 w' => ∃ (x5_3 : Int), v5 = .int .i64 x5_3 ∧ Aside0 (spec_NearOk.l1 kq x3_1 x5_3 l0_0 l0_1 ((rd_T99 l0_0 x3_1).f0) ((rd_T99 l0_0 x3_1).f1) ((rd_T99 l0_0 x3_1).f2) = some r) ∧ Aside0 (kq ≤ kj4) ∧ Aside0 (w'.heap[gb101]? = some (.cells #[(.slice (some ad102) l0_0.length c0_0), (.slice A0_1 l0_1.length c0_1)] 42 (0, 0))) ∧ Aside0 (w'.heap[gb103]? = some (.cells #[.int .i64 ((rd_T99 l0_0 x3_1).f0), .int .i64 ((rd_T99 l0_0 x3_1).f1), .int .i64 ((rd_T99 l0_0 x3_1).f2)] 99 (0, 0))) ∧ Aside0 (Below w.heap.size w w'))
        case atStart => exact ⟨(0), (by first | rfl | (simp; done) | (simp [*]; done)), H', ⟨Nat.le_refl _⟩, ⟨by (with_reducible repeat (first | apply blk_drewN | apply blk_drew | apply blk_alloc)); exact BK101.out⟩, ⟨by (with_reducible repeat (first | apply blk_drewN | apply blk_drew | apply blk_alloc)); exact BK103.out⟩, ⟨by repeat (first | (with_reducible first | exact HB.out | apply below_alloc | apply pw_below_drewN | apply below_drew1 | refine below_set ?_ GE101.out | refine below_set ?_ GE103.out) | exact HB.out)⟩⟩
        case round =>
         clear H'
         try clear c1
         try clear p1
         try clear q1
         try clear hx1
         try clear c2
         try clear p2
         try clear c3
         try clear c3b0
         try clear c4
         try clear c4b0
         try clear c8
         try clear p10
         try clear q10
         try clear hx10
         try clear c11
         try clear c13
         try clear c15
         try clear c17
         try clear c19
         try clear c21
         try clear hcz16_0
         try clear hcz16_1
         try clear hcz16_2
         try clear hcz18_0
         try clear hcz18_1
         try clear hcz18_2
         try clear hcz20_0
         try clear hcz20_1
         try clear hcz20_2
         try clear hcz6_0
         try clear hcz6_1
         try clear hcz9_0
         try clear hcz9_1
         try clear hcz9_2
         try clear hfz16_0
         try clear hfz16_1
         try clear hfz16_2
         try clear hfz18_0
         try clear hfz18_1
         try clear hfz18_2
         try clear hfz20_0
         try clear hfz20_1
         try clear hfz20_2
         try clear hfz6_0
         try clear hfz6_1
         try clear hfz9_0
         try clear hfz9_1
         try clear hfz9_2
         try clear hx102_0
         try clear hx102_1
         try clear hx102_2
         try clear p1
         try clear p10
         try clear p102
         try clear p2
         try clear q1
         try clear q10
         try clear q102
         obtain ⟨x5_3, rfl, HA, HK3, BK101, BK103, HB⟩ := hrel
         cases gk with
         | zero => exact absurd HA.out (by simp [spec_NearOk.l1])
         | succ k3 =>
          have H := HA.out;clear HA;simp only [spec_NearOk.l1] at H
          by_cases c22 : x5_3 < x3_1
          ·rw [if_pos c22] at H
           have c22b0 : decide (x5_3 < x3_1) = true := decide_eq_true c22;clear c22
           by_cases c23 : 0 ≤ x5_3
           ·rw [if_pos c23] at H
            have c23b0 : decide (0 ≤ x5_3) = true := decide_eq_true c23;clear c23
            by_cases c24 : x5_3 < (l0_0.length : Int)
            ·rw [if_pos c24] at H
             have c24b0 : decide (x5_3 < (l0_0.length : Int)) = true := decide_eq_true c24;clear c24
             by_cases c25 : ((rd_T99 l0_0 x5_3).f0) = ((rd_T99 l0_0 x3_1).f0)
             ·rw [if_pos c25] at H
              have c25b0 : (((rd_T99 l0_0 x5_3).f0) == ((rd_T99 l0_0 x3_1).f0)) = true := beq_iff_eq.mpr c25;have c25b1 : (((rd_T99 l0_0 x5_3).f0) != ((rd_T99 l0_0 x3_1).f0)) = false := bne_eq_false_iff_eq.mpr c25;clear c25;obtain rfl := Option.some.inj H;have hnb26 := NB101_103.out;have hnc26 := NB103_101.out;obtain ⟨hcz27_0, hcz27_1, hfz27_0, hfz27_1⟩ := zc2 BK101.out;have p107 : 0 ≤ (x5_3 : Int) := of_decide_eq_true (by first | (with_reducible assumption) | assumption);have q107 : x5_3 < (l0_0.length : Int) := of_decide_eq_true (by first | (with_reducible assumption) | assumption);obtain ⟨ad107, e107, hx107_0, hx107_1, hx107_2⟩ := at_T99 HR0_0.out x5_3 p107 q107;obtain rfl : ad102 = ad107 := (by injection e107);replace hx107_0 := (HB.out.cell (World.block_lt_of_cell? w _ hx107_0)).trans hx107_0;replace hx107_1 := (HB.out.cell (World.block_lt_of_cell? w _ hx107_1)).trans hx107_1;replace hx107_2 := (HB.out.cell (World.block_lt_of_cell? w _ hx107_2)).trans hx107_2;replace p107 := eq_true p107;replace q107 := eq_true q107;obtain ⟨hcz28_0, hcz28_1, hcz28_2, hfz28_0, hfz28_1, hfz28_2⟩ := zc3 BK103.out
              go_wp2
              repeat (go_quiet (fail); try go_wp2)
              go_ret;exact ⟨by first | rfl | (simp <;> rfl) | (simp [*] <;> rfl), by repeat (first | (with_reducible first | exact HB.out | apply below_alloc | apply pw_below_drewN | apply below_drew1 | refine below_set ?_ GE101.out | refine below_set ?_ GE103.out) | exact HB.out)⟩
             ·rw [if_neg c25] at H
              have c25b0 : (((rd_T99 l0_0 x5_3).f0) == ((rd_T99 l0_0 x3_1).f0)) = false := beq_eq_false_iff_ne.mpr c25;have c25b1 : (((rd_T99 l0_0 x5_3).f0) != ((rd_T99 l0_0 x3_1).f0)) = true := bne_iff_ne.mpr c25;have H' := Aside0.mk H;clear H;have hnb29 := NB101_103.out;have hnc29 := NB103_101.out;obtain ⟨hcz30_0, hcz30_1, hfz30_0, hfz30_1⟩ := zc2 BK101.out;have p107 : 0 ≤ (x5_3 : Int) := of_decide_eq_true (by first | (with_reducible assumption) | assumption);have q107 : x5_3 < (l0_0.length : Int) := of_decide_eq_true (by first | (with_reducible assumption) | assumption);obtain ⟨ad107, e107, hx107_0, hx107_1, hx107_2⟩ := at_T99 HR0_0.out x5_3 p107 q107;obtain rfl : ad102 = ad107 := (by injection e107);replace hx107_0 := (HB.out.cell (World.block_lt_of_cell? w _ hx107_0)).trans hx107_0;replace hx107_1 := (HB.out.cell (World.block_lt_of_cell? w _ hx107_1)).trans hx107_1;replace hx107_2 := (HB.out.cell (World.block_lt_of_cell? w _ hx107_2)).trans hx107_2;replace p107 := eq_true p107;replace q107 := eq_true q107;obtain ⟨hcz31_0, hcz31_1, hcz31_2, hfz31_0, hfz31_1, hfz31_2⟩ := zc3 BK103.out
              go_wp2
              repeat (go_quiet (fail); try go_wp2)
              go_roundg k3
              case measure => have := HK1.out; have := HJ4.out; have := HK3.out; omega
              case rel => exact ⟨(wrap64 (x5_3 + 1)), (by first | rfl | (simp; done) | (simp [*]; done)), H', ⟨by have := HK1.out; have := HJ4.out; have := HK3.out; omega⟩, ⟨by (with_reducible repeat (first | apply blk_drewN | apply blk_drew | apply blk_alloc)); exact BK101.out⟩, ⟨by (with_reducible repeat (first | apply blk_drewN | apply blk_drew | apply blk_alloc)); exact BK103.out⟩, ⟨by repeat (first | (with_reducible first | exact HB.out | apply below_alloc | apply pw_below_drewN | apply below_drew1 | refine below_set ?_ GE101.out | refine below_set ?_ GE103.out) | exact HB.out)⟩⟩
            ·rw [if_neg c24] at H
             exact absurd H (by simp)
           ·rw [if_neg c23] at H
            exact absurd H (by simp)
          ·rw [if_neg c22] at H
           have c22b0 : decide (x5_3 < x3_1) = false := decide_eq_false c22;clear c22;have H' := Aside0.mk H;clear H
           go_wp2
           repeat (go_quiet (fail); try go_wp2)
           go_roundg k3
           case measure => have := HK1.out; have := HJ4.out; have := HK3.out; omega
           case rel => exact ⟨(wrap64 (x3_1 + 1)), (by first | rfl | (simp; done) | (simp [*]; done)), H', ⟨by have := HK1.out; have := HJ4.out; have := HK3.out; omega⟩, ⟨by (with_reducible repeat (first | apply blk_drewN | apply blk_drew | apply blk_alloc)); exact BK101.out⟩, ⟨by repeat (first | (with_reducible first | exact HB.out | apply below_alloc | apply pw_below_drewN | apply below_drew1 | refine below_set ?_ GE101.out | refine below_set ?_ GE103.out) | exact HB.out)⟩⟩
    ·rw [if_neg c4] at H
     exact absurd H (by simp)
   ·rw [if_neg c3] at H
    have c3b0 : decide (x3_1 < (l0_0.length : Int)) = false := decide_eq_false c3;clear c3;have H' := Aside0.mk H;clear H;obtain ⟨hcz32_0, hcz32_1, hfz32_0, hfz32_1⟩ := zc2 BK101.out
    go_wp2
    repeat (go_quiet (fail); try go_wp2)
    go_loopg [6] k1 (fun kq v6 w' => ∃ (x6_2 : Int), v6 = .int .i64 x6_2 ∧ Aside0 (spec_NearOk.l2 kq x6_2 l0_0 l0_1 = some r) ∧ Aside0 (kq ≤ k1) ∧ Aside0 (w'.heap[gb101]? = some (.cells #[(.slice A0_0 l0_0.length c0_0), (.slice A0_1 l0_1.length c0_1)] 42 (0, 0))) ∧ Aside0 (Below w.heap.size w w'))
    case atStart => exact ⟨(0), (by first | rfl | (simp; done) | (simp [*]; done)), H', ⟨Nat.le_refl _⟩, ⟨by (with_reducible repeat (first | apply blk_drewN | apply blk_drew | apply blk_alloc)); exact BK101.out⟩, ⟨by repeat (first | (with_reducible first | exact HB.out | apply below_alloc | apply pw_below_drewN | apply below_drew1 | refine below_set ?_ GE101.out) | exact HB.out)⟩⟩
    case round =>
     clear H'
     try clear c1
     try clear p1
     try clear q1
     try clear hx1
     try clear c2
     try clear p2
     try clear c3
     try clear c3b0
     try clear c4
     try clear c4b0
     try clear p6
     try clear c8
     try clear p10
     try clear q10
     try clear hx10
     try clear c11
     try clear c13
     try clear c15
     try clear c17
     try clear c19
     try clear c21
     try clear c22
     try clear c22b0
     try clear c23
     try clear c23b0
     try clear c24
     try clear c24b0
     try clear c25
     try clear c25b0
     try clear c25b1
     try clear c26
     try clear c29
     try clear hcz16_0
     try clear hcz16_1
     try clear hcz16_2
     try clear hcz18_0
     try clear hcz18_1
     try clear hcz18_2
     try clear hcz20_0
     try clear hcz20_1
     try clear hcz20_2
     try clear hcz27_0
     try clear hcz27_1
     try clear hcz28_0
     try clear hcz28_1
     try clear hcz28_2
     try clear hcz30_0
     try clear hcz30_1
     try clear hcz31_0
     try clear hcz31_1
     try clear hcz31_2
     try clear hcz32_0
     try clear hcz32_1
     try clear hcz6_0
     try clear hcz6_1
     try clear hcz9_0
     try clear hcz9_1
     try clear hcz9_2
     try clear hfz16_0
     try clear hfz16_1
     try clear hfz16_2
     try clear hfz18_0
     try clear hfz18_1
     try clear hfz18_2
     try clear hfz20_0
     try clear hfz20_1
     try clear hfz20_2
     try clear hfz27_0
     try clear hfz27_1
     try clear hfz28_0
     try clear hfz28_1
     try clear hfz28_2
     try clear hfz30_0
     try clear hfz30_1
     try clear hfz31_0
     try clear hfz31_1
     try clear hfz31_2
     try clear hfz32_0
     try clear hfz32_1
     try clear hfz6_0
     try clear hfz6_1
     try clear hfz9_0
     try clear hfz9_1
     try clear hfz9_2
     try clear hx102_0
     try clear hx102_1
     try clear hx102_2
     try clear hx107_0
     try clear hx107_1
     try clear hx107_2
     try clear p1
     try clear p10
     try clear p102
     try clear p107
     try clear p2
     try clear q1
     try clear q10
     try clear q102
     try clear q107
     obtain ⟨x6_2, rfl, HA, HK2, BK101, HB⟩ := hrel
     cases gk with
     | zero => exact absurd HA.out (by simp [spec_NearOk.l2])
     | succ k2 =>
      have H := HA.out;clear HA;simp only [spec_NearOk.l2] at H
      by_cases c33 : x6_2 < (l0_1.length : Int)
      ·rw [if_pos c33] at H
       have c33b0 : decide (x6_2 < (l0_1.length : Int)) = true := decide_eq_true c33;clear c33
       by_cases c34 : 0 ≤ x6_2
       ·rw [if_pos c34] at H
        have c34b0 : decide (0 ≤ x6_2) = true := decide_eq_true c34;clear c34;replace H := ze H;obtain ⟨t109, A350, H⟩ := H;replace H : (if t109 = true then (if (((rd_T101 l0_1 x6_2).f1).length : Int) > 64 then (some false) else (spec_NearOk.l2 k2 (wrap64 (x6_2 + 1)) l0_0 l0_1)) else (some false)) = some r := H;have A35 := Aside0.mk A350;clear A350
        by_cases c36 : t109 = true
        ·subst c36
         have H1 : (if (((rd_T101 l0_1 x6_2).f1).length : Int) > 64 then (some false) else (spec_NearOk.l2 k2 (wrap64 (x6_2 + 1)) l0_0 l0_1)) = some r := by rw [if_pos rfl] at H; exact H
         clear H;have H := H1;clear H1
         by_cases c37 : (((rd_T101 l0_1 x6_2).f1).length : Int) > 64
         ·rw [if_pos c37] at H
          have c37b0 : decide (64 < (((rd_T101 l0_1 x6_2).f1).length : Int)) = true := decide_eq_true c37;have c37b1 : decide (64 < ((rd_T101 l0_1 x6_2).f1).length) = true := decide_eq_true (by omega);clear c37;obtain rfl := Option.some.inj H;obtain ⟨hcz38_0, hcz38_1, hfz38_0, hfz38_1⟩ := zc2 BK101.out;have p108 : 0 ≤ (x6_2 : Int) := of_decide_eq_true (by first | (with_reducible assumption) | assumption);have q108 : x6_2 < (l0_1.length : Int) := of_decide_eq_true (by first | (with_reducible assumption) | assumption);obtain ⟨ad108, A108_1, c108_1, e108, hx108_0, hx108_1, hl108_1, hi108_1⟩ := at_T101 HR0_1.out x6_2 p108 q108
          cases e108
          replace hx108_0 := (HB.out.cell (World.block_lt_of_cell? w _ hx108_0)).trans hx108_0;replace hx108_1 := (HB.out.cell (World.block_lt_of_cell? w _ hx108_1)).trans hx108_1;have HR108_1 := Aside0.mk hi108_1;have HC108_1 := Aside0.mk hl108_1;clear hi108_1 hl108_1;replace p108 := eq_true p108;replace q108 := eq_true q108
          go_wp2_with (first | (go_at_call 60; (with_reducible refine (spec_l1In.calls ((rd_T101 l0_1 x6_2).f0) 0 65535 true _ A35.out).mono ?_); rintro e w' ⟨rfl, ⟨nd, rfl⟩⟩; (try first | exact ⟨rfl, _, World.drewN_drewN _ _ _⟩ | exact ⟨rfl, _, Eq.trans (World.drewN_drewN _ _ _) (congrArg (World.drewN _) (Nat.add_assoc _ _ _))⟩); have p110 : 0 ≤ (x6_2 : Int) := of_decide_eq_true (by first | (with_reducible assumption) | assumption); have q110 : x6_2 < (l0_1.length : Int) := of_decide_eq_true (by first | (with_reducible assumption) | assumption); obtain ⟨ad110, A110_1, c110_1, e110, hx110_0, hx110_1, hl110_1, hi110_1⟩ := at_T101 HR0_1.out x6_2 p110 q110; obtain rfl : ad108 = ad110 := (by injection e110); replace hx110_0 := (HB.out.cell (World.block_lt_of_cell? w _ hx110_0)).trans hx110_0; replace hx110_1 := (HB.out.cell (World.block_lt_of_cell? w _ hx110_1)).trans hx110_1; have HR110_1 := Aside0.mk hi110_1; have HC110_1 := Aside0.mk hl110_1; clear hi110_1 hl110_1; replace p110 := eq_true p110; replace q110 := eq_true q110; have ea_ := Option.some.inj (hx108_1.symm.trans hx110_1); injection ea_ with ea_ en_ ec_; subst ea_; subst ec_; clear en_))
          repeat (go_quiet (first | (go_at_call 60; (with_reducible refine (spec_l1In.calls ((rd_T101 l0_1 x6_2).f0) 0 65535 true _ A35.out).mono ?_); rintro e w' ⟨rfl, ⟨nd, rfl⟩⟩; (try first | exact ⟨rfl, _, World.drewN_drewN _ _ _⟩ | exact ⟨rfl, _, Eq.trans (World.drewN_drewN _ _ _) (congrArg (World.drewN _) (Nat.add_assoc _ _ _))⟩); have p110 : 0 ≤ (x6_2 : Int) := of_decide_eq_true (by first | (with_reducible assumption) | assumption); have q110 : x6_2 < (l0_1.length : Int) := of_decide_eq_true (by first | (with_reducible assumption) | assumption); obtain ⟨ad110, A110_1, c110_1, e110, hx110_0, hx110_1, hl110_1, hi110_1⟩ := at_T101 HR0_1.out x6_2 p110 q110; obtain rfl : ad108 = ad110 := (by injection e110); replace hx110_0 := (HB.out.cell (World.block_lt_of_cell? w _ hx110_0)).trans hx110_0; replace hx110_1 := (HB.out.cell (World.block_lt_of_cell? w _ hx110_1)).trans hx110_1; have HR110_1 := Aside0.mk hi110_1; have HC110_1 := Aside0.mk hl110_1; clear hi110_1 hl110_1; replace p110 := eq_true p110; replace q110 := eq_true q110; have ea_ := Option.some.inj (hx108_1.symm.trans hx110_1); injection ea_ with ea_ en_ ec_; subst ea_; subst ec_; clear en_)); try go_wp2_with (first | (go_at_call 60; (with_reducible refine (spec_l1In.calls ((rd_T101 l0_1 x6_2).f0) 0 65535 true _ A35.out).mono ?_); rintro e w' ⟨rfl, ⟨nd, rfl⟩⟩; (try first | exact ⟨rfl, _, World.drewN_drewN _ _ _⟩ | exact ⟨rfl, _, Eq.trans (World.drewN_drewN _ _ _) (congrArg (World.drewN _) (Nat.add_assoc _ _ _))⟩); have p110 : 0 ≤ (x6_2 : Int) := of_decide_eq_true (by first | (with_reducible assumption) | assumption); have q110 : x6_2 < (l0_1.length : Int) := of_decide_eq_true (by first | (with_reducible assumption) | assumption); obtain ⟨ad110, A110_1, c110_1, e110, hx110_0, hx110_1, hl110_1, hi110_1⟩ := at_T101 HR0_1.out x6_2 p110 q110; obtain rfl : ad108 = ad110 := (by injection e110); replace hx110_0 := (HB.out.cell (World.block_lt_of_cell? w _ hx110_0)).trans hx110_0; replace hx110_1 := (HB.out.cell (World.block_lt_of_cell? w _ hx110_1)).trans hx110_1; have HR110_1 := Aside0.mk hi110_1; have HC110_1 := Aside0.mk hl110_1; clear hi110_1 hl110_1; replace p110 := eq_true p110; replace q110 := eq_true q110; have ea_ := Option.some.inj (hx108_1.symm.trans hx110_1); injection ea_ with ea_ en_ ec_; subst ea_; subst ec_; clear en_)))
          go_ret;exact ⟨by first | rfl | (simp <;> rfl) | (simp [*] <;> rfl), by repeat (first | (with_reducible first | exact HB.out | apply below_alloc | apply pw_below_drewN | apply below_drew1 | refine below_set ?_ GE101.out) | exact HB.out)⟩
         ·rw [if_neg c37] at H
          have c37b0 : decide (64 < (((rd_T101 l0_1 x6_2).f1).length : Int)) = false := decide_eq_false c37;have c37b1 : decide (64 < ((rd_T101 l0_1 x6_2).f1).length) = false := decide_eq_false (by omega);clear c37;have H' := Aside0.mk H;clear H;obtain ⟨hcz39_0, hcz39_1, hfz39_0, hfz39_1⟩ := zc2 BK101.out;have p108 : 0 ≤ (x6_2 : Int) := of_decide_eq_true (by first | (with_reducible assumption) | assumption);have q108 : x6_2 < (l0_1.length : Int) := of_decide_eq_true (by first | (with_reducible assumption) | assumption);obtain ⟨ad108, A108_1, c108_1, e108, hx108_0, hx108_1, hl108_1, hi108_1⟩ := at_T101 HR0_1.out x6_2 p108 q108
          cases e108
          replace hx108_0 := (HB.out.cell (World.block_lt_of_cell? w _ hx108_0)).trans hx108_0;replace hx108_1 := (HB.out.cell (World.block_lt_of_cell? w _ hx108_1)).trans hx108_1;have HR108_1 := Aside0.mk hi108_1;have HC108_1 := Aside0.mk hl108_1;clear hi108_1 hl108_1;replace p108 := eq_true p108;replace q108 := eq_true q108
          go_wp2_with (first | (go_at_call 60; (with_reducible refine (spec_l1In.calls ((rd_T101 l0_1 x6_2).f0) 0 65535 true _ A35.out).mono ?_); rintro e w' ⟨rfl, ⟨nd, rfl⟩⟩; (try first | exact ⟨rfl, _, World.drewN_drewN _ _ _⟩ | exact ⟨rfl, _, Eq.trans (World.drewN_drewN _ _ _) (congrArg (World.drewN _) (Nat.add_assoc _ _ _))⟩); have p110 : 0 ≤ (x6_2 : Int) := of_decide_eq_true (by first | (with_reducible assumption) | assumption); have q110 : x6_2 < (l0_1.length : Int) := of_decide_eq_true (by first | (with_reducible assumption) | assumption); obtain ⟨ad110, A110_1, c110_1, e110, hx110_0, hx110_1, hl110_1, hi110_1⟩ := at_T101 HR0_1.out x6_2 p110 q110; obtain rfl : ad108 = ad110 := (by injection e110); replace hx110_0 := (HB.out.cell (World.block_lt_of_cell? w _ hx110_0)).trans hx110_0; replace hx110_1 := (HB.out.cell (World.block_lt_of_cell? w _ hx110_1)).trans hx110_1; have HR110_1 := Aside0.mk hi110_1; have HC110_1 := Aside0.mk hl110_1; clear hi110_1 hl110_1; replace p110 := eq_true p110; replace q110 := eq_true q110; have ea_ := Option.some.inj (hx108_1.symm.trans hx110_1); injection ea_ with ea_ en_ ec_; subst ea_; subst ec_; clear en_))
          repeat (go_quiet (first | (go_at_call 60; (with_reducible refine (spec_l1In.calls ((rd_T101 l0_1 x6_2).f0) 0 65535 true _ A35.out).mono ?_); rintro e w' ⟨rfl, ⟨nd, rfl⟩⟩; (try first | exact ⟨rfl, _, World.drewN_drewN _ _ _⟩ | exact ⟨rfl, _, Eq.trans (World.drewN_drewN _ _ _) (congrArg (World.drewN _) (Nat.add_assoc _ _ _))⟩); have p110 : 0 ≤ (x6_2 : Int) := of_decide_eq_true (by first | (with_reducible assumption) | assumption); have q110 : x6_2 < (l0_1.length : Int) := of_decide_eq_true (by first | (with_reducible assumption) | assumption); obtain ⟨ad110, A110_1, c110_1, e110, hx110_0, hx110_1, hl110_1, hi110_1⟩ := at_T101 HR0_1.out x6_2 p110 q110; obtain rfl : ad108 = ad110 := (by injection e110); replace hx110_0 := (HB.out.cell (World.block_lt_of_cell? w _ hx110_0)).trans hx110_0; replace hx110_1 := (HB.out.cell (World.block_lt_of_cell? w _ hx110_1)).trans hx110_1; have HR110_1 := Aside0.mk hi110_1; have HC110_1 := Aside0.mk hl110_1; clear hi110_1 hl110_1; replace p110 := eq_true p110; replace q110 := eq_true q110; have ea_ := Option.some.inj (hx108_1.symm.trans hx110_1); injection ea_ with ea_ en_ ec_; subst ea_; subst ec_; clear en_)); try go_wp2_with (first | (go_at_call 60; (with_reducible refine (spec_l1In.calls ((rd_T101 l0_1 x6_2).f0) 0 65535 true _ A35.out).mono ?_); rintro e w' ⟨rfl, ⟨nd, rfl⟩⟩; (try first | exact ⟨rfl, _, World.drewN_drewN _ _ _⟩ | exact ⟨rfl, _, Eq.trans (World.drewN_drewN _ _ _) (congrArg (World.drewN _) (Nat.add_assoc _ _ _))⟩); have p110 : 0 ≤ (x6_2 : Int) := of_decide_eq_true (by first | (with_reducible assumption) | assumption); have q110 : x6_2 < (l0_1.length : Int) := of_decide_eq_true (by first | (with_reducible assumption) | assumption); obtain ⟨ad110, A110_1, c110_1, e110, hx110_0, hx110_1, hl110_1, hi110_1⟩ := at_T101 HR0_1.out x6_2 p110 q110; obtain rfl : ad108 = ad110 := (by injection e110); replace hx110_0 := (HB.out.cell (World.block_lt_of_cell? w _ hx110_0)).trans hx110_0; replace hx110_1 := (HB.out.cell (World.block_lt_of_cell? w _ hx110_1)).trans hx110_1; have HR110_1 := Aside0.mk hi110_1; have HC110_1 := Aside0.mk hl110_1; clear hi110_1 hl110_1; replace p110 := eq_true p110; replace q110 := eq_true q110; have ea_ := Option.some.inj (hx108_1.symm.trans hx110_1); injection ea_ with ea_ en_ ec_; subst ea_; subst ec_; clear en_)))
          go_roundg k2
          case measure => have := HK1.out; have := HK2.out; omega
          case rel => exact ⟨(wrap64 (x6_2 + 1)), (by first | rfl | (simp; done) | (simp [*]; done)), H', ⟨by have := HK1.out; have := HK2.out; omega⟩, ⟨by (with_reducible repeat (first | apply blk_drewN | apply blk_drew | apply blk_alloc)); exact BK101.out⟩, ⟨by repeat (first | (with_reducible first | exact HB.out | apply below_alloc | apply pw_below_drewN | apply below_drew1 | refine below_set ?_ GE101.out) | exact HB.out)⟩⟩
        ·replace c36 := Bool.eq_false_iff.mpr c36
         subst c36
         have H1 : (some false) = some r := by rw [if_neg (show ¬ (false = true) by decide)] at H; exact H
         clear H;have H := H1;clear H1;obtain rfl := Option.some.inj H;obtain ⟨hcz40_0, hcz40_1, hfz40_0, hfz40_1⟩ := zc2 BK101.out;have p108 : 0 ≤ (x6_2 : Int) := of_decide_eq_true (by first | (with_reducible assumption) | assumption);have q108 : x6_2 < (l0_1.length : Int) := of_decide_eq_true (by first | (with_reducible assumption) | assumption);obtain ⟨ad108, A108_1, c108_1, e108, hx108_0, hx108_1, hl108_1, hi108_1⟩ := at_T101 HR0_1.out x6_2 p108 q108
         cases e108
         replace hx108_0 := (HB.out.cell (World.block_lt_of_cell? w _ hx108_0)).trans hx108_0;replace hx108_1 := (HB.out.cell (World.block_lt_of_cell? w _ hx108_1)).trans hx108_1;have HR108_1 := Aside0.mk hi108_1;have HC108_1 := Aside0.mk hl108_1;clear hi108_1 hl108_1;replace p108 := eq_true p108;replace q108 := eq_true q108
         go_wp2_with (first | (go_at_call 60; (with_reducible refine (spec_l1In.calls ((rd_T101 l0_1 x6_2).f0) 0 65535 false _ A35.out).mono ?_); rintro e w' ⟨rfl, ⟨nd, rfl⟩⟩; (try first | exact ⟨rfl, _, World.drewN_drewN _ _ _⟩ | exact ⟨rfl, _, Eq.trans (World.drewN_drewN _ _ _) (congrArg (World.drewN _) (Nat.add_assoc _ _ _))⟩)))
         repeat (go_quiet (first | (go_at_call 60; (with_reducible refine (spec_l1In.calls ((rd_T101 l0_1 x6_2).f0) 0 65535 false _ A35.out).mono ?_); rintro e w' ⟨rfl, ⟨nd, rfl⟩⟩; (try first | exact ⟨rfl, _, World.drewN_drewN _ _ _⟩ | exact ⟨rfl, _, Eq.trans (World.drewN_drewN _ _ _) (congrArg (World.drewN _) (Nat.add_assoc _ _ _))⟩))); try go_wp2_with (first | (go_at_call 60; (with_reducible refine (spec_l1In.calls ((rd_T101 l0_1 x6_2).f0) 0 65535 false _ A35.out).mono ?_); rintro e w' ⟨rfl, ⟨nd, rfl⟩⟩; (try first | exact ⟨rfl, _, World.drewN_drewN _ _ _⟩ | exact ⟨rfl, _, Eq.trans (World.drewN_drewN _ _ _) (congrArg (World.drewN _) (Nat.add_assoc _ _ _))⟩))))
         go_ret;exact ⟨by first | rfl | (simp <;> rfl) | (simp [*] <;> rfl), by repeat (first | (with_reducible first | exact HB.out | apply below_alloc | apply pw_below_drewN | apply below_drew1 | refine below_set ?_ GE101.out) | exact HB.out)⟩
       ·rw [if_neg c34] at H
        exact absurd H (by simp)
      ·rw [if_neg c33] at H
       have c33b0 : decide (x6_2 < (l0_1.length : Int)) = false := decide_eq_false c33;clear c33
       by_cases c41 : (l0_0.length : Int) ≤ 4
       ·rw [if_pos c41] at H
        have c41b0 : decide ((l0_0.length : Int) ≤ 4) = true := decide_eq_true c41;have c41b1 : decide (l0_0.length ≤ 4) = true := decide_eq_true (by omega);clear c41;obtain rfl := Option.some.inj H;obtain ⟨hcz42_0, hcz42_1, hfz42_0, hfz42_1⟩ := zc2 BK101.out
        go_wp2
        repeat (go_quiet (fail); try go_wp2)
        go_ret;exact ⟨by first | rfl | (simp <;> rfl) | (simp [*] <;> rfl), by repeat (first | (with_reducible first | exact HB.out | apply below_alloc | apply pw_below_drewN | apply below_drew1 | refine below_set ?_ GE101.out) | exact HB.out)⟩
       ·rw [if_neg c41] at H
        have c41b0 : decide ((l0_0.length : Int) ≤ 4) = false := decide_eq_false c41;have c41b1 : decide (l0_0.length ≤ 4) = false := decide_eq_false (by omega);clear c41;obtain rfl := Option.some.inj H;obtain ⟨hcz43_0, hcz43_1, hfz43_0, hfz43_1⟩ := zc2 BK101.out
        go_wp2
        repeat (go_quiet (fail); try go_wp2)
        go_ret;exact ⟨by first | rfl | (simp <;> rfl) | (simp [*] <;> rfl), by repeat (first | (with_reducible first | exact HB.out | apply below_alloc | apply pw_below_drewN | apply below_drew1 | refine below_set ?_ GE101.out) | exact HB.out)⟩

/-! ### impl_in: function 64 -/
def impl_in.f (a0 : Int) (a1 : Int) (a2 : Int) : Option (Bool) := if a0 ≥ a1 then (some (decide (a0 ≤ a2))) else (some false)
set_option maxHeartbeats 8000000 in
set_option maxRecDepth 100000 in
theorem impl_in.calls (a0 : Int) (a1 : Int) (a2 : Int) (r : Bool) (w : World) (h : impl_in.f a0 a1 a2 = some r) :
  Calls Try.prog 64 #[.int .i64 a0, .int .i64 a1, .int .i64 a2] w fun e w' => e = .returned (.bool r) ∧ Drawn0 w w' := by
 have H : (if a0 ≥ a1 then (some (decide (a0 ≤ a2))) else (some false)) = some r := h;clear h
 by_cases c4 : a0 ≥ a1
 ·rw [if_pos c4] at H
  have c4b0 : decide (a1 ≤ a0) = true := decide_eq_true c4;clear c4;obtain rfl := Option.some.inj H
  go_enter Try.func64, Try.ntmps64
  go_wp2
  go_ret;exact ⟨by first | rfl | (simp; done) | (simp [*]; done), by repeat (first | exact Drawn0.refl _ | apply Drawn0.step)⟩
 ·rw [if_neg c4] at H
  have c4b0 : decide (a1 ≤ a0) = false := decide_eq_false c4;clear c4;obtain rfl := Option.some.inj H
  go_enter Try.func64, Try.ntmps64
  go_wp2
  go_ret;exact ⟨by first | rfl | (simp; done) | (simp [*]; done), by repeat (first | exact Drawn0.refl _ | apply Drawn0.step)⟩

/-! ### impl_word: function 70 -/
def impl_word.f (a0 : Int) : Option (Bool) := (impl_in.f a0 0 65535).bind fun t111 => (some t111)
set_option maxHeartbeats 8000000 in
set_option maxRecDepth 100000 in
theorem impl_word.calls (a0 : Int) (r : Bool) (w : World) (h : impl_word.f a0 = some r) :
  Calls Try.prog 70 #[.int .i64 a0] w fun e w' => e = .returned (.bool r) ∧ Drawn0 w w' := by
 have H : ((impl_in.f a0 0 65535).bind fun t111 => (some t111)) = some r := h;clear h;replace H := ze H;obtain ⟨t111, A20, H⟩ := H;replace H : (some t111) = some r := H;have A2 := Aside0.mk A20;clear A20;obtain rfl := Option.some.inj H
 go_enter Try.func70, Try.ntmps70
 go_wp2_with (first | ((with_reducible refine gate_callee (f := 64) rfl ?_); refine goesL_ (some 4) rfl rfl Try.func64 (by kernel_rfl) rfl #[.int .i64 a0, .int .i64 0, .int .i64 65535] rfl (by (try simp only [zm]); first | done | rfl | (simp only [zl]; rfl)) ?_; (with_reducible refine (impl_in.calls a0 0 65535 t111 _ A2.out).mono ?_); rintro e w' ⟨rfl, ⟨nd, rfl⟩⟩; refine ⟨_, rfl, ?_⟩))
 go_ret;exact ⟨by first | rfl | (simp; done) | (simp [*]; done), by repeat (first | exact Drawn0.refl _ | apply Drawn0.step)⟩

-- NOT PRINTED: function 113 (impl_NearEntry)

/-! ### impl_Near_at: function 71 -/
/-- The first place of a list at which something holds; -1 if there is none. -/
def nearIdx (p : S99 → Bool) (xs : List (S99)) : Int := match xs.findIdx? p with | some i => (i : Int) | none => -1
theorem nearRd (xs : List (S99)) (i : Nat) (h : i < xs.length) : rd_T99 xs (i : Int) = xs[i] := by
 unfold rd_T99; simp [List.getD_eq_getElem?_getD, List.getElem?_eq_getElem h]
theorem nearIdx_hit (p : S99 → Bool) (xs : List (S99)) (k : Nat) (hk : k < xs.length) (hp : p (rd_T99 xs (k : Int)) = true) (no : ∀ j : Nat, j < k → p (rd_T99 xs (j : Int)) = false) : nearIdx p xs = (k : Int) := by
 have e : xs.findIdx? p = some k := by
  rw [List.findIdx?_eq_some_iff_getElem]
  refine ⟨hk, by rw [← nearRd xs k hk]; exact hp, fun j hj => ?_⟩;have := no j hj
  rw [nearRd xs j (by omega)] at this
  simp [this]
 unfold nearIdx; rw [e]
theorem nearIdx_miss (p : S99 → Bool) (xs : List (S99)) (no : ∀ j : Nat, j < xs.length → p (rd_T99 xs (j : Int)) = false) : nearIdx p xs = -1 := by
 have e : xs.findIdx? p = none := by
  rw [List.findIdx?_eq_none_iff]
  intro x hx;obtain ⟨j, hj, rfl⟩ := List.getElem_of_mem hx
  rw [← nearRd xs j hj]
  exact no j hj
 unfold nearIdx; rw [e]
set_option maxHeartbeats 1000000 in
/-- The closure of the search. -/
theorem nearEq.calls (x0 x1 x2 a : Int) (gb : Nat) (w : World) (hbx : w.cell? ⟨gb, 0, none⟩ = some (.int .i64 a)) :
  Calls Try.prog 114 #[.agg #[.int .i64 x0, .int .i64 x1, .int .i64 x2], .pointer (some ⟨gb, 0, none⟩)] w fun e w' => e = .returned (.bool (x0 == a)) ∧ Below w.heap.size w w' := by
 have hs := World.block_lt_of_cell? w _ hbx;have HB := Aside0.mk (Below.refl w.heap.size w);have HX := Aside0.mk hbx;clear hbx
 go_enter Try.func114, Try.ntmps114
 go_wp2_with (first | ((with_reducible refine gate_dst (N := 2) rfl ?_); refine box_event ?hg (N := 2) ?hd (cs := #[.int .i64 x0, .int .i64 x1, .int .i64 x2]) (t := 99) ?hr ?_; (case hd => rfl); (case hg => rfl); (case hr => first | (go_simp; done) | (go_simp; rfl)); intro ge hg w1 hbox hb; have hx := (hb.cell (p := ⟨gb, 0, none⟩) hs).trans HX.out; have h0 : w1.cell? ⟨ge, 0, none⟩ = some (.int .i64 x0) := (blk_cell hbox 0).trans rfl; have HB1 := Aside0.mk (below_step HB.out hb); clear HB; clear hb hbox hg))
 go_ret;exact ⟨rfl, HB1.out⟩
set_option maxHeartbeats 1000000 in
/-- slices.IndexFunc over the entries. -/
theorem nearIdx.calls (a : Int) (gb : Nat) (A : Option Addr) (c : Nat) (xs : List (S99)) (w : World) (hr : Kd.C k99 w A xs.length xs) (hbig : xs.length ≤ 9223372036854775807) (hbx : w.cell? ⟨gb, 0, none⟩ = some (.int .i64 a)) :
  Calls Try.prog 113 #[.slice A xs.length c, .func (.func 114) #[] #[.pointer (some ⟨gb, 0, none⟩)]] w fun e w' => e = .returned (.int .i64 (nearIdx (fun x => x.f0 == a) xs)) ∧ Below w.heap.size w w' := by
 have hs := World.block_lt_of_cell? w _ hbx;have HX := Aside0.mk hbx;have HR := Aside0.mk hr;clear hr hbx
 go_enter Try.func113, Try.ntmps113
 go_wp2
 go_loopg [5, 8] xs.length (fun gg _ s8 wr => ∃ kk : Nat, kk ≤ xs.length ∧ xs.length - kk ≤ gg ∧ s8 = .int .i64 kk ∧ Aside (Below w.heap.size w wr) ∧ Aside (∀ j : Nat, j < kk → ((rd_T99 xs (j : Int)).f0 == a) = false))
 case atStart => exact ⟨0, Nat.zero_le _, by omega, rfl, Below.refl _ w, fun j hj => absurd hj (Nat.not_lt_zero _)⟩
 case round =>
  obtain ⟨kk, hkk, hg, rfl, BW, NO⟩ := hrel
  by_cases hlt : kk < xs.length
  ·have hltz : (kk : Int) < (xs.length : Int) := by omega
   have h0z : (0 : Int) ≤ (kk : Int) := by omega
   obtain ⟨ad, eA, hx0, hx1, hx2⟩ := at_T99 HR.out (kk : Int) h0z hltz
   subst eA
   replace hx0 := (BW.out.cell (World.block_lt_of_cell? w _ hx0)).trans hx0;replace hx1 := (BW.out.cell (World.block_lt_of_cell? w _ hx1)).trans hx1;replace hx2 := (BW.out.cell (World.block_lt_of_cell? w _ hx2)).trans hx2;simp only [Int.toNat_natCast] at hx0 hx1 hx2;have HC := Aside0.mk (nearEq.calls (rd_T99 xs (kk : Int)).f0 (rd_T99 xs (kk : Int)).f1 (rd_T99 xs (kk : Int)).f2 a gb wr ((BW.out.cell (p := ⟨gb, 0, none⟩) hs).trans HX.out))
   generalize hy : rd_T99 xs (kk : Int) = y at hx0 hx1 hx2 HC
   have B : Aside (rd_T99 xs (kk : Int) = y) := hy;clear hy
   cases hq : (y.f0 == a) with
   | true =>
    rw [hq] at HC
    go_wp2_with (go_at_call 114; refine HC.out.mono ?_; rintro e w' ⟨rfl, hb'⟩)
    go_ret;refine ⟨?_, below_step BW.out hb'⟩
    rw [nearIdx_hit _ xs kk hlt (by rw [B.out]; exact hq) NO.out]
    rfl
   | false =>
    rw [hq] at HC
    go_wp2_with (go_at_call 114; refine HC.out.mono ?_; rintro e w' ⟨rfl, hb'⟩)
    go_roundg (xs.length - (kk + 1))
    case measure => omega
    case rel =>
     refine ⟨kk + 1, by omega, by omega, by go_num, below_step BW.out hb', (show Aside _ from fun j hj => ?_)⟩
     by_cases e : j = kk
     ·subst e
      rw [B.out]; exact hq
     ·exact NO.out j (by omega)
  ·have hltz : ¬ (kk : Int) < (xs.length : Int) := by omega
   obtain rfl : kk = xs.length := by omega
   go_wp2
   go_ret;exact ⟨by rw [nearIdx_miss _ xs NO.out]; rfl, BW.out⟩
def impl_Near_at.f (l0_0 : List (S99)) (l0_1 : List (S101)) (a1 : Int) : Option (Int) := if l0_0.length ≤ 1099511627776 then some (nearIdx (fun x => x.f0 == a1) l0_0) else none
set_option maxHeartbeats 1000000 in
/-- The place of an address that is known. -/
theorem impl_Near_at.calls (A0_0 : Option Addr) (c0_0 : Nat) (l0_0 : List (S99)) (A0_1 : Option Addr) (c0_1 : Nat) (l0_1 : List (S101)) (a1 : Int) (r : Int) (w : World) (hr0_0 : Kd.C k99 w A0_0 l0_0.length l0_0) (hc0_0 : l0_0.length ≤ c0_0) (hr0_1 : Kd.C k101 w A0_1 l0_1.length l0_1) (hc0_1 : l0_1.length ≤ c0_1) (h : impl_Near_at.f l0_0 l0_1 a1 = some r) :
  Calls Try.prog 71 #[.agg #[.slice A0_0 l0_0.length c0_0, .slice A0_1 l0_1.length c0_1], .int .i64 a1] w fun e w' => e = .returned (.int .i64 r) ∧ Below w.heap.size w w' := by
 unfold impl_Near_at.f at h
 by_cases hb : l0_0.length ≤ 1099511627776
 ·rw [if_pos hb] at h
  obtain rfl := Option.some.inj h;clear h hc0_0 hr0_1 hc0_1;have HR := Aside0.mk hr0_0;have HL := Aside0.mk (show l0_0.length ≤ 9223372036854775807 by omega);have HB := Aside0.mk (Below.refl w.heap.size w);clear hr0_0 hb
  go_enter Try.func71, Try.ntmps71
  go_wp2_with (first
   | ((with_reducible refine gate_dst (N := 2) rfl ?_); refine box_event ?hg (N := 2) ?hd (cs := #[.slice A0_0 l0_0.length c0_0, .slice A0_1 l0_1.length c0_1]) (t := 42) ?hr ?_; (case hd => rfl); (case hg => rfl); (case hr => first | (go_simp; done) | (go_simp; rfl)); intro ge hg w1 hbox hb; have h0 : w1.cell? ⟨ge, 0, none⟩ = some (.slice A0_0 l0_0.length c0_0) := (blk_cell hbox 0).trans rfl; have HB1 := Aside0.mk (below_step HB.out hb); clear HB; clear hb hbox hg)
   | ((with_reducible refine gate_dst (N := 3) rfl ?_); refine box_event ?hg (N := 3) ?hd (cs := #[.int .i64 a1]) (t := 3) ?hr ?_; (case hd => rfl); (case hg => rfl); (case hr => first | (go_simp; done) | (go_simp; rfl)); intro gb hg w2 hbox hb; have h1 : w2.cell? ⟨gb, 0, none⟩ = some (.int .i64 a1) := (blk_cell hbox 0).trans rfl; replace h0 := (hb.cell (p := ⟨ge, 0, none⟩) (World.block_lt_of_cell? _ _ h0)).trans h0; have HB2 := Aside0.mk (below_step HB1.out hb); clear HB1; clear hb hbox hg)
   | (go_at_call 113; refine (nearIdx.calls a1 gb A0_0 c0_0 l0_0 _ (Kd.C_below HR.out HB2.out) HL.out h1).mono ?_; rintro e w3 ⟨rfl, hb⟩; have HB3 := Aside0.mk (below_step HB2.out hb); clear HB2; clear hb))
  go_ret;exact ⟨rfl, HB3.out⟩
 ·rw [if_neg hb] at h; cases h

/-! ### impl_NearHeld_72: function 72 -/
/-- What is kept is too much. -/
def heldBadB (x : S101) : Bool := !(decide (0 ≤ x.f0 ∧ x.f0 ≤ 65535)) || decide (64 < (x.f1.length : Int))
/-- The first place of an element that is too much; -1 if there is none. -/
def heldIdx (xs : List (S101)) : Int := match xs.findIdx? heldBadB with | some i => (i : Int) | none => -1
theorem heldRd (xs : List (S101)) (i : Nat) (h : i < xs.length) : rd_T101 xs (i : Int) = xs[i] := by
 unfold rd_T101; simp [List.getD_eq_getElem?_getD, List.getElem?_eq_getElem h]
theorem heldIdx_hit (xs : List (S101)) (k : Nat) (hk : k < xs.length) (hp : heldBadB (rd_T101 xs (k : Int)) = true) (no : ∀ j : Nat, j < k → heldBadB (rd_T101 xs (j : Int)) = false) : heldIdx xs = (k : Int) := by
 have e : xs.findIdx? heldBadB = some k := by
  rw [List.findIdx?_eq_some_iff_getElem]
  refine ⟨hk, by rw [← heldRd xs k hk]; exact hp, fun j hj => ?_⟩;have := no j hj
  rw [heldRd xs j (by omega)] at this
  simp [this]
 unfold heldIdx; rw [e]
theorem heldIdx_miss (xs : List (S101)) (no : ∀ j : Nat, j < xs.length → heldBadB (rd_T101 xs (j : Int)) = false) : heldIdx xs = -1 := by
 have e : xs.findIdx? heldBadB = none := by
  rw [List.findIdx?_eq_none_iff]
  intro x hx;obtain ⟨j, hj, rfl⟩ := List.getElem_of_mem hx
  rw [← heldRd xs j hj]
  exact no j hj
 unfold heldIdx; rw [e]
theorem heldIdx_any (xs : List (S101)) : decide (heldIdx xs ≥ 0) = xs.any heldBadB := by
 unfold heldIdx
 cases h : xs.findIdx? heldBadB with
 | none =>
  rw [List.findIdx?_eq_none_iff] at h
  rw [List.any_eq_false.2 (fun x hx => by rw [h x hx]; decide)]
  rfl
 | some i =>
  obtain ⟨hi, hp, _⟩ := List.findIdx?_eq_some_iff_getElem.1 h
  rw [List.any_eq_true.2 ⟨_, List.getElem_mem hi, hp⟩]
  exact decide_eq_true (by show (0 : Int) ≤ ((i : Nat) : Int); omega)
theorem heldWord (a : Int) : impl_word.f a = some (decide (0 ≤ a ∧ a ≤ 65535)) := by
 unfold impl_word.f impl_in.f
 by_cases h : a ≥ 0 <;> simp [h]
set_option maxHeartbeats 1000000 in
/-- The closure of the search. -/
theorem heldEq.calls (x : S101) (A : Option Addr) (c : Nat) (w : World) :
  Calls Try.prog 73 #[.agg #[.int .i64 x.f0, .slice A x.f1.length c]] w fun e w' => e = .returned (.bool (heldBadB x)) ∧ Below w.heap.size w w' := by
 have HB := Aside0.mk (Below.refl w.heap.size w)
 cases hw : decide (0 ≤ x.f0 ∧ x.f0 ≤ 65535) with
 | true =>
  have HW := Aside0.mk (impl_word.calls x.f0 true · ((heldWord x.f0).trans (by rw [hw])))
  have e : heldBadB x = decide (64 < (x.f1.length : Int)) := by unfold heldBadB; rw [hw]; rfl
  rw [e]
  clear hw e
  go_enter Try.func73, Try.ntmps73
  go_wp2_with (first
   | ((with_reducible refine gate_dst (N := 1) rfl ?_); refine box_event ?hg (N := 1) ?hd (cs := #[.int .i64 x.f0, .slice A x.f1.length c]) (t := 101) ?hr ?_; (case hd => rfl); (case hg => rfl); (case hr => first | (go_simp; done) | (go_simp; rfl)); intro ge hg w1 hbox hb; have h0 : w1.cell? ⟨ge, 0, none⟩ = some (.int .i64 x.f0) := (blk_cell hbox 0).trans rfl; have h1 : w1.cell? ⟨ge, 1, none⟩ = some (.slice A x.f1.length c) := (blk_cell hbox 1).trans rfl; have HB1 := Aside0.mk (below_step HB.out hb); clear HB; clear hb hbox hg)
   | (go_at_call 70; refine (HW.out _).mono ?_; rintro e w2 ⟨rfl, ⟨nd, rfl⟩⟩))
  go_ret;exact ⟨rfl, by repeat (first | exact HB1.out | apply pw_below_drewN)⟩
 | false =>
  have HW := Aside0.mk (impl_word.calls x.f0 false · ((heldWord x.f0).trans (by rw [hw])))
  have e : heldBadB x = true := by unfold heldBadB; rw [hw]; rfl
  rw [e]
  clear hw e
  go_enter Try.func73, Try.ntmps73
  go_wp2_with (first
   | ((with_reducible refine gate_dst (N := 1) rfl ?_); refine box_event ?hg (N := 1) ?hd (cs := #[.int .i64 x.f0, .slice A x.f1.length c]) (t := 101) ?hr ?_; (case hd => rfl); (case hg => rfl); (case hr => first | (go_simp; done) | (go_simp; rfl)); intro ge hg w1 hbox hb; have h0 : w1.cell? ⟨ge, 0, none⟩ = some (.int .i64 x.f0) := (blk_cell hbox 0).trans rfl; have h1 : w1.cell? ⟨ge, 1, none⟩ = some (.slice A x.f1.length c) := (blk_cell hbox 1).trans rfl; have HB1 := Aside0.mk (below_step HB.out hb); clear HB; clear hb hbox hg)
   | (go_at_call 70; refine (HW.out _).mono ?_; rintro e w2 ⟨rfl, ⟨nd, rfl⟩⟩))
  go_ret;exact ⟨rfl, by repeat (first | exact HB1.out | apply pw_below_drewN)⟩
set_option maxHeartbeats 1000000 in
/-- slices.IndexFunc over what is kept. -/
theorem heldIdx.calls (A : Option Addr) (c : Nat) (xs : List (S101)) (w : World) (hr : Kd.C k101 w A xs.length xs) (hbig : xs.length ≤ 9223372036854775807) :
  Calls Try.prog 115 #[.slice A xs.length c, .func (.func 73) #[] #[]] w fun e w' => e = .returned (.int .i64 (heldIdx xs)) ∧ Below w.heap.size w w' := by
 have HR := Aside0.mk hr;clear hr
 go_enter Try.func115, Try.ntmps115
 go_wp2
 go_loopg [5, 8] xs.length (fun gg _ s8 wr => ∃ kk : Nat, kk ≤ xs.length ∧ xs.length - kk ≤ gg ∧ s8 = .int .i64 kk ∧ Aside (Below w.heap.size w wr) ∧ Aside (∀ j : Nat, j < kk → heldBadB (rd_T101 xs (j : Int)) = false))
 case atStart => exact ⟨0, Nat.zero_le _, by omega, rfl, Below.refl _ w, fun j hj => absurd hj (Nat.not_lt_zero _)⟩
 case round =>
  obtain ⟨kk, hkk, hg, rfl, BW, NO⟩ := hrel
  by_cases hlt : kk < xs.length
  ·have hltz : (kk : Int) < (xs.length : Int) := by omega
   have h0z : (0 : Int) ≤ (kk : Int) := by omega
   obtain ⟨ad, A1, c1, eA, hx0, hx1, _, _⟩ := at_T101 HR.out (kk : Int) h0z hltz
   subst eA
   replace hx0 := (BW.out.cell (World.block_lt_of_cell? w _ hx0)).trans hx0;replace hx1 := (BW.out.cell (World.block_lt_of_cell? w _ hx1)).trans hx1;simp only [Int.toNat_natCast] at hx0 hx1;have HC := Aside0.mk (heldEq.calls (rd_T101 xs (kk : Int)) A1 c1 wr)
   generalize hy : rd_T101 xs (kk : Int) = y at hx0 hx1 HC
   have B : Aside (rd_T101 xs (kk : Int) = y) := hy;clear hy
   cases hq : heldBadB y with
   | true =>
    rw [hq] at HC
    go_wp2_with (go_at_call 73; refine HC.out.mono ?_; rintro e w' ⟨rfl, hb'⟩)
    go_ret;refine ⟨?_, below_step BW.out hb'⟩
    rw [heldIdx_hit xs kk hlt (by rw [B.out]; exact hq) NO.out]
    rfl
   | false =>
    rw [hq] at HC
    go_wp2_with (go_at_call 73; refine HC.out.mono ?_; rintro e w' ⟨rfl, hb'⟩)
    go_roundg (xs.length - (kk + 1))
    case measure => omega
    case rel =>
     refine ⟨kk + 1, by omega, by omega, by go_num, below_step BW.out hb', (show Aside _ from fun j hj => ?_)⟩
     by_cases e : j = kk
     ·subst e
      rw [B.out]; exact hq
     ·exact NO.out j (by omega)
  ·have hltz : ¬ (kk : Int) < (xs.length : Int) := by omega
   obtain rfl : kk = xs.length := by omega
   go_wp2
   go_ret;exact ⟨by rw [heldIdx_miss xs NO.out]; rfl, BW.out⟩
def impl_NearHeld_72.f (l0 : List (S101)) : Option (Bool) := if l0.length ≤ 1099511627776 then some (l0.any heldBadB) else none
set_option maxHeartbeats 1000000 in
/-- slices.ContainsFunc over what is kept. -/
theorem impl_NearHeld_72.calls (A0 : Option Addr) (c0 : Nat) (l0 : List (S101)) (r : Bool) (w : World) (hr0 : Kd.C k101 w A0 l0.length l0) (hc0 : l0.length ≤ c0) (h : impl_NearHeld_72.f l0 = some r) :
  Calls Try.prog 72 #[.slice A0 l0.length c0, .func (.func 73) #[] #[]] w fun e w' => e = .returned (.bool r) ∧ Below w.heap.size w w' := by
 unfold impl_NearHeld_72.f at h
 by_cases hb : l0.length ≤ 1099511627776
 ·rw [if_pos hb] at h
  obtain rfl := Option.some.inj h;clear h hc0;have HC := Aside0.mk (heldIdx.calls A0 c0 l0 w hr0 (by omega));clear hr0 hb
  rw [← heldIdx_any]
  generalize heldIdx l0 = q at HC
  go_enter Try.func72, Try.ntmps72
  go_wp2_with (go_at_call 115; refine HC.out.mono ?_; rintro e w' ⟨rfl, hb'⟩)
  go_ret;exact ⟨rfl, hb'⟩
 ·rw [if_neg hb] at h; cases h

end Go.Proofs.Ytdplboenlcppkaa.PFnNearOk

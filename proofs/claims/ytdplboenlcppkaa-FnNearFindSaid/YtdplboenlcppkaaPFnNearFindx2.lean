/- The machine side of some functions: each comes to its pure answer (written by a program of this session with the kit's print). No condition. -/
import Derived.Test.YtdplboenlcppkaaPFnNearFindx0
import Derived.Test.YtdplboenlcppkaaPFnNearFindx1
namespace Go.Proofs.Ytdplboenlcppkaa.PFnNearFind
open Go.RowKit Go.Proofs.YtdplboenlcppkaaUFnNearFind.PrintWords Go.Proofs.YtdplboenlcppkaaUFnNearFind.PrintLast Go.Proofs.YtdplboenlcppkaaUFnNearFind.PrintMore
attribute [local go_sem] max2_int min2_int max_two min_two max_three min_three max_four min_four   -- for this text's walks alone
set_option linter.unusedVariables false
set_option linter.unusedSimpArgs false

/-! ### spec_NearOk: function 19 -/
mutual
def spec_NearOk.l0 : Nat → Int → List (S99) → List (S101) → Option (Bool)
 | 0, _, _, _ => none
 | k + 1, x3, x120000, x120001 => if x3 < (x120000.length : Int) then (if 0 ≤ x3 then ((spec_l1In.f ((rd_T99 x120000 x3).f0) 0 65535).bind fun t122 => (if t122 = true then ((spec_l1In.f ((rd_T99 x120000 x3).f1) 0 254).bind fun t123 => (if t123 = true then ((spec_l1In.f ((rd_T99 x120000 x3).f2) 0 1000000).bind fun t124 => (spec_NearOk.j1 k x3 (!t124) x120000 x120001 ((rd_T99 x120000 x3).f0) ((rd_T99 x120000 x3).f1) ((rd_T99 x120000 x3).f2))) else (spec_NearOk.j1 k x3 true x120000 x120001 ((rd_T99 x120000 x3).f0) ((rd_T99 x120000 x3).f1) ((rd_T99 x120000 x3).f2)))) else (spec_NearOk.j1 k x3 true x120000 x120001 ((rd_T99 x120000 x3).f0) ((rd_T99 x120000 x3).f1) ((rd_T99 x120000 x3).f2)))) else (none)) else (spec_NearOk.l2 k 0 x120000 x120001)
def spec_NearOk.j1 : Nat → Int → Bool → List (S99) → List (S101) → Int → Int → Int → Option (Bool)
 | 0, _, _, _, _, _, _, _ => none
 | k + 1, x3, x34, x120000, x120001, x122000, x122001, x122002 => if x34 = true then (some false) else (spec_NearOk.l1 k x3 0 x120000 x120001 x122000 x122001 x122002)
def spec_NearOk.l1 : Nat → Int → Int → List (S99) → List (S101) → Int → Int → Int → Option (Bool)
 | 0, _, _, _, _, _, _, _ => none
 | k + 1, x3, x5, x120000, x120001, x122000, x122001, x122002 => if x5 < x3 then (if 0 ≤ x5 then (if x5 < (x120000.length : Int) then (if ((rd_T99 x120000 x5).f0) = x122000 then (some false) else (spec_NearOk.l1 k x3 (wrap64 (x5 + 1)) x120000 x120001 x122000 x122001 x122002)) else (none)) else (none)) else (spec_NearOk.l0 k (wrap64 (x3 + 1)) x120000 x120001)
def spec_NearOk.l2 : Nat → Int → List (S99) → List (S101) → Option (Bool)
 | 0, _, _, _ => none
 | k + 1, x6, x120000, x120001 => if x6 < (x120001.length : Int) then (if 0 ≤ x6 then ((spec_l1In.f ((rd_T101 x120001 x6).f0) 0 65535).bind fun t127 => (if t127 = true then (if (((rd_T101 x120001 x6).f1).length : Int) > 64 then (some false) else (spec_NearOk.l2 k (wrap64 (x6 + 1)) x120000 x120001)) else (some false))) else (none)) else (if (x120000.length : Int) ≤ 4 then (some (decide ((x120001.length : Int) ≤ 4))) else (some false))
end
def spec_NearOk.f (k : Nat) (l0_0 : List (S99)) (l0_1 : List (S101)) : Option (Bool) := spec_NearOk.l0 k 0 l0_0 l0_1
theorem spec_NearOk.mono_l : ∀ k, (∀ y0 y1 y2, LeO (spec_NearOk.l0 k y0 y1 y2) (spec_NearOk.l0 (k + 1) y0 y1 y2)) ∧ (∀ y0 y1 y2 y3 y4 y5 y6, LeO (spec_NearOk.j1 k y0 y1 y2 y3 y4 y5 y6) (spec_NearOk.j1 (k + 1) y0 y1 y2 y3 y4 y5 y6)) ∧ (∀ y0 y1 y2 y3 y4 y5 y6, LeO (spec_NearOk.l1 k y0 y1 y2 y3 y4 y5 y6) (spec_NearOk.l1 (k + 1) y0 y1 y2 y3 y4 y5 y6)) ∧ (∀ y0 y1 y2, LeO (spec_NearOk.l2 k y0 y1 y2) (spec_NearOk.l2 (k + 1) y0 y1 y2))
 | 0 => ⟨fun _ _ _ r h => by simp [spec_NearOk.l0] at h, fun _ _ _ _ _ _ _ r h => by simp [spec_NearOk.j1] at h, fun _ _ _ _ _ _ _ r h => by simp [spec_NearOk.l1] at h, fun _ _ _ r h => by simp [spec_NearOk.l2] at h⟩
 | k + 1 => by
  obtain ⟨ih0, ih1, ih2, ih3⟩ := spec_NearOk.mono_l k;refine ⟨?_, ?_, ?_, ?_⟩
  ·intro y0 y1 y2
   unfold spec_NearOk.l0
   repeat' first
   | (with_reducible exact ih0 _ _ _)
   | (with_reducible exact ih1 _ _ _ _ _ _ _)
   | (with_reducible exact ih2 _ _ _ _ _ _ _)
   | (with_reducible exact ih3 _ _ _)
   | (with_reducible exact LeO.refl _)
   | (with_reducible exact LeO.none _)
   | (with_reducible refine LeO.ite ?_ ?_)
   | (with_reducible refine LeO.bind ?_ (fun _ => ?_))
   | exact ih0 _ _ _
   | exact ih1 _ _ _ _ _ _ _
   | exact ih2 _ _ _ _ _ _ _
   | exact ih3 _ _ _
   | exact LeO.none _
   | refine LeO.ite ?_ ?_
   | refine LeO.bind ?_ (fun _ => ?_)
  ·intro y0 y1 y2 y3 y4 y5 y6
   unfold spec_NearOk.j1
   repeat' first
   | (with_reducible exact ih0 _ _ _)
   | (with_reducible exact ih1 _ _ _ _ _ _ _)
   | (with_reducible exact ih2 _ _ _ _ _ _ _)
   | (with_reducible exact ih3 _ _ _)
   | (with_reducible exact LeO.refl _)
   | (with_reducible exact LeO.none _)
   | (with_reducible refine LeO.ite ?_ ?_)
   | (with_reducible refine LeO.bind ?_ (fun _ => ?_))
   | exact ih0 _ _ _
   | exact ih1 _ _ _ _ _ _ _
   | exact ih2 _ _ _ _ _ _ _
   | exact ih3 _ _ _
   | exact LeO.none _
   | refine LeO.ite ?_ ?_
   | refine LeO.bind ?_ (fun _ => ?_)
  ·intro y0 y1 y2 y3 y4 y5 y6
   unfold spec_NearOk.l1
   repeat' first
   | (with_reducible exact ih0 _ _ _)
   | (with_reducible exact ih1 _ _ _ _ _ _ _)
   | (with_reducible exact ih2 _ _ _ _ _ _ _)
   | (with_reducible exact ih3 _ _ _)
   | (with_reducible exact LeO.refl _)
   | (with_reducible exact LeO.none _)
   | (with_reducible refine LeO.ite ?_ ?_)
   | (with_reducible refine LeO.bind ?_ (fun _ => ?_))
   | exact ih0 _ _ _
   | exact ih1 _ _ _ _ _ _ _
   | exact ih2 _ _ _ _ _ _ _
   | exact ih3 _ _ _
   | exact LeO.none _
   | refine LeO.ite ?_ ?_
   | refine LeO.bind ?_ (fun _ => ?_)
  ·intro y0 y1 y2
   unfold spec_NearOk.l2
   repeat' first
   | (with_reducible exact ih0 _ _ _)
   | (with_reducible exact ih1 _ _ _ _ _ _ _)
   | (with_reducible exact ih2 _ _ _ _ _ _ _)
   | (with_reducible exact ih3 _ _ _)
   | (with_reducible exact LeO.refl _)
   | (with_reducible exact LeO.none _)
   | (with_reducible refine LeO.ite ?_ ?_)
   | (with_reducible refine LeO.bind ?_ (fun _ => ?_))
   | exact ih0 _ _ _
   | exact ih1 _ _ _ _ _ _ _
   | exact ih2 _ _ _ _ _ _ _
   | exact ih3 _ _ _
   | exact LeO.none _
   | refine LeO.ite ?_ ?_
   | refine LeO.bind ?_ (fun _ => ?_)
theorem spec_NearOk.mono : ∀ a0 a1 k, LeO (spec_NearOk.f k a0 a1) (spec_NearOk.f (k + 1) a0 a1) := by
 intro a0 a1 k;obtain ⟨ih0, ih1, ih2, ih3⟩ := spec_NearOk.mono_l k
 unfold spec_NearOk.f
 repeat' first
   | (with_reducible exact ih0 _ _ _)
   | (with_reducible exact ih1 _ _ _ _ _ _ _)
   | (with_reducible exact ih2 _ _ _ _ _ _ _)
   | (with_reducible exact ih3 _ _ _)
   | (with_reducible exact LeO.refl _)
   | (with_reducible exact LeO.none _)
   | (with_reducible refine LeO.ite ?_ ?_)
   | (with_reducible refine LeO.bind ?_ (fun _ => ?_))
   | exact ih0 _ _ _
   | exact ih1 _ _ _ _ _ _ _
   | exact ih2 _ _ _ _ _ _ _
   | exact ih3 _ _ _
   | exact LeO.none _
   | refine LeO.ite ?_ ?_
   | refine LeO.bind ?_ (fun _ => ?_)
set_option maxHeartbeats 8000000 in
set_option maxRecDepth 100000 in
theorem spec_NearOk.calls (k : Nat) (A0_0 : Option Addr) (c0_0 : Nat) (l0_0 : List (S99)) (A0_1 : Option Addr) (c0_1 : Nat) (l0_1 : List (S101)) (r : Bool) (w : World) (hr0_0 : Kd.C k99 w A0_0 l0_0.length l0_0) (hc0_0 : l0_0.length ≤ c0_0) (hr0_1 : Kd.C k101 w A0_1 l0_1.length l0_1) (hc0_1 : l0_1.length ≤ c0_1) (h : spec_NearOk.f k l0_0 l0_1 = some r) :
  Calls Try.prog 19 #[.agg #[.slice A0_0 l0_0.length c0_0, .slice A0_1 l0_1.length c0_1]] w fun e w' => e = .returned (.bool r) ∧ Below w.heap.size w w' := by
 have hu42 := Try.underlying42;have hu99 := Try.underlying99;have HR0_0 := Aside0.mk hr0_0;have HC0_0 := Aside0.mk hc0_0;clear hr0_0 hc0_0;have HR0_1 := Aside0.mk hr0_1;have HC0_1 := Aside0.mk hc0_1;clear hr0_1 hc0_1;have HB := Aside0.mk (Below.refl w.heap.size w);have H : (spec_NearOk.l0 k 0 l0_0 l0_1) = some r := h;clear h;have H' := Aside0.mk H;clear H
 go_enter Try.func19, Try.ntmps19
 go_wp2_with (first | ((with_reducible refine gate_dst (N := 1) rfl ?_); (try (refine gate_guard (by rfl) ?_; dsimp only)); refine box_event ?hg (N := 1) ?hd (cs := #[.slice A0_0 l0_0.length c0_0, .slice A0_1 l0_1.length c0_1]) (t := 42) ?hr ?_; (case hd => rfl); (case hg => rfl); (case hr => first | (go_simp; done) | (go_simp; rfl)); intro gb119 hg w2 hbox hb; have n0_ := Aside0.mk (below_step (by repeat (first | (with_reducible first | exact HB.out | apply below_alloc | apply pw_below_drewN | apply below_drew1) | exact HB.out)) hb); have n1_ := Aside0.mk (hbox); have n2_ := Aside0.mk ((by rw [hg]; exact (below_size (by repeat (first | (with_reducible first | exact HB.out | apply below_alloc | apply pw_below_drewN | apply below_drew1) | exact HB.out))) : w.heap.size ≤ gb119)); have n3_ := n2_; clear HB; have HB := n0_; have BK119 := n1_; have GW119 := n2_; have GE119 := n3_; clear n0_ n1_ n2_ n3_; clear hb hbox hg))
 repeat (go_quiet (first | ((with_reducible refine gate_dst (N := 1) rfl ?_); (try (refine gate_guard (by rfl) ?_; dsimp only)); refine box_event ?hg (N := 1) ?hd (cs := #[.slice A0_0 l0_0.length c0_0, .slice A0_1 l0_1.length c0_1]) (t := 42) ?hr ?_; (case hd => rfl); (case hg => rfl); (case hr => first | (go_simp; done) | (go_simp; rfl)); intro gb119 hg w2 hbox hb; have n0_ := Aside0.mk (below_step (by repeat (first | (with_reducible first | exact HB.out | apply below_alloc | apply pw_below_drewN | apply below_drew1) | exact HB.out)) hb); have n1_ := Aside0.mk (hbox); have n2_ := Aside0.mk ((by rw [hg]; exact (below_size (by repeat (first | (with_reducible first | exact HB.out | apply below_alloc | apply pw_below_drewN | apply below_drew1) | exact HB.out))) : w.heap.size ≤ gb119)); have n3_ := n2_; clear HB; have HB := n0_; have BK119 := n1_; have GW119 := n2_; have GE119 := n3_; clear n0_ n1_ n2_ n3_; clear hb hbox hg)); try go_wp2_with (first | ((with_reducible refine gate_dst (N := 1) rfl ?_); (try (refine gate_guard (by rfl) ?_; dsimp only)); refine box_event ?hg (N := 1) ?hd (cs := #[.slice A0_0 l0_0.length c0_0, .slice A0_1 l0_1.length c0_1]) (t := 42) ?hr ?_; (case hd => rfl); (case hg => rfl); (case hr => first | (go_simp; done) | (go_simp; rfl)); intro gb119 hg w2 hbox hb; have n0_ := Aside0.mk (below_step (by repeat (first | (with_reducible first | exact HB.out | apply below_alloc | apply pw_below_drewN | apply below_drew1) | exact HB.out)) hb); have n1_ := Aside0.mk (hbox); have n2_ := Aside0.mk ((by rw [hg]; exact (below_size (by repeat (first | (with_reducible first | exact HB.out | apply below_alloc | apply pw_below_drewN | apply below_drew1) | exact HB.out))) : w.heap.size ≤ gb119)); have n3_ := n2_; clear HB; have HB := n0_; have BK119 := n1_; have GW119 := n2_; have GE119 := n3_; clear n0_ n1_ n2_ n3_; clear hb hbox hg)))
 go_loopg [3] k (fun kq v3 w' => ∃ (x3_1 : Int), v3 = .int .i64 x3_1 ∧ Aside0 (spec_NearOk.l0 kq x3_1 l0_0 l0_1 = some r) ∧ Aside0 (kq ≤ k) ∧ Aside0 (w'.heap[gb119]? = some (.cells #[(.slice A0_0 l0_0.length c0_0), (.slice A0_1 l0_1.length c0_1)] 42 (0, 0))) ∧ Aside0 (Below w.heap.size w w'))
 case atStart => exact ⟨(0), (by first | rfl | (simp; done) | (simp [*]; done)), H', ⟨Nat.le_refl _⟩, ⟨by (with_reducible repeat (first | apply blk_drewN | apply blk_drew | apply blk_alloc)); exact BK119.out⟩, ⟨by repeat (first | (with_reducible first | exact HB.out | apply below_alloc | apply pw_below_drewN | apply below_drew1 | refine below_set ?_ GE119.out) | exact HB.out)⟩⟩
 case round =>
  clear H'
  try clear c1
  try clear p2
  obtain ⟨x3_1, rfl, HA, HK1, BK119, HB⟩ := hrel
  cases gk with
  | zero => exact absurd HA.out (by simp [spec_NearOk.l0])
  | succ k1 =>
   have H := HA.out;clear HA;simp only [spec_NearOk.l0] at H
   by_cases c3 : x3_1 < (l0_0.length : Int)
   ·rw [if_pos c3] at H
    have c3b0 : decide (x3_1 < (l0_0.length : Int)) = true := decide_eq_true c3;clear c3
    by_cases c4 : 0 ≤ x3_1
    ·rw [if_pos c4] at H
     have c4b0 : decide (0 ≤ x3_1) = true := decide_eq_true c4;clear c4;have HC5 := Aside0.mk H;clear H;obtain ⟨hcz6_0, hcz6_1, hfz6_0, hfz6_1⟩ := zc2 BK119.out;have p120 : 0 ≤ (x3_1 : Int) := of_decide_eq_true (by first | (with_reducible assumption) | assumption);have q120 : x3_1 < (l0_0.length : Int) := of_decide_eq_true (by first | (with_reducible assumption) | assumption);obtain ⟨ad120, e120, hx120_0, hx120_1, hx120_2⟩ := at_T99 HR0_0.out x3_1 p120 q120
     cases e120
     replace hx120_0 := (HB.out.cell (World.block_lt_of_cell? w _ hx120_0)).trans hx120_0;replace hx120_1 := (HB.out.cell (World.block_lt_of_cell? w _ hx120_1)).trans hx120_1;replace hx120_2 := (HB.out.cell (World.block_lt_of_cell? w _ hx120_2)).trans hx120_2;replace p120 := eq_true p120;replace q120 := eq_true q120
     go_upto_region 5 with (first | ((with_reducible refine gate_dst (N := 4) rfl ?_); (try (refine gate_guard (by rfl) ?_; dsimp only)); refine box_event ?hg (N := 4) ?hd (cs := #[.int .i64 0, .int .i64 0, .int .i64 0]) (t := 99) ?hr ?_; (case hd => rfl); (case hg => rfl); (case hr => first | (go_simp; done) | (go_simp; rfl)); intro gb121 hg w7 hbox hb; have n0_ := Aside0.mk (blk_below (g := gb119) (o := .cells #[.slice (some ad120) l0_0.length c0_0, .slice A0_1 l0_1.length c0_1] 42 (0, 0)) (by (with_reducible repeat (first | apply blk_drewN | apply blk_drew | apply blk_alloc)); exact BK119.out) hb); have n1_ := Aside0.mk (below_step (by repeat (first | (with_reducible first | exact HB.out | apply below_alloc | apply pw_below_drewN | apply below_drew1 | refine below_set ?_ GE119.out) | exact HB.out)) hb); have n2_ := Aside0.mk (hbox); have n3_ := Aside0.mk ((by rw [hg]; exact (below_size (by repeat (first | (with_reducible first | exact HB.out | apply below_alloc | apply pw_below_drewN | apply below_drew1 | refine below_set ?_ GE119.out) | exact HB.out))) : w.heap.size ≤ gb121)); have n4_ := n3_; have n5_ := Aside0.mk ((by rw [hg]; exact Nat.ne_of_lt (blk_lt (g := gb119) (o := .cells #[.slice (some ad120) l0_0.length c0_0, .slice A0_1 l0_1.length c0_1] 42 (0, 0)) (by (with_reducible repeat (first | apply blk_drewN | apply blk_drew | apply blk_alloc)); exact BK119.out)) : gb119 ≠ gb121)); have n6_ := Aside0.mk ((by rw [hg]; exact Nat.ne_of_gt (blk_lt (g := gb119) (o := .cells #[.slice (some ad120) l0_0.length c0_0, .slice A0_1 l0_1.length c0_1] 42 (0, 0)) (by (with_reducible repeat (first | apply blk_drewN | apply blk_drew | apply blk_alloc)); exact BK119.out)) : gb121 ≠ gb119)); clear BK119; clear HB; have BK119 := n0_; have HB := n1_; have BK121 := n2_; have GW121 := n3_; have GE121 := n4_; have NB119_121 := n5_; have NB121_119 := n6_; clear n0_ n1_ n2_ n3_ n4_ n5_ n6_; clear hb hbox hg; have hnb8 := NB121_119.out; have hnc8 := NB119_121.out; obtain ⟨hcz9_0, hcz9_1, hcz9_2, hfz9_0, hfz9_1, hfz9_2⟩ := zc3 BK121.out))
     repeat (go_quiet (first | ((with_reducible refine gate_dst (N := 4) rfl ?_); (try (refine gate_guard (by rfl) ?_; dsimp only)); refine box_event ?hg (N := 4) ?hd (cs := #[.int .i64 0, .int .i64 0, .int .i64 0]) (t := 99) ?hr ?_; (case hd => rfl); (case hg => rfl); (case hr => first | (go_simp; done) | (go_simp; rfl)); intro gb121 hg w7 hbox hb; have n0_ := Aside0.mk (blk_below (g := gb119) (o := .cells #[.slice (some ad120) l0_0.length c0_0, .slice A0_1 l0_1.length c0_1] 42 (0, 0)) (by (with_reducible repeat (first | apply blk_drewN | apply blk_drew | apply blk_alloc)); exact BK119.out) hb); have n1_ := Aside0.mk (below_step (by repeat (first | (with_reducible first | exact HB.out | apply below_alloc | apply pw_below_drewN | apply below_drew1 | refine below_set ?_ GE119.out) | exact HB.out)) hb); have n2_ := Aside0.mk (hbox); have n3_ := Aside0.mk ((by rw [hg]; exact (below_size (by repeat (first | (with_reducible first | exact HB.out | apply below_alloc | apply pw_below_drewN | apply below_drew1 | refine below_set ?_ GE119.out) | exact HB.out))) : w.heap.size ≤ gb121)); have n4_ := n3_; have n5_ := Aside0.mk ((by rw [hg]; exact Nat.ne_of_lt (blk_lt (g := gb119) (o := .cells #[.slice (some ad120) l0_0.length c0_0, .slice A0_1 l0_1.length c0_1] 42 (0, 0)) (by (with_reducible repeat (first | apply blk_drewN | apply blk_drew | apply blk_alloc)); exact BK119.out)) : gb119 ≠ gb121)); have n6_ := Aside0.mk ((by rw [hg]; exact Nat.ne_of_gt (blk_lt (g := gb119) (o := .cells #[.slice (some ad120) l0_0.length c0_0, .slice A0_1 l0_1.length c0_1] 42 (0, 0)) (by (with_reducible repeat (first | apply blk_drewN | apply blk_drew | apply blk_alloc)); exact BK119.out)) : gb121 ≠ gb119)); clear BK119; clear HB; have BK119 := n0_; have HB := n1_; have BK121 := n2_; have GW121 := n3_; have GE121 := n4_; have NB119_121 := n5_; have NB121_119 := n6_; clear n0_ n1_ n2_ n3_ n4_ n5_ n6_; clear hb hbox hg; have hnb8 := NB121_119.out; have hnc8 := NB119_121.out; obtain ⟨hcz9_0, hcz9_1, hcz9_2, hfz9_0, hfz9_1, hfz9_2⟩ := zc3 BK121.out)); go_upto_region 5 with (first | ((with_reducible refine gate_dst (N := 4) rfl ?_); (try (refine gate_guard (by rfl) ?_; dsimp only)); refine box_event ?hg (N := 4) ?hd (cs := #[.int .i64 0, .int .i64 0, .int .i64 0]) (t := 99) ?hr ?_; (case hd => rfl); (case hg => rfl); (case hr => first | (go_simp; done) | (go_simp; rfl)); intro gb121 hg w7 hbox hb; have n0_ := Aside0.mk (blk_below (g := gb119) (o := .cells #[.slice (some ad120) l0_0.length c0_0, .slice A0_1 l0_1.length c0_1] 42 (0, 0)) (by (with_reducible repeat (first | apply blk_drewN | apply blk_drew | apply blk_alloc)); exact BK119.out) hb); have n1_ := Aside0.mk (below_step (by repeat (first | (with_reducible first | exact HB.out | apply below_alloc | apply pw_below_drewN | apply below_drew1 | refine below_set ?_ GE119.out) | exact HB.out)) hb); have n2_ := Aside0.mk (hbox); have n3_ := Aside0.mk ((by rw [hg]; exact (below_size (by repeat (first | (with_reducible first | exact HB.out | apply below_alloc | apply pw_below_drewN | apply below_drew1 | refine below_set ?_ GE119.out) | exact HB.out))) : w.heap.size ≤ gb121)); have n4_ := n3_; have n5_ := Aside0.mk ((by rw [hg]; exact Nat.ne_of_lt (blk_lt (g := gb119) (o := .cells #[.slice (some ad120) l0_0.length c0_0, .slice A0_1 l0_1.length c0_1] 42 (0, 0)) (by (with_reducible repeat (first | apply blk_drewN | apply blk_drew | apply blk_alloc)); exact BK119.out)) : gb119 ≠ gb121)); have n6_ := Aside0.mk ((by rw [hg]; exact Nat.ne_of_gt (blk_lt (g := gb119) (o := .cells #[.slice (some ad120) l0_0.length c0_0, .slice A0_1 l0_1.length c0_1] 42 (0, 0)) (by (with_reducible repeat (first | apply blk_drewN | apply blk_drew | apply blk_alloc)); exact BK119.out)) : gb121 ≠ gb119)); clear BK119; clear HB; have BK119 := n0_; have HB := n1_; have BK121 := n2_; have GW121 := n3_; have GE121 := n4_; have NB119_121 := n5_; have NB121_119 := n6_; clear n0_ n1_ n2_ n3_ n4_ n5_ n6_; clear hb hbox hg; have hnb8 := NB121_119.out; have hnc8 := NB119_121.out; obtain ⟨hcz9_0, hcz9_1, hcz9_2, hfz9_0, hfz9_1, hfz9_2⟩ := zc3 BK121.out)))
     (try simp only [Act.put, List.setIfInBounds_toArray, List.set_cons_zero, List.set_cons_succ])
     go_cut [34] (fun v34 wc => ∃ (kq : Nat) (x34_4 : Bool), v34 = .bool x34_4 ∧ Aside0 (spec_NearOk.j1 kq x3_1 x34_4 l0_0 l0_1 ((rd_T99 l0_0 x3_1).f0) ((rd_T99 l0_0 x3_1).f1) ((rd_T99 l0_0 x3_1).f2) = some r) ∧ Aside0 (kq ≤ k1) ∧ Aside0 (wc.heap[gb119]? = some (.cells #[(.slice (some ad120) l0_0.length c0_0), (.slice A0_1 l0_1.length c0_1)] 42 (0, 0))) ∧ Aside0 (wc.heap[gb121]? = some (.cells #[.int .i64 ((rd_T99 l0_0 x3_1).f0), .int .i64 ((rd_T99 l0_0 x3_1).f1), .int .i64 ((rd_T99 l0_0 x3_1).f2)] 99 (0, 0))) ∧ Aside0 (Below w.heap.size w wc))
     case first =>
      have H := HC5.out;clear HC5;replace H := ze H;obtain ⟨t122, A100, H⟩ := H;replace H : (if t122 = true then ((spec_l1In.f ((rd_T99 l0_0 x3_1).f1) 0 254).bind fun t123 => (if t123 = true then ((spec_l1In.f ((rd_T99 l0_0 x3_1).f2) 0 1000000).bind fun t124 => (spec_NearOk.j1 k1 x3_1 (!t124) l0_0 l0_1 ((rd_T99 l0_0 x3_1).f0) ((rd_T99 l0_0 x3_1).f1) ((rd_T99 l0_0 x3_1).f2))) else (spec_NearOk.j1 k1 x3_1 true l0_0 l0_1 ((rd_T99 l0_0 x3_1).f0) ((rd_T99 l0_0 x3_1).f1) ((rd_T99 l0_0 x3_1).f2)))) else (spec_NearOk.j1 k1 x3_1 true l0_0 l0_1 ((rd_T99 l0_0 x3_1).f0) ((rd_T99 l0_0 x3_1).f1) ((rd_T99 l0_0 x3_1).f2))) = some r := H;have A10 := Aside0.mk A100;clear A100
      by_cases c11 : t122 = true
      ·subst c11
       have H1 : ((spec_l1In.f ((rd_T99 l0_0 x3_1).f1) 0 254).bind fun t123 => (if t123 = true then ((spec_l1In.f ((rd_T99 l0_0 x3_1).f2) 0 1000000).bind fun t124 => (spec_NearOk.j1 k1 x3_1 (!t124) l0_0 l0_1 ((rd_T99 l0_0 x3_1).f0) ((rd_T99 l0_0 x3_1).f1) ((rd_T99 l0_0 x3_1).f2))) else (spec_NearOk.j1 k1 x3_1 true l0_0 l0_1 ((rd_T99 l0_0 x3_1).f0) ((rd_T99 l0_0 x3_1).f1) ((rd_T99 l0_0 x3_1).f2)))) = some r := by rw [if_pos rfl] at H; exact H
       clear H;have H := H1;clear H1;replace H := ze H;obtain ⟨t123, A120, H⟩ := H;replace H : (if t123 = true then ((spec_l1In.f ((rd_T99 l0_0 x3_1).f2) 0 1000000).bind fun t124 => (spec_NearOk.j1 k1 x3_1 (!t124) l0_0 l0_1 ((rd_T99 l0_0 x3_1).f0) ((rd_T99 l0_0 x3_1).f1) ((rd_T99 l0_0 x3_1).f2))) else (spec_NearOk.j1 k1 x3_1 true l0_0 l0_1 ((rd_T99 l0_0 x3_1).f0) ((rd_T99 l0_0 x3_1).f1) ((rd_T99 l0_0 x3_1).f2))) = some r := H;have A12 := Aside0.mk A120;clear A120
       by_cases c13 : t123 = true
       ·subst c13
        have H1 : ((spec_l1In.f ((rd_T99 l0_0 x3_1).f2) 0 1000000).bind fun t124 => (spec_NearOk.j1 k1 x3_1 (!t124) l0_0 l0_1 ((rd_T99 l0_0 x3_1).f0) ((rd_T99 l0_0 x3_1).f1) ((rd_T99 l0_0 x3_1).f2))) = some r := by rw [if_pos rfl] at H; exact H
        clear H;have H := H1;clear H1;replace H := ze H;obtain ⟨t124, A140, H⟩ := H;replace H : (spec_NearOk.j1 k1 x3_1 (!t124) l0_0 l0_1 ((rd_T99 l0_0 x3_1).f0) ((rd_T99 l0_0 x3_1).f1) ((rd_T99 l0_0 x3_1).f2)) = some r := H;have A14 := Aside0.mk A140;clear A140;have H' := Aside0.mk H;clear H;have hnb15 := NB121_119.out;have hnc15 := NB119_121.out;obtain ⟨hcz16_0, hcz16_1, hcz16_2, hfz16_0, hfz16_1, hfz16_2⟩ := zc3 BK121.out
        go_wp2_with (first | (go_at_call 60; (with_reducible refine (spec_l1In.calls ((rd_T99 l0_0 x3_1).f0) 0 65535 true _ A10.out).mono ?_); rintro e w' ⟨rfl, ⟨nd, rfl⟩⟩; (try first | exact ⟨rfl, _, World.drewN_drewN _ _ _⟩ | exact ⟨rfl, _, Eq.trans (World.drewN_drewN _ _ _) (congrArg (World.drewN _) (Nat.add_assoc _ _ _))⟩)) | (go_at_call 60; (with_reducible refine (spec_l1In.calls ((rd_T99 l0_0 x3_1).f1) 0 254 true _ A12.out).mono ?_); rintro e w' ⟨rfl, ⟨nd, rfl⟩⟩; (try first | exact ⟨rfl, _, World.drewN_drewN _ _ _⟩ | exact ⟨rfl, _, Eq.trans (World.drewN_drewN _ _ _) (congrArg (World.drewN _) (Nat.add_assoc _ _ _))⟩)) | (go_at_call 60; (with_reducible refine (spec_l1In.calls ((rd_T99 l0_0 x3_1).f2) 0 1000000 t124 _ A14.out).mono ?_); rintro e w' ⟨rfl, ⟨nd, rfl⟩⟩; (try first | exact ⟨rfl, _, World.drewN_drewN _ _ _⟩ | exact ⟨rfl, _, Eq.trans (World.drewN_drewN _ _ _) (congrArg (World.drewN _) (Nat.add_assoc _ _ _))⟩)))
        repeat (go_quiet (first | (go_at_call 60; (with_reducible refine (spec_l1In.calls ((rd_T99 l0_0 x3_1).f0) 0 65535 true _ A10.out).mono ?_); rintro e w' ⟨rfl, ⟨nd, rfl⟩⟩; (try first | exact ⟨rfl, _, World.drewN_drewN _ _ _⟩ | exact ⟨rfl, _, Eq.trans (World.drewN_drewN _ _ _) (congrArg (World.drewN _) (Nat.add_assoc _ _ _))⟩)) | (go_at_call 60; (with_reducible refine (spec_l1In.calls ((rd_T99 l0_0 x3_1).f1) 0 254 true _ A12.out).mono ?_); rintro e w' ⟨rfl, ⟨nd, rfl⟩⟩; (try first | exact ⟨rfl, _, World.drewN_drewN _ _ _⟩ | exact ⟨rfl, _, Eq.trans (World.drewN_drewN _ _ _) (congrArg (World.drewN _) (Nat.add_assoc _ _ _))⟩)) | (go_at_call 60; (with_reducible refine (spec_l1In.calls ((rd_T99 l0_0 x3_1).f2) 0 1000000 t124 _ A14.out).mono ?_); rintro e w' ⟨rfl, ⟨nd, rfl⟩⟩; (try first | exact ⟨rfl, _, World.drewN_drewN _ _ _⟩ | exact ⟨rfl, _, Eq.trans (World.drewN_drewN _ _ _) (congrArg (World.drewN _) (Nat.add_assoc _ _ _))⟩))); try go_wp2_with (first | (go_at_call 60; (with_reducible refine (spec_l1In.calls ((rd_T99 l0_0 x3_1).f0) 0 65535 true _ A10.out).mono ?_); rintro e w' ⟨rfl, ⟨nd, rfl⟩⟩; (try first | exact ⟨rfl, _, World.drewN_drewN _ _ _⟩ | exact ⟨rfl, _, Eq.trans (World.drewN_drewN _ _ _) (congrArg (World.drewN _) (Nat.add_assoc _ _ _))⟩)) | (go_at_call 60; (with_reducible refine (spec_l1In.calls ((rd_T99 l0_0 x3_1).f1) 0 254 true _ A12.out).mono ?_); rintro e w' ⟨rfl, ⟨nd, rfl⟩⟩; (try first | exact ⟨rfl, _, World.drewN_drewN _ _ _⟩ | exact ⟨rfl, _, Eq.trans (World.drewN_drewN _ _ _) (congrArg (World.drewN _) (Nat.add_assoc _ _ _))⟩)) | (go_at_call 60; (with_reducible refine (spec_l1In.calls ((rd_T99 l0_0 x3_1).f2) 0 1000000 t124 _ A14.out).mono ?_); rintro e w' ⟨rfl, ⟨nd, rfl⟩⟩; (try first | exact ⟨rfl, _, World.drewN_drewN _ _ _⟩ | exact ⟨rfl, _, Eq.trans (World.drewN_drewN _ _ _) (congrArg (World.drewN _) (Nat.add_assoc _ _ _))⟩))))
        go_meet
        case rel => exact ⟨_, (!t124), (by first | rfl | (simp; done) | (simp [*]; done)), H', ⟨by have := HK1.out; first | omega | exact Nat.le_refl _⟩, ⟨by (with_reducible repeat (first | apply blk_drewN | apply blk_drew | apply blk_alloc)); refine blk_far ?_ NB119_121.out _; refine blk_far ?_ NB119_121.out _; refine blk_far ?_ NB119_121.out _; (with_reducible repeat (first | apply blk_drewN | apply blk_drew | apply blk_alloc)); exact BK119.out⟩, ⟨by (with_reducible repeat (first | apply blk_drewN | apply blk_drew | apply blk_alloc)); refine blk_put (cs := #[.int .i64 ((rd_T99 l0_0 x3_1).f0), .int .i64 ((rd_T99 l0_0 x3_1).f1), .int .i64 0]) ?_ 2 _ rfl; refine blk_put (cs := #[.int .i64 ((rd_T99 l0_0 x3_1).f0), .int .i64 0, .int .i64 0]) ?_ 1 _ rfl; refine blk_put (cs := #[.int .i64 0, .int .i64 0, .int .i64 0]) ?_ 0 _ rfl; (with_reducible repeat (first | apply blk_drewN | apply blk_drew | apply blk_alloc)); exact BK121.out⟩, ⟨by repeat (first | (with_reducible first | exact HB.out | apply below_alloc | apply pw_below_drewN | apply below_drew1 | refine below_set ?_ GE119.out | refine below_set ?_ GE121.out) | exact HB.out)⟩⟩
       ·replace c13 := Bool.eq_false_iff.mpr c13
        subst c13
        have H1 : (spec_NearOk.j1 k1 x3_1 true l0_0 l0_1 ((rd_T99 l0_0 x3_1).f0) ((rd_T99 l0_0 x3_1).f1) ((rd_T99 l0_0 x3_1).f2)) = some r := by rw [if_neg (show ¬ (false = true) by decide)] at H; exact H
        clear H;have H := H1;clear H1;have H' := Aside0.mk H;clear H;have hnb17 := NB121_119.out;have hnc17 := NB119_121.out;obtain ⟨hcz18_0, hcz18_1, hcz18_2, hfz18_0, hfz18_1, hfz18_2⟩ := zc3 BK121.out
        go_wp2_with (first | (go_at_call 60; (with_reducible refine (spec_l1In.calls ((rd_T99 l0_0 x3_1).f0) 0 65535 true _ A10.out).mono ?_); rintro e w' ⟨rfl, ⟨nd, rfl⟩⟩; (try first | exact ⟨rfl, _, World.drewN_drewN _ _ _⟩ | exact ⟨rfl, _, Eq.trans (World.drewN_drewN _ _ _) (congrArg (World.drewN _) (Nat.add_assoc _ _ _))⟩)) | (go_at_call 60; (with_reducible refine (spec_l1In.calls ((rd_T99 l0_0 x3_1).f1) 0 254 false _ A12.out).mono ?_); rintro e w' ⟨rfl, ⟨nd, rfl⟩⟩; (try first | exact ⟨rfl, _, World.drewN_drewN _ _ _⟩ | exact ⟨rfl, _, Eq.trans (World.drewN_drewN _ _ _) (congrArg (World.drewN _) (Nat.add_assoc _ _ _))⟩)))
        repeat (go_quiet (first | (go_at_call 60; (with_reducible refine (spec_l1In.calls ((rd_T99 l0_0 x3_1).f0) 0 65535 true _ A10.out).mono ?_); rintro e w' ⟨rfl, ⟨nd, rfl⟩⟩; (try first | exact ⟨rfl, _, World.drewN_drewN _ _ _⟩ | exact ⟨rfl, _, Eq.trans (World.drewN_drewN _ _ _) (congrArg (World.drewN _) (Nat.add_assoc _ _ _))⟩)) | (go_at_call 60; (with_reducible refine (spec_l1In.calls ((rd_T99 l0_0 x3_1).f1) 0 254 false _ A12.out).mono ?_); rintro e w' ⟨rfl, ⟨nd, rfl⟩⟩; (try first | exact ⟨rfl, _, World.drewN_drewN _ _ _⟩ | exact ⟨rfl, _, Eq.trans (World.drewN_drewN _ _ _) (congrArg (World.drewN _) (Nat.add_assoc _ _ _))⟩))); try go_wp2_with (first | (go_at_call 60; (with_reducible refine (spec_l1In.calls ((rd_T99 l0_0 x3_1).f0) 0 65535 true _ A10.out).mono ?_); rintro e w' ⟨rfl, ⟨nd, rfl⟩⟩; (try first | exact ⟨rfl, _, World.drewN_drewN _ _ _⟩ | exact ⟨rfl, _, Eq.trans (World.drewN_drewN _ _ _) (congrArg (World.drewN _) (Nat.add_assoc _ _ _))⟩)) | (go_at_call 60; (with_reducible refine (spec_l1In.calls ((rd_T99 l0_0 x3_1).f1) 0 254 false _ A12.out).mono ?_); rintro e w' ⟨rfl, ⟨nd, rfl⟩⟩; (try first | exact ⟨rfl, _, World.drewN_drewN _ _ _⟩ | exact ⟨rfl, _, Eq.trans (World.drewN_drewN _ _ _) (congrArg (World.drewN _) (Nat.add_assoc _ _ _))⟩))))
        go_meet
        case rel => exact ⟨_, (true), (by first | rfl | (simp; done) | (simp [*]; done)), H', ⟨by have := HK1.out; first | omega | exact Nat.le_refl _⟩, ⟨by (with_reducible repeat (first | apply blk_drewN | apply blk_drew | apply blk_alloc)); refine blk_far ?_ NB119_121.out _; refine blk_far ?_ NB119_121.out _; refine blk_far ?_ NB119_121.out _; (with_reducible repeat (first | apply blk_drewN | apply blk_drew | apply blk_alloc)); exact BK119.out⟩, ⟨by (with_reducible repeat (first | apply blk_drewN | apply blk_drew | apply blk_alloc)); refine blk_put (cs := #[.int .i64 ((rd_T99 l0_0 x3_1).f0), .int .i64 ((rd_T99 l0_0 x3_1).f1), .int .i64 0]) ?_ 2 _ rfl; refine blk_put (cs := #[.int .i64 ((rd_T99 l0_0 x3_1).f0), .int .i64 0, .int .i64 0]) ?_ 1 _ rfl; refine blk_put (cs := #[.int .i64 0, .int .i64 0, .int .i64 0]) ?_ 0 _ rfl; (with_reducible repeat (first | apply blk_drewN | apply blk_drew | apply blk_alloc)); exact BK121.out⟩, ⟨by repeat (first | (with_reducible first | exact HB.out | apply below_alloc | apply pw_below_drewN | apply below_drew1 | refine below_set ?_ GE119.out | refine below_set ?_ GE121.out) | exact HB.out)⟩⟩
      ·replace c11 := Bool.eq_false_iff.mpr c11
       subst c11
       have H1 : (spec_NearOk.j1 k1 x3_1 true l0_0 l0_1 ((rd_T99 l0_0 x3_1).f0) ((rd_T99 l0_0 x3_1).f1) ((rd_T99 l0_0 x3_1).f2)) = some r := by rw [if_neg (show ¬ (false = true) by decide)] at H; exact H
       clear H;have H := H1;clear H1;have H' := Aside0.mk H;clear H;have hnb19 := NB121_119.out;have hnc19 := NB119_121.out;obtain ⟨hcz20_0, hcz20_1, hcz20_2, hfz20_0, hfz20_1, hfz20_2⟩ := zc3 BK121.out
       go_wp2_with (first | (go_at_call 60; (with_reducible refine (spec_l1In.calls ((rd_T99 l0_0 x3_1).f0) 0 65535 false _ A10.out).mono ?_); rintro e w' ⟨rfl, ⟨nd, rfl⟩⟩; (try first | exact ⟨rfl, _, World.drewN_drewN _ _ _⟩ | exact ⟨rfl, _, Eq.trans (World.drewN_drewN _ _ _) (congrArg (World.drewN _) (Nat.add_assoc _ _ _))⟩)))
       repeat (go_quiet (first | (go_at_call 60; (with_reducible refine (spec_l1In.calls ((rd_T99 l0_0 x3_1).f0) 0 65535 false _ A10.out).mono ?_); rintro e w' ⟨rfl, ⟨nd, rfl⟩⟩; (try first | exact ⟨rfl, _, World.drewN_drewN _ _ _⟩ | exact ⟨rfl, _, Eq.trans (World.drewN_drewN _ _ _) (congrArg (World.drewN _) (Nat.add_assoc _ _ _))⟩))); try go_wp2_with (first | (go_at_call 60; (with_reducible refine (spec_l1In.calls ((rd_T99 l0_0 x3_1).f0) 0 65535 false _ A10.out).mono ?_); rintro e w' ⟨rfl, ⟨nd, rfl⟩⟩; (try first | exact ⟨rfl, _, World.drewN_drewN _ _ _⟩ | exact ⟨rfl, _, Eq.trans (World.drewN_drewN _ _ _) (congrArg (World.drewN _) (Nat.add_assoc _ _ _))⟩))))
       go_meet
       case rel => exact ⟨_, (true), (by first | rfl | (simp; done) | (simp [*]; done)), H', ⟨by have := HK1.out; first | omega | exact Nat.le_refl _⟩, ⟨by (with_reducible repeat (first | apply blk_drewN | apply blk_drew | apply blk_alloc)); refine blk_far ?_ NB119_121.out _; refine blk_far ?_ NB119_121.out _; refine blk_far ?_ NB119_121.out _; (with_reducible repeat (first | apply blk_drewN | apply blk_drew | apply blk_alloc)); exact BK119.out⟩, ⟨by (with_reducible repeat (first | apply blk_drewN | apply blk_drew | apply blk_alloc)); refine blk_put (cs := #[.int .i64 ((rd_T99 l0_0 x3_1).f0), .int .i64 ((rd_T99 l0_0 x3_1).f1), .int .i64 0]) ?_ 2 _ rfl; refine blk_put (cs := #[.int .i64 ((rd_T99 l0_0 x3_1).f0), .int .i64 0, .int .i64 0]) ?_ 1 _ rfl; refine blk_put (cs := #[.int .i64 0, .int .i64 0, .int .i64 0]) ?_ 0 _ rfl; (with_reducible repeat (first | apply blk_drewN | apply blk_drew | apply blk_alloc)); exact BK121.out⟩, ⟨by repeat (first | (with_reducible first | exact HB.out | apply below_alloc | apply pw_below_drewN | apply below_drew1 | refine below_set ?_ GE119.out | refine below_set ?_ GE121.out) | exact HB.out)⟩⟩
     case rest =>
      clear HC5
      try clear c1
      try clear p1
      try clear q1
      try clear hx1
      try clear p2
      try clear c3
      try clear c3b0
      try clear c4
      try clear c4b0
      try clear c8
      try clear c11
      try clear p12
      try clear q12
      try clear hx12
      try clear c13
      try clear c15
      try clear c17
      try clear c19
      try clear hcz16_0
      try clear hcz16_1
      try clear hcz16_2
      try clear hcz18_0
      try clear hcz18_1
      try clear hcz18_2
      try clear hcz20_0
      try clear hcz20_1
      try clear hcz20_2
      try clear hcz6_0
      try clear hcz6_1
      try clear hcz9_0
      try clear hcz9_1
      try clear hcz9_2
      try clear hfz16_0
      try clear hfz16_1
      try clear hfz16_2
      try clear hfz18_0
      try clear hfz18_1
      try clear hfz18_2
      try clear hfz20_0
      try clear hfz20_1
      try clear hfz20_2
      try clear hfz6_0
      try clear hfz6_1
      try clear hfz9_0
      try clear hfz9_1
      try clear hfz9_2
      try clear hx120_0
      try clear hx120_1
      try clear hx120_2
      try clear p120
      try clear p2
      try clear q120
      obtain ⟨kq, x34_4, rfl, HA, HJ4, BK119, BK121, HB⟩ := hcut
      cases kq with
      | zero => exact absurd HA.out (by simp [spec_NearOk.j1])
      | succ kj4 =>
       have H := HA.out;clear HA;simp only [spec_NearOk.j1] at H
       by_cases c21 : x34_4 = true
       ·subst c21
        have H1 : (some false) = some r := by rw [if_pos rfl] at H; exact H
        clear H;have H := H1;clear H1;obtain rfl := Option.some.inj H
        go_wp2
        repeat (go_quiet (fail); try go_wp2)
        go_ret;exact ⟨by first | rfl | (simp <;> rfl) | (simp [*] <;> rfl), by repeat (first | (with_reducible first | exact HB.out | apply below_alloc | apply pw_below_drewN | apply below_drew1 | refine below_set ?_ GE119.out | refine below_set ?_ GE121.out) | exact HB.out)⟩
       ·replace c21 := Bool.eq_false_iff.mpr c21
        subst c21
        have H1 : (spec_NearOk.l1 kj4 x3_1 0 l0_0 l0_1 ((rd_T99 l0_0 x3_1).f0) ((rd_T99 l0_0 x3_1).f1) ((rd_T99 l0_0 x3_1).f2)) = some r := by rw [if_neg (show ¬ (false = true) by decide)] at H; exact H
        clear H;have H := H1;clear H1;have H' := Aside0.mk H;clear H
        go_wp2
        repeat (go_quiet (fail); try go_wp2)
        go_loopg [5] kj4 (fun kq v5 w' => ∃ (x5_3 : Int), v5 = .int .i64 x5_3 ∧ Aside0 (spec_NearOk.l1 kq x3_1 x5_3 l0_0 l0_1 ((rd_T99 l0_0 x3_1).f0) ((rd_T99 l0_0 x3_1).f1) ((rd_T99 l0_0 x3_1).f2) = some r) ∧ Aside0 (kq ≤ kj4) ∧ Aside0 (w'.heap[gb119]? = some (.cells #[(.slice (some ad120) l0_0.length c0_0), (.slice A0_1 l0_1.length c0_1)] 42 (0, 0))) ∧ Aside0 (w'.heap[gb121]? = some (.cells #[.int .i64 ((rd_T99 l0_0 x3_1).f0), .int .i64 ((rd_T99 l0_0 x3_1).f1), .int .i64 ((rd_T99 l0_0 x3_1).f2)] 99 (0, 0))) ∧ Aside0 (Below w.heap.size w w'))
        case atStart => exact ⟨(0), (by first | rfl | (simp; done) | (simp [*]; done)), H', ⟨Nat.le_refl _⟩, ⟨by (with_reducible repeat (first | apply blk_drewN | apply blk_drew | apply blk_alloc)); exact BK119.out⟩, ⟨by (with_reducible repeat (first | apply blk_drewN | apply blk_drew | apply blk_alloc)); exact BK121.out⟩, ⟨by repeat (first | (with_reducible first | exact HB.out | apply below_alloc | apply pw_below_drewN | apply below_drew1 | refine below_set ?_ GE119.out | refine below_set ?_ GE121.out) | exact HB.out)⟩⟩
        case round =>
         clear H'
         try clear c1
         try clear p1
         try clear q1
         try clear hx1
         try clear c2
         try clear p2
         try clear c3
         try clear c3b0
         try clear c4
         try clear c4b0
         try clear c8
         try clear c11
         try clear p12
         try clear q12
         try clear hx12
         try clear c13
         try clear c15
         try clear c17
         try clear c19
         try clear c21
         try clear hcz16_0
         try clear hcz16_1
         try clear hcz16_2
         try clear hcz18_0
         try clear hcz18_1
         try clear hcz18_2
         try clear hcz20_0
         try clear hcz20_1
         try clear hcz20_2
         try clear hcz6_0
         try clear hcz6_1
         try clear hcz9_0
         try clear hcz9_1
         try clear hcz9_2
         try clear hfz16_0
         try clear hfz16_1
         try clear hfz16_2
         try clear hfz18_0
         try clear hfz18_1
         try clear hfz18_2
         try clear hfz20_0
         try clear hfz20_1
         try clear hfz20_2
         try clear hfz6_0
         try clear hfz6_1
         try clear hfz9_0
         try clear hfz9_1
         try clear hfz9_2
         try clear hx120_0
         try clear hx120_1
         try clear hx120_2
         try clear p1
         try clear p12
         try clear p120
         try clear p2
         try clear q1
         try clear q12
         try clear q120
         obtain ⟨x5_3, rfl, HA, HK3, BK119, BK121, HB⟩ := hrel
         cases gk with
         | zero => exact absurd HA.out (by simp [spec_NearOk.l1])
         | succ k3 =>
          have H := HA.out;clear HA;simp only [spec_NearOk.l1] at H
          by_cases c22 : x5_3 < x3_1
          ·rw [if_pos c22] at H
           have c22b0 : decide (x5_3 < x3_1) = true := decide_eq_true c22;clear c22
           by_cases c23 : 0 ≤ x5_3
           ·rw [if_pos c23] at H
            have c23b0 : decide (0 ≤ x5_3) = true := decide_eq_true c23;clear c23
            by_cases c24 : x5_3 < (l0_0.length : Int)
            ·rw [if_pos c24] at H
             have c24b0 : decide (x5_3 < (l0_0.length : Int)) = true := decide_eq_true c24;clear c24
             by_cases c25 : ((rd_T99 l0_0 x5_3).f0) = ((rd_T99 l0_0 x3_1).f0)
             ·rw [if_pos c25] at H
              have c25b0 : (((rd_T99 l0_0 x5_3).f0) == ((rd_T99 l0_0 x3_1).f0)) = true := beq_iff_eq.mpr c25;have c25b1 : (((rd_T99 l0_0 x5_3).f0) != ((rd_T99 l0_0 x3_1).f0)) = false := bne_eq_false_iff_eq.mpr c25;clear c25;obtain rfl := Option.some.inj H;have hnb26 := NB119_121.out;have hnc26 := NB121_119.out;obtain ⟨hcz27_0, hcz27_1, hfz27_0, hfz27_1⟩ := zc2 BK119.out;have p125 : 0 ≤ (x5_3 : Int) := of_decide_eq_true (by first | (with_reducible assumption) | assumption);have q125 : x5_3 < (l0_0.length : Int) := of_decide_eq_true (by first | (with_reducible assumption) | assumption);obtain ⟨ad125, e125, hx125_0, hx125_1, hx125_2⟩ := at_T99 HR0_0.out x5_3 p125 q125;obtain rfl : ad120 = ad125 := (by injection e125);replace hx125_0 := (HB.out.cell (World.block_lt_of_cell? w _ hx125_0)).trans hx125_0;replace hx125_1 := (HB.out.cell (World.block_lt_of_cell? w _ hx125_1)).trans hx125_1;replace hx125_2 := (HB.out.cell (World.block_lt_of_cell? w _ hx125_2)).trans hx125_2;replace p125 := eq_true p125;replace q125 := eq_true q125;obtain ⟨hcz28_0, hcz28_1, hcz28_2, hfz28_0, hfz28_1, hfz28_2⟩ := zc3 BK121.out
              go_wp2
              repeat (go_quiet (fail); try go_wp2)
              go_ret;exact ⟨by first | rfl | (simp <;> rfl) | (simp [*] <;> rfl), by repeat (first | (with_reducible first | exact HB.out | apply below_alloc | apply pw_below_drewN | apply below_drew1 | refine below_set ?_ GE119.out | refine below_set ?_ GE121.out) | exact HB.out)⟩
             ·rw [if_neg c25] at H
              have c25b0 : (((rd_T99 l0_0 x5_3).f0) == ((rd_T99 l0_0 x3_1).f0)) = false := beq_eq_false_iff_ne.mpr c25;have c25b1 : (((rd_T99 l0_0 x5_3).f0) != ((rd_T99 l0_0 x3_1).f0)) = true := bne_iff_ne.mpr c25;have H' := Aside0.mk H;clear H;have hnb29 := NB119_121.out;have hnc29 := NB121_119.out;obtain ⟨hcz30_0, hcz30_1, hfz30_0, hfz30_1⟩ := zc2 BK119.out;have p125 : 0 ≤ (x5_3 : Int) := of_decide_eq_true (by first | (with_reducible assumption) | assumption);have q125 : x5_3 < (l0_0.length : Int) := of_decide_eq_true (by first | (with_reducible assumption) | assumption);obtain ⟨ad125, e125, hx125_0, hx125_1, hx125_2⟩ := at_T99 HR0_0.out x5_3 p125 q125;obtain rfl : ad120 = ad125 := (by injection e125);replace hx125_0 := (HB.out.cell (World.block_lt_of_cell? w _ hx125_0)).trans hx125_0;replace hx125_1 := (HB.out.cell (World.block_lt_of_cell? w _ hx125_1)).trans hx125_1;replace hx125_2 := (HB.out.cell (World.block_lt_of_cell? w _ hx125_2)).trans hx125_2;replace p125 := eq_true p125;replace q125 := eq_true q125;obtain ⟨hcz31_0, hcz31_1, hcz31_2, hfz31_0, hfz31_1, hfz31_2⟩ := zc3 BK121.out
              go_wp2
              repeat (go_quiet (fail); try go_wp2)
              go_roundg k3
              case measure => have := HK1.out; have := HJ4.out; have := HK3.out; omega
              case rel => exact ⟨(wrap64 (x5_3 + 1)), (by first | rfl | (simp; done) | (simp [*]; done)), H', ⟨by have := HK1.out; have := HJ4.out; have := HK3.out; omega⟩, ⟨by (with_reducible repeat (first | apply blk_drewN | apply blk_drew | apply blk_alloc)); exact BK119.out⟩, ⟨by (with_reducible repeat (first | apply blk_drewN | apply blk_drew | apply blk_alloc)); exact BK121.out⟩, ⟨by repeat (first | (with_reducible first | exact HB.out | apply below_alloc | apply pw_below_drewN | apply below_drew1 | refine below_set ?_ GE119.out | refine below_set ?_ GE121.out) | exact HB.out)⟩⟩
            ·rw [if_neg c24] at H
             exact absurd H (by simp)
           ·rw [if_neg c23] at H
            exact absurd H (by simp)
          ·rw [if_neg c22] at H
           have c22b0 : decide (x5_3 < x3_1) = false := decide_eq_false c22;clear c22;have H' := Aside0.mk H;clear H
           go_wp2
           repeat (go_quiet (fail); try go_wp2)
           go_roundg k3
           case measure => have := HK1.out; have := HJ4.out; have := HK3.out; omega
           case rel => exact ⟨(wrap64 (x3_1 + 1)), (by first | rfl | (simp; done) | (simp [*]; done)), H', ⟨by have := HK1.out; have := HJ4.out; have := HK3.out; omega⟩, ⟨by (with_reducible repeat (first | apply blk_drewN | apply blk_drew | apply blk_alloc)); exact BK119.out⟩, ⟨by repeat (first | (with_reducible first | exact HB.out | apply below_alloc | apply pw_below_drewN | apply below_drew1 | refine below_set ?_ GE119.out | refine below_set ?_ GE121.out) | exact HB.out)⟩⟩
    ·rw [if_neg c4] at H
     exact absurd H (by simp)
   ·rw [if_neg c3] at H
    have c3b0 : decide (x3_1 < (l0_0.length : Int)) = false := decide_eq_false c3;clear c3;have H' := Aside0.mk H;clear H;obtain ⟨hcz32_0, hcz32_1, hfz32_0, hfz32_1⟩ := zc2 BK119.out
    go_wp2
    repeat (go_quiet (fail); try go_wp2)
    go_loopg [6] k1 (fun kq v6 w' => ∃ (x6_2 : Int), v6 = .int .i64 x6_2 ∧ Aside0 (spec_NearOk.l2 kq x6_2 l0_0 l0_1 = some r) ∧ Aside0 (kq ≤ k1) ∧ Aside0 (w'.heap[gb119]? = some (.cells #[(.slice A0_0 l0_0.length c0_0), (.slice A0_1 l0_1.length c0_1)] 42 (0, 0))) ∧ Aside0 (Below w.heap.size w w'))
    case atStart => exact ⟨(0), (by first | rfl | (simp; done) | (simp [*]; done)), H', ⟨Nat.le_refl _⟩, ⟨by (with_reducible repeat (first | apply blk_drewN | apply blk_drew | apply blk_alloc)); exact BK119.out⟩, ⟨by repeat (first | (with_reducible first | exact HB.out | apply below_alloc | apply pw_below_drewN | apply below_drew1 | refine below_set ?_ GE119.out) | exact HB.out)⟩⟩
    case round =>
     clear H'
     try clear c1
     try clear p1
     try clear q1
     try clear hx1
     try clear c2
     try clear p2
     try clear c3
     try clear c3b0
     try clear c4
     try clear c4b0
     try clear p6
     try clear c8
     try clear c11
     try clear p12
     try clear q12
     try clear hx12
     try clear c13
     try clear c15
     try clear c17
     try clear c19
     try clear c21
     try clear c22
     try clear c22b0
     try clear c23
     try clear c23b0
     try clear c24
     try clear c24b0
     try clear c25
     try clear c25b0
     try clear c25b1
     try clear c26
     try clear c29
     try clear hcz16_0
     try clear hcz16_1
     try clear hcz16_2
     try clear hcz18_0
     try clear hcz18_1
     try clear hcz18_2
     try clear hcz20_0
     try clear hcz20_1
     try clear hcz20_2
     try clear hcz27_0
     try clear hcz27_1
     try clear hcz28_0
     try clear hcz28_1
     try clear hcz28_2
     try clear hcz30_0
     try clear hcz30_1
     try clear hcz31_0
     try clear hcz31_1
     try clear hcz31_2
     try clear hcz32_0
     try clear hcz32_1
     try clear hcz6_0
     try clear hcz6_1
     try clear hcz9_0
     try clear hcz9_1
     try clear hcz9_2
     try clear hfz16_0
     try clear hfz16_1
     try clear hfz16_2
     try clear hfz18_0
     try clear hfz18_1
     try clear hfz18_2
     try clear hfz20_0
     try clear hfz20_1
     try clear hfz20_2
     try clear hfz27_0
     try clear hfz27_1
     try clear hfz28_0
     try clear hfz28_1
     try clear hfz28_2
     try clear hfz30_0
     try clear hfz30_1
     try clear hfz31_0
     try clear hfz31_1
     try clear hfz31_2
     try clear hfz32_0
     try clear hfz32_1
     try clear hfz6_0
     try clear hfz6_1
     try clear hfz9_0
     try clear hfz9_1
     try clear hfz9_2
     try clear hx120_0
     try clear hx120_1
     try clear hx120_2
     try clear hx125_0
     try clear hx125_1
     try clear hx125_2
     try clear p1
     try clear p12
     try clear p120
     try clear p125
     try clear p2
     try clear q1
     try clear q12
     try clear q120
     try clear q125
     obtain ⟨x6_2, rfl, HA, HK2, BK119, HB⟩ := hrel
     cases gk with
     | zero => exact absurd HA.out (by simp [spec_NearOk.l2])
     | succ k2 =>
      have H := HA.out;clear HA;simp only [spec_NearOk.l2] at H
      by_cases c33 : x6_2 < (l0_1.length : Int)
      ·rw [if_pos c33] at H
       have c33b0 : decide (x6_2 < (l0_1.length : Int)) = true := decide_eq_true c33;clear c33
       by_cases c34 : 0 ≤ x6_2
       ·rw [if_pos c34] at H
        have c34b0 : decide (0 ≤ x6_2) = true := decide_eq_true c34;clear c34;replace H := ze H;obtain ⟨t127, A350, H⟩ := H;replace H : (if t127 = true then (if (((rd_T101 l0_1 x6_2).f1).length : Int) > 64 then (some false) else (spec_NearOk.l2 k2 (wrap64 (x6_2 + 1)) l0_0 l0_1)) else (some false)) = some r := H;have A35 := Aside0.mk A350;clear A350
        by_cases c36 : t127 = true
        ·subst c36
         have H1 : (if (((rd_T101 l0_1 x6_2).f1).length : Int) > 64 then (some false) else (spec_NearOk.l2 k2 (wrap64 (x6_2 + 1)) l0_0 l0_1)) = some r := by rw [if_pos rfl] at H; exact H
         clear H;have H := H1;clear H1
         by_cases c37 : (((rd_T101 l0_1 x6_2).f1).length : Int) > 64
         ·rw [if_pos c37] at H
          have c37b0 : decide (64 < (((rd_T101 l0_1 x6_2).f1).length : Int)) = true := decide_eq_true c37;have c37b1 : decide (64 < ((rd_T101 l0_1 x6_2).f1).length) = true := decide_eq_true (by omega);clear c37;obtain rfl := Option.some.inj H;obtain ⟨hcz38_0, hcz38_1, hfz38_0, hfz38_1⟩ := zc2 BK119.out;have p126 : 0 ≤ (x6_2 : Int) := of_decide_eq_true (by first | (with_reducible assumption) | assumption);have q126 : x6_2 < (l0_1.length : Int) := of_decide_eq_true (by first | (with_reducible assumption) | assumption);obtain ⟨ad126, A126_1, c126_1, e126, hx126_0, hx126_1, hl126_1, hi126_1⟩ := at_T101 HR0_1.out x6_2 p126 q126
          cases e126
          replace hx126_0 := (HB.out.cell (World.block_lt_of_cell? w _ hx126_0)).trans hx126_0;replace hx126_1 := (HB.out.cell (World.block_lt_of_cell? w _ hx126_1)).trans hx126_1;have HR126_1 := Aside0.mk hi126_1;have HC126_1 := Aside0.mk hl126_1;clear hi126_1 hl126_1;replace p126 := eq_true p126;replace q126 := eq_true q126
          go_wp2_with (first | (go_at_call 60; (with_reducible refine (spec_l1In.calls ((rd_T101 l0_1 x6_2).f0) 0 65535 true _ A35.out).mono ?_); rintro e w' ⟨rfl, ⟨nd, rfl⟩⟩; (try first | exact ⟨rfl, _, World.drewN_drewN _ _ _⟩ | exact ⟨rfl, _, Eq.trans (World.drewN_drewN _ _ _) (congrArg (World.drewN _) (Nat.add_assoc _ _ _))⟩); have p128 : 0 ≤ (x6_2 : Int) := of_decide_eq_true (by first | (with_reducible assumption) | assumption); have q128 : x6_2 < (l0_1.length : Int) := of_decide_eq_true (by first | (with_reducible assumption) | assumption); obtain ⟨ad128, A128_1, c128_1, e128, hx128_0, hx128_1, hl128_1, hi128_1⟩ := at_T101 HR0_1.out x6_2 p128 q128; obtain rfl : ad126 = ad128 := (by injection e128); replace hx128_0 := (HB.out.cell (World.block_lt_of_cell? w _ hx128_0)).trans hx128_0; replace hx128_1 := (HB.out.cell (World.block_lt_of_cell? w _ hx128_1)).trans hx128_1; have HR128_1 := Aside0.mk hi128_1; have HC128_1 := Aside0.mk hl128_1; clear hi128_1 hl128_1; replace p128 := eq_true p128; replace q128 := eq_true q128; have ea_ := Option.some.inj (hx126_1.symm.trans hx128_1); injection ea_ with ea_ en_ ec_; subst ea_; subst ec_; clear en_))
          repeat (go_quiet (first | (go_at_call 60; (with_reducible refine (spec_l1In.calls ((rd_T101 l0_1 x6_2).f0) 0 65535 true _ A35.out).mono ?_); rintro e w' ⟨rfl, ⟨nd, rfl⟩⟩; (try first | exact ⟨rfl, _, World.drewN_drewN _ _ _⟩ | exact ⟨rfl, _, Eq.trans (World.drewN_drewN _ _ _) (congrArg (World.drewN _) (Nat.add_assoc _ _ _))⟩); have p128 : 0 ≤ (x6_2 : Int) := of_decide_eq_true (by first | (with_reducible assumption) | assumption); have q128 : x6_2 < (l0_1.length : Int) := of_decide_eq_true (by first | (with_reducible assumption) | assumption); obtain ⟨ad128, A128_1, c128_1, e128, hx128_0, hx128_1, hl128_1, hi128_1⟩ := at_T101 HR0_1.out x6_2 p128 q128; obtain rfl : ad126 = ad128 := (by injection e128); replace hx128_0 := (HB.out.cell (World.block_lt_of_cell? w _ hx128_0)).trans hx128_0; replace hx128_1 := (HB.out.cell (World.block_lt_of_cell? w _ hx128_1)).trans hx128_1; have HR128_1 := Aside0.mk hi128_1; have HC128_1 := Aside0.mk hl128_1; clear hi128_1 hl128_1; replace p128 := eq_true p128; replace q128 := eq_true q128; have ea_ := Option.some.inj (hx126_1.symm.trans hx128_1); injection ea_ with ea_ en_ ec_; subst ea_; subst ec_; clear en_)); try go_wp2_with (first | (go_at_call 60; (with_reducible refine (spec_l1In.calls ((rd_T101 l0_1 x6_2).f0) 0 65535 true _ A35.out).mono ?_); rintro e w' ⟨rfl, ⟨nd, rfl⟩⟩; (try first | exact ⟨rfl, _, World.drewN_drewN _ _ _⟩ | exact ⟨rfl, _, Eq.trans (World.drewN_drewN _ _ _) (congrArg (World.drewN _) (Nat.add_assoc _ _ _))⟩); have p128 : 0 ≤ (x6_2 : Int) := of_decide_eq_true (by first | (with_reducible assumption) | assumption); have q128 : x6_2 < (l0_1.length : Int) := of_decide_eq_true (by first | (with_reducible assumption) | assumption); obtain ⟨ad128, A128_1, c128_1, e128, hx128_0, hx128_1, hl128_1, hi128_1⟩ := at_T101 HR0_1.out x6_2 p128 q128; obtain rfl : ad126 = ad128 := (by injection e128); replace hx128_0 := (HB.out.cell (World.block_lt_of_cell? w _ hx128_0)).trans hx128_0; replace hx128_1 := (HB.out.cell (World.block_lt_of_cell? w _ hx128_1)).trans hx128_1; have HR128_1 := Aside0.mk hi128_1; have HC128_1 := Aside0.mk hl128_1; clear hi128_1 hl128_1; replace p128 := eq_true p128; replace q128 := eq_true q128; have ea_ := Option.some.inj (hx126_1.symm.trans hx128_1); injection ea_ with ea_ en_ ec_; subst ea_; subst ec_; clear en_)))
          go_ret;exact ⟨by first | rfl | (simp <;> rfl) | (simp [*] <;> rfl), by repeat (first | (with_reducible first | exact HB.out | apply below_alloc | apply pw_below_drewN | apply below_drew1 | refine below_set ?_ GE119.out) | exact HB.out)⟩
         ·rw [if_neg c37] at H
          have c37b0 : decide (64 < (((rd_T101 l0_1 x6_2).f1).length : Int)) = false := decide_eq_false c37;have c37b1 : decide (64 < ((rd_T101 l0_1 x6_2).f1).length) = false := decide_eq_false (by omega);clear c37;have H' := Aside0.mk H;clear H;obtain ⟨hcz39_0, hcz39_1, hfz39_0, hfz39_1⟩ := zc2 BK119.out;have p126 : 0 ≤ (x6_2 : Int) := of_decide_eq_true (by first | (with_reducible assumption) | assumption);have q126 : x6_2 < (l0_1.length : Int) := of_decide_eq_true (by first | (with_reducible assumption) | assumption);obtain ⟨ad126, A126_1, c126_1, e126, hx126_0, hx126_1, hl126_1, hi126_1⟩ := at_T101 HR0_1.out x6_2 p126 q126
          cases e126
          replace hx126_0 := (HB.out.cell (World.block_lt_of_cell? w _ hx126_0)).trans hx126_0;replace hx126_1 := (HB.out.cell (World.block_lt_of_cell? w _ hx126_1)).trans hx126_1;have HR126_1 := Aside0.mk hi126_1;have HC126_1 := Aside0.mk hl126_1;clear hi126_1 hl126_1;replace p126 := eq_true p126;replace q126 := eq_true q126
          go_wp2_with (first | (go_at_call 60; (with_reducible refine (spec_l1In.calls ((rd_T101 l0_1 x6_2).f0) 0 65535 true _ A35.out).mono ?_); rintro e w' ⟨rfl, ⟨nd, rfl⟩⟩; (try first | exact ⟨rfl, _, World.drewN_drewN _ _ _⟩ | exact ⟨rfl, _, Eq.trans (World.drewN_drewN _ _ _) (congrArg (World.drewN _) (Nat.add_assoc _ _ _))⟩); have p128 : 0 ≤ (x6_2 : Int) := of_decide_eq_true (by first | (with_reducible assumption) | assumption); have q128 : x6_2 < (l0_1.length : Int) := of_decide_eq_true (by first | (with_reducible assumption) | assumption); obtain ⟨ad128, A128_1, c128_1, e128, hx128_0, hx128_1, hl128_1, hi128_1⟩ := at_T101 HR0_1.out x6_2 p128 q128; obtain rfl : ad126 = ad128 := (by injection e128); replace hx128_0 := (HB.out.cell (World.block_lt_of_cell? w _ hx128_0)).trans hx128_0; replace hx128_1 := (HB.out.cell (World.block_lt_of_cell? w _ hx128_1)).trans hx128_1; have HR128_1 := Aside0.mk hi128_1; have HC128_1 := Aside0.mk hl128_1; clear hi128_1 hl128_1; replace p128 := eq_true p128; replace q128 := eq_true q128; have ea_ := Option.some.inj (hx126_1.symm.trans hx128_1); injection ea_ with ea_ en_ ec_; subst ea_; subst ec_; clear en_))
          repeat (go_quiet (first | (go_at_call 60; (with_reducible refine (spec_l1In.calls ((rd_T101 l0_1 x6_2).f0) 0 65535 true _ A35.out).mono ?_); rintro e w' ⟨rfl, ⟨nd, rfl⟩⟩; (try first | exact ⟨rfl, _, World.drewN_drewN _ _ _⟩ | exact ⟨rfl, _, Eq.trans (World.drewN_drewN _ _ _) (congrArg (World.drewN _) (Nat.add_assoc _ _ _))⟩); have p128 : 0 ≤ (x6_2 : Int) := of_decide_eq_true (by first | (with_reducible assumption) | assumption); have q128 : x6_2 < (l0_1.length : Int) := of_decide_eq_true (by first | (with_reducible assumption) | assumption); obtain ⟨ad128, A128_1, c128_1, e128, hx128_0, hx128_1, hl128_1, hi128_1⟩ := at_T101 HR0_1.out x6_2 p128 q128; obtain rfl : ad126 = ad128 := (by injection e128); replace hx128_0 := (HB.out.cell (World.block_lt_of_cell? w _ hx128_0)).trans hx128_0; replace hx128_1 := (HB.out.cell (World.block_lt_of_cell? w _ hx128_1)).trans hx128_1; have HR128_1 := Aside0.mk hi128_1; have HC128_1 := Aside0.mk hl128_1; clear hi128_1 hl128_1; replace p128 := eq_true p128; replace q128 := eq_true q128; have ea_ := Option.some.inj (hx126_1.symm.trans hx128_1); injection ea_ with ea_ en_ ec_; subst ea_; subst ec_; clear en_)); try go_wp2_with (first | (go_at_call 60; (with_reducible refine (spec_l1In.calls ((rd_T101 l0_1 x6_2).f0) 0 65535 true _ A35.out).mono ?_); rintro e w' ⟨rfl, ⟨nd, rfl⟩⟩; (try first | exact ⟨rfl, _, World.drewN_drewN _ _ _⟩ | exact ⟨rfl, _, Eq.trans (World.drewN_drewN _ _ _) (congrArg (World.drewN _) (Nat.add_assoc _ _ _))⟩); have p128 : 0 ≤ (x6_2 : Int) := of_decide_eq_true (by first | (with_reducible assumption) | assumption); have q128 : x6_2 < (l0_1.length : Int) := of_decide_eq_true (by first | (with_reducible assumption) | assumption); obtain ⟨ad128, A128_1, c128_1, e128, hx128_0, hx128_1, hl128_1, hi128_1⟩ := at_T101 HR0_1.out x6_2 p128 q128; obtain rfl : ad126 = ad128 := (by injection e128); replace hx128_0 := (HB.out.cell (World.block_lt_of_cell? w _ hx128_0)).trans hx128_0; replace hx128_1 := (HB.out.cell (World.block_lt_of_cell? w _ hx128_1)).trans hx128_1; have HR128_1 := Aside0.mk hi128_1; have HC128_1 := Aside0.mk hl128_1; clear hi128_1 hl128_1; replace p128 := eq_true p128; replace q128 := eq_true q128; have ea_ := Option.some.inj (hx126_1.symm.trans hx128_1); injection ea_ with ea_ en_ ec_; subst ea_; subst ec_; clear en_)))
          go_roundg k2
          case measure => have := HK1.out; have := HK2.out; omega
          case rel => exact ⟨(wrap64 (x6_2 + 1)), (by first | rfl | (simp; done) | (simp [*]; done)), H', ⟨by have := HK1.out; have := HK2.out; omega⟩, ⟨by (with_reducible repeat (first | apply blk_drewN | apply blk_drew | apply blk_alloc)); exact BK119.out⟩, ⟨by repeat (first | (with_reducible first | exact HB.out | apply below_alloc | apply pw_below_drewN | apply below_drew1 | refine below_set ?_ GE119.out) | exact HB.out)⟩⟩
        ·replace c36 := Bool.eq_false_iff.mpr c36
         subst c36
         have H1 : (some false) = some r := by rw [if_neg (show ¬ (false = true) by decide)] at H; exact H
         clear H;have H := H1;clear H1;obtain rfl := Option.some.inj H;obtain ⟨hcz40_0, hcz40_1, hfz40_0, hfz40_1⟩ := zc2 BK119.out;have p126 : 0 ≤ (x6_2 : Int) := of_decide_eq_true (by first | (with_reducible assumption) | assumption);have q126 : x6_2 < (l0_1.length : Int) := of_decide_eq_true (by first | (with_reducible assumption) | assumption);obtain ⟨ad126, A126_1, c126_1, e126, hx126_0, hx126_1, hl126_1, hi126_1⟩ := at_T101 HR0_1.out x6_2 p126 q126
         cases e126
         replace hx126_0 := (HB.out.cell (World.block_lt_of_cell? w _ hx126_0)).trans hx126_0;replace hx126_1 := (HB.out.cell (World.block_lt_of_cell? w _ hx126_1)).trans hx126_1;have HR126_1 := Aside0.mk hi126_1;have HC126_1 := Aside0.mk hl126_1;clear hi126_1 hl126_1;replace p126 := eq_true p126;replace q126 := eq_true q126
         go_wp2_with (first | (go_at_call 60; (with_reducible refine (spec_l1In.calls ((rd_T101 l0_1 x6_2).f0) 0 65535 false _ A35.out).mono ?_); rintro e w' ⟨rfl, ⟨nd, rfl⟩⟩; (try first | exact ⟨rfl, _, World.drewN_drewN _ _ _⟩ | exact ⟨rfl, _, Eq.trans (World.drewN_drewN _ _ _) (congrArg (World.drewN _) (Nat.add_assoc _ _ _))⟩)))
         repeat (go_quiet (first | (go_at_call 60; (with_reducible refine (spec_l1In.calls ((rd_T101 l0_1 x6_2).f0) 0 65535 false _ A35.out).mono ?_); rintro e w' ⟨rfl, ⟨nd, rfl⟩⟩; (try first | exact ⟨rfl, _, World.drewN_drewN _ _ _⟩ | exact ⟨rfl, _, Eq.trans (World.drewN_drewN _ _ _) (congrArg (World.drewN _) (Nat.add_assoc _ _ _))⟩))); try go_wp2_with (first | (go_at_call 60; (with_reducible refine (spec_l1In.calls ((rd_T101 l0_1 x6_2).f0) 0 65535 false _ A35.out).mono ?_); rintro e w' ⟨rfl, ⟨nd, rfl⟩⟩; (try first | exact ⟨rfl, _, World.drewN_drewN _ _ _⟩ | exact ⟨rfl, _, Eq.trans (World.drewN_drewN _ _ _) (congrArg (World.drewN _) (Nat.add_assoc _ _ _))⟩))))
         go_ret;exact ⟨by first | rfl | (simp <;> rfl) | (simp [*] <;> rfl), by repeat (first | (with_reducible first | exact HB.out | apply below_alloc | apply pw_below_drewN | apply below_drew1 | refine below_set ?_ GE119.out) | exact HB.out)⟩
       ·rw [if_neg c34] at H
        exact absurd H (by simp)
      ·rw [if_neg c33] at H
       have c33b0 : decide (x6_2 < (l0_1.length : Int)) = false := decide_eq_false c33;clear c33
       by_cases c41 : (l0_0.length : Int) ≤ 4
       ·rw [if_pos c41] at H
        have c41b0 : decide ((l0_0.length : Int) ≤ 4) = true := decide_eq_true c41;have c41b1 : decide (l0_0.length ≤ 4) = true := decide_eq_true (by omega);clear c41;obtain rfl := Option.some.inj H;obtain ⟨hcz42_0, hcz42_1, hfz42_0, hfz42_1⟩ := zc2 BK119.out
        go_wp2
        repeat (go_quiet (fail); try go_wp2)
        go_ret;exact ⟨by first | rfl | (simp <;> rfl) | (simp [*] <;> rfl), by repeat (first | (with_reducible first | exact HB.out | apply below_alloc | apply pw_below_drewN | apply below_drew1 | refine below_set ?_ GE119.out) | exact HB.out)⟩
       ·rw [if_neg c41] at H
        have c41b0 : decide ((l0_0.length : Int) ≤ 4) = false := decide_eq_false c41;have c41b1 : decide (l0_0.length ≤ 4) = false := decide_eq_false (by omega);clear c41;obtain rfl := Option.some.inj H;obtain ⟨hcz43_0, hcz43_1, hfz43_0, hfz43_1⟩ := zc2 BK119.out
        go_wp2
        repeat (go_quiet (fail); try go_wp2)
        go_ret;exact ⟨by first | rfl | (simp <;> rfl) | (simp [*] <;> rfl), by repeat (first | (with_reducible first | exact HB.out | apply below_alloc | apply pw_below_drewN | apply below_drew1 | refine below_set ?_ GE119.out) | exact HB.out)⟩

end Go.Proofs.Ytdplboenlcppkaa.PFnNearFind

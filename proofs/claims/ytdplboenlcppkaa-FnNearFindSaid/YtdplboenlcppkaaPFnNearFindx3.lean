/- The machine side of some functions: each comes to its pure answer (written by a program of this session with the kit's print). No condition. -/
import Derived.Test.YtdplboenlcppkaaPFnNearFindx0
import Derived.Test.YtdplboenlcppkaaPFnNearFindx2
namespace Go.Proofs.Ytdplboenlcppkaa.PFnNearFind
open Go.RowKit Go.Proofs.YtdplboenlcppkaaUFnNearFind.PrintWords Go.Proofs.YtdplboenlcppkaaUFnNearFind.PrintLast Go.Proofs.YtdplboenlcppkaaUFnNearFind.PrintMore
attribute [local go_sem] max2_int min2_int max_two min_two max_three min_three max_four min_four   -- for this text's walks alone
set_option linter.unusedVariables false
set_option linter.unusedSimpArgs false

/-! ### spec_NearFind: function 54 -/
mutual
def spec_NearFind.l0 : Nat → Int → Int → Int → List (S99) → List (S101) → Option (Int)
 | 0, _, _, _, _, _ => none
 | k + 1, x1, x2, x7, x130000, x130001 => if x7 < (x130000.length : Int) then ((spec_NearOk.f k x130000 x130001).bind fun t130 => (spec_NearFind.j1 k x1 x2 x7 t130 x130000 x130001)) else (spec_NearFind.j1 k x1 x2 x7 false x130000 x130001)
def spec_NearFind.j1 : Nat → Int → Int → Int → Bool → List (S99) → List (S101) → Option (Int)
 | 0, _, _, _, _, _, _ => none
 | k + 1, x1, x2, x7, x16, x130000, x130001 => if x16 = true then (if 0 ≤ x7 then (if x7 < (x130000.length : Int) then (if ((rd_T99 x130000 x7).f0) = x1 then (if ((rd_T99 x130000 x7).f2) > x2 then (some ((rd_T99 x130000 x7).f1)) else (spec_NearFind.l0 k x1 x2 (wrap64 (x7 + 1)) x130000 x130001)) else (spec_NearFind.l0 k x1 x2 (wrap64 (x7 + 1)) x130000 x130001)) else (none)) else (none)) else (some (-1))
end
def spec_NearFind.f (k : Nat) (l0_0 : List (S99)) (l0_1 : List (S101)) (a1 : Int) (a2 : Int) : Option (Int) := spec_NearFind.l0 k a1 a2 0 l0_0 l0_1
theorem spec_NearFind.mono_l : ∀ k, (∀ y0 y1 y2 y3 y4, LeO (spec_NearFind.l0 k y0 y1 y2 y3 y4) (spec_NearFind.l0 (k + 1) y0 y1 y2 y3 y4)) ∧ (∀ y0 y1 y2 y3 y4 y5, LeO (spec_NearFind.j1 k y0 y1 y2 y3 y4 y5) (spec_NearFind.j1 (k + 1) y0 y1 y2 y3 y4 y5))
 | 0 => ⟨fun _ _ _ _ _ r h => by simp [spec_NearFind.l0] at h, fun _ _ _ _ _ _ r h => by simp [spec_NearFind.j1] at h⟩
 | k + 1 => by
  obtain ⟨ih0, ih1⟩ := spec_NearFind.mono_l k;refine ⟨?_, ?_⟩
  ·intro y0 y1 y2 y3 y4
   unfold spec_NearFind.l0
   repeat' first
   | (with_reducible exact ih0 _ _ _ _ _)
   | (with_reducible exact ih1 _ _ _ _ _ _)
   | (with_reducible exact spec_NearOk.mono _ _ _)
   | (with_reducible exact LeO.refl _)
   | (with_reducible exact LeO.none _)
   | (with_reducible refine LeO.ite ?_ ?_)
   | (with_reducible refine LeO.bind ?_ (fun _ => ?_))
   | exact ih0 _ _ _ _ _
   | exact ih1 _ _ _ _ _ _
   | exact spec_NearOk.mono _ _ _
   | exact LeO.none _
   | refine LeO.ite ?_ ?_
   | refine LeO.bind ?_ (fun _ => ?_)
  ·intro y0 y1 y2 y3 y4 y5
   unfold spec_NearFind.j1
   repeat' first
   | (with_reducible exact ih0 _ _ _ _ _)
   | (with_reducible exact ih1 _ _ _ _ _ _)
   | (with_reducible exact spec_NearOk.mono _ _ _)
   | (with_reducible exact LeO.refl _)
   | (with_reducible exact LeO.none _)
   | (with_reducible refine LeO.ite ?_ ?_)
   | (with_reducible refine LeO.bind ?_ (fun _ => ?_))
   | exact ih0 _ _ _ _ _
   | exact ih1 _ _ _ _ _ _
   | exact spec_NearOk.mono _ _ _
   | exact LeO.none _
   | refine LeO.ite ?_ ?_
   | refine LeO.bind ?_ (fun _ => ?_)
theorem spec_NearFind.mono : ∀ a0 a1 a2 a3 k, LeO (spec_NearFind.f k a0 a1 a2 a3) (spec_NearFind.f (k + 1) a0 a1 a2 a3) := by
 intro a0 a1 a2 a3 k;obtain ⟨ih0, ih1⟩ := spec_NearFind.mono_l k
 unfold spec_NearFind.f
 repeat' first
   | (with_reducible exact ih0 _ _ _ _ _)
   | (with_reducible exact ih1 _ _ _ _ _ _)
   | (with_reducible exact spec_NearOk.mono _ _ _)
   | (with_reducible exact LeO.refl _)
   | (with_reducible exact LeO.none _)
   | (with_reducible refine LeO.ite ?_ ?_)
   | (with_reducible refine LeO.bind ?_ (fun _ => ?_))
   | exact ih0 _ _ _ _ _
   | exact ih1 _ _ _ _ _ _
   | exact spec_NearOk.mono _ _ _
   | exact LeO.none _
   | refine LeO.ite ?_ ?_
   | refine LeO.bind ?_ (fun _ => ?_)
set_option maxHeartbeats 8000000 in
set_option maxRecDepth 100000 in
theorem spec_NearFind.calls (k : Nat) (A0_0 : Option Addr) (c0_0 : Nat) (l0_0 : List (S99)) (A0_1 : Option Addr) (c0_1 : Nat) (l0_1 : List (S101)) (a1 : Int) (a2 : Int) (r : Int) (w : World) (hr0_0 : Kd.C k99 w A0_0 l0_0.length l0_0) (hc0_0 : l0_0.length ≤ c0_0) (hr0_1 : Kd.C k101 w A0_1 l0_1.length l0_1) (hc0_1 : l0_1.length ≤ c0_1) (h : spec_NearFind.f k l0_0 l0_1 a1 a2 = some r) :
  Calls Try.prog 54 #[.agg #[.slice A0_0 l0_0.length c0_0, .slice A0_1 l0_1.length c0_1], .int .i64 a1, .int .i64 a2] w fun e w' => e = .returned (.int .i64 r) ∧ Below w.heap.size w w' := by
 have hu42 := Try.underlying42;have HR0_0 := Aside0.mk hr0_0;have HC0_0 := Aside0.mk hc0_0;clear hr0_0 hc0_0;have HR0_1 := Aside0.mk hr0_1;have HC0_1 := Aside0.mk hc0_1;clear hr0_1 hc0_1;have HB := Aside0.mk (Below.refl w.heap.size w);have H : (spec_NearFind.l0 k a1 a2 0 l0_0 l0_1) = some r := h;clear h;have H' := Aside0.mk H;clear H
 go_enter Try.func54, Try.ntmps54
 go_wp2_with (first | ((with_reducible refine gate_dst (N := 3) rfl ?_); refine box_event ?hg (N := 3) ?hd (cs := #[.slice A0_0 l0_0.length c0_0, .slice A0_1 l0_1.length c0_1]) (t := 42) ?hr ?_; (case hd => rfl); (case hg => rfl); (case hr => first | (go_simp; done) | (go_simp; rfl)); intro gb129 hg w4 hbox hb; have n0_ := Aside0.mk (below_step (by repeat (first | (with_reducible first | exact HB.out | apply below_alloc | apply pw_below_drewN | apply below_drew1) | exact HB.out)) hb); have n1_ := Aside0.mk (hbox); have n2_ := Aside0.mk ((by rw [hg]; exact (below_size (by repeat (first | (with_reducible first | exact HB.out | apply below_alloc | apply pw_below_drewN | apply below_drew1) | exact HB.out))) : w.heap.size ≤ gb129)); have n3_ := n2_; clear HB; have HB := n0_; have BK129 := n1_; have GW129 := n2_; have GE129 := n3_; clear n0_ n1_ n2_ n3_; clear hb hbox hg))
 go_loopg [7] k (fun kq v7 w' => ∃ (x7_1 : Int), v7 = .int .i64 x7_1 ∧ Aside0 (spec_NearFind.l0 kq a1 a2 x7_1 l0_0 l0_1 = some r) ∧ Aside0 (kq ≤ k) ∧ Aside0 (w'.heap[gb129]? = some (.cells #[(.slice A0_0 l0_0.length c0_0), (.slice A0_1 l0_1.length c0_1)] 42 (0, 0))) ∧ Aside0 (Below w.heap.size w w'))
 case atStart => exact ⟨(0), (by first | rfl | (simp; done) | (simp [*]; done)), H', ⟨Nat.le_refl _⟩, ⟨by (with_reducible repeat (first | apply blk_drewN | apply blk_drew | apply blk_alloc)); exact BK129.out⟩, ⟨by repeat (first | (with_reducible first | exact HB.out | apply below_alloc | apply pw_below_drewN | apply below_drew1 | refine below_set ?_ GE129.out) | exact HB.out)⟩⟩
 case round =>
  clear H'
  try clear p2
  obtain ⟨x7_1, rfl, HA, HK1, BK129, HB⟩ := hrel
  cases gk with
  | zero => exact absurd HA.out (by simp [spec_NearFind.l0])
  | succ k1 =>
   have H := HA.out;clear HA;simp only [spec_NearFind.l0] at H;have HC5 := Aside0.mk H;clear H
   go_upto_region 2 with (fail)
   go_cut [16] (fun v16 wc => ∃ (kq : Nat) (x16_4 : Bool), v16 = .bool x16_4 ∧ Aside0 (spec_NearFind.j1 kq a1 a2 x7_1 x16_4 l0_0 l0_1 = some r) ∧ Aside0 (kq ≤ k1) ∧ Aside0 (wc.heap[gb129]? = some (.cells #[(.slice A0_0 l0_0.length c0_0), (.slice A0_1 l0_1.length c0_1)] 42 (0, 0))) ∧ Aside0 (Below w.heap.size w wc))
   case first =>
    have H := HC5.out;clear HC5
    by_cases c6 : x7_1 < (l0_0.length : Int)
    ·rw [if_pos c6] at H
     have c6b0 : decide (x7_1 < (l0_0.length : Int)) = true := decide_eq_true c6;clear c6
     (first | rw [c6b0] | (simp only [i64_w, i32_w]; rw [c6b0]) | skip)
     replace H := ze H;obtain ⟨t130, A70, H⟩ := H;replace H : (spec_NearFind.j1 k1 a1 a2 x7_1 t130 l0_0 l0_1) = some r := H;have A7 := Aside0.mk A70;clear A70;have H' := Aside0.mk H;clear H;obtain ⟨hcz8_0, hcz8_1, hfz8_0, hfz8_1⟩ := zc2 BK129.out
     go_wp2_with (first | (go_at_call 19; (with_reducible refine (spec_NearOk.calls k1 _ _ l0_0 _ _ l0_1 t130 _ ?side1 ?side2 ?side3 ?side4 A7.out).mono ?_); (case side1 => repeat (first | exact (Kd.C_below HR0_0.out HB.out) | (with_reducible first | refine Kd.C_alloc ?_ _ | refine Kd.C_drewN ?_ _ | refine Kd.C_drew ?_))); (case side2 => exact HC0_0.out); (case side3 => repeat (first | exact (Kd.C_below HR0_1.out HB.out) | (with_reducible first | refine Kd.C_alloc ?_ _ | refine Kd.C_drewN ?_ _ | refine Kd.C_drew ?_))); (case side4 => exact HC0_1.out); rintro e w9 ⟨rfl, hb⟩; have n0_ := Aside0.mk (blk_below (g := gb129) (o := .cells #[.slice A0_0 l0_0.length c0_0, .slice A0_1 l0_1.length c0_1] 42 (0, 0)) (by (with_reducible repeat (first | apply blk_drewN | apply blk_drew | apply blk_alloc)); exact BK129.out) hb); have n1_ := Aside0.mk (below_step (by repeat (first | (with_reducible first | exact HB.out | apply below_alloc | apply pw_below_drewN | apply below_drew1 | refine below_set ?_ GE129.out) | exact HB.out)) hb); clear BK129; clear HB; have BK129 := n0_; have HB := n1_; clear n0_ n1_; (try clear hb); (try clear hb2); (try clear hk); (try clear hi)))
     go_meet
     case rel => exact ⟨_, (t130), (by first | rfl | (simp; done) | (simp [*]; done)), H', ⟨by have := HK1.out; first | omega | exact Nat.le_refl _⟩, ⟨by (with_reducible repeat (first | apply blk_drewN | apply blk_drew | apply blk_alloc)); exact BK129.out⟩, ⟨by repeat (first | (with_reducible first | exact HB.out | apply below_alloc | apply pw_below_drewN | apply below_drew1 | refine below_set ?_ GE129.out) | exact HB.out)⟩⟩
    ·rw [if_neg c6] at H
     have c6b0 : decide (x7_1 < (l0_0.length : Int)) = false := decide_eq_false c6;clear c6
     (first | rw [c6b0] | (simp only [i64_w, i32_w]; rw [c6b0]) | skip)
     have H' := Aside0.mk H;clear H;obtain ⟨hcz10_0, hcz10_1, hfz10_0, hfz10_1⟩ := zc2 BK129.out
     go_wp2
     go_meet
     case rel => exact ⟨_, (false), (by first | rfl | (simp; done) | (simp [*]; done)), H', ⟨by have := HK1.out; first | omega | exact Nat.le_refl _⟩, ⟨by (with_reducible repeat (first | apply blk_drewN | apply blk_drew | apply blk_alloc)); exact BK129.out⟩, ⟨by repeat (first | (with_reducible first | exact HB.out | apply below_alloc | apply pw_below_drewN | apply below_drew1 | refine below_set ?_ GE129.out) | exact HB.out)⟩⟩
   case rest =>
    clear HC5
    try clear p2
    try clear c5
    try clear c6
    try clear c6b0
    try clear hcz10_0
    try clear hcz10_1
    try clear hcz8_0
    try clear hcz8_1
    try clear hfz10_0
    try clear hfz10_1
    try clear hfz8_0
    try clear hfz8_1
    try clear p2
    obtain ⟨kq, x16_4, rfl, HA, HJ4, BK129, HB⟩ := hcut
    cases kq with
    | zero => exact absurd HA.out (by simp [spec_NearFind.j1])
    | succ kj4 =>
     have H := HA.out;clear HA;simp only [spec_NearFind.j1] at H
     by_cases c11 : x16_4 = true
     ·subst c11
      have H1 : (if 0 ≤ x7_1 then (if x7_1 < (l0_0.length : Int) then (if ((rd_T99 l0_0 x7_1).f0) = a1 then (if ((rd_T99 l0_0 x7_1).f2) > a2 then (some ((rd_T99 l0_0 x7_1).f1)) else (spec_NearFind.l0 kj4 a1 a2 (wrap64 (x7_1 + 1)) l0_0 l0_1)) else (spec_NearFind.l0 kj4 a1 a2 (wrap64 (x7_1 + 1)) l0_0 l0_1)) else (none)) else (none)) = some r := by rw [if_pos rfl] at H; exact H
      clear H;have H := H1;clear H1
      by_cases c12 : 0 ≤ x7_1
      ·rw [if_pos c12] at H
       have c12b0 : decide (0 ≤ x7_1) = true := decide_eq_true c12;clear c12
       by_cases c13 : x7_1 < (l0_0.length : Int)
       ·rw [if_pos c13] at H
        have c13b0 : decide (x7_1 < (l0_0.length : Int)) = true := decide_eq_true c13;clear c13
        by_cases c14 : ((rd_T99 l0_0 x7_1).f0) = a1
        ·rw [if_pos c14] at H
         have c14b0 : (((rd_T99 l0_0 x7_1).f0) == a1) = true := beq_iff_eq.mpr c14;have c14b1 : (((rd_T99 l0_0 x7_1).f0) != a1) = false := bne_eq_false_iff_eq.mpr c14;clear c14
         by_cases c15 : ((rd_T99 l0_0 x7_1).f2) > a2
         ·rw [if_pos c15] at H
          have c15b0 : decide (a2 < ((rd_T99 l0_0 x7_1).f2)) = true := decide_eq_true c15;clear c15;obtain rfl := Option.some.inj H;obtain ⟨hcz16_0, hcz16_1, hfz16_0, hfz16_1⟩ := zc2 BK129.out;have p131 : 0 ≤ (x7_1 : Int) := of_decide_eq_true (by first | (with_reducible assumption) | assumption);have q131 : x7_1 < (l0_0.length : Int) := of_decide_eq_true (by first | (with_reducible assumption) | assumption);obtain ⟨ad131, e131, hx131_0, hx131_1, hx131_2⟩ := at_T99 HR0_0.out x7_1 p131 q131
          cases e131
          replace hx131_0 := (HB.out.cell (World.block_lt_of_cell? w _ hx131_0)).trans hx131_0;replace hx131_1 := (HB.out.cell (World.block_lt_of_cell? w _ hx131_1)).trans hx131_1;replace hx131_2 := (HB.out.cell (World.block_lt_of_cell? w _ hx131_2)).trans hx131_2;replace p131 := eq_true p131;replace q131 := eq_true q131;have p132 : 0 ≤ (x7_1 : Int) := of_decide_eq_true (by first | (with_reducible assumption) | assumption);have q132 : x7_1 < (l0_0.length : Int) := of_decide_eq_true (by first | (with_reducible assumption) | assumption);obtain ⟨ad132, e132, hx132_0, hx132_1, hx132_2⟩ := at_T99 HR0_0.out x7_1 p132 q132;obtain rfl : ad131 = ad132 := (by injection e132);replace hx132_0 := (HB.out.cell (World.block_lt_of_cell? w _ hx132_0)).trans hx132_0;replace hx132_1 := (HB.out.cell (World.block_lt_of_cell? w _ hx132_1)).trans hx132_1;replace hx132_2 := (HB.out.cell (World.block_lt_of_cell? w _ hx132_2)).trans hx132_2;replace p132 := eq_true p132;replace q132 := eq_true q132;have p133 : 0 ≤ (x7_1 : Int) := of_decide_eq_true (by first | (with_reducible assumption) | assumption);have q133 : x7_1 < (l0_0.length : Int) := of_decide_eq_true (by first | (with_reducible assumption) | assumption);obtain ⟨ad133, e133, hx133_0, hx133_1, hx133_2⟩ := at_T99 HR0_0.out x7_1 p133 q133;obtain rfl : ad131 = ad133 := (by injection e133);replace hx133_0 := (HB.out.cell (World.block_lt_of_cell? w _ hx133_0)).trans hx133_0;replace hx133_1 := (HB.out.cell (World.block_lt_of_cell? w _ hx133_1)).trans hx133_1;replace hx133_2 := (HB.out.cell (World.block_lt_of_cell? w _ hx133_2)).trans hx133_2;replace p133 := eq_true p133;replace q133 := eq_true q133
          go_wp2
          go_ret;exact ⟨by first | rfl | (simp <;> rfl) | (simp [*] <;> rfl), by repeat (first | (with_reducible first | exact HB.out | apply below_alloc | apply pw_below_drewN | apply below_drew1 | refine below_set ?_ GE129.out) | exact HB.out)⟩
         ·rw [if_neg c15] at H
          have c15b0 : decide (a2 < ((rd_T99 l0_0 x7_1).f2)) = false := decide_eq_false c15;clear c15;have H' := Aside0.mk H;clear H;obtain ⟨hcz17_0, hcz17_1, hfz17_0, hfz17_1⟩ := zc2 BK129.out;have p131 : 0 ≤ (x7_1 : Int) := of_decide_eq_true (by first | (with_reducible assumption) | assumption);have q131 : x7_1 < (l0_0.length : Int) := of_decide_eq_true (by first | (with_reducible assumption) | assumption);obtain ⟨ad131, e131, hx131_0, hx131_1, hx131_2⟩ := at_T99 HR0_0.out x7_1 p131 q131
          cases e131
          replace hx131_0 := (HB.out.cell (World.block_lt_of_cell? w _ hx131_0)).trans hx131_0;replace hx131_1 := (HB.out.cell (World.block_lt_of_cell? w _ hx131_1)).trans hx131_1;replace hx131_2 := (HB.out.cell (World.block_lt_of_cell? w _ hx131_2)).trans hx131_2;replace p131 := eq_true p131;replace q131 := eq_true q131;have p132 : 0 ≤ (x7_1 : Int) := of_decide_eq_true (by first | (with_reducible assumption) | assumption);have q132 : x7_1 < (l0_0.length : Int) := of_decide_eq_true (by first | (with_reducible assumption) | assumption);obtain ⟨ad132, e132, hx132_0, hx132_1, hx132_2⟩ := at_T99 HR0_0.out x7_1 p132 q132;obtain rfl : ad131 = ad132 := (by injection e132);replace hx132_0 := (HB.out.cell (World.block_lt_of_cell? w _ hx132_0)).trans hx132_0;replace hx132_1 := (HB.out.cell (World.block_lt_of_cell? w _ hx132_1)).trans hx132_1;replace hx132_2 := (HB.out.cell (World.block_lt_of_cell? w _ hx132_2)).trans hx132_2;replace p132 := eq_true p132;replace q132 := eq_true q132
          go_wp2
          go_roundg kj4
          case measure => have := HK1.out; have := HJ4.out; omega
          case rel => exact ⟨(wrap64 (x7_1 + 1)), (by first | rfl | (simp; done) | (simp [*]; done)), H', ⟨by have := HK1.out; have := HJ4.out; omega⟩, ⟨by (with_reducible repeat (first | apply blk_drewN | apply blk_drew | apply blk_alloc)); exact BK129.out⟩, ⟨by repeat (first | (with_reducible first | exact HB.out | apply below_alloc | apply pw_below_drewN | apply below_drew1 | refine below_set ?_ GE129.out) | exact HB.out)⟩⟩
        ·rw [if_neg c14] at H
         have c14b0 : (((rd_T99 l0_0 x7_1).f0) == a1) = false := beq_eq_false_iff_ne.mpr c14;have c14b1 : (((rd_T99 l0_0 x7_1).f0) != a1) = true := bne_iff_ne.mpr c14;have H' := Aside0.mk H;clear H;obtain ⟨hcz18_0, hcz18_1, hfz18_0, hfz18_1⟩ := zc2 BK129.out;have p131 : 0 ≤ (x7_1 : Int) := of_decide_eq_true (by first | (with_reducible assumption) | assumption);have q131 : x7_1 < (l0_0.length : Int) := of_decide_eq_true (by first | (with_reducible assumption) | assumption);obtain ⟨ad131, e131, hx131_0, hx131_1, hx131_2⟩ := at_T99 HR0_0.out x7_1 p131 q131
         cases e131
         replace hx131_0 := (HB.out.cell (World.block_lt_of_cell? w _ hx131_0)).trans hx131_0;replace hx131_1 := (HB.out.cell (World.block_lt_of_cell? w _ hx131_1)).trans hx131_1;replace hx131_2 := (HB.out.cell (World.block_lt_of_cell? w _ hx131_2)).trans hx131_2;replace p131 := eq_true p131;replace q131 := eq_true q131
         go_wp2
         go_roundg kj4
         case measure => have := HK1.out; have := HJ4.out; omega
         case rel => exact ⟨(wrap64 (x7_1 + 1)), (by first | rfl | (simp; done) | (simp [*]; done)), H', ⟨by have := HK1.out; have := HJ4.out; omega⟩, ⟨by (with_reducible repeat (first | apply blk_drewN | apply blk_drew | apply blk_alloc)); exact BK129.out⟩, ⟨by repeat (first | (with_reducible first | exact HB.out | apply below_alloc | apply pw_below_drewN | apply below_drew1 | refine below_set ?_ GE129.out) | exact HB.out)⟩⟩
       ·rw [if_neg c13] at H
        exact absurd H (by simp)
      ·rw [if_neg c12] at H
       exact absurd H (by simp)
     ·replace c11 := Bool.eq_false_iff.mpr c11
      subst c11
      have H1 : (some (-1)) = some r := by rw [if_neg (show ¬ (false = true) by decide)] at H; exact H
      clear H;have H := H1;clear H1;obtain rfl := Option.some.inj H
      go_wp2
      go_ret;exact ⟨by first | rfl | (simp <;> rfl) | (simp [*] <;> rfl), by repeat (first | (with_reducible first | exact HB.out | apply below_alloc | apply pw_below_drewN | apply below_drew1 | refine below_set ?_ GE129.out) | exact HB.out)⟩

/-! ### spec_l3Copy: function 137 -/
def spec_l3Copy.l0 : Nat → Int → List (S99) → List (S101) → List (S99) → List (S101) → Option ((List (S99)) × (List (S101)))
 | 0, _, _, _, _, _ => none
 | k + 1, x4, x135000, x135001, x143000, x143001 => if x4 < (x135001.length : Int) then (if 0 ≤ x4 then ((some (([] : List Int) : List Int)).bind fun y144 => (if y144.length + ((rd_T101 x135001 x4).f1).length < 140737488355328 then (if x143001.length < 4398046511104 then (spec_l3Copy.l0 k (wrap64 (x4 + 1)) x135000 x135001 x143000 (x143001 ++ [(⟨(rd_T101 x135001 x4).f0, (y144 ++ ((rd_T101 x135001 x4).f1))⟩ : S101)])) else (none)) else (none))) else (none)) else (some (x143000, x143001))
def spec_l3Copy.f (k : Nat) (l0_0 : List (S99)) (l0_1 : List (S101)) : Option ((List (S99)) × (List (S101))) := (some (([] : List (S99)) : List (S99))).bind fun y136 => (if y136.length + l0_0.length < 5864062014805 then (spec_l3Copy.l0 k 0 l0_0 l0_1 (y136 ++ l0_0) ([] : List (S101))) else (none))
theorem spec_l3Copy.mono_l : ∀ k, (∀ y0 y1 y2 y3 y4, LeO (spec_l3Copy.l0 k y0 y1 y2 y3 y4) (spec_l3Copy.l0 (k + 1) y0 y1 y2 y3 y4))
 | 0 => fun _ _ _ _ _ r h => by simp [spec_l3Copy.l0] at h
 | k + 1 => by
  have ih0 := spec_l3Copy.mono_l k
  ·intro y0 y1 y2 y3 y4
   unfold spec_l3Copy.l0
   repeat' first
   | (with_reducible exact ih0 _ _ _ _ _)
   | (with_reducible exact LeO.refl _)
   | (with_reducible exact LeO.none _)
   | (with_reducible refine LeO.ite ?_ ?_)
   | (with_reducible refine LeO.bind ?_ (fun _ => ?_))
   | exact ih0 _ _ _ _ _
   | exact LeO.none _
   | refine LeO.ite ?_ ?_
   | refine LeO.bind ?_ (fun _ => ?_)
theorem spec_l3Copy.mono : ∀ a0 a1 k, LeO (spec_l3Copy.f k a0 a1) (spec_l3Copy.f (k + 1) a0 a1) := by
 intro a0 a1 k;have ih0 := spec_l3Copy.mono_l k
 unfold spec_l3Copy.f
 repeat' first
   | (with_reducible exact ih0 _ _ _ _ _)
   | (with_reducible exact LeO.refl _)
   | (with_reducible exact LeO.none _)
   | (with_reducible refine LeO.ite ?_ ?_)
   | (with_reducible refine LeO.bind ?_ (fun _ => ?_))
   | exact ih0 _ _ _ _ _
   | exact LeO.none _
   | refine LeO.ite ?_ ?_
   | refine LeO.bind ?_ (fun _ => ?_)
def spec_l3Copy.T5 : Bool × List (List Nat × List Nat) := (true, [([], []), ([0], [0]), ([], []), ([2], [2]), ([], []), ([3, 4], [3, 4]), ([5], [5]), ([6], [6]), ([], []), ([], []), ([9], [9]), ([], []), ([10, 11], [10, 11]), ([12], [12]), ([13], [13]), ([8, 14], [8, 14]), ([7, 15], [7, 15]), ([16], [16]), ([1, 17, 15], [1, 17]), ([0, 1, 2, 3, 4, 5, 6, 7, 8, 9, 10, 11, 12, 13, 14, 15, 16, 17, 18], []), ([19, 18, 18, 0, 1, 2, 3, 4, 5, 6, 7, 8, 9, 10, 11, 12, 13, 14, 15, 16, 17, 18], [18, 19])])
def spec_l3Copy.B5 : List Nat := [0, 1, 0, 4, 0, 28, 60, 124, 0, 0, 512, 0, 3584, 7680, 15872, 32512, 65532, 131068, 262143, 524287, 1048575]
theorem spec_l3Copy.tab5 : rtab .any (opsOf Try.f137 5) = spec_l3Copy.T5 := by kernel_rfl
theorem spec_l3Copy.bits5 : waitsOk spec_l3Copy.T5.2 spec_l3Copy.B5 = true := by kernel_rfl
set_option maxHeartbeats 8000000 in
set_option maxRecDepth 100000 in
theorem spec_l3Copy.calls (k : Nat) (A0_0 : Option Addr) (c0_0 : Nat) (l0_0 : List (S99)) (A0_1 : Option Addr) (c0_1 : Nat) (l0_1 : List (S101)) (r1 : List (S99)) (r2 : List (S101)) (w : World) (hr0_0 : Kd.C k99 w A0_0 l0_0.length l0_0) (hc0_0 : l0_0.length ≤ c0_0) (hr0_1 : Kd.C k101 w A0_1 l0_1.length l0_1) (hc0_1 : l0_1.length ≤ c0_1) (h : spec_l3Copy.f k l0_0 l0_1 = some (r1, r2)) :
  Calls Try.prog 137 #[.agg #[.slice A0_0 l0_0.length c0_0, .slice A0_1 l0_1.length c0_1]] w fun e w' => ∃ v0_ v1_ : Value, e = .returned (.agg #[v0_, v1_]) ∧ Kd.R k99 99 w' w.heap.size (fun _ => True) v0_ r1 ∧ Kd.S k101 101 w' w.heap.size (fun _ => True) v1_ r2 ∧ Below w.heap.size w w' := by
 have hu42 := Try.underlying42;have hu101 := Try.underlying101;have HR0_0 := Aside0.mk hr0_0;have HC0_0 := Aside0.mk hc0_0;clear hr0_0 hc0_0;have HR0_1 := Aside0.mk hr0_1;have HC0_1 := Aside0.mk hc0_1;clear hr0_1 hc0_1;have HB := Aside0.mk (Below.refl w.heap.size w);have H : ((some (([] : List (S99)) : List (S99))).bind fun y136 => (if y136.length + l0_0.length < 5864062014805 then (spec_l3Copy.l0 k 0 l0_0 l0_1 (y136 ++ l0_0) ([] : List (S101))) else (none))) = some (r1, r2) := h;clear h;obtain ⟨y136, hy136⟩ : ∃ y_ : List (S99), y_ = (([] : List (S99))) := ⟨_, rfl⟩
 replace H : (if y136.length + l0_0.length < 5864062014805 then (spec_l3Copy.l0 k 0 l0_0 l0_1 (y136 ++ l0_0) ([] : List (S101))) else (none)) = some (r1, r2) := by first | (rw [hy136]; with_reducible exact H) | (have H2_ := (Option.bind_some _ _).symm.trans H; rw [hy136]; with_reducible exact H2_) | (have H2_ := (Option.bind_some _ _).symm.trans H; with_reducible exact H2_) | with_reducible exact H | (rw [hy136]; exact H) | exact H
 have Ny136 := Aside0.mk hy136;clear hy136
 by_cases c2 : y136.length + l0_0.length < 5864062014805
 ·rw [if_pos c2] at H
  have LMc2 := Aside0.mk c2;clear c2;obtain ⟨y139, hy139⟩ : ∃ y_ : List (S99), y_ = (y136 ++ l0_0) := ⟨_, rfl⟩
  replace H : (spec_l3Copy.l0 k 0 l0_0 l0_1 y139 ([] : List (S101))) = some (r1, r2) := by first | (rw [hy139]; with_reducible exact H) | (have H2_ := (Option.bind_some _ _).symm.trans H; rw [hy139]; with_reducible exact H2_) | (have H2_ := (Option.bind_some _ _).symm.trans H; with_reducible exact H2_) | with_reducible exact H | (rw [hy139]; exact H) | exact H
  have Ny139 := Aside0.mk hy139;clear hy139;have H' := Aside0.mk H;clear H
  go_enter Try.func137, Try.ntmps137
  go_wp2_with (first | ((with_reducible refine gate_dst (N := 1) rfl ?_); refine box_event ?hg (N := 1) ?hd (cs := #[.slice A0_0 l0_0.length c0_0, .slice A0_1 l0_1.length c0_1]) (t := 42) ?hr ?_; (case hd => rfl); (case hg => rfl); (case hr => first | (go_simp; done) | (go_simp; rfl)); intro gb134 hg w3 hbox hb; have n0_ := Aside0.mk (below_step (by repeat (first | (with_reducible first | exact HB.out | apply below_alloc | apply pw_below_drewN | apply below_drew1) | exact HB.out)) hb); have n1_ := Aside0.mk (hbox); have n2_ := Aside0.mk ((by rw [hg]; exact (below_size (by repeat (first | (with_reducible first | exact HB.out | apply below_alloc | apply pw_below_drewN | apply below_drew1) | exact HB.out))) : w.heap.size ≤ gb134)); have n3_ := n2_; clear HB; have HB := n0_; have BK134 := n1_; have GW134 := n2_; have GE134 := n3_; clear n0_ n1_ n2_ n3_; clear hb hbox hg) | ((with_reducible refine gate_dst (N := 2) rfl ?_); refine box_event ?hg (N := 2) ?hd (cs := #[.slice none 0 0, .slice none 0 0]) (t := 42) ?hr ?_; (case hd => rfl); (case hg => rfl); (case hr => first | (go_simp; done) | (go_simp; rfl)); intro gb135 hg w4 hbox hb; have n0_ := Aside0.mk (blk_below (g := gb134) (o := .cells #[.slice A0_0 l0_0.length c0_0, .slice A0_1 l0_1.length c0_1] 42 (0, 0)) (by (with_reducible repeat (first | apply blk_drewN | apply blk_drew | apply blk_alloc)); exact BK134.out) hb); have n1_ := Aside0.mk (below_step (by repeat (first | (with_reducible first | exact HB.out | apply below_alloc | apply pw_below_drewN | apply below_drew1 | refine below_set ?_ GE134.out) | exact HB.out)) hb); have n2_ := Aside0.mk (hbox); have n3_ := Aside0.mk ((by rw [hg]; exact (below_size (by repeat (first | (with_reducible first | exact HB.out | apply below_alloc | apply pw_below_drewN | apply below_drew1 | refine below_set ?_ GE134.out) | exact HB.out))) : w.heap.size ≤ gb135)); have n4_ := n3_; have n5_ := Aside0.mk ((by rw [hg]; exact Nat.ne_of_lt (blk_lt (g := gb134) (o := .cells #[.slice A0_0 l0_0.length c0_0, .slice A0_1 l0_1.length c0_1] 42 (0, 0)) (by (with_reducible repeat (first | apply blk_drewN | apply blk_drew | apply blk_alloc)); exact BK134.out)) : gb134 ≠ gb135)); have n6_ := Aside0.mk ((by rw [hg]; exact Nat.ne_of_gt (blk_lt (g := gb134) (o := .cells #[.slice A0_0 l0_0.length c0_0, .slice A0_1 l0_1.length c0_1] 42 (0, 0)) (by (with_reducible repeat (first | apply blk_drewN | apply blk_drew | apply blk_alloc)); exact BK134.out)) : gb135 ≠ gb134)); clear BK134; clear HB; have BK134 := n0_; have HB := n1_; have BK135 := n2_; have GW135 := n3_; have GE135 := n4_; have NB134_135 := n5_; have NB135_134 := n6_; clear n0_ n1_ n2_ n3_ n4_ n5_ n6_; clear hb hbox hg) | ((with_reducible refine gate_dst (N := 5) rfl ?_); refine Kd.R_lit k99 _ 99 ?hg (N := 5) ?hd (xs := ([] : List (S99))) (inner := []) (ok := fun _ => True) (okp := fun _ => True) ?hr ?hp (fun _ hk => hk) trivial (Below.refl _ _) (Nat.le_refl _) (by simp) ?_; (case hd => rfl); (case hg => rfl); (case hr => first | (go_simp; done) | (go_simp; rfl)); (case hp => exact (Reps.none _ _)); intro v137 w5 ho6 hb hg_ hnew_; clear hg_ hnew_; (first | rw [← Ny136.out] at ho6 | (simp only [Int.reduceToNat] at ho6; rw [← Ny136.out] at ho6)); have n0_ := Aside0.mk (Kd.R_lower ho6 (below_size (by repeat (first | (with_reducible first | exact HB.out | apply below_alloc | apply pw_below_drewN | apply below_drew1 | refine below_set ?_ GE134.out | refine below_set ?_ GE135.out) | exact HB.out)))); have n1_ := Aside0.mk (blk_below (g := gb134) (o := .cells #[.slice A0_0 l0_0.length c0_0, .slice A0_1 l0_1.length c0_1] 42 (0, 0)) (by (with_reducible repeat (first | apply blk_drewN | apply blk_drew | apply blk_alloc)); exact BK134.out) hb); have n2_ := Aside0.mk (blk_below (g := gb135) (o := .cells #[.slice none 0 0, .slice none 0 0] 42 (0, 0)) (by (with_reducible repeat (first | apply blk_drewN | apply blk_drew | apply blk_alloc)); exact BK135.out) hb); have n3_ := Aside0.mk (below_step (by repeat (first | (with_reducible first | exact HB.out | apply below_alloc | apply pw_below_drewN | apply below_drew1 | refine below_set ?_ GE134.out | refine below_set ?_ GE135.out) | exact HB.out)) hb); clear BK134; clear BK135; clear HB; have HO138 := n0_; have BK134 := n1_; have BK135 := n2_; have HB := n3_; clear n0_ n1_ n2_ n3_; clear hb ho6; have hnb7 := NB134_135.out; have hnc7 := NB135_134.out; obtain ⟨hcz8_0, hcz8_1, hfz8_0, hfz8_1⟩ := zc2 BK134.out) | ((with_reducible refine gate_builtin (b := .append) (xs := #[.tmp 5, .tmp 7]) rfl ?_); at_builtin; refine Kd.R_append_rows k99 (w0 := w) w.heap.size rfl (.tmp 5) (.tmp 7) 39 99 (.agg #[(.int .i64 0), (.int .i64 0), (.int .i64 0)]) 24 rfl Try.underlying39 info99 rfl (by decide) (by omega) v137 y136 l0_0 _ _ _ (fun _ => True) (fun _ => False) rfl rfl ?aO ?aR (fun _ _ h => h) (fun _ h => h.elim) ?aF ?aB ?aS ?aL ?_; (case aR => repeat (first | exact (Kd.C_below HR0_0.out HB.out) | (with_reducible first | refine Kd.C_alloc ?_ _ | refine Kd.C_drewN ?_ _ | refine Kd.C_drew ?_))); (case aB => exact (by repeat (first | (with_reducible first | exact HB.out | apply below_alloc | apply pw_below_drewN | apply below_drew1 | refine below_set ?_ GE134.out | refine below_set ?_ GE135.out) | exact HB.out))); (case aF => exact (fun _ _ => trivial)); (case aO => exact (by (with_reducible repeat (first | apply Kd.R_alloc | apply Kd.R_drewN | apply Kd.R_drew)); exact HO138.out)); (case aS => exact (below_size (by repeat (first | (with_reducible first | exact HB.out | apply below_alloc | apply pw_below_drewN | apply below_drew1 | refine below_set ?_ GE134.out | refine below_set ?_ GE135.out) | exact HB.out)))); (case aL => have := LMc2.out; omega); intro v140 w9 ho hb hg hat; rw [← Ny139.out] at ho; have n0_ := Aside0.mk (blk_grown (g := gb134) (o := .cells #[.slice A0_0 l0_0.length c0_0, .slice A0_1 l0_1.length c0_1] 42 (0, 0)) (by (with_reducible repeat (first | apply blk_drewN | apply blk_drew | apply blk_alloc)); exact BK134.out) hg (Kd.R_ne HO138.out BK134.out (by decide))); have n1_ := Aside0.mk (blk_grown (g := gb135) (o := .cells #[.slice none 0 0, .slice none 0 0] 42 (0, 0)) (by (with_reducible repeat (first | apply blk_drewN | apply blk_drew | apply blk_alloc)); exact BK135.out) hg (Kd.R_ne HO138.out BK135.out (by decide))); have n2_ := Aside0.mk (hb); have n3_ := Aside0.mk (ho); clear BK134; clear BK135; clear HB; clear HO138; have BK134 := n0_; have BK135 := n1_; have HB := n2_; have HO141 := n3_; clear n0_ n1_ n2_ n3_; clear ho hb hg hat; obtain ⟨Ao10, co10, eo10⟩ := Kd.R_slice HO141.out; subst eo10) | ((with_reducible refine gate_dst (N := 3) rfl ?_); refine box_event ?hg (N := 3) ?hd (cs := #[.slice none 0 0, .slice none 0 0]) (t := 42) ?hr ?_; (case hd => rfl); (case hg => rfl); (case hr => first | (go_simp; done) | (go_simp; rfl)); intro gb142 hg w11 hbox hb; have n0_ := Aside0.mk (Kd.R_below (by (with_reducible repeat (first | apply Kd.R_alloc | apply Kd.R_drewN | apply Kd.R_drew)); exact HO141.out) hb); have n1_ := Aside0.mk (blk_below (g := gb134) (o := .cells #[.slice A0_0 l0_0.length c0_0, .slice A0_1 l0_1.length c0_1] 42 (0, 0)) (by (with_reducible repeat (first | apply blk_drewN | apply blk_drew | apply blk_alloc)); exact BK134.out) hb); have n2_ := Aside0.mk (blk_below (g := gb135) (o := .cells #[.slice none 0 0, .slice none 0 0] 42 (0, 0)) (by (with_reducible repeat (first | apply blk_drewN | apply blk_drew | apply blk_alloc)); exact BK135.out) hb); have n3_ := Aside0.mk (below_step (by repeat (first | (with_reducible first | exact HB.out | apply below_alloc | apply pw_below_drewN | apply below_drew1 | refine below_set ?_ GE134.out | refine below_set ?_ GE135.out) | exact HB.out)) hb); have n4_ := Aside0.mk (hbox); have n5_ := Aside0.mk ((by rw [hg]; exact (below_size (by repeat (first | (with_reducible first | exact HB.out | apply below_alloc | apply pw_below_drewN | apply below_drew1 | refine below_set ?_ GE134.out | refine below_set ?_ GE135.out) | exact HB.out))) : w.heap.size ≤ gb142)); have n6_ := n5_; have n7_ := Aside0.mk ((by rw [hg]; exact Nat.ne_of_lt (blk_lt (g := gb134) (o := .cells #[.slice A0_0 l0_0.length c0_0, .slice A0_1 l0_1.length c0_1] 42 (0, 0)) (by (with_reducible repeat (first | apply blk_drewN | apply blk_drew | apply blk_alloc)); exact BK134.out)) : gb134 ≠ gb142)); have n8_ := Aside0.mk ((by rw [hg]; exact Nat.ne_of_gt (blk_lt (g := gb134) (o := .cells #[.slice A0_0 l0_0.length c0_0, .slice A0_1 l0_1.length c0_1] 42 (0, 0)) (by (with_reducible repeat (first | apply blk_drewN | apply blk_drew | apply blk_alloc)); exact BK134.out)) : gb142 ≠ gb134)); have n9_ := Aside0.mk ((by rw [hg]; exact Nat.ne_of_lt (blk_lt (g := gb135) (o := .cells #[.slice none 0 0, .slice none 0 0] 42 (0, 0)) (by (with_reducible repeat (first | apply blk_drewN | apply blk_drew | apply blk_alloc)); exact BK135.out)) : gb135 ≠ gb142)); have n10_ := Aside0.mk ((by rw [hg]; exact Nat.ne_of_gt (blk_lt (g := gb135) (o := .cells #[.slice none 0 0, .slice none 0 0] 42 (0, 0)) (by (with_reducible repeat (first | apply blk_drewN | apply blk_drew | apply blk_alloc)); exact BK135.out)) : gb142 ≠ gb135)); clear HO141; clear BK134; clear BK135; clear HB; have HO141 := n0_; have BK134 := n1_; have BK135 := n2_; have HB := n3_; have BK142 := n4_; have GW142 := n5_; have GE142 := n6_; have NB134_142 := n7_; have NB142_134 := n8_; have NB135_142 := n9_; have NB142_135 := n10_; clear n0_ n1_ n2_ n3_ n4_ n5_ n6_ n7_ n8_ n9_ n10_; clear hb hbox hg; have hnb12 := NB142_134.out; have hnc12 := NB134_142.out; have hnb13 := NB142_135.out; have hnc13 := NB135_142.out; obtain ⟨hcz14_0, hcz14_1, hfz14_0, hfz14_1⟩ := zc2 BK142.out))
  go_loopg [4] k (fun kq v4 w' => ∃ (x4_1 : Int) (x143001_1 : List (S101)) (u143001 : Value), v4 = .int .i64 x4_1 ∧ Aside0 (spec_l3Copy.l0 kq x4_1 l0_0 l0_1 y139 x143001_1 = some (r1, r2)) ∧ Aside0 (kq ≤ k) ∧ Aside0 (Kd.R k99 99 w' w.heap.size (fun _ => True) (.slice Ao10 y139.length co10) y139) ∧ Aside0 (Kd.S k101 101 w' w.heap.size (fun _ => True) u143001 x143001_1) ∧ Aside0 (w'.heap[gb134]? = some (.cells #[(.slice A0_0 l0_0.length c0_0), (.slice A0_1 l0_1.length c0_1)] 42 (0, 0))) ∧ Aside0 (w'.heap[gb135]? = some (.cells #[(.slice none 0 0), (.slice none 0 0)] 42 (0, 0))) ∧ Aside0 (w'.heap[gb142]? = some (.cells #[(.slice Ao10 y139.length co10), u143001] 42 (0, 0))) ∧ Aside0 (Below w.heap.size w w'))
  case atStart => exact ⟨(0), (([] : List (S101))), (.slice none 0 0), (by first | rfl | (simp; done) | (simp [*]; done)), H', ⟨Nat.le_refl _⟩, ⟨by (with_reducible repeat (first | apply Kd.R_alloc | apply Kd.R_drewN | apply Kd.R_drew)); exact Kd.R_mono (Kd.R_far (p := ⟨gb142, 1, none⟩) (Kd.R_far (p := ⟨gb142, 0, none⟩) (Kd.R_types HO141.out BK142.out (by decide)) (fun _ hk => hk.2) (.slice Ao10 y139.length co10)) (fun _ hk => hk.2) (.slice none 0 0)) (fun _ hk => trivial)⟩, ⟨by first | exact Kd.S_nil _ _ _ _ _ | exact Kd.N_nil _ _ _ _ _ | exact Kd.V_nil _ _ _ _ _ | exact Kd.Q_nil _ _ _ _ _ | exact Kd.R_nil _ _ _ _ _⟩, ⟨by (with_reducible repeat (first | apply blk_drewN | apply blk_drew | apply blk_alloc)); refine blk_far ?_ NB134_142.out _; refine blk_far ?_ NB134_142.out _; (with_reducible repeat (first | apply blk_drewN | apply blk_drew | apply blk_alloc)); exact BK134.out⟩, ⟨by (with_reducible repeat (first | apply blk_drewN | apply blk_drew | apply blk_alloc)); refine blk_far ?_ NB135_142.out _; refine blk_far ?_ NB135_142.out _; (with_reducible repeat (first | apply blk_drewN | apply blk_drew | apply blk_alloc)); exact BK135.out⟩, ⟨by (with_reducible repeat (first | apply blk_drewN | apply blk_drew | apply blk_alloc)); refine blk_put (cs := #[.slice Ao10 y139.length co10, .slice none 0 0]) ?_ 1 _ rfl; refine blk_put (cs := #[.slice none 0 0, .slice none 0 0]) ?_ 0 _ rfl; (with_reducible repeat (first | apply blk_drewN | apply blk_drew | apply blk_alloc)); exact BK142.out⟩, ⟨by repeat (first | (with_reducible first | exact HB.out | apply below_alloc | apply pw_below_drewN | apply below_drew1 | refine below_set ?_ GE134.out | refine below_set ?_ GE135.out | refine below_set ?_ GE142.out) | exact HB.out)⟩⟩
  case round =>
   clear H'
   try clear c1
   try clear c2
   try clear p2
   try clear c7
   try clear c12
   try clear c13
   try clear hcz14_0
   try clear hcz14_1
   try clear hcz8_0
   try clear hcz8_1
   try clear hfz14_0
   try clear hfz14_1
   try clear hfz8_0
   try clear hfz8_1
   obtain ⟨x4_1, x143001_1, u143001, rfl, HA, HK1, HO_143000, HO_143001, BK134, BK135, BK142, HB⟩ := hrel
   cases gk with
   | zero => exact absurd HA.out (by simp [spec_l3Copy.l0])
   | succ k1 =>
    have H := HA.out;clear HA;simp only [spec_l3Copy.l0] at H
    by_cases c15 : x4_1 < (l0_1.length : Int)
    ·rw [if_pos c15] at H
     have c15b0 : decide (x4_1 < (l0_1.length : Int)) = true := decide_eq_true c15;clear c15
     by_cases c16 : 0 ≤ x4_1
     ·rw [if_pos c16] at H
      have c16b0 : decide (0 ≤ x4_1) = true := decide_eq_true c16;clear c16;obtain ⟨y144, hy144⟩ : ∃ y_ : List Int, y_ = (([] : List Int)) := ⟨_, rfl⟩
      replace H : (if y144.length + ((rd_T101 l0_1 x4_1).f1).length < 140737488355328 then (if x143001_1.length < 4398046511104 then (spec_l3Copy.l0 k1 (wrap64 (x4_1 + 1)) l0_0 l0_1 y139 (x143001_1 ++ [(⟨(rd_T101 l0_1 x4_1).f0, (y144 ++ ((rd_T101 l0_1 x4_1).f1))⟩ : S101)])) else (none)) else (none)) = some (r1, r2) := by first | (rw [hy144]; with_reducible exact H) | (have H2_ := (Option.bind_some _ _).symm.trans H; rw [hy144]; with_reducible exact H2_) | (have H2_ := (Option.bind_some _ _).symm.trans H; with_reducible exact H2_) | with_reducible exact H | (rw [hy144]; exact H) | exact H
      have Ny144 := Aside0.mk hy144;clear hy144
      by_cases c17 : y144.length + ((rd_T101 l0_1 x4_1).f1).length < 140737488355328
      ·rw [if_pos c17] at H
       have LMc17 := Aside0.mk c17;clear c17;obtain ⟨y148, hy148⟩ : ∃ y_ : List Int, y_ = (y144 ++ ((rd_T101 l0_1 x4_1).f1)) := ⟨_, rfl⟩
       replace H : (if x143001_1.length < 4398046511104 then (spec_l3Copy.l0 k1 (wrap64 (x4_1 + 1)) l0_0 l0_1 y139 (x143001_1 ++ [(⟨(rd_T101 l0_1 x4_1).f0, y148⟩ : S101)])) else (none)) = some (r1, r2) := by first | (rw [hy148]; with_reducible exact H) | (have H2_ := (Option.bind_some _ _).symm.trans H; rw [hy148]; with_reducible exact H2_) | (have H2_ := (Option.bind_some _ _).symm.trans H; with_reducible exact H2_) | with_reducible exact H | (rw [hy148]; exact H) | exact H
       have Ny148 := Aside0.mk hy148;clear hy148
       by_cases c18 : x143001_1.length < 4398046511104
       ·rw [if_pos c18] at H
        have LMc18 := Aside0.mk c18;clear c18;obtain ⟨y151, hy151⟩ : ∃ y_ : List (S101), y_ = (x143001_1 ++ [(⟨(rd_T101 l0_1 x4_1).f0, y148⟩ : S101)]) := ⟨_, rfl⟩
        replace H : (spec_l3Copy.l0 k1 (wrap64 (x4_1 + 1)) l0_0 l0_1 y139 y151) = some (r1, r2) := by first | (rw [hy151]; with_reducible exact H) | (have H2_ := (Option.bind_some _ _).symm.trans H; rw [hy151]; with_reducible exact H2_) | (have H2_ := (Option.bind_some _ _).symm.trans H; with_reducible exact H2_) | with_reducible exact H | (rw [hy151]; exact H) | exact H
        have Ny151 := Aside0.mk hy151;clear hy151;have H' := Aside0.mk H;clear H;have hnb19 := NB134_135.out;have hnc19 := NB135_134.out;have hnb20 := NB134_142.out;have hnc20 := NB142_134.out;obtain ⟨hcz21_0, hcz21_1, hfz21_0, hfz21_1⟩ := zc2 BK134.out
        try go_wp2
        have n0_ := Aside0.mk (Kd.R_drew HO_143000.out); have n1_ := Aside0.mk (Kd.S_drew HO_143001.out); have n2_ := Aside0.mk (blk_drew BK134.out); have n3_ := Aside0.mk (blk_drew BK135.out); have n4_ := Aside0.mk (blk_drew BK142.out); have n5_ := Aside0.mk (below_drew1 HB.out);clear HO_143000;clear HO_143001;clear BK134;clear BK135;clear BK142;clear HB;have HO_143000 := n0_;have HO_143001 := n1_;have BK134 := n2_;have BK135 := n3_;have BK142 := n4_;have HB := n5_;clear n0_ n1_ n2_ n3_ n4_ n5_;have p143 : 0 ≤ (x4_1 : Int) := of_decide_eq_true (by first | (with_reducible assumption) | assumption);have q143 : x4_1 < (l0_1.length : Int) := of_decide_eq_true (by first | (with_reducible assumption) | assumption);obtain ⟨ad143, A143_1, c143_1, e143, hx143_0, hx143_1, hl143_1, hi143_1⟩ := at_T101 HR0_1.out x4_1 p143 q143;have hw143_1 := hx143_1;have hw143_0 := hx143_0
        cases e143
        replace hx143_0 := (HB.out.cell (World.block_lt_of_cell? w _ hx143_0)).trans hx143_0;replace hx143_1 := (HB.out.cell (World.block_lt_of_cell? w _ hx143_1)).trans hx143_1;have HR143_1 := Aside0.mk hi143_1;have HC143_1 := Aside0.mk hl143_1;clear hi143_1 hl143_1;replace p143 := eq_true p143;replace q143 := eq_true q143;have p147 : 0 ≤ (x4_1 : Int) := of_decide_eq_true (by first | (with_reducible assumption) | assumption);have q147 : x4_1 < (l0_1.length : Int) := of_decide_eq_true (by first | (with_reducible assumption) | assumption);obtain ⟨ad147, A147_1, c147_1, e147, hx147_0, hx147_1, hl147_1, hi147_1⟩ := at_T101 HR0_1.out x4_1 p147 q147;have hw147_1 := hx147_1;have hw147_0 := hx147_0;obtain rfl : ad143 = ad147 := (by injection e147);replace hx147_0 := (HB.out.cell (World.block_lt_of_cell? w _ hx147_0)).trans hx147_0;replace hx147_1 := (HB.out.cell (World.block_lt_of_cell? w _ hx147_1)).trans hx147_1;have HR147_1 := Aside0.mk hi147_1;have HC147_1 := Aside0.mk hl147_1;clear hi147_1 hl147_1;replace p147 := eq_true p147;replace q147 := eq_true q147;have ea_ := Option.some.inj (hx143_1.symm.trans hx147_1)
        injection ea_ with ea_ en_ ec_
        subst ea_
        subst ec_
        clear en_;refine start_ (n := 21) (S := fun w' => w'.cell? ⟨gb142, 0, none⟩ = some (.slice Ao10 y139.length co10) ∧ w'.cell? ⟨gb142, 1, none⟩ = some (u143001) ∧ w'.cell? ⟨gb134, 0, none⟩ = some (.slice A0_0 l0_0.length c0_0) ∧ w'.cell? ⟨gb134, 1, none⟩ = some (.slice (some ad143) l0_1.length c0_1) ∧ w'.cell? (ad143.add ((x4_1).toNat * 2)) = some (.int .i64 ((rd_T101 l0_1 x4_1).f0)) ∧ w'.cell? ⟨(ad143.add ((x4_1).toNat * 2)).block, (ad143.add ((x4_1).toNat * 2)).off + 1, none⟩ = some (.slice A143_1 ((rd_T101 l0_1 x4_1).f1).length c143_1) ∧ w'.cell? (ad143.add ((x4_1).toNat * 2)) = some (.int .i64 ((rd_T101 l0_1 x4_1).f0)) ∧ w'.cell? ⟨(ad143.add ((x4_1).toNat * 2)).block, (ad143.add ((x4_1).toNat * 2)).off + 1, none⟩ = some (.slice A143_1 ((rd_T101 l0_1 x4_1).f1).length c143_1)) (ds := [20]) (bitsA 21 0) (by kernel_rfl) rfl rfl ⟨(blk_cell BK142.out 0).trans rfl, (blk_cell BK142.out 1).trans rfl, (blk_cell BK134.out 0).trans rfl, (blk_cell BK134.out 1).trans rfl, ((zk HB.out hw143_0).trans rfl), ((zk HB.out hw143_1).trans rfl), ((zk HB.out hw147_0).trans rfl), ((zk HB.out hw147_1).trans rfl)⟩ (fun hHeld => ?_); refine with_tabW spec_l3Copy.tab5 spec_l3Copy.bits5 (fun HT_ HW_ => ?_)
        generalize wr.drew = w22 at HO_143000 HO_143001 BK134 BK135 BK142 HB HR143_1 HR147_1 hx143_0 hx143_1 hx147_0 hx147_1 hHeld ⊢
        refine pure_ (i := 0) (N := some 17) (v := ?_) (a' := ?_) (bitsA 21 1) rfl rfl (any_of HT_.out (by kernel_rfl)) (fun _ _ _ => id) (yl (by rfl) ?_) ?_ ?_;rotate_left; (focus (intro w'; go_simp; with_reducible rfl));rotate_left; (focus (simp only [zs]; rfl));refine pure_ (i := 2) (N := some 19) (v := ?_) (a' := ?_) (bitsA 21 5) rfl rfl (any_of HT_.out (by kernel_rfl)) (fun _ _ _ => id) (yl (by rfl) ?_) ?_ ?_;rotate_left; (focus (intro w'; go_simp; with_reducible rfl));rotate_left; (focus (simp only [zs]; rfl));refine pure_ (i := 4) (N := some 21) (v := ?_) (a' := ?_) (bitsA 21 21) rfl rfl (any_of HT_.out (by kernel_rfl)) (fun _ _ _ => id) (yl (by rfl) ?_) ?_ ?_;rotate_left; (focus (intro w'; go_simp; with_reducible rfl));rotate_left; (focus (simp only [zs]; rfl));refine pure_ (i := 9) (N := some 26) (v := ?_) (a' := ?_) (bitsA 21 533) rfl rfl (any_of HT_.out (by kernel_rfl)) (fun _ _ _ => id) (yl (by rfl) ?_) ?_ ?_;rotate_left; (focus (intro w'; go_simp; with_reducible rfl));rotate_left; (focus (simp only [zs]; rfl));refine pure_ (i := 11) (N := some 28) (v := ?_) (a' := ?_) (bitsA 21 2581) rfl rfl (any_of HT_.out (by kernel_rfl)) (fun _ _ _ => id) (yl (by rfl) ?_) ?_ ?_;rotate_left; (focus (intro w'; go_simp; with_reducible rfl));rotate_left; (focus (simp only [zs]; rfl));refine take_ (i := 1) (N := some 18) (v := ?_) (a' := ?_) (bitsA 21 2583) rfl rfl (take_ofW HT_.out HW_.out (by kernel_rfl)) (fun _ _ _ => id) (yl (by rfl) ?_) hHeld ?_ ?_;rotate_left
        ·rintro w' ⟨s0, s1, s2, s3, s4, s5, s6, s7⟩
         go_simp;with_reducible rfl
        rotate_left; (focus (simp only [zs]; rfl));refine take_ (i := 3) (N := some 20) (v := ?_) (a' := ?_) (bitsA 21 2591) rfl rfl (take_ofW HT_.out HW_.out (by kernel_rfl)) (fun _ _ _ => id) (yl (by rfl) ?_) hHeld ?_ ?_;rotate_left
        ·rintro w' ⟨s0, s1, s2, s3, s4, s5, s6, s7⟩
         go_simp;with_reducible rfl
        rotate_left; (focus (simp only [zs]; rfl));refine pure_ (i := 5) (N := some 22) (v := ?_) (a' := ?_) (bitsA 21 2623) rfl rfl (any_of HT_.out (by kernel_rfl)) (fun _ _ _ => id) (yl (by rfl) ?_) ?_ ?_;rotate_left; (focus (intro w'; go_simp; with_reducible rfl));rotate_left; (focus (simp only [zs]; rfl));refine pure_ (i := 6) (N := some 23) (v := ?_) (a' := ?_) (bitsA 21 2687) rfl rfl (any_of HT_.out (by kernel_rfl)) (fun _ _ _ => id) (yl (by rfl) ?_) ?_ ?_;rotate_left; (focus (intro w'; go_simp; with_reducible rfl));rotate_left; (focus (simp only [zs]; rfl));refine take_ (i := 7) (N := some 24) (v := ?_) (a' := ?_) (bitsA 21 2815) rfl rfl (take_ofW HT_.out HW_.out (by kernel_rfl)) (fun _ _ _ => id) (yl (by rfl) ?_) hHeld ?_ ?_;rotate_left
        ·rintro w' ⟨s0, s1, s2, s3, s4, s5, s6, s7⟩
         go_simp;with_reducible rfl
        rotate_left; (focus (simp only [zs]; rfl));refine take_ (i := 10) (N := some 27) (v := ?_) (a' := ?_) (bitsA 21 3839) rfl rfl (take_ofW HT_.out HW_.out (by kernel_rfl)) (fun _ _ _ => id) (yl (by rfl) ?_) hHeld ?_ ?_;rotate_left
        ·rintro w' ⟨s0, s1, s2, s3, s4, s5, s6, s7⟩
         go_simp;with_reducible rfl
        rotate_left; (focus (simp only [zs]; rfl));refine pure_ (i := 12) (N := some 29) (v := ?_) (a' := ?_) (bitsA 21 7935) rfl rfl (any_of HT_.out (by kernel_rfl)) (fun _ _ _ => id) (yl (by rfl) ?_) ?_ ?_;rotate_left; (focus (intro w'; go_simp; with_reducible rfl));rotate_left; (focus (simp only [zs]; rfl));refine pure_ (i := 13) (N := some 30) (v := ?_) (a' := ?_) (bitsA 21 16127) rfl rfl (any_of HT_.out (by kernel_rfl)) (fun _ _ _ => id) (yl (by rfl) ?_) ?_ ?_;rotate_left; (focus (intro w'; go_simp; with_reducible rfl));rotate_left; (focus (simp only [zs]; rfl));refine take_ (i := 14) (N := some 31) (v := ?_) (a' := ?_) (bitsA 21 32511) rfl rfl (take_ofW HT_.out HW_.out (by kernel_rfl)) (fun _ _ _ => id) (yl (by rfl) ?_) hHeld ?_ ?_;rotate_left
        ·rintro w' ⟨s0, s1, s2, s3, s4, s5, s6, s7⟩
         go_simp;with_reducible rfl
        rotate_left; (focus (simp only [zs]; rfl));refine one_ (i := 8) (N := some 25) (bitsA 21 32767) rfl rfl (one_of HT_.out (by kernel_rfl)) (by decide) (fun K hK => ?_);refine Kd.R_lit_step (Kd.int .u8) _ 5 ?hg (N := 25) ?hd (xs := ([] : List Int)) (inner := []) (ok := fun _ => True) (okp := fun _ => True) ?hr ?hp (fun _ hk => hk) trivial (Below.refl _ _) (Nat.le_refl _) (by simp) ?_; (case hd => rfl); (case hg => rfl); (case hr => first | (go_simp; done) | (go_simp; rfl)); (case hp => exact (Reps.none _ _));intro v145 w23 ho24 hb hg_ hnew_;clear hg_ hnew_
        (first | rw [← Ny144.out] at ho24 | (simp only [Int.reduceToNat] at ho24; rw [← Ny144.out] at ho24))
        have n0_ := Aside0.mk (Kd.R_below (by (with_reducible repeat (first | apply Kd.R_alloc | apply Kd.R_drewN | apply Kd.R_drew)); exact HO_143000.out) hb); have n1_ := Aside0.mk (Kd.S_elder' (by (with_reducible repeat (first | apply Kd.S_alloc | apply Kd.S_drewN | apply Kd.S_drew)); exact HO_143001.out) (Kd.R_base ho24) hb); have n2_ := Aside0.mk (Kd.R_lower ho24 (below_size (by repeat (first | (with_reducible first | exact HB.out | apply below_alloc | apply pw_below_drewN | apply below_drew1 | refine below_set ?_ GE134.out | refine below_set ?_ GE135.out | refine below_set ?_ GE142.out) | exact HB.out)))); have n3_ := Aside0.mk (blk_below (g := gb134) (o := .cells #[.slice A0_0 l0_0.length c0_0, .slice (some ad143) l0_1.length c0_1] 42 (0, 0)) (by (with_reducible repeat (first | apply blk_drewN | apply blk_drew | apply blk_alloc)); exact BK134.out) hb); have n4_ := Aside0.mk (blk_below (g := gb135) (o := .cells #[.slice none 0 0, .slice none 0 0] 42 (0, 0)) (by (with_reducible repeat (first | apply blk_drewN | apply blk_drew | apply blk_alloc)); exact BK135.out) hb); have n5_ := Aside0.mk (blk_below (g := gb142) (o := .cells #[.slice Ao10 y139.length co10, u143001] 42 (0, 0)) (by (with_reducible repeat (first | apply blk_drewN | apply blk_drew | apply blk_alloc)); exact BK142.out) hb); have n6_ := Aside0.mk (below_step (by repeat (first | (with_reducible first | exact HB.out | apply below_alloc | apply pw_below_drewN | apply below_drew1 | refine below_set ?_ GE134.out | refine below_set ?_ GE135.out | refine below_set ?_ GE142.out) | exact HB.out)) hb);clear HO_143000;clear HO_143001;clear BK134;clear BK135;clear BK142;clear HB;have HO_143000 := n0_;have HO_143001 := n1_;have HO146 := n2_;have BK134 := n3_;have BK135 := n4_;have BK142 := n5_;have HB := n6_;clear n0_ n1_ n2_ n3_ n4_ n5_ n6_;clear hb ho24;refine hK.out _ _ ⟨(blk_cell BK142.out 0).trans rfl, (blk_cell BK142.out 1).trans rfl, (blk_cell BK134.out 0).trans rfl, (blk_cell BK134.out 1).trans rfl, ((zk HB.out hw143_0).trans rfl), ((zk HB.out hw143_1).trans rfl), ((zk HB.out hw147_0).trans rfl), ((zk HB.out hw147_1).trans rfl)⟩ (fun hHeld => ?_);clear hK K;refine norm_ (a' := ?_) ?_ ?_;rotate_left; (focus (show Act.put _ (some 25) _ = _; simp only [zs]; rfl));refine one_ (i := 15) (N := some 32) (bitsA 21 65535) rfl rfl (one_of HT_.out (by kernel_rfl)) (by decide) (fun K hK => ?_);refine Kd.R_append_rows_step (Kd.int .u8) (w0 := w) w.heap.size (by rfl) (.tmp 25) (.tmp 31) 46 5 (.int .u8 0) 1 rfl Try.underlying46 info5 rfl (by decide) (by omega) v145 y144 ((rd_T101 l0_1 x4_1).f1) _ _ _ (fun _ => True) (fun _ => False) rfl rfl ?aO ?aR (fun _ _ h => h) (fun _ h => h.elim) ?aF ?aB ?aS ?aL ?_
        (case aR => repeat (first | exact (Kd.C_below HR147_1.out HB.out) | (with_reducible first | refine Kd.C_alloc ?_ _ | refine Kd.C_drewN ?_ _ | refine Kd.C_drew ?_)))
        (case aB => exact (by repeat (first | (with_reducible first | exact HB.out | apply below_alloc | apply pw_below_drewN | apply below_drew1 | refine below_set ?_ GE134.out | refine below_set ?_ GE135.out | refine below_set ?_ GE142.out) | exact HB.out)))
        (case aF => exact (fun _ _ => trivial))
        (case aO => exact (by (with_reducible repeat (first | apply Kd.R_alloc | apply Kd.R_drewN | apply Kd.R_drew)); exact HO146.out))
        (case aS => exact (below_size (by repeat (first | (with_reducible first | exact HB.out | apply below_alloc | apply pw_below_drewN | apply below_drew1 | refine below_set ?_ GE134.out | refine below_set ?_ GE135.out | refine below_set ?_ GE142.out) | exact HB.out))))
        (case aL => have := LMc17.out; omega)
        intro v149 w25 ho hb hg hat
        rw [← Ny148.out] at ho
        have n0_ := Aside0.mk (Kd.R_over' (by (with_reducible repeat (first | apply Kd.R_alloc | apply Kd.R_drewN | apply Kd.R_drew)); exact HO_143000.out) (Kd.R_typed (by (with_reducible repeat (first | apply Kd.R_alloc | apply Kd.R_drewN | apply Kd.R_drew)); exact HO146.out)) (by decide) hg); have n1_ := Aside0.mk (Kd.S_after (ok := (fun _ => True)) (by (with_reducible repeat (first | apply Kd.S_alloc | apply Kd.S_drewN | apply Kd.S_drew)); exact HO_143001.out) hg hat); have n2_ := Aside0.mk (blk_grown (g := gb134) (o := .cells #[.slice A0_0 l0_0.length c0_0, .slice (some ad143) l0_1.length c0_1] 42 (0, 0)) (by (with_reducible repeat (first | apply blk_drewN | apply blk_drew | apply blk_alloc)); exact BK134.out) hg (Kd.R_ne HO146.out BK134.out (by decide))); have n3_ := Aside0.mk (blk_grown (g := gb135) (o := .cells #[.slice none 0 0, .slice none 0 0] 42 (0, 0)) (by (with_reducible repeat (first | apply blk_drewN | apply blk_drew | apply blk_alloc)); exact BK135.out) hg (Kd.R_ne HO146.out BK135.out (by decide))); have n4_ := Aside0.mk (blk_grown (g := gb142) (o := .cells #[.slice Ao10 y139.length co10, u143001] 42 (0, 0)) (by (with_reducible repeat (first | apply blk_drewN | apply blk_drew | apply blk_alloc)); exact BK142.out) hg (Kd.R_ne HO146.out BK142.out (by decide))); have n5_ := Aside0.mk (hb); have n6_ := Aside0.mk (ho);clear HO_143000;clear HO_143001;clear BK134;clear BK135;clear BK142;clear HB;clear HO146;have HO_143000 := n0_;have HO_143001 := n1_;have BK134 := n2_;have BK135 := n3_;have BK142 := n4_;have HB := n5_;have HO150 := n6_;clear n0_ n1_ n2_ n3_ n4_ n5_ n6_;clear ho hb hg hat;obtain ⟨Ao26, co26, eo26⟩ := Kd.R_slice HO150.out
        (first | subst eo26 | (injection eo26 with f1_ f2_ f3_; have f4_ := f1_.symm; have f5_ := f3_.symm; clear f1_ f2_ f3_; subst f4_; subst f5_))
        refine hK.out _ _ ⟨(blk_cell BK142.out 0).trans rfl, (blk_cell BK142.out 1).trans rfl, (blk_cell BK134.out 0).trans rfl, (blk_cell BK134.out 1).trans rfl, ((zk HB.out hw143_0).trans rfl), ((zk HB.out hw143_1).trans rfl), ((zk HB.out hw147_0).trans rfl), ((zk HB.out hw147_1).trans rfl)⟩ (fun hHeld => ?_);clear hK K;refine norm_ (a' := ?_) ?_ ?_;rotate_left; (focus (show Act.put _ (some 32) _ = _; simp only [zs]; rfl));refine pure_ (i := 16) (N := some 33) (v := ?_) (a' := ?_) (bitsA 21 131071) rfl rfl (any_of HT_.out (by kernel_rfl)) (fun _ _ _ => id) (yl (by rfl) ?_) ?_ ?_;rotate_left; (focus (intro w'; go_simp; with_reducible rfl));rotate_left; (focus (simp only [zs]; rfl));refine one_ (i := 17) (N := some 34) (bitsA 21 262143) rfl rfl (one_of HT_.out (by kernel_rfl)) (by decide) (fun K hK => ?_);refine value_ (w1 := ?_) (v := ?_) (by rfl) rfl ?_ ?_;rotate_left 2
        ·go_simp
         constructor
         ·rfl
         ·rfl
        refine hK.out _ _ ⟨(blk_cell (blk_alloc BK142.out _) 0).trans rfl, (blk_cell (blk_alloc BK142.out _) 1).trans rfl, (blk_cell (blk_alloc BK134.out _) 0).trans rfl, (blk_cell (blk_alloc BK134.out _) 1).trans rfl, (World.cell?_alloc_lt _ _ _ (World.block_lt_of_cell? _ _ (((zk HB.out hw143_0).trans rfl)))).trans (((zk HB.out hw143_0).trans rfl)), (World.cell?_alloc_lt _ _ _ (World.block_lt_of_cell? _ _ (((zk HB.out hw143_1).trans rfl)))).trans (((zk HB.out hw143_1).trans rfl)), (World.cell?_alloc_lt _ _ _ (World.block_lt_of_cell? _ _ (((zk HB.out hw147_0).trans rfl)))).trans (((zk HB.out hw147_0).trans rfl)), (World.cell?_alloc_lt _ _ _ (World.block_lt_of_cell? _ _ (((zk HB.out hw147_1).trans rfl)))).trans (((zk HB.out hw147_1).trans rfl))⟩ (fun hHeld => ?_);clear hK K;refine norm_ (a' := ?_) ?_ ?_;rotate_left; (focus (show Act.put _ (some 34) _ = _; simp only [zs]; rfl));refine one_ (i := 18) (N := some 35) (bitsA 21 524287) rfl rfl (one_of HT_.out (by kernel_rfl)) (by decide) (fun K hK => ?_);refine Kd.S_append_step k101 (w0 := w) w.heap.size (by rfl) (.tmp 18) (.tmp 34) 40 101 (.agg #[(.int .i64 0), (.slice none 0 0)]) 32 rfl Try.underlying40 info101 rfl (by decide) (by omega) u143001 x143001_1 (⟨(rd_T101 l0_1 x4_1).f0, y148⟩ : S101) [.int .i64 ((rd_T101 l0_1 x4_1).f0), .slice Ao26 y148.length co26] (fun _ => True) (fun k_ => some k_ = (.slice Ao26 y148.length co26 : Value).ownBlock) rfl rfl ?aP (fun k_ hk_ => ((Kd.R_mono (ok' := fun k_ => ((fun _ => True)) k_ ∧ some k_ ≠ (u143001 : Value).ownBlock) (Kd.R_apart' (HO150.out) (Kd.S_typed HO_143001.out) (by decide)) (fun k_ hk => ⟨trivial, hk.2⟩))).1 k_ hk_.symm) ?aF ?aO ?aB ?aS ?aL ?_
        (case aP => exact k101_mkM _ _ _ (⟨(rd_T101 l0_1 x4_1).f0, y148⟩ : S101) (Kd.R_mono (Kd.R_tight rfl (Kd.R_mono (ok' := fun k_ => ((fun _ => True)) k_ ∧ some k_ ≠ (u143001 : Value).ownBlock) (Kd.R_apart' (HO150.out) (Kd.S_typed HO_143001.out) (by decide)) (fun k_ hk => ⟨trivial, hk.2⟩))) (fun _ h_ => h_)))
        (case aB => exact (by repeat (first | (with_reducible first | exact HB.out | apply below_alloc | apply pw_below_drewN | apply below_drew1 | refine below_set ?_ GE134.out | refine below_set ?_ GE135.out | refine below_set ?_ GE142.out) | exact HB.out)))
        (case aF => exact (fun _ _ => trivial))
        (case aO => exact (by (with_reducible repeat (first | apply Kd.S_alloc | apply Kd.S_drewN | apply Kd.S_drew)); exact Kd.S_mono HO_143001.out (fun k_ hk => ⟨trivial, fun e_ => hk.2 e_⟩)))
        (case aS => exact (below_size (by repeat (first | (with_reducible first | exact HB.out | apply below_alloc | apply pw_below_drewN | apply below_drew1 | refine below_set ?_ GE134.out | refine below_set ?_ GE135.out | refine below_set ?_ GE142.out) | exact HB.out))))
        (case aL => have := LMc18.out; omega)
        intro v152 w27 ho hb hg hat
        rw [← Ny151.out] at ho
        have n0_ := Aside0.mk (Kd.R_over' (by (with_reducible repeat (first | apply Kd.R_alloc | apply Kd.R_drewN | apply Kd.R_drew)); exact HO_143000.out) (Kd.S_typed (by (with_reducible repeat (first | apply Kd.S_alloc | apply Kd.S_drewN | apply Kd.S_drew)); exact HO_143001.out)) (by decide) hg); have n1_ := Aside0.mk (blk_grown (g := gb134) (o := .cells #[.slice A0_0 l0_0.length c0_0, .slice (some ad143) l0_1.length c0_1] 42 (0, 0)) (by (with_reducible repeat (first | apply blk_drewN | apply blk_drew | apply blk_alloc)); exact BK134.out) hg (Kd.S_ne HO_143001.out BK134.out (by decide))); have n2_ := Aside0.mk (blk_grown (g := gb135) (o := .cells #[.slice none 0 0, .slice none 0 0] 42 (0, 0)) (by (with_reducible repeat (first | apply blk_drewN | apply blk_drew | apply blk_alloc)); exact BK135.out) hg (Kd.S_ne HO_143001.out BK135.out (by decide))); have n3_ := Aside0.mk (blk_grown (g := gb142) (o := .cells #[.slice Ao10 y139.length co10, u143001] 42 (0, 0)) (by (with_reducible repeat (first | apply blk_drewN | apply blk_drew | apply blk_alloc)); exact BK142.out) hg (Kd.S_ne HO_143001.out BK142.out (by decide))); have n4_ := Aside0.mk (hb); have n5_ := Aside0.mk (ho);clear HO_143000;clear BK134;clear BK135;clear BK142;clear HB;clear HO_143001;clear HO150;have HO_143000 := n0_;have BK134 := n1_;have BK135 := n2_;have BK142 := n3_;have HB := n4_;have HO153 := n5_;clear n0_ n1_ n2_ n3_ n4_ n5_;clear ho hb hg hat;obtain ⟨Ao28, co28, eo28⟩ := Kd.S_slice HO153.out
        (first | subst eo28 | (injection eo28 with f1_ f2_ f3_; have f4_ := f1_.symm; have f5_ := f3_.symm; clear f1_ f2_ f3_; subst f4_; subst f5_))
        refine hK.out _ _ ⟨(blk_cell BK142.out 0).trans rfl, (blk_cell BK142.out 1).trans rfl, (blk_cell BK134.out 0).trans rfl, (blk_cell BK134.out 1).trans rfl, ((zk HB.out hw143_0).trans rfl), ((zk HB.out hw143_1).trans rfl), ((zk HB.out hw147_0).trans rfl), ((zk HB.out hw147_1).trans rfl)⟩ (fun hHeld => ?_);clear hK K;refine norm_ (a' := ?_) ?_ ?_;rotate_left; (focus (show Act.put _ (some 35) _ = _; simp only [zs]; rfl));refine pure_ (i := 19) (N := some 36) (v := ?_) (a' := ?_) (bitsA 21 1048575) rfl rfl (any_of HT_.out (by kernel_rfl)) (fun _ _ _ => id) (yl (by rfl) ?_) ?_ ?_;rotate_left; (focus (intro w'; go_simp; with_reducible rfl));rotate_left; (focus (simp only [zs]; rfl));refine last_ (i := 20) (N := none) (bitsA 21 2097151) rfl rfl (one_of HT_.out (by kernel_rfl)) (by decide) (fun K hK => ?_);have hs29 : w27.cell? ⟨gb142, 1, none⟩ = some (u143001) := (blk_cell BK142.out 1).trans rfl;have hfs29 := blk_frozen BK142.out 1;have hns29_0 := NB134_142.out;have hns29_1 := NB135_142.out;have hms29_0 := NB142_134.out;have hms29_1 := NB142_135.out;refine skip_ (w1 := ?_) (by rfl) rfl ?_ ?_;rotate_left; (focus (go_simp; rfl));refine hK.out _ _ ?_;clear hK K;refine done_ (done_of HT_.out (by kernel_rfl)) ?_
        try go_wp2
        go_roundg k1
        case measure => have := HK1.out; omega
        case rel => exact ⟨(wrap64 (x4_1 + 1)), (y151), (.slice Ao28 y151.length co28), (by first | rfl | (simp; done) | (simp [*]; done)), H', ⟨by have := HK1.out; omega⟩, ⟨by (with_reducible repeat (first | apply Kd.R_alloc | apply Kd.R_drewN | apply Kd.R_drew)); exact Kd.R_mono (Kd.R_far (p := ⟨gb142, 1, none⟩) (Kd.R_types HO_143000.out BK142.out (by decide)) (fun _ hk => hk.2) (.slice Ao28 y151.length co28)) (fun _ hk => trivial)⟩, ⟨by (with_reducible repeat (first | apply Kd.S_alloc | apply Kd.S_drewN | apply Kd.S_drew)); exact Kd.S_mono (Kd.S_far (p := ⟨gb142, 1, none⟩) (Kd.S_types HO153.out BK142.out (by decide)) (fun _ hk => hk.2) (.slice Ao28 y151.length co28)) (fun _ hk => trivial)⟩, ⟨by (with_reducible repeat (first | apply blk_drewN | apply blk_drew | apply blk_alloc)); refine blk_far ?_ NB134_142.out _; (with_reducible repeat (first | apply blk_drewN | apply blk_drew | apply blk_alloc)); exact BK134.out⟩, ⟨by (with_reducible repeat (first | apply blk_drewN | apply blk_drew | apply blk_alloc)); refine blk_far ?_ NB135_142.out _; (with_reducible repeat (first | apply blk_drewN | apply blk_drew | apply blk_alloc)); exact BK135.out⟩, ⟨by (with_reducible repeat (first | apply blk_drewN | apply blk_drew | apply blk_alloc)); refine blk_put (cs := #[.slice Ao10 y139.length co10, u143001]) ?_ 1 _ rfl; (with_reducible repeat (first | apply blk_drewN | apply blk_drew | apply blk_alloc)); exact BK142.out⟩, ⟨by repeat (first | (with_reducible first | exact HB.out | apply below_alloc | apply pw_below_drewN | apply below_drew1 | refine below_set ?_ GE134.out | refine below_set ?_ GE135.out | refine below_set ?_ GE142.out) | exact HB.out)⟩⟩
       ·rw [if_neg c18] at H
        exact absurd H (by simp)
      ·rw [if_neg c17] at H
       exact absurd H (by simp)
     ·rw [if_neg c16] at H
      exact absurd H (by simp)
    ·rw [if_neg c15] at H
     have c15b0 : decide (x4_1 < (l0_1.length : Int)) = false := decide_eq_false c15;clear c15;simp only [Option.some.injEq, Prod.mk.injEq] at H;obtain ⟨rfl, rfl⟩ := H;have hnb30 := NB134_135.out;have hnc30 := NB135_134.out;have hnb31 := NB134_142.out;have hnc31 := NB142_134.out;obtain ⟨hcz32_0, hcz32_1, hfz32_0, hfz32_1⟩ := zc2 BK134.out;have hnb33 := NB142_135.out;have hnc33 := NB135_142.out;obtain ⟨hcz34_0, hcz34_1, hfz34_0, hfz34_1⟩ := zc2 BK142.out;obtain ⟨hcz35_0, hcz35_1, hfz35_0, hfz35_1⟩ := zc2 BK135.out;obtain ⟨Ao36, co36, eo36⟩ := Kd.S_slice HO_143001.out
     subst eo36
     go_wp2
     refine bodyPost_ret (results_cell_row rfl _ _ gb135 42 #[.slice Ao10 y139.length co10, .slice Ao36 x143001_1.length co36] (0, 0) _ rfl (by (with_reducible repeat (first | apply blk_drewN | apply blk_drew | apply blk_alloc)); refine blk_put (cs := #[.slice Ao10 y139.length co10, .slice none 0 0]) ?_ 1 _ rfl; refine blk_put (cs := #[.slice none 0 0, .slice none 0 0]) ?_ 0 _ rfl; (with_reducible repeat (first | apply blk_drewN | apply blk_drew | apply blk_alloc)); exact BK135.out) Try.underlying42 rfl (by kernel_rfl)) rfl ?_;exact ⟨_, _, by first | rfl | (simp <;> rfl) | (simp [*] <;> rfl), by (with_reducible repeat (first | apply Kd.R_alloc | apply Kd.R_drewN | apply Kd.R_drew)); exact Kd.R_mono (Kd.R_far (p := ⟨gb135, 1, none⟩) (Kd.R_far (p := ⟨gb135, 0, none⟩) (Kd.R_types HO_143000.out BK135.out (by decide)) (fun _ hk => hk.2) (.slice Ao10 y139.length co10)) (fun _ hk => hk.2) (.slice Ao36 x143001_1.length co36)) (fun _ hk => trivial), by (with_reducible repeat (first | apply Kd.S_alloc | apply Kd.S_drewN | apply Kd.S_drew)); exact Kd.S_mono (Kd.S_far (p := ⟨gb135, 1, none⟩) (Kd.S_far (p := ⟨gb135, 0, none⟩) (Kd.S_types HO_143001.out BK135.out (by decide)) (fun _ hk => hk.2) (.slice Ao10 y139.length co10)) (fun _ hk => hk.2) (.slice Ao36 x143001_1.length co36)) (fun _ hk => trivial), by repeat (first | (with_reducible first | exact HB.out | apply below_alloc | apply pw_below_drewN | apply below_drew1 | refine below_set ?_ GE134.out | refine below_set ?_ GE135.out | refine below_set ?_ GE142.out) | exact HB.out)⟩
 ·rw [if_neg c2] at H
  exact absurd H (by simp)

end Go.Proofs.Ytdplboenlcppkaa.PFnNearFind

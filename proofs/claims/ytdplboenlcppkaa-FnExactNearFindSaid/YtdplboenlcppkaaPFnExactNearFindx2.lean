/- The machine side of some functions: each comes to its pure answer (written by a program of this session with the kit's print). No condition. -/
import Derived.Test.YtdplboenlcppkaaPFnExactNearFindx0
import Derived.Test.YtdplboenlcppkaaPFnExactNearFindx1
namespace Go.Proofs.Ytdplboenlcppkaa.PFnExactNearFind
open Go.RowKit Go.Proofs.YtdplboenlcppkaaUFnExactNearFind.PrintWords Go.Proofs.YtdplboenlcppkaaUFnExactNearFind.PrintLast Go.Proofs.YtdplboenlcppkaaUFnExactNearFind.PrintMore
attribute [local go_sem] max2_int min2_int max_two min_two max_three min_three max_four min_four   -- for this text's walks alone
set_option linter.unusedVariables false
set_option linter.unusedSimpArgs false

/-! ### laws_eqNearEntryS: function 74 -/
def laws_eqNearEntryS.l0 : Nat → List (S99) → List (S99) → Int → Option (Bool)
 | 0, _, _, _ => none
 | k + 1, x0, x1, x5 => if x5 < (x0.length : Int) then (if 0 ≤ x5 then (if x5 < (x1.length : Int) then ((laws_eqNearEntry.f ((rd_T99 x0 x5).f0) ((rd_T99 x0 x5).f1) ((rd_T99 x0 x5).f2) ((rd_T99 x1 x5).f0) ((rd_T99 x1 x5).f1) ((rd_T99 x1 x5).f2)).bind fun t152 => (if t152 = true then (laws_eqNearEntryS.l0 k x0 x1 (wrap64 (x5 + 1))) else (some false))) else (none)) else (none)) else (some true)
def laws_eqNearEntryS.f (k : Nat) (l0 : List (S99)) (l1 : List (S99)) : Option (Bool) := if (l0.length : Int) = (l1.length : Int) then (laws_eqNearEntryS.l0 k l0 l1 0) else (some false)
theorem laws_eqNearEntryS.mono_l : ∀ k, (∀ y0 y1 y2, LeO (laws_eqNearEntryS.l0 k y0 y1 y2) (laws_eqNearEntryS.l0 (k + 1) y0 y1 y2))
 | 0 => fun _ _ _ r h => by simp [laws_eqNearEntryS.l0] at h
 | k + 1 => by
  have ih0 := laws_eqNearEntryS.mono_l k
  ·intro y0 y1 y2
   unfold laws_eqNearEntryS.l0
   repeat' first
   | (with_reducible exact ih0 _ _ _)
   | (with_reducible exact LeO.refl _)
   | (with_reducible exact LeO.none _)
   | (with_reducible refine LeO.ite ?_ ?_)
   | (with_reducible refine LeO.bind ?_ (fun _ => ?_))
   | exact ih0 _ _ _
   | exact LeO.none _
   | refine LeO.ite ?_ ?_
   | refine LeO.bind ?_ (fun _ => ?_)
theorem laws_eqNearEntryS.mono : ∀ a0 a1 k, LeO (laws_eqNearEntryS.f k a0 a1) (laws_eqNearEntryS.f (k + 1) a0 a1) := by
 intro a0 a1 k;have ih0 := laws_eqNearEntryS.mono_l k
 unfold laws_eqNearEntryS.f
 repeat' first
   | (with_reducible exact ih0 _ _ _)
   | (with_reducible exact LeO.refl _)
   | (with_reducible exact LeO.none _)
   | (with_reducible refine LeO.ite ?_ ?_)
   | (with_reducible refine LeO.bind ?_ (fun _ => ?_))
   | exact ih0 _ _ _
   | exact LeO.none _
   | refine LeO.ite ?_ ?_
   | refine LeO.bind ?_ (fun _ => ?_)
def laws_eqNearEntryS.T6 : Bool × List (List Nat × List Nat) := (true, [([], []), ([], []), ([0, 1], [0, 1]), ([2], [2]), ([], []), ([], []), ([4, 5], [4, 5]), ([6], [6]), ([3, 7], [3, 7]), ([8], [8])])
def laws_eqNearEntryS.B6 : List Nat := [0, 0, 3, 7, 0, 0, 48, 112, 255, 511]
theorem laws_eqNearEntryS.tab6 : rtab .any (opsOf Try.f74 6) = laws_eqNearEntryS.T6 := by kernel_rfl
theorem laws_eqNearEntryS.bits6 : waitsOk laws_eqNearEntryS.T6.2 laws_eqNearEntryS.B6 = true := by kernel_rfl
set_option maxHeartbeats 8000000 in
set_option maxRecDepth 100000 in
theorem laws_eqNearEntryS.calls (k : Nat) (A0 : Option Addr) (c0 : Nat) (l0 : List (S99)) (A1 : Option Addr) (c1 : Nat) (l1 : List (S99)) (r : Bool) (w : World) (hr0 : Kd.C k99 w A0 l0.length l0) (hc0 : l0.length ≤ c0) (hr1 : Kd.C k99 w A1 l1.length l1) (hc1 : l1.length ≤ c1) (h : laws_eqNearEntryS.f k l0 l1 = some r) :
  Calls Try.prog 74 #[.slice A0 l0.length c0, .slice A1 l1.length c1] w fun e w' => e = .returned (.bool r) ∧ Below w.heap.size w w' := by
 have hu99 := Try.underlying99;have HR0 := Aside0.mk hr0;have HC0 := Aside0.mk hc0;clear hr0 hc0;have HR1 := Aside0.mk hr1;have HC1 := Aside0.mk hc1;clear hr1 hc1;have HB := Aside0.mk (Below.refl w.heap.size w);have H : (if (l0.length : Int) = (l1.length : Int) then (laws_eqNearEntryS.l0 k l0 l1 0) else (some false)) = some r := h;clear h
 by_cases c3 : (l0.length : Int) = (l1.length : Int)
 ·rw [if_pos c3] at H
  have c3b0 : ((l0.length : Int) == (l1.length : Int)) = true := beq_iff_eq.mpr c3;have c3b1 : ((l0.length : Int) != (l1.length : Int)) = false := bne_eq_false_iff_eq.mpr c3
  have c3b2 : (l0.length == l1.length) = true := by first | simpa using c3 | (simp at c3 ⊢; omega)
  clear c3;have H' := Aside0.mk H;clear H
  go_enter Try.func74, Try.ntmps74
  go_wp2
  go_loopg [5] k (fun kq v5 w' => ∃ (x5_1 : Int), v5 = .int .i64 x5_1 ∧ Aside0 (laws_eqNearEntryS.l0 kq l0 l1 x5_1 = some r) ∧ Aside0 (kq ≤ k) ∧ Aside0 (Below w.heap.size w w'))
  case atStart => exact ⟨(0), (by first | rfl | (simp; done) | (simp [*]; done)), H', ⟨Nat.le_refl _⟩, ⟨by repeat (first | (with_reducible first | exact HB.out | apply below_alloc | apply pw_below_drewN | apply below_drew1) | exact HB.out)⟩⟩
  case round =>
   clear H'
   try clear c1
   try clear p2
   try clear c3
   try clear c3b0
   try clear c3b1
   try clear c3b2
   obtain ⟨x5_1, rfl, HA, HK1, HB⟩ := hrel
   cases gk with
   | zero => exact absurd HA.out (by simp [laws_eqNearEntryS.l0])
   | succ k1 =>
    have H := HA.out;clear HA;simp only [laws_eqNearEntryS.l0] at H
    by_cases c4 : x5_1 < (l0.length : Int)
    ·rw [if_pos c4] at H
     have c4b0 : decide (x5_1 < (l0.length : Int)) = true := decide_eq_true c4;clear c4
     by_cases c5 : 0 ≤ x5_1
     ·rw [if_pos c5] at H
      have c5b0 : decide (0 ≤ x5_1) = true := decide_eq_true c5;clear c5
      by_cases c6 : x5_1 < (l1.length : Int)
      ·rw [if_pos c6] at H
       have c6b0 : decide (x5_1 < (l1.length : Int)) = true := decide_eq_true c6;clear c6;replace H := ze H;obtain ⟨t152, A70, H⟩ := H;replace H : (if t152 = true then (laws_eqNearEntryS.l0 k1 l0 l1 (wrap64 (x5_1 + 1))) else (some false)) = some r := H;have A7 := Aside0.mk A70;clear A70
       by_cases c8 : t152 = true
       ·subst c8
        have H1 : (laws_eqNearEntryS.l0 k1 l0 l1 (wrap64 (x5_1 + 1))) = some r := by rw [if_pos rfl] at H; exact H
        clear H;have H := H1;clear H1;have H' := Aside0.mk H;clear H
        try go_wp2
        have n0_ := Aside0.mk (below_drew1 HB.out);clear HB;have HB := n0_;clear n0_;have p150 : 0 ≤ (x5_1 : Int) := of_decide_eq_true (by first | (with_reducible assumption) | assumption);have q150 : x5_1 < (l0.length : Int) := of_decide_eq_true (by first | (with_reducible assumption) | assumption);obtain ⟨ad150, e150, hx150_0, hx150_1, hx150_2⟩ := at_T99 HR0.out x5_1 p150 q150;have hw150_2 := hx150_2;have hw150_1 := hx150_1;have hw150_0 := hx150_0
        cases e150
        replace hx150_0 := (HB.out.cell (World.block_lt_of_cell? w _ hx150_0)).trans hx150_0;replace hx150_1 := (HB.out.cell (World.block_lt_of_cell? w _ hx150_1)).trans hx150_1;replace hx150_2 := (HB.out.cell (World.block_lt_of_cell? w _ hx150_2)).trans hx150_2;replace p150 := eq_true p150;replace q150 := eq_true q150;have p151 : 0 ≤ (x5_1 : Int) := of_decide_eq_true (by first | (with_reducible assumption) | assumption);have q151 : x5_1 < (l1.length : Int) := of_decide_eq_true (by first | (with_reducible assumption) | assumption);obtain ⟨ad151, e151, hx151_0, hx151_1, hx151_2⟩ := at_T99 HR1.out x5_1 p151 q151;have hw151_2 := hx151_2;have hw151_1 := hx151_1;have hw151_0 := hx151_0
        cases e151
        replace hx151_0 := (HB.out.cell (World.block_lt_of_cell? w _ hx151_0)).trans hx151_0;replace hx151_1 := (HB.out.cell (World.block_lt_of_cell? w _ hx151_1)).trans hx151_1;replace hx151_2 := (HB.out.cell (World.block_lt_of_cell? w _ hx151_2)).trans hx151_2;replace p151 := eq_true p151;replace q151 := eq_true q151;refine start_ (n := 10) (S := fun w' => w'.cell? (ad150.add ((x5_1).toNat * 3)) = some (.int .i64 ((rd_T99 l0 x5_1).f0)) ∧ w'.cell? ⟨(ad150.add ((x5_1).toNat * 3)).block, (ad150.add ((x5_1).toNat * 3)).off + 1, none⟩ = some (.int .i64 ((rd_T99 l0 x5_1).f1)) ∧ w'.cell? ⟨(ad150.add ((x5_1).toNat * 3)).block, (ad150.add ((x5_1).toNat * 3)).off + 2, none⟩ = some (.int .i64 ((rd_T99 l0 x5_1).f2)) ∧ w'.cell? (ad151.add ((x5_1).toNat * 3)) = some (.int .i64 ((rd_T99 l1 x5_1).f0)) ∧ w'.cell? ⟨(ad151.add ((x5_1).toNat * 3)).block, (ad151.add ((x5_1).toNat * 3)).off + 1, none⟩ = some (.int .i64 ((rd_T99 l1 x5_1).f1)) ∧ w'.cell? ⟨(ad151.add ((x5_1).toNat * 3)).block, (ad151.add ((x5_1).toNat * 3)).off + 2, none⟩ = some (.int .i64 ((rd_T99 l1 x5_1).f2))) (ds := []) (bitsA 10 0) (by kernel_rfl) rfl rfl ⟨((zk HB.out hw150_0).trans rfl), ((zk HB.out hw150_1).trans rfl), ((zk HB.out hw150_2).trans rfl), ((zk HB.out hw151_0).trans rfl), ((zk HB.out hw151_1).trans rfl), ((zk HB.out hw151_2).trans rfl)⟩ (fun hHeld => ?_); refine with_tabW laws_eqNearEntryS.tab6 laws_eqNearEntryS.bits6 (fun HT_ HW_ => ?_)
        generalize wr.drew = w9 at HB hx150_0 hx150_1 hx150_2 hx151_0 hx151_1 hx151_2 hHeld ⊢
        refine pure_ (i := 0) (N := some 17) (v := ?_) (a' := ?_) (bitsA 10 1) rfl rfl (any_of HT_.out (by kernel_rfl)) (fun _ _ _ => id) (yl (by rfl) ?_) ?_ ?_;rotate_left; (focus (intro w'; go_simp; with_reducible rfl));rotate_left; (focus (simp only [zs]; rfl));refine pure_ (i := 1) (N := some 18) (v := ?_) (a' := ?_) (bitsA 10 3) rfl rfl (any_of HT_.out (by kernel_rfl)) (fun _ _ _ => id) (yl (by rfl) ?_) ?_ ?_;rotate_left; (focus (intro w'; go_simp; with_reducible rfl));rotate_left; (focus (simp only [zs]; rfl));refine pure_ (i := 2) (N := some 19) (v := ?_) (a' := ?_) (bitsA 10 7) rfl rfl (any_of HT_.out (by kernel_rfl)) (fun _ _ _ => id) (yl (by rfl) ?_) ?_ ?_;rotate_left; (focus (intro w'; go_simp; with_reducible rfl));rotate_left; (focus (simp only [zs]; rfl));refine pure_ (i := 4) (N := some 21) (v := ?_) (a' := ?_) (bitsA 10 23) rfl rfl (any_of HT_.out (by kernel_rfl)) (fun _ _ _ => id) (yl (by rfl) ?_) ?_ ?_;rotate_left; (focus (intro w'; go_simp; with_reducible rfl));rotate_left; (focus (simp only [zs]; rfl));refine pure_ (i := 5) (N := some 22) (v := ?_) (a' := ?_) (bitsA 10 55) rfl rfl (any_of HT_.out (by kernel_rfl)) (fun _ _ _ => id) (yl (by rfl) ?_) ?_ ?_;rotate_left; (focus (intro w'; go_simp; with_reducible rfl));rotate_left; (focus (simp only [zs]; rfl));refine pure_ (i := 6) (N := some 23) (v := ?_) (a' := ?_) (bitsA 10 119) rfl rfl (any_of HT_.out (by kernel_rfl)) (fun _ _ _ => id) (yl (by rfl) ?_) ?_ ?_;rotate_left; (focus (intro w'; go_simp; with_reducible rfl));rotate_left; (focus (simp only [zs]; rfl));refine take_ (i := 3) (N := some 20) (v := ?_) (a' := ?_) (bitsA 10 127) rfl rfl (take_ofW HT_.out HW_.out (by kernel_rfl)) (fun _ _ _ => id) (yl (by rfl) ?_) hHeld ?_ ?_;rotate_left
        ·rintro w' ⟨s0, s1, s2, s3, s4, s5⟩
         go_simp;with_reducible rfl
        rotate_left; (focus (simp only [zs]; rfl));refine take_ (i := 7) (N := some 24) (v := ?_) (a' := ?_) (bitsA 10 255) rfl rfl (take_ofW HT_.out HW_.out (by kernel_rfl)) (fun _ _ _ => id) (yl (by rfl) ?_) hHeld ?_ ?_;rotate_left
        ·rintro w' ⟨s0, s1, s2, s3, s4, s5⟩
         go_simp;with_reducible rfl
        rotate_left; (focus (simp only [zs]; rfl));refine one_ (i := 8) (N := some 25) (bitsA 10 511) rfl rfl (one_of HT_.out (by kernel_rfl)) (by decide) (fun K hK => ?_);refine goes_ Try.func116 (by kernel_rfl) rfl #[.agg #[.int .i64 ((rd_T99 l0 x5_1).f0), .int .i64 ((rd_T99 l0 x5_1).f1), .int .i64 ((rd_T99 l0 x5_1).f2)], .agg #[.int .i64 ((rd_T99 l1 x5_1).f0), .int .i64 ((rd_T99 l1 x5_1).f1), .int .i64 ((rd_T99 l1 x5_1).f2)]] (by rfl) rfl rfl (by (try simp only [zm]); first | done | rfl | (simp only [zl]; rfl)) ?_
        with_reducible refine (laws_eqNearEntry.calls ((rd_T99 l0 x5_1).f0) ((rd_T99 l0 x5_1).f1) ((rd_T99 l0 x5_1).f2) ((rd_T99 l1 x5_1).f0) ((rd_T99 l1 x5_1).f1) ((rd_T99 l1 x5_1).f2) true _ A7.out).mono ?_
        rintro e w10 ⟨rfl, hb⟩
        refine ⟨_, rfl, ?_⟩;have n0_ := Aside0.mk (below_step (by repeat (first | (with_reducible first | exact HB.out | apply below_alloc | apply pw_below_drewN | apply below_drew1) | exact HB.out)) hb);clear HB;have HB := n0_;clear n0_;(try clear hb);(try clear hb2);(try clear hk);(try clear hi);refine hK.out _ _ ⟨((zk HB.out hw150_0).trans rfl), ((zk HB.out hw150_1).trans rfl), ((zk HB.out hw150_2).trans rfl), ((zk HB.out hw151_0).trans rfl), ((zk HB.out hw151_1).trans rfl), ((zk HB.out hw151_2).trans rfl)⟩ (fun hHeld => ?_);clear hK K;refine norm_ (a' := ?_) ?_ ?_;rotate_left; (focus (show Act.put _ (some 25) _ = _; simp only [zs]; rfl));refine pure_ (i := 9) (N := some 26) (v := ?_) (a' := ?_) (bitsA 10 1023) rfl rfl (any_of HT_.out (by kernel_rfl)) (fun _ _ _ => id) (yl (by rfl) ?_) ?_ ?_;rotate_left; (focus (intro w'; go_simp; with_reducible rfl));rotate_left; (focus (simp only [zs]; rfl));refine done_ (done_of HT_.out (by kernel_rfl)) ?_
        try go_wp2
        go_roundg k1
        case measure => have := HK1.out; omega
        case rel => exact ⟨(wrap64 (x5_1 + 1)), (by first | rfl | (simp; done) | (simp [*]; done)), H', ⟨by have := HK1.out; omega⟩, ⟨by repeat (first | (with_reducible first | exact HB.out | apply below_alloc | apply pw_below_drewN | apply below_drew1) | exact HB.out)⟩⟩
       ·replace c8 := Bool.eq_false_iff.mpr c8
        subst c8
        have H1 : (some false) = some r := by rw [if_neg (show ¬ (false = true) by decide)] at H; exact H
        clear H;have H := H1;clear H1;obtain rfl := Option.some.inj H
        try go_wp2
        have n0_ := Aside0.mk (below_drew1 HB.out);clear HB;have HB := n0_;clear n0_;have p150 : 0 ≤ (x5_1 : Int) := of_decide_eq_true (by first | (with_reducible assumption) | assumption);have q150 : x5_1 < (l0.length : Int) := of_decide_eq_true (by first | (with_reducible assumption) | assumption);obtain ⟨ad150, e150, hx150_0, hx150_1, hx150_2⟩ := at_T99 HR0.out x5_1 p150 q150;have hw150_2 := hx150_2;have hw150_1 := hx150_1;have hw150_0 := hx150_0
        cases e150
        replace hx150_0 := (HB.out.cell (World.block_lt_of_cell? w _ hx150_0)).trans hx150_0;replace hx150_1 := (HB.out.cell (World.block_lt_of_cell? w _ hx150_1)).trans hx150_1;replace hx150_2 := (HB.out.cell (World.block_lt_of_cell? w _ hx150_2)).trans hx150_2;replace p150 := eq_true p150;replace q150 := eq_true q150;have p151 : 0 ≤ (x5_1 : Int) := of_decide_eq_true (by first | (with_reducible assumption) | assumption);have q151 : x5_1 < (l1.length : Int) := of_decide_eq_true (by first | (with_reducible assumption) | assumption);obtain ⟨ad151, e151, hx151_0, hx151_1, hx151_2⟩ := at_T99 HR1.out x5_1 p151 q151;have hw151_2 := hx151_2;have hw151_1 := hx151_1;have hw151_0 := hx151_0
        cases e151
        replace hx151_0 := (HB.out.cell (World.block_lt_of_cell? w _ hx151_0)).trans hx151_0;replace hx151_1 := (HB.out.cell (World.block_lt_of_cell? w _ hx151_1)).trans hx151_1;replace hx151_2 := (HB.out.cell (World.block_lt_of_cell? w _ hx151_2)).trans hx151_2;replace p151 := eq_true p151;replace q151 := eq_true q151;refine start_ (n := 10) (S := fun w' => w'.cell? (ad150.add ((x5_1).toNat * 3)) = some (.int .i64 ((rd_T99 l0 x5_1).f0)) ∧ w'.cell? ⟨(ad150.add ((x5_1).toNat * 3)).block, (ad150.add ((x5_1).toNat * 3)).off + 1, none⟩ = some (.int .i64 ((rd_T99 l0 x5_1).f1)) ∧ w'.cell? ⟨(ad150.add ((x5_1).toNat * 3)).block, (ad150.add ((x5_1).toNat * 3)).off + 2, none⟩ = some (.int .i64 ((rd_T99 l0 x5_1).f2)) ∧ w'.cell? (ad151.add ((x5_1).toNat * 3)) = some (.int .i64 ((rd_T99 l1 x5_1).f0)) ∧ w'.cell? ⟨(ad151.add ((x5_1).toNat * 3)).block, (ad151.add ((x5_1).toNat * 3)).off + 1, none⟩ = some (.int .i64 ((rd_T99 l1 x5_1).f1)) ∧ w'.cell? ⟨(ad151.add ((x5_1).toNat * 3)).block, (ad151.add ((x5_1).toNat * 3)).off + 2, none⟩ = some (.int .i64 ((rd_T99 l1 x5_1).f2))) (ds := []) (bitsA 10 0) (by kernel_rfl) rfl rfl ⟨((zk HB.out hw150_0).trans rfl), ((zk HB.out hw150_1).trans rfl), ((zk HB.out hw150_2).trans rfl), ((zk HB.out hw151_0).trans rfl), ((zk HB.out hw151_1).trans rfl), ((zk HB.out hw151_2).trans rfl)⟩ (fun hHeld => ?_); refine with_tabW laws_eqNearEntryS.tab6 laws_eqNearEntryS.bits6 (fun HT_ HW_ => ?_)
        generalize wr.drew = w11 at HB hx150_0 hx150_1 hx150_2 hx151_0 hx151_1 hx151_2 hHeld ⊢
        refine pure_ (i := 0) (N := some 17) (v := ?_) (a' := ?_) (bitsA 10 1) rfl rfl (any_of HT_.out (by kernel_rfl)) (fun _ _ _ => id) (yl (by rfl) ?_) ?_ ?_;rotate_left; (focus (intro w'; go_simp; with_reducible rfl));rotate_left; (focus (simp only [zs]; rfl));refine pure_ (i := 1) (N := some 18) (v := ?_) (a' := ?_) (bitsA 10 3) rfl rfl (any_of HT_.out (by kernel_rfl)) (fun _ _ _ => id) (yl (by rfl) ?_) ?_ ?_;rotate_left; (focus (intro w'; go_simp; with_reducible rfl));rotate_left; (focus (simp only [zs]; rfl));refine pure_ (i := 2) (N := some 19) (v := ?_) (a' := ?_) (bitsA 10 7) rfl rfl (any_of HT_.out (by kernel_rfl)) (fun _ _ _ => id) (yl (by rfl) ?_) ?_ ?_;rotate_left; (focus (intro w'; go_simp; with_reducible rfl));rotate_left; (focus (simp only [zs]; rfl));refine pure_ (i := 4) (N := some 21) (v := ?_) (a' := ?_) (bitsA 10 23) rfl rfl (any_of HT_.out (by kernel_rfl)) (fun _ _ _ => id) (yl (by rfl) ?_) ?_ ?_;rotate_left; (focus (intro w'; go_simp; with_reducible rfl));rotate_left; (focus (simp only [zs]; rfl));refine pure_ (i := 5) (N := some 22) (v := ?_) (a' := ?_) (bitsA 10 55) rfl rfl (any_of HT_.out (by kernel_rfl)) (fun _ _ _ => id) (yl (by rfl) ?_) ?_ ?_;rotate_left; (focus (intro w'; go_simp; with_reducible rfl));rotate_left; (focus (simp only [zs]; rfl));refine pure_ (i := 6) (N := some 23) (v := ?_) (a' := ?_) (bitsA 10 119) rfl rfl (any_of HT_.out (by kernel_rfl)) (fun _ _ _ => id) (yl (by rfl) ?_) ?_ ?_;rotate_left; (focus (intro w'; go_simp; with_reducible rfl));rotate_left; (focus (simp only [zs]; rfl));refine take_ (i := 3) (N := some 20) (v := ?_) (a' := ?_) (bitsA 10 127) rfl rfl (take_ofW HT_.out HW_.out (by kernel_rfl)) (fun _ _ _ => id) (yl (by rfl) ?_) hHeld ?_ ?_;rotate_left
        ·rintro w' ⟨s0, s1, s2, s3, s4, s5⟩
         go_simp;with_reducible rfl
        rotate_left; (focus (simp only [zs]; rfl));refine take_ (i := 7) (N := some 24) (v := ?_) (a' := ?_) (bitsA 10 255) rfl rfl (take_ofW HT_.out HW_.out (by kernel_rfl)) (fun _ _ _ => id) (yl (by rfl) ?_) hHeld ?_ ?_;rotate_left
        ·rintro w' ⟨s0, s1, s2, s3, s4, s5⟩
         go_simp;with_reducible rfl
        rotate_left; (focus (simp only [zs]; rfl));refine one_ (i := 8) (N := some 25) (bitsA 10 511) rfl rfl (one_of HT_.out (by kernel_rfl)) (by decide) (fun K hK => ?_);refine goes_ Try.func116 (by kernel_rfl) rfl #[.agg #[.int .i64 ((rd_T99 l0 x5_1).f0), .int .i64 ((rd_T99 l0 x5_1).f1), .int .i64 ((rd_T99 l0 x5_1).f2)], .agg #[.int .i64 ((rd_T99 l1 x5_1).f0), .int .i64 ((rd_T99 l1 x5_1).f1), .int .i64 ((rd_T99 l1 x5_1).f2)]] (by rfl) rfl rfl (by (try simp only [zm]); first | done | rfl | (simp only [zl]; rfl)) ?_
        with_reducible refine (laws_eqNearEntry.calls ((rd_T99 l0 x5_1).f0) ((rd_T99 l0 x5_1).f1) ((rd_T99 l0 x5_1).f2) ((rd_T99 l1 x5_1).f0) ((rd_T99 l1 x5_1).f1) ((rd_T99 l1 x5_1).f2) false _ A7.out).mono ?_
        rintro e w12 ⟨rfl, hb⟩
        refine ⟨_, rfl, ?_⟩;have n0_ := Aside0.mk (below_step (by repeat (first | (with_reducible first | exact HB.out | apply below_alloc | apply pw_below_drewN | apply below_drew1) | exact HB.out)) hb);clear HB;have HB := n0_;clear n0_;(try clear hb);(try clear hb2);(try clear hk);(try clear hi);refine hK.out _ _ ⟨((zk HB.out hw150_0).trans rfl), ((zk HB.out hw150_1).trans rfl), ((zk HB.out hw150_2).trans rfl), ((zk HB.out hw151_0).trans rfl), ((zk HB.out hw151_1).trans rfl), ((zk HB.out hw151_2).trans rfl)⟩ (fun hHeld => ?_);clear hK K;refine norm_ (a' := ?_) ?_ ?_;rotate_left; (focus (show Act.put _ (some 25) _ = _; simp only [zs]; rfl));refine pure_ (i := 9) (N := some 26) (v := ?_) (a' := ?_) (bitsA 10 1023) rfl rfl (any_of HT_.out (by kernel_rfl)) (fun _ _ _ => id) (yl (by rfl) ?_) ?_ ?_;rotate_left; (focus (intro w'; go_simp; with_reducible rfl));rotate_left; (focus (simp only [zs]; rfl));refine done_ (done_of HT_.out (by kernel_rfl)) ?_
        try go_wp2
        go_ret;exact ⟨by first | rfl | (simp <;> rfl) | (simp [*] <;> rfl), by repeat (first | (with_reducible first | exact HB.out | apply below_alloc | apply pw_below_drewN | apply below_drew1) | exact HB.out)⟩
      ·rw [if_neg c6] at H
       exact absurd H (by simp)
     ·rw [if_neg c5] at H
      exact absurd H (by simp)
    ·rw [if_neg c4] at H
     have c4b0 : decide (x5_1 < (l0.length : Int)) = false := decide_eq_false c4;clear c4;obtain rfl := Option.some.inj H
     go_wp2
     go_ret;exact ⟨by first | rfl | (simp <;> rfl) | (simp [*] <;> rfl), by repeat (first | (with_reducible first | exact HB.out | apply below_alloc | apply pw_below_drewN | apply below_drew1) | exact HB.out)⟩
 ·rw [if_neg c3] at H
  have c3b0 : ((l0.length : Int) == (l1.length : Int)) = false := beq_eq_false_iff_ne.mpr c3;have c3b1 : ((l0.length : Int) != (l1.length : Int)) = true := bne_iff_ne.mpr c3
  have c3b2 : (l0.length == l1.length) = false := by first | simpa using c3 | (simp at c3 ⊢; omega)
  obtain rfl := Option.some.inj H
  go_enter Try.func74, Try.ntmps74
  go_wp2
  go_ret;exact ⟨by first | rfl | (simp <;> rfl) | (simp [*] <;> rfl), by repeat (first | (with_reducible first | exact HB.out | apply below_alloc | apply pw_below_drewN | apply below_drew1) | exact HB.out)⟩

/-! ### laws_eqByteS: function 29 -/
def laws_eqByteS.l0 : Nat → List Int → List Int → Int → Option (Bool)
 | 0, _, _, _ => none
 | k + 1, x0, x1, x5 => if x5 < (x0.length : Int) then (if 0 ≤ x5 then (if x5 < (x1.length : Int) then (if (rd x0 x5) = (rd x1 x5) then (laws_eqByteS.l0 k x0 x1 (wrap64 (x5 + 1))) else (some false)) else (none)) else (none)) else (some true)
def laws_eqByteS.f (k : Nat) (l0 : List Int) (l1 : List Int) : Option (Bool) := if (l0.length : Int) = (l1.length : Int) then (laws_eqByteS.l0 k l0 l1 0) else (some false)
theorem laws_eqByteS.mono_l : ∀ k, (∀ y0 y1 y2, LeO (laws_eqByteS.l0 k y0 y1 y2) (laws_eqByteS.l0 (k + 1) y0 y1 y2))
 | 0 => fun _ _ _ r h => by simp [laws_eqByteS.l0] at h
 | k + 1 => by
  have ih0 := laws_eqByteS.mono_l k
  ·intro y0 y1 y2
   unfold laws_eqByteS.l0
   repeat' first
   | (with_reducible exact ih0 _ _ _)
   | (with_reducible exact LeO.refl _)
   | (with_reducible exact LeO.none _)
   | (with_reducible refine LeO.ite ?_ ?_)
   | (with_reducible refine LeO.bind ?_ (fun _ => ?_))
   | exact ih0 _ _ _
   | exact LeO.none _
   | refine LeO.ite ?_ ?_
   | refine LeO.bind ?_ (fun _ => ?_)
theorem laws_eqByteS.mono : ∀ a0 a1 k, LeO (laws_eqByteS.f k a0 a1) (laws_eqByteS.f (k + 1) a0 a1) := by
 intro a0 a1 k;have ih0 := laws_eqByteS.mono_l k
 unfold laws_eqByteS.f
 repeat' first
   | (with_reducible exact ih0 _ _ _)
   | (with_reducible exact LeO.refl _)
   | (with_reducible exact LeO.none _)
   | (with_reducible refine LeO.ite ?_ ?_)
   | (with_reducible refine LeO.bind ?_ (fun _ => ?_))
   | exact ih0 _ _ _
   | exact LeO.none _
   | refine LeO.ite ?_ ?_
   | refine LeO.bind ?_ (fun _ => ?_)
set_option maxHeartbeats 8000000 in
set_option maxRecDepth 100000 in
theorem laws_eqByteS.calls (k : Nat) (A0 : Option Addr) (c0 : Nat) (l0 : List Int) (A1 : Option Addr) (c1 : Nat) (l1 : List Int) (r : Bool) (w : World) (hr0 : Kd.C (Kd.int .u8) w A0 l0.length l0) (hc0 : l0.length ≤ c0) (hr1 : Kd.C (Kd.int .u8) w A1 l1.length l1) (hc1 : l1.length ≤ c1) (h : laws_eqByteS.f k l0 l1 = some r) :
  Calls Try.prog 29 #[.slice A0 l0.length c0, .slice A1 l1.length c1] w fun e w' => e = .returned (.bool r) ∧ Drawn0 w w' := by
 have HR0 := Aside0.mk hr0;have HC0 := Aside0.mk hc0;clear hr0 hc0;have HR1 := Aside0.mk hr1;have HC1 := Aside0.mk hc1;clear hr1 hc1;have H : (if (l0.length : Int) = (l1.length : Int) then (laws_eqByteS.l0 k l0 l1 0) else (some false)) = some r := h;clear h
 by_cases c3 : (l0.length : Int) = (l1.length : Int)
 ·rw [if_pos c3] at H
  have c3b0 : ((l0.length : Int) == (l1.length : Int)) = true := beq_iff_eq.mpr c3;have c3b1 : ((l0.length : Int) != (l1.length : Int)) = false := bne_eq_false_iff_eq.mpr c3
  have c3b2 : (l0.length == l1.length) = true := by first | simpa using c3 | (simp at c3 ⊢; omega)
  clear c3;have H' := Aside0.mk H;clear H
  go_enter Try.func29, Try.ntmps29
  go_wp2
  repeat (go_quiet (fail); try go_wp2)
  go_loopg [5] k (fun kq v5 w' => ∃ (x5_1 : Int), v5 = .int .i64 x5_1 ∧ Aside0 (laws_eqByteS.l0 kq l0 l1 x5_1 = some r) ∧ Aside0 (kq ≤ k) ∧ Drawn0 w w')
  case atStart => exact ⟨(0), (by first | rfl | (simp; done) | (simp [*]; done)), H', ⟨Nat.le_refl _⟩, by repeat (first | exact Drawn0.refl _ | apply Drawn0.step)⟩
  case round =>
   clear H'
   try clear c1
   try clear c2
   try clear p2
   try clear c3
   try clear c3b0
   try clear c3b1
   try clear c3b2
   obtain ⟨x5_1, rfl, HA, HK1, ⟨m1, rfl⟩⟩ := hrel
   cases gk with
   | zero => exact absurd HA.out (by simp [laws_eqByteS.l0])
   | succ k1 =>
    have H := HA.out;clear HA;simp only [laws_eqByteS.l0] at H
    by_cases c4 : x5_1 < (l0.length : Int)
    ·rw [if_pos c4] at H
     have c4b0 : decide (x5_1 < (l0.length : Int)) = true := decide_eq_true c4;clear c4
     by_cases c5 : 0 ≤ x5_1
     ·rw [if_pos c5] at H
      have c5b0 : decide (0 ≤ x5_1) = true := decide_eq_true c5;clear c5
      by_cases c6 : x5_1 < (l1.length : Int)
      ·rw [if_pos c6] at H
       have c6b0 : decide (x5_1 < (l1.length : Int)) = true := decide_eq_true c6;clear c6
       by_cases c7 : (rd l0 x5_1) = (rd l1 x5_1)
       ·rw [if_pos c7] at H
        have c7b0 : ((rd l0 x5_1) == (rd l1 x5_1)) = true := beq_iff_eq.mpr c7;have c7b1 : ((rd l0 x5_1) != (rd l1 x5_1)) = false := bne_eq_false_iff_eq.mpr c7;clear c7;have H' := Aside0.mk H;clear H;have p153 : 0 ≤ (x5_1 : Int) := of_decide_eq_true (by first | (with_reducible assumption) | assumption);have q153 : x5_1 < (l0.length : Int) := of_decide_eq_true (by first | (with_reducible assumption) | assumption);obtain ⟨ad153, e153, hx153_0⟩ := Kd.at_int HR0.out x5_1 p153 q153
        cases e153
        replace p153 := eq_true p153;replace q153 := eq_true q153;have p154 : 0 ≤ (x5_1 : Int) := of_decide_eq_true (by first | (with_reducible assumption) | assumption);have q154 : x5_1 < (l1.length : Int) := of_decide_eq_true (by first | (with_reducible assumption) | assumption);obtain ⟨ad154, e154, hx154_0⟩ := Kd.at_int HR1.out x5_1 p154 q154
        cases e154
        replace p154 := eq_true p154;replace q154 := eq_true q154
        go_wp2
        repeat (go_quiet (fail); try go_wp2)
        go_roundg k1
        case measure => have := HK1.out; omega
        case rel => exact ⟨(wrap64 (x5_1 + 1)), (by first | rfl | (simp; done) | (simp [*]; done)), H', ⟨by have := HK1.out; omega⟩, by repeat (first | exact Drawn0.refl _ | apply Drawn0.step)⟩
       ·rw [if_neg c7] at H
        have c7b0 : ((rd l0 x5_1) == (rd l1 x5_1)) = false := beq_eq_false_iff_ne.mpr c7;have c7b1 : ((rd l0 x5_1) != (rd l1 x5_1)) = true := bne_iff_ne.mpr c7;obtain rfl := Option.some.inj H;have p153 : 0 ≤ (x5_1 : Int) := of_decide_eq_true (by first | (with_reducible assumption) | assumption);have q153 : x5_1 < (l0.length : Int) := of_decide_eq_true (by first | (with_reducible assumption) | assumption);obtain ⟨ad153, e153, hx153_0⟩ := Kd.at_int HR0.out x5_1 p153 q153
        cases e153
        replace p153 := eq_true p153;replace q153 := eq_true q153;have p154 : 0 ≤ (x5_1 : Int) := of_decide_eq_true (by first | (with_reducible assumption) | assumption);have q154 : x5_1 < (l1.length : Int) := of_decide_eq_true (by first | (with_reducible assumption) | assumption);obtain ⟨ad154, e154, hx154_0⟩ := Kd.at_int HR1.out x5_1 p154 q154
        cases e154
        replace p154 := eq_true p154;replace q154 := eq_true q154
        go_wp2
        repeat (go_quiet (fail); try go_wp2)
        go_ret;exact ⟨by first | rfl | (simp; done) | (simp [*]; done), by repeat (first | exact Drawn0.refl _ | apply Drawn0.step)⟩
      ·rw [if_neg c6] at H
       exact absurd H (by simp)
     ·rw [if_neg c5] at H
      exact absurd H (by simp)
    ·rw [if_neg c4] at H
     have c4b0 : decide (x5_1 < (l0.length : Int)) = false := decide_eq_false c4;clear c4;obtain rfl := Option.some.inj H
     go_wp2
     repeat (go_quiet (fail); try go_wp2)
     go_ret;exact ⟨by first | rfl | (simp; done) | (simp [*]; done), by repeat (first | exact Drawn0.refl _ | apply Drawn0.step)⟩
 ·rw [if_neg c3] at H
  have c3b0 : ((l0.length : Int) == (l1.length : Int)) = false := beq_eq_false_iff_ne.mpr c3;have c3b1 : ((l0.length : Int) != (l1.length : Int)) = true := bne_iff_ne.mpr c3
  have c3b2 : (l0.length == l1.length) = false := by first | simpa using c3 | (simp at c3 ⊢; omega)
  obtain rfl := Option.some.inj H
  go_enter Try.func29, Try.ntmps29
  go_wp2
  repeat (go_quiet (fail); try go_wp2)
  go_ret;exact ⟨by first | rfl | (simp; done) | (simp [*]; done), by repeat (first | exact Drawn0.refl _ | apply Drawn0.step)⟩

/-! ### laws_eqNearHeld: function 117 -/
def laws_eqNearHeld.f (k : Nat) (a0_0 : Int) (l0_1 : List Int) (a1_0 : Int) (l1_1 : List Int) : Option (Bool) := if a0_0 = a1_0 then ((laws_eqByteS.f k l0_1 l1_1).bind fun t157 => (if t157 = true then (some true) else (some false))) else (some false)
theorem laws_eqNearHeld.mono : ∀ a0 a1 a2 a3 k, LeO (laws_eqNearHeld.f k a0 a1 a2 a3) (laws_eqNearHeld.f (k + 1) a0 a1 a2 a3) := by
 intro a0 a1 a2 a3 k
 unfold laws_eqNearHeld.f
 repeat' first
   | (with_reducible exact laws_eqByteS.mono _ _ _)
   | (with_reducible exact LeO.refl _)
   | (with_reducible exact LeO.none _)
   | (with_reducible refine LeO.ite ?_ ?_)
   | (with_reducible refine LeO.bind ?_ (fun _ => ?_))
   | exact laws_eqByteS.mono _ _ _
   | exact LeO.none _
   | refine LeO.ite ?_ ?_
   | refine LeO.bind ?_ (fun _ => ?_)
set_option maxHeartbeats 8000000 in
set_option maxRecDepth 100000 in
theorem laws_eqNearHeld.calls (k : Nat) (a0_0 : Int) (A0_1 : Option Addr) (c0_1 : Nat) (l0_1 : List Int) (a1_0 : Int) (A1_1 : Option Addr) (c1_1 : Nat) (l1_1 : List Int) (r : Bool) (w : World) (hr0_1 : Kd.C (Kd.int .u8) w A0_1 l0_1.length l0_1) (hc0_1 : l0_1.length ≤ c0_1) (hr1_1 : Kd.C (Kd.int .u8) w A1_1 l1_1.length l1_1) (hc1_1 : l1_1.length ≤ c1_1) (h : laws_eqNearHeld.f k a0_0 l0_1 a1_0 l1_1 = some r) :
  Calls Try.prog 117 #[.agg #[.int .i64 a0_0, .slice A0_1 l0_1.length c0_1], .agg #[.int .i64 a1_0, .slice A1_1 l1_1.length c1_1]] w fun e w' => e = .returned (.bool r) ∧ Below w.heap.size w w' := by
 have hu101 := Try.underlying101;have HR0_1 := Aside0.mk hr0_1;have HC0_1 := Aside0.mk hc0_1;clear hr0_1 hc0_1;have HR1_1 := Aside0.mk hr1_1;have HC1_1 := Aside0.mk hc1_1;clear hr1_1 hc1_1;have HB := Aside0.mk (Below.refl w.heap.size w);have H : (if a0_0 = a1_0 then ((laws_eqByteS.f k l0_1 l1_1).bind fun t157 => (if t157 = true then (some true) else (some false))) else (some false)) = some r := h;clear h
 by_cases c3 : a0_0 = a1_0
 ·rw [if_pos c3] at H
  have c3b0 : (a0_0 == a1_0) = true := beq_iff_eq.mpr c3;have c3b1 : (a0_0 != a1_0) = false := bne_eq_false_iff_eq.mpr c3;clear c3;replace H := ze H;obtain ⟨t157, A40, H⟩ := H;replace H : (if t157 = true then (some true) else (some false)) = some r := H;have A4 := Aside0.mk A40;clear A40
  by_cases c5 : t157 = true
  ·subst c5
   have H1 : (some true) = some r := by rw [if_pos rfl] at H; exact H
   clear H;have H := H1;clear H1;obtain rfl := Option.some.inj H
   go_enter Try.func117, Try.ntmps117
   go_wp2_with (first | ((with_reducible refine gate_dst (N := 2) rfl ?_); refine box_event ?hg (N := 2) ?hd (cs := #[.int .i64 a0_0, .slice A0_1 l0_1.length c0_1]) (t := 101) ?hr ?_; (case hd => rfl); (case hg => rfl); (case hr => first | (go_simp; done) | (go_simp; rfl)); intro gb155 hg w6 hbox hb; have n0_ := Aside0.mk (below_step (by repeat (first | (with_reducible first | exact HB.out | apply below_alloc | apply pw_below_drewN | apply below_drew1) | exact HB.out)) hb); have n1_ := Aside0.mk (hbox); have n2_ := Aside0.mk ((by rw [hg]; exact (below_size (by repeat (first | (with_reducible first | exact HB.out | apply below_alloc | apply pw_below_drewN | apply below_drew1) | exact HB.out))) : w.heap.size ≤ gb155)); have n3_ := n2_; clear HB; have HB := n0_; have BK155 := n1_; have GW155 := n2_; have GE155 := n3_; clear n0_ n1_ n2_ n3_; clear hb hbox hg) | ((with_reducible refine gate_dst (N := 3) rfl ?_); refine box_event ?hg (N := 3) ?hd (cs := #[.int .i64 a1_0, .slice A1_1 l1_1.length c1_1]) (t := 101) ?hr ?_; (case hd => rfl); (case hg => rfl); (case hr => first | (go_simp; done) | (go_simp; rfl)); intro gb156 hg w7 hbox hb; have n0_ := Aside0.mk (blk_below (g := gb155) (o := .cells #[.int .i64 a0_0, .slice A0_1 l0_1.length c0_1] 101 (0, 0)) (by (with_reducible repeat (first | apply blk_drewN | apply blk_drew | apply blk_alloc)); exact BK155.out) hb); have n1_ := Aside0.mk (below_step (by repeat (first | (with_reducible first | exact HB.out | apply below_alloc | apply pw_below_drewN | apply below_drew1 | refine below_set ?_ GE155.out) | exact HB.out)) hb); have n2_ := Aside0.mk (hbox); have n3_ := Aside0.mk ((by rw [hg]; exact (below_size (by repeat (first | (with_reducible first | exact HB.out | apply below_alloc | apply pw_below_drewN | apply below_drew1 | refine below_set ?_ GE155.out) | exact HB.out))) : w.heap.size ≤ gb156)); have n4_ := n3_; have n5_ := Aside0.mk ((by rw [hg]; exact Nat.ne_of_lt (blk_lt (g := gb155) (o := .cells #[.int .i64 a0_0, .slice A0_1 l0_1.length c0_1] 101 (0, 0)) (by (with_reducible repeat (first | apply blk_drewN | apply blk_drew | apply blk_alloc)); exact BK155.out)) : gb155 ≠ gb156)); have n6_ := Aside0.mk ((by rw [hg]; exact Nat.ne_of_gt (blk_lt (g := gb155) (o := .cells #[.int .i64 a0_0, .slice A0_1 l0_1.length c0_1] 101 (0, 0)) (by (with_reducible repeat (first | apply blk_drewN | apply blk_drew | apply blk_alloc)); exact BK155.out)) : gb156 ≠ gb155)); clear BK155; clear HB; have BK155 := n0_; have HB := n1_; have BK156 := n2_; have GW156 := n3_; have GE156 := n4_; have NB155_156 := n5_; have NB156_155 := n6_; clear n0_ n1_ n2_ n3_ n4_ n5_ n6_; clear hb hbox hg; have hnb8 := NB155_156.out; have hnc8 := NB156_155.out; obtain ⟨hcz9_0, hcz9_1, hfz9_0, hfz9_1⟩ := zc2 BK155.out; obtain ⟨hcz10_0, hcz10_1, hfz10_0, hfz10_1⟩ := zc2 BK156.out) | ((with_reducible refine gate_callee (f := 29) rfl ?_); refine goesL_ (some 14) rfl rfl Try.func29 (by kernel_rfl) rfl #[.slice A0_1 l0_1.length c0_1, .slice A1_1 l1_1.length c1_1] rfl (by (try simp only [zm]); first | done | rfl | (simp only [zl]; rfl)) ?_; (with_reducible refine (laws_eqByteS.calls k _ _ l0_1 _ _ l1_1 true _ ?side1 ?side2 ?side3 ?side4 A4.out).mono ?_); (case side1 => repeat (first | exact (Kd.C_below HR0_1.out HB.out) | (with_reducible first | refine Kd.C_alloc ?_ _ | refine Kd.C_drewN ?_ _ | refine Kd.C_drew ?_))); (case side2 => exact HC0_1.out); (case side3 => repeat (first | exact (Kd.C_below HR1_1.out HB.out) | (with_reducible first | refine Kd.C_alloc ?_ _ | refine Kd.C_drewN ?_ _ | refine Kd.C_drew ?_))); (case side4 => exact HC1_1.out); rintro e w' ⟨rfl, ⟨nd, rfl⟩⟩; refine ⟨_, rfl, ?_⟩))
   go_ret;exact ⟨by first | rfl | (simp <;> rfl) | (simp [*] <;> rfl), by repeat (first | (with_reducible first | exact HB.out | apply below_alloc | apply pw_below_drewN | apply below_drew1 | refine below_set ?_ GE155.out | refine below_set ?_ GE156.out) | exact HB.out)⟩
  ·replace c5 := Bool.eq_false_iff.mpr c5
   subst c5
   have H1 : (some false) = some r := by rw [if_neg (show ¬ (false = true) by decide)] at H; exact H
   clear H;have H := H1;clear H1;obtain rfl := Option.some.inj H
   go_enter Try.func117, Try.ntmps117
   go_wp2_with (first | ((with_reducible refine gate_dst (N := 2) rfl ?_); refine box_event ?hg (N := 2) ?hd (cs := #[.int .i64 a0_0, .slice A0_1 l0_1.length c0_1]) (t := 101) ?hr ?_; (case hd => rfl); (case hg => rfl); (case hr => first | (go_simp; done) | (go_simp; rfl)); intro gb155 hg w11 hbox hb; have n0_ := Aside0.mk (below_step (by repeat (first | (with_reducible first | exact HB.out | apply below_alloc | apply pw_below_drewN | apply below_drew1) | exact HB.out)) hb); have n1_ := Aside0.mk (hbox); have n2_ := Aside0.mk ((by rw [hg]; exact (below_size (by repeat (first | (with_reducible first | exact HB.out | apply below_alloc | apply pw_below_drewN | apply below_drew1) | exact HB.out))) : w.heap.size ≤ gb155)); have n3_ := n2_; clear HB; have HB := n0_; have BK155 := n1_; have GW155 := n2_; have GE155 := n3_; clear n0_ n1_ n2_ n3_; clear hb hbox hg) | ((with_reducible refine gate_dst (N := 3) rfl ?_); refine box_event ?hg (N := 3) ?hd (cs := #[.int .i64 a1_0, .slice A1_1 l1_1.length c1_1]) (t := 101) ?hr ?_; (case hd => rfl); (case hg => rfl); (case hr => first | (go_simp; done) | (go_simp; rfl)); intro gb156 hg w12 hbox hb; have n0_ := Aside0.mk (blk_below (g := gb155) (o := .cells #[.int .i64 a0_0, .slice A0_1 l0_1.length c0_1] 101 (0, 0)) (by (with_reducible repeat (first | apply blk_drewN | apply blk_drew | apply blk_alloc)); exact BK155.out) hb); have n1_ := Aside0.mk (below_step (by repeat (first | (with_reducible first | exact HB.out | apply below_alloc | apply pw_below_drewN | apply below_drew1 | refine below_set ?_ GE155.out) | exact HB.out)) hb); have n2_ := Aside0.mk (hbox); have n3_ := Aside0.mk ((by rw [hg]; exact (below_size (by repeat (first | (with_reducible first | exact HB.out | apply below_alloc | apply pw_below_drewN | apply below_drew1 | refine below_set ?_ GE155.out) | exact HB.out))) : w.heap.size ≤ gb156)); have n4_ := n3_; have n5_ := Aside0.mk ((by rw [hg]; exact Nat.ne_of_lt (blk_lt (g := gb155) (o := .cells #[.int .i64 a0_0, .slice A0_1 l0_1.length c0_1] 101 (0, 0)) (by (with_reducible repeat (first | apply blk_drewN | apply blk_drew | apply blk_alloc)); exact BK155.out)) : gb155 ≠ gb156)); have n6_ := Aside0.mk ((by rw [hg]; exact Nat.ne_of_gt (blk_lt (g := gb155) (o := .cells #[.int .i64 a0_0, .slice A0_1 l0_1.length c0_1] 101 (0, 0)) (by (with_reducible repeat (first | apply blk_drewN | apply blk_drew | apply blk_alloc)); exact BK155.out)) : gb156 ≠ gb155)); clear BK155; clear HB; have BK155 := n0_; have HB := n1_; have BK156 := n2_; have GW156 := n3_; have GE156 := n4_; have NB155_156 := n5_; have NB156_155 := n6_; clear n0_ n1_ n2_ n3_ n4_ n5_ n6_; clear hb hbox hg; have hnb13 := NB155_156.out; have hnc13 := NB156_155.out; obtain ⟨hcz14_0, hcz14_1, hfz14_0, hfz14_1⟩ := zc2 BK155.out; obtain ⟨hcz15_0, hcz15_1, hfz15_0, hfz15_1⟩ := zc2 BK156.out) | ((with_reducible refine gate_callee (f := 29) rfl ?_); refine goesL_ (some 14) rfl rfl Try.func29 (by kernel_rfl) rfl #[.slice A0_1 l0_1.length c0_1, .slice A1_1 l1_1.length c1_1] rfl (by (try simp only [zm]); first | done | rfl | (simp only [zl]; rfl)) ?_; (with_reducible refine (laws_eqByteS.calls k _ _ l0_1 _ _ l1_1 false _ ?side1 ?side2 ?side3 ?side4 A4.out).mono ?_); (case side1 => repeat (first | exact (Kd.C_below HR0_1.out HB.out) | (with_reducible first | refine Kd.C_alloc ?_ _ | refine Kd.C_drewN ?_ _ | refine Kd.C_drew ?_))); (case side2 => exact HC0_1.out); (case side3 => repeat (first | exact (Kd.C_below HR1_1.out HB.out) | (with_reducible first | refine Kd.C_alloc ?_ _ | refine Kd.C_drewN ?_ _ | refine Kd.C_drew ?_))); (case side4 => exact HC1_1.out); rintro e w' ⟨rfl, ⟨nd, rfl⟩⟩; refine ⟨_, rfl, ?_⟩))
   go_ret;exact ⟨by first | rfl | (simp <;> rfl) | (simp [*] <;> rfl), by repeat (first | (with_reducible first | exact HB.out | apply below_alloc | apply pw_below_drewN | apply below_drew1 | refine below_set ?_ GE155.out | refine below_set ?_ GE156.out) | exact HB.out)⟩
 ·rw [if_neg c3] at H
  have c3b0 : (a0_0 == a1_0) = false := beq_eq_false_iff_ne.mpr c3;have c3b1 : (a0_0 != a1_0) = true := bne_iff_ne.mpr c3;obtain rfl := Option.some.inj H
  go_enter Try.func117, Try.ntmps117
  go_wp2_with (first | ((with_reducible refine gate_dst (N := 2) rfl ?_); refine box_event ?hg (N := 2) ?hd (cs := #[.int .i64 a0_0, .slice A0_1 l0_1.length c0_1]) (t := 101) ?hr ?_; (case hd => rfl); (case hg => rfl); (case hr => first | (go_simp; done) | (go_simp; rfl)); intro gb155 hg w16 hbox hb; have n0_ := Aside0.mk (below_step (by repeat (first | (with_reducible first | exact HB.out | apply below_alloc | apply pw_below_drewN | apply below_drew1) | exact HB.out)) hb); have n1_ := Aside0.mk (hbox); have n2_ := Aside0.mk ((by rw [hg]; exact (below_size (by repeat (first | (with_reducible first | exact HB.out | apply below_alloc | apply pw_below_drewN | apply below_drew1) | exact HB.out))) : w.heap.size ≤ gb155)); have n3_ := n2_; clear HB; have HB := n0_; have BK155 := n1_; have GW155 := n2_; have GE155 := n3_; clear n0_ n1_ n2_ n3_; clear hb hbox hg) | ((with_reducible refine gate_dst (N := 3) rfl ?_); refine box_event ?hg (N := 3) ?hd (cs := #[.int .i64 a1_0, .slice A1_1 l1_1.length c1_1]) (t := 101) ?hr ?_; (case hd => rfl); (case hg => rfl); (case hr => first | (go_simp; done) | (go_simp; rfl)); intro gb156 hg w17 hbox hb; have n0_ := Aside0.mk (blk_below (g := gb155) (o := .cells #[.int .i64 a0_0, .slice A0_1 l0_1.length c0_1] 101 (0, 0)) (by (with_reducible repeat (first | apply blk_drewN | apply blk_drew | apply blk_alloc)); exact BK155.out) hb); have n1_ := Aside0.mk (below_step (by repeat (first | (with_reducible first | exact HB.out | apply below_alloc | apply pw_below_drewN | apply below_drew1 | refine below_set ?_ GE155.out) | exact HB.out)) hb); have n2_ := Aside0.mk (hbox); have n3_ := Aside0.mk ((by rw [hg]; exact (below_size (by repeat (first | (with_reducible first | exact HB.out | apply below_alloc | apply pw_below_drewN | apply below_drew1 | refine below_set ?_ GE155.out) | exact HB.out))) : w.heap.size ≤ gb156)); have n4_ := n3_; have n5_ := Aside0.mk ((by rw [hg]; exact Nat.ne_of_lt (blk_lt (g := gb155) (o := .cells #[.int .i64 a0_0, .slice A0_1 l0_1.length c0_1] 101 (0, 0)) (by (with_reducible repeat (first | apply blk_drewN | apply blk_drew | apply blk_alloc)); exact BK155.out)) : gb155 ≠ gb156)); have n6_ := Aside0.mk ((by rw [hg]; exact Nat.ne_of_gt (blk_lt (g := gb155) (o := .cells #[.int .i64 a0_0, .slice A0_1 l0_1.length c0_1] 101 (0, 0)) (by (with_reducible repeat (first | apply blk_drewN | apply blk_drew | apply blk_alloc)); exact BK155.out)) : gb156 ≠ gb155)); clear BK155; clear HB; have BK155 := n0_; have HB := n1_; have BK156 := n2_; have GW156 := n3_; have GE156 := n4_; have NB155_156 := n5_; have NB156_155 := n6_; clear n0_ n1_ n2_ n3_ n4_ n5_ n6_; clear hb hbox hg; have hnb18 := NB155_156.out; have hnc18 := NB156_155.out; obtain ⟨hcz19_0, hcz19_1, hfz19_0, hfz19_1⟩ := zc2 BK155.out; obtain ⟨hcz20_0, hcz20_1, hfz20_0, hfz20_1⟩ := zc2 BK156.out))
  go_ret;exact ⟨by first | rfl | (simp <;> rfl) | (simp [*] <;> rfl), by repeat (first | (with_reducible first | exact HB.out | apply below_alloc | apply pw_below_drewN | apply below_drew1 | refine below_set ?_ GE155.out | refine below_set ?_ GE156.out) | exact HB.out)⟩

end Go.Proofs.Ytdplboenlcppkaa.PFnExactNearFind

/- The machine side of some functions: each comes to its pure answer (written by a program of this session with the kit's print). No condition. -/
import Derived.Test.YtpoedefohfonjaaPFnRoutePutx0
import Derived.Test.YtpoedefohfonjaaPFnRoutePutx1
import Derived.Test.YtpoedefohfonjaaPFnRoutePutx2
import Derived.Test.YtpoedefohfonjaaPFnRoutePutx4
import Derived.Test.YtpoedefohfonjaaPFnRoutePutx6
import Derived.Test.YtpoedefohfonjaaPFnRoutePutx7
import Derived.Test.YtpoedefohfonjaaPFnRoutePutx8
namespace Go.Proofs.Ytpoedefohfonjaa.PFnRoutePut
open Go.RowKit Go.Proofs.YtpoedefohfonjaaUFnRoutePut.PrintWords Go.Proofs.YtpoedefohfonjaaUFnRoutePut.PrintLast Go.Proofs.YtpoedefohfonjaaUFnRoutePut.PrintMore
attribute [local go_sem] max2_int min2_int max_two min_two max_three min_three max_four min_four   -- for this text's walks alone
set_option linter.unusedVariables false
set_option linter.unusedSimpArgs false

attribute [local go_sem high] eqA24
/-! ### spec_l20Open: function 62 -/
def spec_l20Open.f (l0 : List Int) : Option (List Int × Int) := if (l0.length : Int) > 2000 then (if 2000 ≤ (l0.length : Int) then (some (l0.take 2000, 0)) else (none)) else (some (l0, 0))
set_option maxHeartbeats 8000000 in
set_option maxRecDepth 100000 in
theorem spec_l20Open.calls (A0 : Option Addr) (c0 : Nat) (l0 : List Int) (r1 : List Int) (r2 : Int) (w0 w : World) (hB : Below w0.heap.size w0 w) (hr0 : Kd.C (Kd.int .u8) w0 A0 l0.length l0) (hc0 : l0.length ≤ c0) (h : spec_l20Open.f l0 = some (r1, r2)) :
    Calls Try.prog 62 #[.slice A0 l0.length c0] w fun e w' => ∃ g_ : Nat, e = .returned (.pointer (some ⟨g_, 0, none⟩)) ∧ IsS98 w0 w' g_ r1 r2 ∧ Below w0.heap.size w0 w' ∧ Below w.heap.size w w' := by
  have hu98 := Try.underlying98;have HR0 := Aside0.mk hr0;have HC0 := Aside0.mk hc0;clear hr0 hc0;have HBW := Aside0.mk (Below.refl w.heap.size w);have HW0 := Aside0.mk hB.size;have HB := Aside0.mk hB;clear hB;have H : (if (l0.length : Int) > 2000 then (if 2000 ≤ (l0.length : Int) then (some (l0.take 2000, 0)) else (none)) else (some (l0, 0))) = some (r1, r2) := h;clear h
  by_cases c2 : (l0.length : Int) > 2000
  · rw [if_pos c2] at H
    have c2b0 : decide (2000 < (l0.length : Int)) = true := decide_eq_true c2;have c2b1 : decide (2000 < l0.length) = true := decide_eq_true (by omega);clear c2
    by_cases c3 : 2000 ≤ (l0.length : Int)
    · rw [if_pos c3] at H
      have c3b0 := eq_true c3;have c3b1 : decide (2000 ≤ (l0.length : Int)) = true := decide_eq_true c3;clear c3;simp only [Option.some.injEq, Prod.mk.injEq] at H;obtain ⟨rfl, rfl⟩ := H;obtain ⟨i04, hi04, _, hsz4, _⟩ := info_parts info5;obtain ⟨hcut4, hA4, hC4⟩ := print_take_of (P := Try.prog) (Value.int .u8) 0 22 5 .i64 Try.underlying22 hi04 hsz4 A0 c0 l0 2000 (by omega) (of_decide_eq_true (by first | (with_reducible assumption) | assumption)) HC0.out;have HR249 := Aside0.mk (Kd.C_of_reads (h1 := fun _ => rfl) (hA4 _ (Kd.reads_of_C HR0.out)));have HC249 := Aside0.mk hC4;clear hA4 hC4 hi04 hsz4
      go_enter Try.func62, Try.ntmps62
      go_wp2_with (first | ((with_reducible refine gate_dst (N := 10) rfl ?_); refine box_event ?hg (N := 10) ?hd (cs := #[.slice A0 (l0.take 2000).length c0, .int .i64 0]) (t := 98) ?hr ?_; (case hd => rfl); (case hg => rfl); (case hr => first | (go_simp; done) | (go_simp; rfl)); intro gb250 hg w5 hbox hb; have n0_ := Aside0.mk (below_step HBW.out hb); have n1_ := Aside0.mk (below_step (by repeat (first | (with_reducible first | exact HB.out | apply below_alloc | apply pw_below_drewN | apply below_drew1) | exact HB.out)) hb); have n2_ := Aside0.mk (hbox); have n3_ := Aside0.mk ((by rw [hg]; exact (below_size (by repeat (first | (with_reducible first | exact HBW.out | apply below_alloc | apply pw_below_drewN | apply below_drew1) | exact HBW.out))) : w.heap.size ≤ gb250)); have n4_ := Aside0.mk ((Nat.le_trans HW0.out (by rw [hg]; exact (below_size (by repeat (first | (with_reducible first | exact HBW.out | apply below_alloc | apply pw_below_drewN | apply below_drew1) | exact HBW.out))) : w.heap.size ≤ gb250) : w0.heap.size ≤ gb250)); clear HBW; clear HB; have HBW := n0_; have HB := n1_; have BK250 := n2_; have GW250 := n3_; have GE250 := n4_; clear n0_ n1_ n2_ n3_ n4_; clear hb hbox hg))
      go_ret;exact ⟨_, rfl, (show IsS98 w0 _ gb250 (l0.take 2000) 0 from ⟨_, _, by (with_reducible repeat (first | apply blk_drewN | apply blk_drew | apply blk_alloc)); exact BK250.out, GE250.out, HR249.out⟩), by repeat (first | (with_reducible first | exact HB.out | apply below_alloc | apply pw_below_drewN | apply below_drew1 | refine below_set ?_ GE250.out) | exact HB.out), by repeat (first | (with_reducible first | exact HBW.out | apply below_alloc | apply pw_below_drewN | apply below_drew1 | refine below_set ?_ GW250.out) | exact HBW.out)⟩
    · rw [if_neg c3] at H
      exact absurd H (by simp)
  · rw [if_neg c2] at H
    have c2b0 : decide (2000 < (l0.length : Int)) = false := decide_eq_false c2;have c2b1 : decide (2000 < l0.length) = false := decide_eq_false (by omega);clear c2;simp only [Option.some.injEq, Prod.mk.injEq] at H;obtain ⟨rfl, rfl⟩ := H
    go_enter Try.func62, Try.ntmps62
    go_wp2_with (first | ((with_reducible refine gate_dst (N := 10) rfl ?_); refine box_event ?hg (N := 10) ?hd (cs := #[.slice A0 l0.length c0, .int .i64 0]) (t := 98) ?hr ?_; (case hd => rfl); (case hg => rfl); (case hr => first | (go_simp; done) | (go_simp; rfl)); intro gb251 hg w6 hbox hb; have n0_ := Aside0.mk (below_step HBW.out hb); have n1_ := Aside0.mk (below_step (by repeat (first | (with_reducible first | exact HB.out | apply below_alloc | apply pw_below_drewN | apply below_drew1) | exact HB.out)) hb); have n2_ := Aside0.mk (hbox); have n3_ := Aside0.mk ((by rw [hg]; exact (below_size (by repeat (first | (with_reducible first | exact HBW.out | apply below_alloc | apply pw_below_drewN | apply below_drew1) | exact HBW.out))) : w.heap.size ≤ gb251)); have n4_ := Aside0.mk ((Nat.le_trans HW0.out (by rw [hg]; exact (below_size (by repeat (first | (with_reducible first | exact HBW.out | apply below_alloc | apply pw_below_drewN | apply below_drew1) | exact HBW.out))) : w.heap.size ≤ gb251) : w0.heap.size ≤ gb251)); clear HBW; clear HB; have HBW := n0_; have HB := n1_; have BK251 := n2_; have GW251 := n3_; have GE251 := n4_; clear n0_ n1_ n2_ n3_ n4_; clear hb hbox hg))
    go_ret;exact ⟨_, rfl, (show IsS98 w0 _ gb251 l0 0 from ⟨_, _, by (with_reducible repeat (first | apply blk_drewN | apply blk_drew | apply blk_alloc)); exact BK251.out, GE251.out, HR0.out⟩), by repeat (first | (with_reducible first | exact HB.out | apply below_alloc | apply pw_below_drewN | apply below_drew1 | refine below_set ?_ GE251.out) | exact HB.out), by repeat (first | (with_reducible first | exact HBW.out | apply below_alloc | apply pw_below_drewN | apply below_drew1 | refine below_set ?_ GW251.out) | exact HBW.out)⟩

/-! ### spec_l20Routes: function 85 -/
def spec_l20Routes.l0 : Nat → Int → List (S24) → Int → List Int → Int → Option ((List (S24)) × Int)
  | 0, _, _, _, _, _ => none
  | k + 1, x1, x5, x6, x1000, x1001 => if x6 > 0 then ((spec_l20Route.f k x1000 x1001 0).bind fun bt257 => ((spec_RoutePut.f k x5 bt257.1 bt257.2.1 bt257.2.2.1 bt257.2.2.2.1).bind fun bt262 => (if bt262.2 = true then (spec_l20Routes.l0 k x1 bt262.1 (wrap64 (x6 - 1)) x1000 bt257.2.2.2.2) else (spec_l20Routes.l0 k x1 x5 (wrap64 (x6 - 1)) x1000 bt257.2.2.2.2)))) else ((spec_l20Rd_odd.f k x1000 x1001 x1).bind fun bt266 => (if bt266.1 = true then ((spec_l20Route.f k x1000 bt266.2 2).bind fun bt268 => (if x5.length < 4398046511104 then (some ((x5 ++ [(⟨bt268.1, bt268.2.1, bt268.2.2.1, bt268.2.2.2.1⟩ : S24)]), bt268.2.2.2.2)) else (none))) else (some (x5, bt266.2))))
def spec_l20Routes.f (k : Nat) (s0_0 : List Int) (s0_1 : Int) (a1 : Int) : Option ((List (S24)) × Int) := (spec_l20Rd_pick.f k s0_0 s0_1 8).bind fun bt255 => (spec_l20Routes.l0 k a1 (([] : List (S24))) bt255.1 s0_0 bt255.2)
theorem spec_l20Routes.mono_l : ∀ k, (∀ y0 y1 y2 y3 y4, LeO (spec_l20Routes.l0 k y0 y1 y2 y3 y4) (spec_l20Routes.l0 (k + 1) y0 y1 y2 y3 y4))
  | 0 => fun _ _ _ _ _ r h => by simp [spec_l20Routes.l0] at h
  | k + 1 => by
    have ih0 := spec_l20Routes.mono_l k
    · intro y0 y1 y2 y3 y4
      unfold spec_l20Routes.l0
      repeat' first
      | (with_reducible exact ih0 _ _ _ _ _)
      | (with_reducible exact spec_RoutePut.mono _ _ _ _ _ _)
      | (with_reducible exact spec_l20Rd_odd.mono _ _ _ _)
      | (with_reducible exact spec_l20Rd_pick.mono _ _ _ _)
      | (with_reducible exact spec_l20Route.mono _ _ _ _)
      | (with_reducible exact LeO.refl _)
      | (with_reducible exact LeO.none _)
      | (with_reducible refine LeO.ite ?_ ?_)
      | (with_reducible refine LeO.bind ?_ (fun _ => ?_))
      | exact ih0 _ _ _ _ _
      | exact spec_RoutePut.mono _ _ _ _ _ _
      | exact spec_l20Rd_odd.mono _ _ _ _
      | exact spec_l20Rd_pick.mono _ _ _ _
      | exact spec_l20Route.mono _ _ _ _
      | exact LeO.none _
      | refine LeO.ite ?_ ?_
      | refine LeO.bind ?_ (fun _ => ?_)
theorem spec_l20Routes.mono : ∀ a0 a1 a2 k, LeO (spec_l20Routes.f k a0 a1 a2) (spec_l20Routes.f (k + 1) a0 a1 a2) := by
  intro a0 a1 a2 k;have ih0 := spec_l20Routes.mono_l k
  unfold spec_l20Routes.f
  repeat' first
      | (with_reducible exact ih0 _ _ _ _ _)
      | (with_reducible exact spec_RoutePut.mono _ _ _ _ _ _)
      | (with_reducible exact spec_l20Rd_odd.mono _ _ _ _)
      | (with_reducible exact spec_l20Rd_pick.mono _ _ _ _)
      | (with_reducible exact spec_l20Route.mono _ _ _ _)
      | (with_reducible exact LeO.refl _)
      | (with_reducible exact LeO.none _)
      | (with_reducible refine LeO.ite ?_ ?_)
      | (with_reducible refine LeO.bind ?_ (fun _ => ?_))
      | exact ih0 _ _ _ _ _
      | exact spec_RoutePut.mono _ _ _ _ _ _
      | exact spec_l20Rd_odd.mono _ _ _ _
      | exact spec_l20Rd_pick.mono _ _ _ _
      | exact spec_l20Route.mono _ _ _ _
      | exact LeO.none _
      | refine LeO.ite ?_ ?_
      | refine LeO.bind ?_ (fun _ => ?_)
set_option maxHeartbeats 8000000 in
set_option maxRecDepth 100000 in
theorem spec_l20Routes.calls (k : Nat) (g : Nat) (s0_0 : List Int) (s0_1 : Int) (a1 : Int) (r1 : List (S24)) (r2 : Int) (w0 w : World) (hI : IsS98 w0 w g s0_0 s0_1) (hB : Below w0.heap.size w0 w) (h : spec_l20Routes.f k s0_0 s0_1 a1 = some (r1, r2)) :
    Calls Try.prog 85 #[.pointer (some ⟨g, 0, none⟩), .int .i64 a1] w fun e w' => ∃ v0_ : Value, e = .returned (v0_) ∧ Kd.R k24 24 w' w.heap.size (fun _ => True) v0_ r1 ∧ IsS98 w0 w' g s0_0 r2 ∧ Below w0.heap.size w0 w' ∧ KeepBut w w' g none := by
  have HI0 := Aside0.mk hI;have HK := Aside0.mk (KeepBut.refl w g none);have HL := Aside0.mk hB.size;clear hI;have HW0 := Aside0.mk hB.size;have HB := Aside0.mk hB;clear hB;have H : ((spec_l20Rd_pick.f k s0_0 s0_1 8).bind fun bt255 => (spec_l20Routes.l0 k a1 (([] : List (S24))) bt255.1 s0_0 bt255.2)) = some (r1, r2) := h;clear h;obtain ⟨y252, hy252⟩ : ∃ y_ : List (S24), y_ = (([] : List (S24))) := ⟨_, rfl⟩
  replace H : ((spec_l20Rd_pick.f k s0_0 s0_1 8).bind fun bt255 => (spec_l20Routes.l0 k a1 y252 bt255.1 s0_0 bt255.2)) = some (r1, r2) := by first | (rw [hy252]; with_reducible exact H) | (have H2_ := (Option.bind_some _ _).symm.trans H; rw [hy252]; with_reducible exact H2_) | (have H2_ := (Option.bind_some _ _).symm.trans H; with_reducible exact H2_) | with_reducible exact H | (rw [hy252]; exact H) | exact H
  have Ny252 := Aside0.mk hy252;clear hy252;replace H := ze H;obtain ⟨⟨t255, t256⟩, A30, H⟩ := H;replace H : (spec_l20Routes.l0 k a1 y252 t255 s0_0 t256) = some (r1, r2) := H;have A3 := Aside0.mk A30;clear A30;have H' := Aside0.mk H;clear H
  go_enter Try.func85, Try.ntmps85
  go_wp2_with (first | ((with_reducible refine gate_dst (N := 9) rfl ?_); refine Kd.R_lit k24 _ 24 ?hg (N := 9) ?hd (xs := ([] : List (S24))) (inner := []) (ok := fun _ => True) (okp := fun _ => True) ?hr ?hp (fun _ hk => hk) trivial (Below.refl _ _) (Nat.le_refl _) (by simp) ?_; (case hd => rfl); (case hg => rfl); (case hr => first | (go_simp; done) | (go_simp; rfl)); (case hp => exact (Reps.none _ _)); intro v253 w4 ho5 hb hg_ hnew_; clear hg_ hnew_; (first | rw [← Ny252.out] at ho5 | (simp only [Int.reduceToNat] at ho5; rw [← Ny252.out] at ho5)); have n0_ := Aside0.mk (Kd.R_lower ho5 (keep_size (w := w) (g := g) (row := none) (by repeat (first | (with_reducible first | exact HK.out | apply KeepBut.set_ | apply keep_drewN | apply keep_drew | apply keep_alloc) | exact HK.out)))); have n1_ := Aside0.mk (IsS98.below (by repeat (first | (with_reducible first | exact HI0.out | apply IsS98.alloc | apply IsS98.drewN | apply IsS98.drew | apply IsS98.set_1) | exact HI0.out)) hb); have n2_ := Aside0.mk (KeepBut.trans (by repeat (first | (with_reducible first | exact HK.out | apply KeepBut.set_ | apply keep_drewN | apply keep_drew | apply keep_alloc) | exact HK.out)) (KeepBut.of_below hb g none) (.inl rfl)); have n3_ := Aside0.mk (below_step (by repeat (first | (with_reducible first | exact HB.out | apply below_alloc | apply pw_below_drewN | apply below_drew1 | refine below_set ?_ (IsS98.ge HI0.out)) | exact HB.out)) hb); clear HI0; clear HK; clear HB; have HO254 := n0_; have HI0 := n1_; have HK := n2_; have HB := n3_; clear n0_ n1_ n2_ n3_; clear hb ho5) | ((with_reducible refine gate_callee (f := 78) rfl ?_); refine goesL_ (some 11) rfl rfl Try.func78 (by kernel_rfl) rfl #[.pointer (some ⟨g, 0, none⟩), .int .i64 8] rfl (by (try simp only [zm]); first | done | rfl | (simp only [zl]; rfl)) ?_; (with_reducible refine (spec_l20Rd_pick.calls k g s0_0 s0_1 8 t255 t256 w0 _ ?side1 ?side2 A3.out).mono ?_); (case side1 => repeat (first | (with_reducible first | exact HI0.out | apply IsS98.alloc | apply IsS98.drewN | apply IsS98.drew | apply IsS98.set_1) | exact HI0.out)); (case side2 => repeat (first | (with_reducible first | exact HB.out | apply below_alloc | apply pw_below_drewN | apply below_drew1 | refine below_set ?_ (IsS98.ge HI0.out)) | exact HB.out)); rintro e w6 ⟨rfl, hi, hb, hk⟩; refine ⟨_, rfl, ?_⟩; have n0_ := Aside0.mk (Kd.R_mono (Kd.R_keep (IsS98.apart (show IsS98 w0 _ g s0_0 s0_1 from by repeat (first | (with_reducible first | exact HI0.out | apply IsS98.alloc | apply IsS98.drewN | apply IsS98.drew | apply IsS98.set_1) | exact HI0.out)) (by (with_reducible repeat (first | apply Kd.R_alloc | apply Kd.R_drewN | apply Kd.R_drew)); exact HO254.out) (by decide)) hk (fun _ h => h.2)) (fun _ h => h.1)); have n1_ := Aside0.mk (KeepBut.trans (by repeat (first | (with_reducible first | exact HK.out | apply KeepBut.set_ | apply keep_drewN | apply keep_drew | apply keep_alloc) | exact HK.out)) hk (.inl rfl)); have n2_ := Aside0.mk (hb); have n3_ := Aside0.mk (hi); clear HO254; clear HK; clear HB; clear HI0; have HO254 := n0_; have HK := n1_; have HB := n2_; have HI0 := n3_; clear n0_ n1_ n2_ n3_; (try clear hb); (try clear hb2); (try clear hk); (try clear hi)))
  go_loopg [5, 6] k (fun kq v5 v6 w' => ∃ (x5_1 : List (S24)) (x6_1 : Int) (x1001_1 : Int), v6 = .int .i64 x6_1 ∧ Aside0 (spec_l20Routes.l0 kq a1 x5_1 x6_1 s0_0 x1001_1 = some (r1, r2)) ∧ Aside0 (kq ≤ k) ∧ Aside0 (Kd.R k24 24 w' w.heap.size (fun _ => True) v5 x5_1) ∧ Aside0 (IsS98 w0 w' g s0_0 x1001_1) ∧ Aside0 (KeepBut w w' g none) ∧ Aside0 (Below w0.heap.size w0 w'))
  case atStart => exact ⟨(y252), (t255), (t256), (by first | rfl | (simp; done) | (simp [*]; done)), H', ⟨Nat.le_refl _⟩, ⟨by (with_reducible repeat (first | apply Kd.R_alloc | apply Kd.R_drewN | apply Kd.R_drew)); exact HO254.out⟩, ⟨by repeat (first | (with_reducible first | exact HI0.out | apply IsS98.alloc | apply IsS98.drewN | apply IsS98.drew | apply IsS98.set_1) | exact HI0.out)⟩, ⟨by repeat (first | (with_reducible first | exact HK.out | apply KeepBut.set_ | apply keep_drewN | apply keep_drew | apply keep_alloc) | exact HK.out)⟩, ⟨by repeat (first | (with_reducible first | exact HB.out | apply below_alloc | apply pw_below_drewN | apply below_drew1 | refine below_set ?_ (IsS98.ge HI0.out)) | exact HB.out)⟩⟩
  case round =>
    clear H'
    try clear p2
    obtain ⟨x5_1, x6_1, x1001_1, rfl, HA, HK1, HO_5, HI0, HK, HB⟩ := hrel
    cases gk with
    | zero => exact absurd HA.out (by simp [spec_l20Routes.l0])
    | succ k1 =>
      have H := HA.out;clear HA;simp only [spec_l20Routes.l0] at H
      by_cases c7 : x6_1 > 0
      · rw [if_pos c7] at H
        have c7b0 : decide (0 < x6_1) = true := decide_eq_true c7;clear c7;replace H := ze H;obtain ⟨⟨t257, t258, t259, t260, t261⟩, A80, H⟩ := H;replace H : ((spec_RoutePut.f k1 x5_1 t257 t258 t259 t260).bind fun bt262 => (if bt262.2 = true then (spec_l20Routes.l0 k1 a1 bt262.1 (wrap64 (x6_1 - 1)) s0_0 t261) else (spec_l20Routes.l0 k1 a1 x5_1 (wrap64 (x6_1 - 1)) s0_0 t261))) = some (r1, r2) := H;have A8 := Aside0.mk A80;clear A80;replace H := ze H;obtain ⟨⟨t262, t265⟩, A90, H⟩ := H;replace H : (if t265 = true then (spec_l20Routes.l0 k1 a1 t262 (wrap64 (x6_1 - 1)) s0_0 t261) else (spec_l20Routes.l0 k1 a1 x5_1 (wrap64 (x6_1 - 1)) s0_0 t261)) = some (r1, r2) := H;have A9 := Aside0.mk A90;clear A90
        by_cases c10 : t265 = true
        · subst c10
          have H1 : (spec_l20Routes.l0 k1 a1 t262 (wrap64 (x6_1 - 1)) s0_0 t261) = some (r1, r2) := by rw [if_pos rfl] at H; exact H
          clear H;have H := H1;clear H1;have H' := Aside0.mk H;clear H
          go_wp2_with (first | ((with_reducible refine gate_callee (f := 61) rfl ?_); refine goesL_ (some 19) rfl rfl Try.func61 (by kernel_rfl) rfl #[.pointer (some ⟨g, 0, none⟩), .int .i64 0] rfl (by (try simp only [zm]); first | done | rfl | (simp only [zl]; rfl)) ?_; (with_reducible refine (spec_l20Route.calls k1 g s0_0 x1001_1 0 t257 t258 t259 t260 t261 w0 _ ?side1 ?side2 A8.out).mono ?_); (case side1 => repeat (first | (with_reducible first | exact HI0.out | apply IsS98.alloc | apply IsS98.drewN | apply IsS98.drew | apply IsS98.set_1) | exact HI0.out)); (case side2 => repeat (first | (with_reducible first | exact HB.out | apply below_alloc | apply pw_below_drewN | apply below_drew1 | refine below_set ?_ (IsS98.ge HI0.out)) | exact HB.out)); rintro e w11 ⟨rfl, hi, hb, hk⟩; refine ⟨_, rfl, ?_⟩; have n0_ := Aside0.mk (Kd.R_mono (Kd.R_keep (IsS98.apart (show IsS98 w0 _ g s0_0 x1001_1 from by repeat (first | (with_reducible first | exact HI0.out | apply IsS98.alloc | apply IsS98.drewN | apply IsS98.drew | apply IsS98.set_1) | exact HI0.out)) (by (with_reducible repeat (first | apply Kd.R_alloc | apply Kd.R_drewN | apply Kd.R_drew)); exact HO_5.out) (by decide)) hk (fun _ h => h.2)) (fun _ h => h.1)); have n1_ := Aside0.mk (KeepBut.trans (by repeat (first | (with_reducible first | exact HK.out | apply KeepBut.set_ | apply keep_drewN | apply keep_drew | apply keep_alloc) | exact HK.out)) hk (.inl rfl)); have n2_ := Aside0.mk (hb); have n3_ := Aside0.mk (hi); clear HO_5; clear HK; clear HB; clear HI0; have HO_5 := n0_; have HK := n1_; have HB := n2_; have HI0 := n3_; clear n0_ n1_ n2_ n3_; (try clear hb); (try clear hb2); (try clear hk); (try clear hi); obtain ⟨Ao12, co12, eo12⟩ := Kd.R_slice HO_5.out; subst eo12) | ((with_reducible refine gate_callee (f := 21) rfl ?_); refine goesL_ (some 20) rfl rfl Try.func21 (by kernel_rfl) rfl #[.slice Ao12 x5_1.length co12, .agg #[.int .i64 t257, .int .i64 t258, .int .i64 t259, .int .i64 t260]] rfl (by (try simp only [zm]); first | done | rfl | (simp only [zl]; rfl)) ?_; (with_reducible refine (spec_RoutePut.calls k1 _ _ x5_1 t257 t258 t259 t260 t262 true _ ?side1 ?side2 A9.out).mono ?_); (case side1 => repeat (first | exact (Kd.R_reads' HO_5.out).2.2 | (with_reducible first | refine Kd.C_alloc ?_ _ | refine Kd.C_drewN ?_ _ | refine Kd.C_drew ?_))); (case side2 => exact (Kd.R_reads' HO_5.out).2.1); rintro e w13 ⟨v263, rfl, ho0, hb⟩; refine ⟨_, rfl, ?_⟩; have n0_ := Aside0.mk (Kd.R_elder' (by (with_reducible repeat (first | apply Kd.R_alloc | apply Kd.R_drewN | apply Kd.R_drew)); exact HO_5.out) (Kd.R_base ho0) hb); have n1_ := Aside0.mk (Kd.R_lower (Kd.R_new' ho0 (Kd.R_lt (by (with_reducible repeat (first | apply Kd.R_alloc | apply Kd.R_drewN | apply Kd.R_drew)); exact HO_5.out))) (keep_size (w := w) (g := g) (row := none) (by repeat (first | (with_reducible first | exact HK.out | apply KeepBut.set_ | apply keep_drewN | apply keep_drew | apply keep_alloc) | exact HK.out)))); have n2_ := Aside0.mk (IsS98.below (by repeat (first | (with_reducible first | exact HI0.out | apply IsS98.alloc | apply IsS98.drewN | apply IsS98.drew | apply IsS98.set_1) | exact HI0.out)) hb); have n3_ := Aside0.mk (KeepBut.trans (by repeat (first | (with_reducible first | exact HK.out | apply KeepBut.set_ | apply keep_drewN | apply keep_drew | apply keep_alloc) | exact HK.out)) (KeepBut.of_below hb g none) (.inl rfl)); have n4_ := Aside0.mk (below_step (by repeat (first | (with_reducible first | exact HB.out | apply below_alloc | apply pw_below_drewN | apply below_drew1 | refine below_set ?_ (IsS98.ge HI0.out)) | exact HB.out)) hb); clear HO_5; clear HI0; clear HK; clear HB; have HO_5 := n0_; have HO264 := n1_; have HI0 := n2_; have HK := n3_; have HB := n4_; clear n0_ n1_ n2_ n3_ n4_; (try clear hb); (try clear hb2); (try clear hk); (try clear hi); (try clear ho0)))
          go_roundg k1
          case measure => have := HK1.out; omega
          case rel => exact ⟨(t262), (wrap64 (x6_1 - 1)), (t261), (by first | rfl | (simp; done) | (simp [*]; done)), H', ⟨by have := HK1.out; omega⟩, ⟨by (with_reducible repeat (first | apply Kd.R_alloc | apply Kd.R_drewN | apply Kd.R_drew)); exact Kd.R_mono HO264.out (fun _ hk => trivial)⟩, ⟨by repeat (first | (with_reducible first | exact HI0.out | apply IsS98.alloc | apply IsS98.drewN | apply IsS98.drew | apply IsS98.set_1) | exact HI0.out)⟩, ⟨by repeat (first | (with_reducible first | exact HK.out | apply KeepBut.set_ | apply keep_drewN | apply keep_drew | apply keep_alloc) | exact HK.out)⟩, ⟨by repeat (first | (with_reducible first | exact HB.out | apply below_alloc | apply pw_below_drewN | apply below_drew1 | refine below_set ?_ (IsS98.ge HI0.out)) | exact HB.out)⟩⟩
        · replace c10 := Bool.eq_false_iff.mpr c10
          subst c10
          have H1 : (spec_l20Routes.l0 k1 a1 x5_1 (wrap64 (x6_1 - 1)) s0_0 t261) = some (r1, r2) := by rw [if_neg (show ¬ (false = true) by decide)] at H; exact H
          clear H;have H := H1;clear H1;have H' := Aside0.mk H;clear H
          go_wp2_with (first | ((with_reducible refine gate_callee (f := 61) rfl ?_); refine goesL_ (some 19) rfl rfl Try.func61 (by kernel_rfl) rfl #[.pointer (some ⟨g, 0, none⟩), .int .i64 0] rfl (by (try simp only [zm]); first | done | rfl | (simp only [zl]; rfl)) ?_; (with_reducible refine (spec_l20Route.calls k1 g s0_0 x1001_1 0 t257 t258 t259 t260 t261 w0 _ ?side1 ?side2 A8.out).mono ?_); (case side1 => repeat (first | (with_reducible first | exact HI0.out | apply IsS98.alloc | apply IsS98.drewN | apply IsS98.drew | apply IsS98.set_1) | exact HI0.out)); (case side2 => repeat (first | (with_reducible first | exact HB.out | apply below_alloc | apply pw_below_drewN | apply below_drew1 | refine below_set ?_ (IsS98.ge HI0.out)) | exact HB.out)); rintro e w14 ⟨rfl, hi, hb, hk⟩; refine ⟨_, rfl, ?_⟩; have n0_ := Aside0.mk (Kd.R_mono (Kd.R_keep (IsS98.apart (show IsS98 w0 _ g s0_0 x1001_1 from by repeat (first | (with_reducible first | exact HI0.out | apply IsS98.alloc | apply IsS98.drewN | apply IsS98.drew | apply IsS98.set_1) | exact HI0.out)) (by (with_reducible repeat (first | apply Kd.R_alloc | apply Kd.R_drewN | apply Kd.R_drew)); exact HO_5.out) (by decide)) hk (fun _ h => h.2)) (fun _ h => h.1)); have n1_ := Aside0.mk (KeepBut.trans (by repeat (first | (with_reducible first | exact HK.out | apply KeepBut.set_ | apply keep_drewN | apply keep_drew | apply keep_alloc) | exact HK.out)) hk (.inl rfl)); have n2_ := Aside0.mk (hb); have n3_ := Aside0.mk (hi); clear HO_5; clear HK; clear HB; clear HI0; have HO_5 := n0_; have HK := n1_; have HB := n2_; have HI0 := n3_; clear n0_ n1_ n2_ n3_; (try clear hb); (try clear hb2); (try clear hk); (try clear hi); obtain ⟨Ao15, co15, eo15⟩ := Kd.R_slice HO_5.out; subst eo15) | ((with_reducible refine gate_callee (f := 21) rfl ?_); refine goesL_ (some 20) rfl rfl Try.func21 (by kernel_rfl) rfl #[.slice Ao15 x5_1.length co15, .agg #[.int .i64 t257, .int .i64 t258, .int .i64 t259, .int .i64 t260]] rfl (by (try simp only [zm]); first | done | rfl | (simp only [zl]; rfl)) ?_; (with_reducible refine (spec_RoutePut.calls k1 _ _ x5_1 t257 t258 t259 t260 t262 false _ ?side1 ?side2 A9.out).mono ?_); (case side1 => repeat (first | exact (Kd.R_reads' HO_5.out).2.2 | (with_reducible first | refine Kd.C_alloc ?_ _ | refine Kd.C_drewN ?_ _ | refine Kd.C_drew ?_))); (case side2 => exact (Kd.R_reads' HO_5.out).2.1); rintro e w16 ⟨v263, rfl, ho0, hb⟩; refine ⟨_, rfl, ?_⟩; have n0_ := Aside0.mk (Kd.R_elder' (by (with_reducible repeat (first | apply Kd.R_alloc | apply Kd.R_drewN | apply Kd.R_drew)); exact HO_5.out) (Kd.R_base ho0) hb); have n1_ := Aside0.mk (Kd.R_lower (Kd.R_new' ho0 (Kd.R_lt (by (with_reducible repeat (first | apply Kd.R_alloc | apply Kd.R_drewN | apply Kd.R_drew)); exact HO_5.out))) (keep_size (w := w) (g := g) (row := none) (by repeat (first | (with_reducible first | exact HK.out | apply KeepBut.set_ | apply keep_drewN | apply keep_drew | apply keep_alloc) | exact HK.out)))); have n2_ := Aside0.mk (IsS98.below (by repeat (first | (with_reducible first | exact HI0.out | apply IsS98.alloc | apply IsS98.drewN | apply IsS98.drew | apply IsS98.set_1) | exact HI0.out)) hb); have n3_ := Aside0.mk (KeepBut.trans (by repeat (first | (with_reducible first | exact HK.out | apply KeepBut.set_ | apply keep_drewN | apply keep_drew | apply keep_alloc) | exact HK.out)) (KeepBut.of_below hb g none) (.inl rfl)); have n4_ := Aside0.mk (below_step (by repeat (first | (with_reducible first | exact HB.out | apply below_alloc | apply pw_below_drewN | apply below_drew1 | refine below_set ?_ (IsS98.ge HI0.out)) | exact HB.out)) hb); clear HO_5; clear HI0; clear HK; clear HB; have HO_5 := n0_; have HO264 := n1_; have HI0 := n2_; have HK := n3_; have HB := n4_; clear n0_ n1_ n2_ n3_ n4_; (try clear hb); (try clear hb2); (try clear hk); (try clear hi); (try clear ho0)))
          go_roundg k1
          case measure => have := HK1.out; omega
          case rel => exact ⟨(x5_1), (wrap64 (x6_1 - 1)), (t261), (by first | rfl | (simp; done) | (simp [*]; done)), H', ⟨by have := HK1.out; omega⟩, ⟨by (with_reducible repeat (first | apply Kd.R_alloc | apply Kd.R_drewN | apply Kd.R_drew)); exact Kd.R_mono HO_5.out (fun _ hk => trivial)⟩, ⟨by repeat (first | (with_reducible first | exact HI0.out | apply IsS98.alloc | apply IsS98.drewN | apply IsS98.drew | apply IsS98.set_1) | exact HI0.out)⟩, ⟨by repeat (first | (with_reducible first | exact HK.out | apply KeepBut.set_ | apply keep_drewN | apply keep_drew | apply keep_alloc) | exact HK.out)⟩, ⟨by repeat (first | (with_reducible first | exact HB.out | apply below_alloc | apply pw_below_drewN | apply below_drew1 | refine below_set ?_ (IsS98.ge HI0.out)) | exact HB.out)⟩⟩
      · rw [if_neg c7] at H
        have c7b0 : decide (0 < x6_1) = false := decide_eq_false c7;clear c7;replace H := ze H;obtain ⟨⟨t266, t267⟩, A170, H⟩ := H;replace H : (if t266 = true then ((spec_l20Route.f k1 s0_0 t267 2).bind fun bt268 => (if x5_1.length < 4398046511104 then (some ((x5_1 ++ [(⟨bt268.1, bt268.2.1, bt268.2.2.1, bt268.2.2.2.1⟩ : S24)]), bt268.2.2.2.2)) else (none))) else (some (x5_1, t267))) = some (r1, r2) := H;have A17 := Aside0.mk A170;clear A170
        by_cases c18 : t266 = true
        · subst c18
          have H1 : ((spec_l20Route.f k1 s0_0 t267 2).bind fun bt268 => (if x5_1.length < 4398046511104 then (some ((x5_1 ++ [(⟨bt268.1, bt268.2.1, bt268.2.2.1, bt268.2.2.2.1⟩ : S24)]), bt268.2.2.2.2)) else (none))) = some (r1, r2) := by rw [if_pos rfl] at H; exact H
          clear H;have H := H1;clear H1;replace H := ze H;obtain ⟨⟨t268, t269, t270, t271, t272⟩, A190, H⟩ := H;replace H : (if x5_1.length < 4398046511104 then (some ((x5_1 ++ [(⟨t268, t269, t270, t271⟩ : S24)]), t272)) else (none)) = some (r1, r2) := H;have A19 := Aside0.mk A190;clear A190
          by_cases c20 : x5_1.length < 4398046511104
          · rw [if_pos c20] at H
            have LMc20 := Aside0.mk c20;clear c20;obtain ⟨y273, hy273⟩ : ∃ y_ : List (S24), y_ = (x5_1 ++ [(⟨t268, t269, t270, t271⟩ : S24)]) := ⟨_, rfl⟩
            replace H : (some (y273, t272)) = some (r1, r2) := by first | (rw [hy273]; with_reducible exact H) | (have H2_ := (Option.bind_some _ _).symm.trans H; rw [hy273]; with_reducible exact H2_) | (have H2_ := (Option.bind_some _ _).symm.trans H; with_reducible exact H2_) | with_reducible exact H | (rw [hy273]; exact H) | exact H
            have Ny273 := Aside0.mk hy273;clear hy273;simp only [Option.some.injEq, Prod.mk.injEq] at H;obtain ⟨rfl, rfl⟩ := H
            go_wp2_with (first | ((with_reducible refine gate_callee (f := 87) rfl ?_); refine goesL_ (some 27) rfl rfl Try.func87 (by kernel_rfl) rfl #[.pointer (some ⟨g, 0, none⟩), .int .i64 a1] rfl (by (try simp only [zm]); first | done | rfl | (simp only [zl]; rfl)) ?_; (with_reducible refine (spec_l20Rd_odd.calls k1 g s0_0 x1001_1 a1 true t267 w0 _ ?side1 ?side2 A17.out).mono ?_); (case side1 => repeat (first | (with_reducible first | exact HI0.out | apply IsS98.alloc | apply IsS98.drewN | apply IsS98.drew | apply IsS98.set_1) | exact HI0.out)); (case side2 => repeat (first | (with_reducible first | exact HB.out | apply below_alloc | apply pw_below_drewN | apply below_drew1 | refine below_set ?_ (IsS98.ge HI0.out)) | exact HB.out)); rintro e w21 ⟨rfl, hi, hb, hk⟩; refine ⟨_, rfl, ?_⟩; have n0_ := Aside0.mk (Kd.R_mono (Kd.R_keep (IsS98.apart (show IsS98 w0 _ g s0_0 x1001_1 from by repeat (first | (with_reducible first | exact HI0.out | apply IsS98.alloc | apply IsS98.drewN | apply IsS98.drew | apply IsS98.set_1) | exact HI0.out)) (by (with_reducible repeat (first | apply Kd.R_alloc | apply Kd.R_drewN | apply Kd.R_drew)); exact HO_5.out) (by decide)) hk (fun _ h => h.2)) (fun _ h => h.1)); have n1_ := Aside0.mk (KeepBut.trans (by repeat (first | (with_reducible first | exact HK.out | apply KeepBut.set_ | apply keep_drewN | apply keep_drew | apply keep_alloc) | exact HK.out)) hk (.inl rfl)); have n2_ := Aside0.mk (hb); have n3_ := Aside0.mk (hi); clear HO_5; clear HK; clear HB; clear HI0; have HO_5 := n0_; have HK := n1_; have HB := n2_; have HI0 := n3_; clear n0_ n1_ n2_ n3_; (try clear hb); (try clear hb2); (try clear hk); (try clear hi)) | ((with_reducible refine gate_callee (f := 61) rfl ?_); refine goesL_ (some 30) rfl rfl Try.func61 (by kernel_rfl) rfl #[.pointer (some ⟨g, 0, none⟩), .int .i64 2] rfl (by (try simp only [zm]); first | done | rfl | (simp only [zl]; rfl)) ?_; (with_reducible refine (spec_l20Route.calls k1 g s0_0 t267 2 t268 t269 t270 t271 t272 w0 _ ?side1 ?side2 A19.out).mono ?_); (case side1 => repeat (first | (with_reducible first | exact HI0.out | apply IsS98.alloc | apply IsS98.drewN | apply IsS98.drew | apply IsS98.set_1) | exact HI0.out)); (case side2 => repeat (first | (with_reducible first | exact HB.out | apply below_alloc | apply pw_below_drewN | apply below_drew1 | refine below_set ?_ (IsS98.ge HI0.out)) | exact HB.out)); rintro e w22 ⟨rfl, hi, hb, hk⟩; refine ⟨_, rfl, ?_⟩; have n0_ := Aside0.mk (Kd.R_mono (Kd.R_keep (IsS98.apart (show IsS98 w0 _ g s0_0 t267 from by repeat (first | (with_reducible first | exact HI0.out | apply IsS98.alloc | apply IsS98.drewN | apply IsS98.drew | apply IsS98.set_1) | exact HI0.out)) (by (with_reducible repeat (first | apply Kd.R_alloc | apply Kd.R_drewN | apply Kd.R_drew)); exact HO_5.out) (by decide)) hk (fun _ h => h.2)) (fun _ h => h.1)); have n1_ := Aside0.mk (KeepBut.trans (by repeat (first | (with_reducible first | exact HK.out | apply KeepBut.set_ | apply keep_drewN | apply keep_drew | apply keep_alloc) | exact HK.out)) hk (.inl rfl)); have n2_ := Aside0.mk (hb); have n3_ := Aside0.mk (hi); clear HO_5; clear HK; clear HB; clear HI0; have HO_5 := n0_; have HK := n1_; have HB := n2_; have HI0 := n3_; clear n0_ n1_ n2_ n3_; (try clear hb); (try clear hb2); (try clear hk); (try clear hi)) | ((with_reducible refine gate_builtin (b := .append) (xs := #[.tmp 28, .tmp 31]) rfl ?_); at_builtin; refine Kd.R_append k24 w.heap.size rfl (.tmp 28) (.tmp 31) 33 24 (.agg #[(.int .i64 0), (.int .i64 0), (.int .i64 0), (.int .i64 0)]) 32 rfl Try.underlying33 info24 rfl (by decide) (by omega) u5 x5_1 (⟨t268, t269, t270, t271⟩ : S24) [.int .i64 t268, .int .i64 t269, .int .i64 t270, .int .i64 t271] (fun _ => True) (fun _ => False) rfl rfl ?aP (fun _ hk => hk.elim) ?aF ?aO (Below.refl _ _) ?aS ?aL ?_; (case aP => exact k24_mkM _ _ _ (⟨t268, t269, t270, t271⟩ : S24)); (case aF => exact (fun _ _ => trivial)); (case aO => exact (by (with_reducible repeat (first | apply Kd.R_alloc | apply Kd.R_drewN | apply Kd.R_drew)); exact HO_5.out)); (case aS => exact (keep_size (w := w) (g := g) (row := none) (by repeat (first | (with_reducible first | exact HK.out | apply KeepBut.set_ | apply keep_drewN | apply keep_drew | apply keep_alloc) | exact HK.out)))); (case aL => have := LMc20.out; omega); intro v274 w23 ho hb hg hat; rw [← Ny273.out] at ho; have n0_ := Aside0.mk (IsS98.grown (by repeat (first | (with_reducible first | exact HI0.out | apply IsS98.alloc | apply IsS98.drewN | apply IsS98.drew | apply IsS98.set_1) | exact HI0.out)) hg (IsS98.own_ne HI0.out HO_5.out (by decide))); have n1_ := Aside0.mk (below_weaken (by repeat (first | (with_reducible first | exact HB.out | apply below_alloc | apply pw_below_drewN | apply below_drew1 | refine below_set ?_ (IsS98.ge HI0.out)) | exact HB.out)) HL.out hb); have n2_ := Aside0.mk (KeepBut.trans (by repeat (first | (with_reducible first | exact HK.out | apply KeepBut.set_ | apply keep_drewN | apply keep_drew | apply keep_alloc) | exact HK.out)) (KeepBut.of_grown hg g) (Kd.R_base2 HO_5.out)); have n3_ := Aside0.mk (ho); clear HI0; clear HB; clear HK; clear HO_5; have HI0 := n0_; have HB := n1_; have HK := n2_; have HO275 := n3_; clear n0_ n1_ n2_ n3_; clear ho hb hg hat))
            go_ret;exact ⟨_, by first | rfl | (simp <;> rfl) | (simp [*] <;> rfl), by (with_reducible repeat (first | apply Kd.R_alloc | apply Kd.R_drewN | apply Kd.R_drew)); exact HO275.out, by repeat (first | (with_reducible first | exact HI0.out | apply IsS98.alloc | apply IsS98.drewN | apply IsS98.drew | apply IsS98.set_1) | exact HI0.out), by repeat (first | (with_reducible first | exact HB.out | apply below_alloc | apply pw_below_drewN | apply below_drew1 | refine below_set ?_ (IsS98.ge HI0.out)) | exact HB.out), by repeat (first | (with_reducible first | exact HK.out | apply KeepBut.set_ | apply keep_drewN | apply keep_drew | apply keep_alloc) | exact HK.out)⟩
          · rw [if_neg c20] at H
            exact absurd H (by simp)
        · replace c18 := Bool.eq_false_iff.mpr c18
          subst c18
          have H1 : (some (x5_1, t267)) = some (r1, r2) := by rw [if_neg (show ¬ (false = true) by decide)] at H; exact H
          clear H;have H := H1;clear H1;simp only [Option.some.injEq, Prod.mk.injEq] at H;obtain ⟨rfl, rfl⟩ := H
          go_wp2_with (first | ((with_reducible refine gate_callee (f := 87) rfl ?_); refine goesL_ (some 27) rfl rfl Try.func87 (by kernel_rfl) rfl #[.pointer (some ⟨g, 0, none⟩), .int .i64 a1] rfl (by (try simp only [zm]); first | done | rfl | (simp only [zl]; rfl)) ?_; (with_reducible refine (spec_l20Rd_odd.calls k1 g s0_0 x1001_1 a1 false t267 w0 _ ?side1 ?side2 A17.out).mono ?_); (case side1 => repeat (first | (with_reducible first | exact HI0.out | apply IsS98.alloc | apply IsS98.drewN | apply IsS98.drew | apply IsS98.set_1) | exact HI0.out)); (case side2 => repeat (first | (with_reducible first | exact HB.out | apply below_alloc | apply pw_below_drewN | apply below_drew1 | refine below_set ?_ (IsS98.ge HI0.out)) | exact HB.out)); rintro e w24 ⟨rfl, hi, hb, hk⟩; refine ⟨_, rfl, ?_⟩; have n0_ := Aside0.mk (Kd.R_mono (Kd.R_keep (IsS98.apart (show IsS98 w0 _ g s0_0 x1001_1 from by repeat (first | (with_reducible first | exact HI0.out | apply IsS98.alloc | apply IsS98.drewN | apply IsS98.drew | apply IsS98.set_1) | exact HI0.out)) (by (with_reducible repeat (first | apply Kd.R_alloc | apply Kd.R_drewN | apply Kd.R_drew)); exact HO_5.out) (by decide)) hk (fun _ h => h.2)) (fun _ h => h.1)); have n1_ := Aside0.mk (KeepBut.trans (by repeat (first | (with_reducible first | exact HK.out | apply KeepBut.set_ | apply keep_drewN | apply keep_drew | apply keep_alloc) | exact HK.out)) hk (.inl rfl)); have n2_ := Aside0.mk (hb); have n3_ := Aside0.mk (hi); clear HO_5; clear HK; clear HB; clear HI0; have HO_5 := n0_; have HK := n1_; have HB := n2_; have HI0 := n3_; clear n0_ n1_ n2_ n3_; (try clear hb); (try clear hb2); (try clear hk); (try clear hi)))
          go_ret;exact ⟨_, by first | rfl | (simp <;> rfl) | (simp [*] <;> rfl), by (with_reducible repeat (first | apply Kd.R_alloc | apply Kd.R_drewN | apply Kd.R_drew)); exact HO_5.out, by repeat (first | (with_reducible first | exact HI0.out | apply IsS98.alloc | apply IsS98.drewN | apply IsS98.drew | apply IsS98.set_1) | exact HI0.out), by repeat (first | (with_reducible first | exact HB.out | apply below_alloc | apply pw_below_drewN | apply below_drew1 | refine below_set ?_ (IsS98.ge HI0.out)) | exact HB.out), by repeat (first | (with_reducible first | exact HK.out | apply KeepBut.set_ | apply keep_drewN | apply keep_drew | apply keep_alloc) | exact HK.out)⟩

/-! ### spec_DrawRoutePut: function 48 -/
def spec_DrawRoutePut.f (k : Nat) (l0 : List Int) : Option ((List (S24)) × Int × Int × Int × Int) := (spec_l20Open.f l0).bind fun bt277 => ((spec_l20Routes.f k bt277.1 bt277.2 15).bind fun bt280 => ((spec_l20Route.f k bt277.1 bt280.2 12).bind fun bt284 => (some (bt280.1, bt284.1, bt284.2.1, bt284.2.2.1, bt284.2.2.2.1))))
theorem spec_DrawRoutePut.mono : ∀ a0 k, LeO (spec_DrawRoutePut.f k a0) (spec_DrawRoutePut.f (k + 1) a0) := by
  intro a0 k
  unfold spec_DrawRoutePut.f
  repeat' first
      | (with_reducible exact spec_l20Route.mono _ _ _ _)
      | (with_reducible exact spec_l20Routes.mono _ _ _ _)
      | (with_reducible exact LeO.refl _)
      | (with_reducible exact LeO.none _)
      | (with_reducible refine LeO.ite ?_ ?_)
      | (with_reducible refine LeO.bind ?_ (fun _ => ?_))
      | exact spec_l20Route.mono _ _ _ _
      | exact spec_l20Routes.mono _ _ _ _
      | exact LeO.none _
      | refine LeO.ite ?_ ?_
      | refine LeO.bind ?_ (fun _ => ?_)
set_option maxHeartbeats 8000000 in
set_option maxRecDepth 100000 in
theorem spec_DrawRoutePut.calls (k : Nat) (A0 : Option Addr) (c0 : Nat) (l0 : List Int) (r1 : List (S24)) (r2 : Int) (r3 : Int) (r4 : Int) (r5 : Int) (w : World) (hr0 : Kd.C (Kd.int .u8) w A0 l0.length l0) (hc0 : l0.length ≤ c0) (h : spec_DrawRoutePut.f k l0 = some (r1, r2, r3, r4, r5)) :
    Calls Try.prog 48 #[.slice A0 l0.length c0] w fun e w' => ∃ v0_ : Value, e = .returned (.tuple #[v0_, .agg #[.int .i64 r2, .int .i64 r3, .int .i64 r4, .int .i64 r5]]) ∧ Kd.R k24 24 w' w.heap.size (fun _ => True) v0_ r1 ∧ Below w.heap.size w w' := by
  have hu24 := Try.underlying24;have HR0 := Aside0.mk hr0;have HC0 := Aside0.mk hc0;clear hr0 hc0;have HB := Aside0.mk (Below.refl w.heap.size w);have H : ((spec_l20Open.f l0).bind fun bt277 => ((spec_l20Routes.f k bt277.1 bt277.2 15).bind fun bt280 => ((spec_l20Route.f k bt277.1 bt280.2 12).bind fun bt284 => (some (bt280.1, bt284.1, bt284.2.1, bt284.2.2.1, bt284.2.2.2.1))))) = some (r1, r2, r3, r4, r5) := h;clear h;replace H := ze H;obtain ⟨⟨t277, t278⟩, A20, H⟩ := H;replace H : ((spec_l20Routes.f k t277 t278 15).bind fun bt280 => ((spec_l20Route.f k t277 bt280.2 12).bind fun bt284 => (some (bt280.1, bt284.1, bt284.2.1, bt284.2.2.1, bt284.2.2.2.1)))) = some (r1, r2, r3, r4, r5) := H;have A2 := Aside0.mk A20;clear A20;replace H := ze H;obtain ⟨⟨t280, t283⟩, A30, H⟩ := H;replace H : ((spec_l20Route.f k t277 t283 12).bind fun bt284 => (some (t280, bt284.1, bt284.2.1, bt284.2.2.1, bt284.2.2.2.1))) = some (r1, r2, r3, r4, r5) := H;have A3 := Aside0.mk A30;clear A30;replace H := ze H;obtain ⟨⟨t284, t285, t286, t287, t288⟩, A40, H⟩ := H;replace H : (some (t280, t284, t285, t286, t287)) = some (r1, r2, r3, r4, r5) := H;have A4 := Aside0.mk A40;clear A40;simp only [Option.some.injEq, Prod.mk.injEq] at H;obtain ⟨rfl, rfl, rfl, rfl, rfl⟩ := H
  go_enter Try.func48, Try.ntmps48
  go_wp2_with (first | ((with_reducible refine gate_dst (N := 3) rfl ?_); refine box_event ?hg (N := 3) ?hd (cs := #[.int .i64 0, .int .i64 0, .int .i64 0, .int .i64 0]) (t := 24) ?hr ?_; (case hd => rfl); (case hg => rfl); (case hr => first | (go_simp; done) | (go_simp; rfl)); intro gb276 hg w5 hbox hb; have n0_ := Aside0.mk (below_step (by repeat (first | (with_reducible first | exact HB.out | apply below_alloc | apply pw_below_drewN | apply below_drew1) | exact HB.out)) hb); have n1_ := Aside0.mk (hbox); have n2_ := Aside0.mk ((by rw [hg]; exact (below_size (by repeat (first | (with_reducible first | exact HB.out | apply below_alloc | apply pw_below_drewN | apply below_drew1) | exact HB.out))) : w.heap.size ≤ gb276)); have n3_ := n2_; clear HB; have HB := n0_; have BK276 := n1_; have GW276 := n2_; have GE276 := n3_; clear n0_ n1_ n2_ n3_; clear hb hbox hg) | ((with_reducible refine gate_callee (f := 62) rfl ?_); refine goesL_ (some 6) rfl rfl Try.func62 (by kernel_rfl) rfl #[.slice A0 l0.length c0] rfl (by (try simp only [zm]); first | done | rfl | (simp only [zl]; rfl)) ?_; (with_reducible refine (spec_l20Open.calls _ _ l0 t277 t278 w _ ?side1 ?side2 ?side3 A2.out).mono ?_); (case side1 => repeat (first | (with_reducible first | exact HB.out | apply below_alloc | apply pw_below_drewN | apply below_drew1 | refine below_set ?_ GE276.out) | exact HB.out)); (case side2 => exact HR0.out); (case side3 => exact HC0.out); rintro e w6 ⟨g279, rfl, hi, hb, hb2⟩; refine ⟨_, rfl, ?_⟩; have n0_ := Aside0.mk (blk_below (g := gb276) (o := .cells #[.int .i64 0, .int .i64 0, .int .i64 0, .int .i64 0] 24 (0, 0)) (by (with_reducible repeat (first | apply blk_drewN | apply blk_drew | apply blk_alloc)); exact BK276.out) hb2); have n1_ := Aside0.mk (hb); have n2_ := Aside0.mk (hi); have n3_ := Aside0.mk (IsS98.ne_blk hi (blk_below (g := gb276) (o := .cells #[.int .i64 0, .int .i64 0, .int .i64 0, .int .i64 0] 24 (0, 0)) (by (with_reducible repeat (first | apply blk_drewN | apply blk_drew | apply blk_alloc)); exact BK276.out) hb2) (by decide)); have n4_ := Aside0.mk (Ne.symm (IsS98.ne_blk hi (blk_below (g := gb276) (o := .cells #[.int .i64 0, .int .i64 0, .int .i64 0, .int .i64 0] 24 (0, 0)) (by (with_reducible repeat (first | apply blk_drewN | apply blk_drew | apply blk_alloc)); exact BK276.out) hb2) (by decide))); clear BK276; clear HB; have BK276 := n0_; have HB := n1_; have HI279 := n2_; have NB279_276 := n3_; have NB276_279 := n4_; clear n0_ n1_ n2_ n3_ n4_; (try clear hb); (try clear hb2); (try clear hk); (try clear hi)) | ((with_reducible refine gate_callee (f := 85) rfl ?_); refine goesL_ (some 8) rfl rfl Try.func85 (by kernel_rfl) rfl #[.pointer (some ⟨g279, 0, none⟩), .int .i64 15] rfl (by (try simp only [zm]); first | done | rfl | (simp only [zl]; rfl)) ?_; (with_reducible refine (spec_l20Routes.calls k g279 t277 t278 15 t280 t283 w _ ?side1 ?side2 A3.out).mono ?_); (case side1 => repeat (first | (with_reducible first | exact HI279.out | apply IsS98.alloc | apply IsS98.drewN | apply IsS98.drew | apply IsS98.set_1 | refine IsS98.far ?_ NB279_276.out _) | exact HI279.out)); (case side2 => repeat (first | (with_reducible first | exact HB.out | apply below_alloc | apply pw_below_drewN | apply below_drew1 | refine below_set ?_ (IsS98.ge HI279.out) | refine below_set ?_ GE276.out) | exact HB.out)); rintro e w7 ⟨v281, rfl, ho0, hi, hb, hk⟩; refine ⟨_, rfl, ?_⟩; have n0_ := Aside0.mk (KeepBut.blk hk (g' := gb276) (o := .cells #[.int .i64 0, .int .i64 0, .int .i64 0, .int .i64 0] 24 (0, 0)) (by (with_reducible repeat (first | apply blk_drewN | apply blk_drew | apply blk_alloc)); exact BK276.out) NB276_279.out (by simp)); have n1_ := Aside0.mk (Kd.R_lower (Kd.R_newB ho0 (g := gb276) (o := .cells #[.int .i64 0, .int .i64 0, .int .i64 0, .int .i64 0] 24 (0, 0)) (by (with_reducible repeat (first | apply blk_drewN | apply blk_drew | apply blk_alloc)); exact BK276.out)) (below_size (by repeat (first | (with_reducible first | exact HB.out | apply below_alloc | apply pw_below_drewN | apply below_drew1 | refine below_set ?_ (IsS98.ge HI279.out) | refine below_set ?_ GE276.out) | exact HB.out)))); have n2_ := Aside0.mk (hb); have n3_ := Aside0.mk (hi); clear BK276; clear HB; clear HI279; have BK276 := n0_; have HO282 := n1_; have HB := n2_; have HI279 := n3_; clear n0_ n1_ n2_ n3_; (try clear hb); (try clear hb2); (try clear hk); (try clear hi); (try clear ho0)) | ((with_reducible refine gate_callee (f := 61) rfl ?_); refine goesL_ (some 10) rfl rfl Try.func61 (by kernel_rfl) rfl #[.pointer (some ⟨g279, 0, none⟩), .int .i64 12] rfl (by (try simp only [zm]); first | done | rfl | (simp only [zl]; rfl)) ?_; (with_reducible refine (spec_l20Route.calls k g279 t277 t283 12 t284 t285 t286 t287 t288 w _ ?side1 ?side2 A4.out).mono ?_); (case side1 => repeat (first | (with_reducible first | exact HI279.out | apply IsS98.alloc | apply IsS98.drewN | apply IsS98.drew | apply IsS98.set_1 | refine IsS98.far ?_ NB279_276.out _) | exact HI279.out)); (case side2 => repeat (first | (with_reducible first | exact HB.out | apply below_alloc | apply pw_below_drewN | apply below_drew1 | refine below_set ?_ (IsS98.ge HI279.out) | refine below_set ?_ GE276.out) | exact HB.out)); rintro e w8 ⟨rfl, hi, hb, hk⟩; refine ⟨_, rfl, ?_⟩; have n0_ := Aside0.mk (KeepBut.blk hk (g' := gb276) (o := .cells #[.int .i64 0, .int .i64 0, .int .i64 0, .int .i64 0] 24 (0, 0)) (by (with_reducible repeat (first | apply blk_drewN | apply blk_drew | apply blk_alloc)); exact BK276.out) NB276_279.out (by simp)); have n1_ := Aside0.mk (Kd.R_mono (Kd.R_keep (IsS98.apart (show IsS98 w _ g279 t277 t283 from by repeat (first | (with_reducible first | exact HI279.out | apply IsS98.alloc | apply IsS98.drewN | apply IsS98.drew | apply IsS98.set_1 | refine IsS98.far ?_ NB279_276.out _) | exact HI279.out)) (by (with_reducible repeat (first | apply Kd.R_alloc | apply Kd.R_drewN | apply Kd.R_drew)); exact HO282.out) (by decide)) hk (fun _ h => h.2)) (fun _ h => h.1)); have n2_ := Aside0.mk (hb); have n3_ := Aside0.mk (hi); clear BK276; clear HO282; clear HB; clear HI279; have BK276 := n0_; have HO282 := n1_; have HB := n2_; have HI279 := n3_; clear n0_ n1_ n2_ n3_; (try clear hb); (try clear hb2); (try clear hk); (try clear hi); have hnb9 := NB276_279.out; have hnc9 := NB279_276.out; obtain ⟨hcz10_0, hcz10_1, hcz10_2, hcz10_3, hfz10_0, hfz10_1, hfz10_2, hfz10_3⟩ := zc4 BK276.out))
  refine bodyPost_ret (results_tc rfl _ _ gb276 24 #[.int .i64 t284, .int .i64 t285, .int .i64 t286, .int .i64 t287] (0, 0) _ rfl (by (with_reducible repeat (first | apply blk_drewN | apply blk_drew | apply blk_alloc)); refine blk_put (cs := #[.int .i64 t284, .int .i64 t285, .int .i64 t286, .int .i64 0]) ?_ 3 _ rfl; refine blk_put (cs := #[.int .i64 t284, .int .i64 t285, .int .i64 0, .int .i64 0]) ?_ 2 _ rfl; refine blk_put (cs := #[.int .i64 t284, .int .i64 0, .int .i64 0, .int .i64 0]) ?_ 1 _ rfl; refine blk_put (cs := #[.int .i64 0, .int .i64 0, .int .i64 0, .int .i64 0]) ?_ 0 _ rfl; (with_reducible repeat (first | apply blk_drewN | apply blk_drew | apply blk_alloc)); exact BK276.out) Try.underlying24 rfl (by kernel_rfl)) rfl ?_;exact ⟨_, by first | rfl | (simp <;> rfl) | (simp [*] <;> rfl), by (with_reducible repeat (first | apply Kd.R_alloc | apply Kd.R_drewN | apply Kd.R_drew)); exact Kd.R_mono (Kd.R_far (p := ⟨gb276, 3, none⟩) (Kd.R_far (p := ⟨gb276, 2, none⟩) (Kd.R_far (p := ⟨gb276, 1, none⟩) (Kd.R_far (p := ⟨gb276, 0, none⟩) (Kd.R_mono HO282.out (fun k_ hk => (⟨hk, hk.2⟩ : _ ∧ k_ ≠ gb276))) (fun _ hk => hk.2) (.int .i64 t284)) (fun _ hk => hk.2) (.int .i64 t285)) (fun _ hk => hk.2) (.int .i64 t286)) (fun _ hk => hk.2) (.int .i64 t287)) (fun _ hk => trivial), by repeat (first | (with_reducible first | exact HB.out | apply below_alloc | apply pw_below_drewN | apply below_drew1 | refine below_set ?_ (IsS98.ge HI279.out) | refine below_set ?_ GE276.out) | exact HB.out)⟩

/-! ### laws_sameRoutes: function 49 -/
def laws_sameRoutes.l0 : Nat → List (S24) → List (S24) → Int → Option (Bool)
  | 0, _, _, _ => none
  | k + 1, x0, x1, x5 => if x5 < (x0.length : Int) then (if 0 ≤ x5 then (if x5 < (x1.length : Int) then (if (!(((rd_T24 x0 x5).f0) == ((rd_T24 x1 x5).f0)) || (!(((rd_T24 x0 x5).f1) == ((rd_T24 x1 x5).f1)) || (!(((rd_T24 x0 x5).f2) == ((rd_T24 x1 x5).f2)) || (!(((rd_T24 x0 x5).f3) == ((rd_T24 x1 x5).f3)))))) = true then (some false) else (laws_sameRoutes.l0 k x0 x1 (wrap64 (x5 + 1)))) else (none)) else (none)) else (some true)
def laws_sameRoutes.f (k : Nat) (l0 : List (S24)) (l1 : List (S24)) : Option (Bool) := if (l0.length : Int) = (l1.length : Int) then (laws_sameRoutes.l0 k l0 l1 0) else (some false)
theorem laws_sameRoutes.mono_l : ∀ k, (∀ y0 y1 y2, LeO (laws_sameRoutes.l0 k y0 y1 y2) (laws_sameRoutes.l0 (k + 1) y0 y1 y2))
  | 0 => fun _ _ _ r h => by simp [laws_sameRoutes.l0] at h
  | k + 1 => by
    have ih0 := laws_sameRoutes.mono_l k
    · intro y0 y1 y2
      unfold laws_sameRoutes.l0
      repeat' first
      | (with_reducible exact ih0 _ _ _)
      | (with_reducible exact LeO.refl _)
      | (with_reducible exact LeO.none _)
      | (with_reducible refine LeO.ite ?_ ?_)
      | (with_reducible refine LeO.bind ?_ (fun _ => ?_))
      | exact ih0 _ _ _
      | exact LeO.none _
      | refine LeO.ite ?_ ?_
      | refine LeO.bind ?_ (fun _ => ?_)
theorem laws_sameRoutes.mono : ∀ a0 a1 k, LeO (laws_sameRoutes.f k a0 a1) (laws_sameRoutes.f (k + 1) a0 a1) := by
  intro a0 a1 k;have ih0 := laws_sameRoutes.mono_l k
  unfold laws_sameRoutes.f
  repeat' first
      | (with_reducible exact ih0 _ _ _)
      | (with_reducible exact LeO.refl _)
      | (with_reducible exact LeO.none _)
      | (with_reducible refine LeO.ite ?_ ?_)
      | (with_reducible refine LeO.bind ?_ (fun _ => ?_))
      | exact ih0 _ _ _
      | exact LeO.none _
      | refine LeO.ite ?_ ?_
      | refine LeO.bind ?_ (fun _ => ?_)
set_option maxHeartbeats 8000000 in
set_option maxRecDepth 100000 in
theorem laws_sameRoutes.calls (k : Nat) (A0 : Option Addr) (c0 : Nat) (l0 : List (S24)) (A1 : Option Addr) (c1 : Nat) (l1 : List (S24)) (r : Bool) (w : World) (hr0 : Kd.C k24 w A0 l0.length l0) (hc0 : l0.length ≤ c0) (hr1 : Kd.C k24 w A1 l1.length l1) (hc1 : l1.length ≤ c1) (h : laws_sameRoutes.f k l0 l1 = some r) :
    Calls Try.prog 49 #[.slice A0 l0.length c0, .slice A1 l1.length c1] w fun e w' => e = .returned (.bool r) ∧ Drawn0 w w' := by
  have hu24 := Try.underlying24;have HR0 := Aside0.mk hr0;have HC0 := Aside0.mk hc0;clear hr0 hc0;have HR1 := Aside0.mk hr1;have HC1 := Aside0.mk hc1;clear hr1 hc1;have H : (if (l0.length : Int) = (l1.length : Int) then (laws_sameRoutes.l0 k l0 l1 0) else (some false)) = some r := h;clear h
  by_cases c3 : (l0.length : Int) = (l1.length : Int)
  · rw [if_pos c3] at H
    have c3b0 : ((l0.length : Int) == (l1.length : Int)) = true := beq_iff_eq.mpr c3;have c3b1 : ((l0.length : Int) != (l1.length : Int)) = false := bne_eq_false_iff_eq.mpr c3
    have c3b2 : (l0.length == l1.length) = true := by first | simpa using c3 | (simp at c3 ⊢; omega)
    clear c3;have H' := Aside0.mk H;clear H
    go_enter Try.func49, Try.ntmps49
    go_wp2
    repeat (go_quiet (fail); try go_wp2)
    go_loopg [5] k (fun kq v5 w' => ∃ (x5_1 : Int), v5 = .int .i64 x5_1 ∧ Aside0 (laws_sameRoutes.l0 kq l0 l1 x5_1 = some r) ∧ Aside0 (kq ≤ k) ∧ Drawn0 w w')
    case atStart => exact ⟨(0), (by first | rfl | (simp; done) | (simp [*]; done)), H', ⟨Nat.le_refl _⟩, by repeat (first | exact Drawn0.refl _ | apply Drawn0.step)⟩
    case round =>
      clear H'
      try clear c1
      try clear p2
      try clear c3
      try clear c3b0
      try clear c3b1
      try clear c3b2
      obtain ⟨x5_1, rfl, HA, HK1, ⟨m1, rfl⟩⟩ := hrel
      cases gk with
      | zero => exact absurd HA.out (by simp [laws_sameRoutes.l0])
      | succ k1 =>
        have H := HA.out;clear HA;simp only [laws_sameRoutes.l0] at H
        by_cases c4 : x5_1 < (l0.length : Int)
        · rw [if_pos c4] at H
          have c4b0 : decide (x5_1 < (l0.length : Int)) = true := decide_eq_true c4;clear c4
          by_cases c5 : 0 ≤ x5_1
          · rw [if_pos c5] at H
            have c5b0 : decide (0 ≤ x5_1) = true := decide_eq_true c5;clear c5
            by_cases c6 : x5_1 < (l1.length : Int)
            · rw [if_pos c6] at H
              have c6b0 : decide (x5_1 < (l1.length : Int)) = true := decide_eq_true c6;clear c6
              by_cases c7 : (!(((rd_T24 l0 x5_1).f0) == ((rd_T24 l1 x5_1).f0)) || (!(((rd_T24 l0 x5_1).f1) == ((rd_T24 l1 x5_1).f1)) || (!(((rd_T24 l0 x5_1).f2) == ((rd_T24 l1 x5_1).f2)) || (!(((rd_T24 l0 x5_1).f3) == ((rd_T24 l1 x5_1).f3)))))) = true
              · rw [if_pos c7] at H
                have c7b0 : (!(((rd_T24 l0 x5_1).f0) == ((rd_T24 l1 x5_1).f0)) || (!(((rd_T24 l0 x5_1).f1) == ((rd_T24 l1 x5_1).f1)) || (!(((rd_T24 l0 x5_1).f2) == ((rd_T24 l1 x5_1).f2)) || (!(((rd_T24 l0 x5_1).f3) == ((rd_T24 l1 x5_1).f3)))))) = true := c7;clear c7;obtain rfl := Option.some.inj H;have p289 : 0 ≤ (x5_1 : Int) := of_decide_eq_true (by first | (with_reducible assumption) | assumption);have q289 : x5_1 < (l0.length : Int) := of_decide_eq_true (by first | (with_reducible assumption) | assumption);obtain ⟨ad289, e289, hx289_0, hx289_1, hx289_2, hx289_3⟩ := at_T24 HR0.out x5_1 p289 q289
                cases e289
                replace p289 := eq_true p289;replace q289 := eq_true q289;have p290 : 0 ≤ (x5_1 : Int) := of_decide_eq_true (by first | (with_reducible assumption) | assumption);have q290 : x5_1 < (l1.length : Int) := of_decide_eq_true (by first | (with_reducible assumption) | assumption);obtain ⟨ad290, e290, hx290_0, hx290_1, hx290_2, hx290_3⟩ := at_T24 HR1.out x5_1 p290 q290
                cases e290
                replace p290 := eq_true p290;replace q290 := eq_true q290
                go_wp2
                repeat (go_quiet (fail); try go_wp2)
                go_ret;exact ⟨by first | rfl | (simp; done) | (simp [*]; done), by repeat (first | exact Drawn0.refl _ | apply Drawn0.step)⟩
              · rw [if_neg c7] at H
                have c7b0 : (!(((rd_T24 l0 x5_1).f0) == ((rd_T24 l1 x5_1).f0)) || (!(((rd_T24 l0 x5_1).f1) == ((rd_T24 l1 x5_1).f1)) || (!(((rd_T24 l0 x5_1).f2) == ((rd_T24 l1 x5_1).f2)) || (!(((rd_T24 l0 x5_1).f3) == ((rd_T24 l1 x5_1).f3)))))) = false := by simpa using c7
                clear c7;have H' := Aside0.mk H;clear H;have p289 : 0 ≤ (x5_1 : Int) := of_decide_eq_true (by first | (with_reducible assumption) | assumption);have q289 : x5_1 < (l0.length : Int) := of_decide_eq_true (by first | (with_reducible assumption) | assumption);obtain ⟨ad289, e289, hx289_0, hx289_1, hx289_2, hx289_3⟩ := at_T24 HR0.out x5_1 p289 q289
                cases e289
                replace p289 := eq_true p289;replace q289 := eq_true q289;have p290 : 0 ≤ (x5_1 : Int) := of_decide_eq_true (by first | (with_reducible assumption) | assumption);have q290 : x5_1 < (l1.length : Int) := of_decide_eq_true (by first | (with_reducible assumption) | assumption);obtain ⟨ad290, e290, hx290_0, hx290_1, hx290_2, hx290_3⟩ := at_T24 HR1.out x5_1 p290 q290
                cases e290
                replace p290 := eq_true p290;replace q290 := eq_true q290
                go_wp2
                repeat (go_quiet (fail); try go_wp2)
                go_roundg k1
                case measure => have := HK1.out; omega
                case rel => exact ⟨(wrap64 (x5_1 + 1)), (by first | rfl | (simp; done) | (simp [*]; done)), H', ⟨by have := HK1.out; omega⟩, by repeat (first | exact Drawn0.refl _ | apply Drawn0.step)⟩
            · rw [if_neg c6] at H
              exact absurd H (by simp)
          · rw [if_neg c5] at H
            exact absurd H (by simp)
        · rw [if_neg c4] at H
          have c4b0 : decide (x5_1 < (l0.length : Int)) = false := decide_eq_false c4;clear c4;obtain rfl := Option.some.inj H
          go_wp2
          repeat (go_quiet (fail); try go_wp2)
          go_ret;exact ⟨by first | rfl | (simp; done) | (simp [*]; done), by repeat (first | exact Drawn0.refl _ | apply Drawn0.step)⟩
  · rw [if_neg c3] at H
    have c3b0 : ((l0.length : Int) == (l1.length : Int)) = false := beq_eq_false_iff_ne.mpr c3;have c3b1 : ((l0.length : Int) != (l1.length : Int)) = true := bne_iff_ne.mpr c3
    have c3b2 : (l0.length == l1.length) = false := by first | simpa using c3 | (simp at c3 ⊢; omega)
    obtain rfl := Option.some.inj H
    go_enter Try.func49, Try.ntmps49
    go_wp2
    repeat (go_quiet (fail); try go_wp2)
    go_ret;exact ⟨by first | rfl | (simp; done) | (simp [*]; done), by repeat (first | exact Drawn0.refl _ | apply Drawn0.step)⟩

/-! ### laws_someAddrs: function 50 -/
def laws_someAddrs.f  : Option (List Int) := some (([0, 1, 4095, 4096, 4097, 4351, 4352, 4353, 4400, 8191, 8192, 32768, 65534, 65535] : List Int))
set_option maxHeartbeats 8000000 in
set_option maxRecDepth 100000 in
theorem laws_someAddrs.calls  (r : List Int) (w : World) (h : laws_someAddrs.f  = some r) :
    Calls Try.prog 50 #[] w fun e w' => ∃ v0_ : Value, e = .returned (v0_) ∧ Kd.R (Kd.int .i64) 3 w' w.heap.size (fun _ => True) v0_ r ∧ Below w.heap.size w w' := by
  have HB := Aside0.mk (Below.refl w.heap.size w);have H : (some (([0, 1, 4095, 4096, 4097, 4351, 4352, 4353, 4400, 8191, 8192, 32768, 65534, 65535] : List Int))) = some r := h;clear h;obtain ⟨y291, hy291⟩ : ∃ y_ : List Int, y_ = (([0, 1, 4095, 4096, 4097, 4351, 4352, 4353, 4400, 8191, 8192, 32768, 65534, 65535] : List Int)) := ⟨_, rfl⟩
  replace H : (some y291) = some r := by first | (rw [hy291]; with_reducible exact H) | (have H2_ := (Option.bind_some _ _).symm.trans H; rw [hy291]; with_reducible exact H2_) | (have H2_ := (Option.bind_some _ _).symm.trans H; with_reducible exact H2_) | with_reducible exact H | (rw [hy291]; exact H) | exact H
  have Ny291 := Aside0.mk hy291;clear hy291;obtain rfl := Option.some.inj H
  go_enter Try.func50, Try.ntmps50
  go_wp2_with (first | ((with_reducible refine gate_dst (N := 1) rfl ?_); refine Kd.R_lit (Kd.int .i64) _ 3 ?hg (N := 1) ?hd (xs := ([0, 1, 4095, 4096, 4097, 4351, 4352, 4353, 4400, 8191, 8192, 32768, 65534, 65535] : List Int)) (inner := [.int .i64 0, .int .i64 1, .int .i64 4095, .int .i64 4096, .int .i64 4097, .int .i64 4351, .int .i64 4352, .int .i64 4353, .int .i64 4400, .int .i64 8191, .int .i64 8192, .int .i64 32768, .int .i64 65534, .int .i64 65535]) (ok := fun _ => True) (okp := fun _ => True) ?hr ?hp (fun _ hk => hk) trivial (Below.refl _ _) (Nat.le_refl _) (by simp) ?_; (case hd => rfl); (case hg => rfl); (case hr => first | (go_simp; done) | (go_simp; rfl)); (case hp => exact (Reps.one (show Kd.M (Kd.int .i64) _ _ _ 0 [.int .i64 0] from rfl) (Reps.one (show Kd.M (Kd.int .i64) _ _ _ 1 [.int .i64 1] from rfl) (Reps.one (show Kd.M (Kd.int .i64) _ _ _ 4095 [.int .i64 4095] from rfl) (Reps.one (show Kd.M (Kd.int .i64) _ _ _ 4096 [.int .i64 4096] from rfl) (Reps.one (show Kd.M (Kd.int .i64) _ _ _ 4097 [.int .i64 4097] from rfl) (Reps.one (show Kd.M (Kd.int .i64) _ _ _ 4351 [.int .i64 4351] from rfl) (Reps.one (show Kd.M (Kd.int .i64) _ _ _ 4352 [.int .i64 4352] from rfl) (Reps.one (show Kd.M (Kd.int .i64) _ _ _ 4353 [.int .i64 4353] from rfl) (Reps.one (show Kd.M (Kd.int .i64) _ _ _ 4400 [.int .i64 4400] from rfl) (Reps.one (show Kd.M (Kd.int .i64) _ _ _ 8191 [.int .i64 8191] from rfl) (Reps.one (show Kd.M (Kd.int .i64) _ _ _ 8192 [.int .i64 8192] from rfl) (Reps.one (show Kd.M (Kd.int .i64) _ _ _ 32768 [.int .i64 32768] from rfl) (Reps.one (show Kd.M (Kd.int .i64) _ _ _ 65534 [.int .i64 65534] from rfl) (Reps.one (show Kd.M (Kd.int .i64) _ _ _ 65535 [.int .i64 65535] from rfl) (Reps.none _ _)))))))))))))))); intro v292 w1 ho2 hb hg_ hnew_; clear hg_ hnew_; (first | rw [← Ny291.out] at ho2 | (simp only [Int.reduceToNat] at ho2; rw [← Ny291.out] at ho2)); have n0_ := Aside0.mk (Kd.R_lower ho2 (below_size (by repeat (first | (with_reducible first | exact HB.out | apply below_alloc | apply pw_below_drewN | apply below_drew1) | exact HB.out)))); have n1_ := Aside0.mk (below_step (by repeat (first | (with_reducible first | exact HB.out | apply below_alloc | apply pw_below_drewN | apply below_drew1) | exact HB.out)) hb); clear HB; have HO293 := n0_; have HB := n1_; clear n0_ n1_; clear hb ho2))
  go_ret;exact ⟨_, by first | rfl | (simp <;> rfl) | (simp [*] <;> rfl), by (with_reducible repeat (first | apply Kd.R_alloc | apply Kd.R_drewN | apply Kd.R_drew)); exact HO293.out, by repeat (first | (with_reducible first | exact HB.out | apply below_alloc | apply pw_below_drewN | apply below_drew1) | exact HB.out)⟩

-- NOT PRINTED: function 95 (impl_Route_95)

/-! ### impl_routeTo: function 86 -/
section
open Go.Shelf
/-- Routes from the last one on, each with its place. -/
def bk (xs : List (S24)) : List (Int × S24) := (List.range xs.length).map fun k => (((xs.length - 1 - k : Nat) : Int), rd_T24 xs ((xs.length - 1 - k : Nat) : Int))
theorem bk_len (xs : List (S24)) : (bk xs).length = xs.length := by simp [bk]
theorem bk_get (xs : List (S24)) (k : Nat) (h : k < xs.length) : (bk xs)[k]? = some (((xs.length - 1 - k : Nat) : Int), rd_T24 xs ((xs.length - 1 - k : Nat) : Int)) := by
  simp [bk, List.getElem?_map, List.getElem?_range h]
theorem bk_next {α : Type} {L : List α} {k : Nat} {c : α} (h : L[k]? = some c) : L.take (k + 1) = L.take k ++ [c] := by
  obtain ⟨hk, e⟩ := List.getElem?_eq_some_iff.1 h
  rw [List.take_succ_eq_append_getElem hk, e]
def KB1 (n₀ Bs : Nat) (A B : World) : Prop := Below n₀ A B ∧ B.cell? ⟨Bs, 0, none⟩ = A.cell? ⟨Bs, 0, none⟩
theorem KB1.refl (n₀ Bs : Nat) (A : World) : KB1 n₀ Bs A A := ⟨Below.refl _ _, rfl⟩
theorem KB1.trans {n₀ Bs : Nat} {A B C : World} (h : KB1 n₀ Bs A B) (k : KB1 n₀ Bs B C) : KB1 n₀ Bs A C := ⟨h.1.trans k.1, k.2.trans h.2⟩
theorem KB1.drew (n₀ Bs : Nat) (A : World) : KB1 n₀ Bs A A.drew := ⟨below_drew (Below.refl _ _), rfl⟩
theorem KB1.put {n₀ Bs : Nat} {w : World} (hn : n₀ ≤ w.heap.size) (hs : Bs < w.heap.size) (W : World) (l : Nat) (o o' : Obj) (hl : w.heap.size ≤ l) (h : W.heap[l]? = some o) (_ : o.isCells = false) (_ : o.isWalk = false) : KB1 n₀ Bs W (W.putObj l o') := by
  have hlt := (Array.getElem?_eq_some_iff.1 h).1;have hg : Below w.heap.size W (W.putObj l o') := (Below.refl _ W).grown (grownBy_putObj' W l o') (by omega) (fun k e => by cases e; omega);exact ⟨hg.mono hn, hg.cell (p := ⟨Bs, 0, none⟩) hs⟩
theorem bk_at {P : Int × S24 → Prop} {xs : List (S24)} {L : List { x // P x }} (hL : L.map Subtype.val = bk xs) (k : Nat) (h : k < xs.length) : ∃ c, L[k]? = some c ∧ c.1 = (((xs.length - 1 - k : Nat) : Int), rd_T24 xs ((xs.length - 1 - k : Nat) : Int)) := by
  have e := bk_get xs k h
  rw [← hL, List.getElem?_map] at e
  obtain ⟨c, hc, e⟩ := Option.map_eq_some_iff.1 e;exact ⟨c, hc, e⟩
theorem bk_size {P : Int × S24 → Prop} {xs : List (S24)} {L : List { x // P x }} (hL : L.map Subtype.val = bk xs) : L.length = xs.length := by
  rw [← bk_len xs, ← hL, List.length_map]
attribute [local go_sem] Oper.semAt_some
set_option maxRecDepth 100000 in
set_option maxHeartbeats 1000000 in
/-- slices.Backward's closure over routes. -/
theorem back1_in (w0 : World) (n : Nat) (hn : 1 ≤ n) (l Bs : Nat) (A : Option Addr) (cap : Nat) (xs : List (S24)) (hlc : xs.length ≤ cap) (hcap : xs.length ≤ 4611686018427387904) (hC : Kd.C k24 w0 A xs.length xs)
    {P : Int × S24 → Prop} (L : List { x // P x }) (hL : L.map Subtype.val = bk xs) (J Jx : List { x // P x } → World → Prop)
    (hY : ∀ pre x W, J pre W → pre.length < xs.length → YieldAt Fence.wide (n - 1) Try.prog l #[.int .i64 x.1.1, .agg #[.int .i64 x.1.2.f0, .int .i64 x.1.2.f1, .int .i64 x.1.2.f2, .int .i64 x.1.2.f3]] W fun e W' =>
      (e = .returned (.bool true) ∧ J (pre ++ [x]) W' ∧ KB1 w0.heap.size Bs W W') ∨ (e = .returned (.bool false) ∧ Jx (pre ++ [x]) W'))
    (W : World) (hW : Below w0.heap.size w0 W) (hBs : W.cell? ⟨Bs, 0, none⟩ = some (.slice A xs.length cap)) (h0 : J [] W) :
    CallsIn Fence.wide n Try.prog 99 #[.func (.yield l) #[] #[], .pointer (some ⟨Bs, 0, none⟩)] W fun e W' => (∃ v, e = .returned v) ∧
      ((∃ ys, ys = L ∧ J ys W') ∨ (∃ pre, (∃ k, pre = L.take k) ∧ Jx pre W')) := by
  refine callsIn_of_wp Try.func99 rfl trivial ?_ rfl;simp only [Try.ntmps99, List.size_toArray, List.length_cons, List.length_nil, Nat.reduceAdd, Nat.reduceSub, Array.replicate_succ, Array.replicate_zero, List.push_toArray, List.append_toArray, List.nil_append, List.cons_append]
  have hw1 : wrap64 ((xs.length : Int) - 1) = (xs.length : Int) - 1 := by unfold wrap64; omega
  gi_wp2
  gi_loopw [3] (fun i wr => ∃ k : Nat, k ≤ xs.length ∧ i = .int .i64 ((xs.length : Int) - 1 - (k : Int)) ∧ J (L.take k) wr ∧ KB1 w0.heap.size Bs W wr)
    (fun i _ => (intOf i + 1).toNat)
  case atStart => exact ⟨0, Nat.zero_le _, by simp [hw1], h0, KB1.refl _ _ _⟩
  case round =>
    obtain ⟨k, hk, rfl, hJs, hnx⟩ := hrel;have hcs := hnx.2.trans hBs
    by_cases hlt : k < xs.length
    · obtain ⟨c, hc, ec⟩ := bk_at hL k hlt
      have HT := Lib.hid (bk_next hc);obtain ⟨j, hj⟩ : ∃ j : Nat, xs.length - 1 - k = j := ⟨_, rfl⟩
      rw [hj] at ec
      have hjk : (xs.length : Int) - 1 - (k : Int) = (j : Int) := by omega
      rw [hjk]
      obtain ⟨ad, eA, hx0, hx1, hx2, hx3⟩ := at_T24 hC (j : Int) (by omega) (by omega);have hB := hW.trans hnx.1;replace hx0 := (hB.cell (World.block_lt_of_cell? w0 _ hx0)).trans hx0;replace hx1 := (hB.cell (World.block_lt_of_cell? w0 _ hx1)).trans hx1;replace hx2 := (hB.cell (World.block_lt_of_cell? w0 _ hx2)).trans hx2;replace hx3 := (hB.cell (World.block_lt_of_cell? w0 _ hx3)).trans hx3;simp only [Int.toNat_natCast] at hx0 hx1 hx2 hx3;obtain ⟨fn, tmps, assign, body, hy, hR⟩ := hY _ c wr hJs (by rw [List.length_take, bk_size hL]; omega)
      rw [ec] at hy
      dsimp only at hy
      have b0 : (0 : Int) ≤ (j : Int) := by omega
      have b1 : (j : Int) < (xs.length : Int) := by omega
      have b2 : j < xs.length := by omega
      subst eA
      have hw2 : wrap64 ((j : Int) - 1) = (j : Int) - 1 := by unfold wrap64; omega
      gi_wp2
      refine hR.mono ?_
      rintro e W3 (⟨rfl, hJ3, hk3⟩ | ⟨rfl, hJx3⟩)
      · have hcs3 := hk3.2.trans hcs
        gi_wp2
        go_roundw
        case rel => exact ⟨k + 1, by omega, by first | (simp only [hw2, Value.int.injEq, true_and]; omega) | (simp only [Value.int.injEq, true_and]; omega), by rw [HT.out]; exact hJ3, hnx.trans hk3⟩
        case measure => first | (simp only [hw2, intOf]; omega) | (simp only [intOf]; omega)
      · gi_wp2
        refine bodyPost_ret (results_none rfl _ _ _) rfl ?_;exact ⟨⟨_, rfl⟩, .inr ⟨_, ⟨k + 1, HT.out.symm⟩, hJx3⟩⟩
    · obtain rfl : k = xs.length := by omega
      gi_wp2
      go_end0
      exact ⟨⟨_, rfl⟩, .inl ⟨_, List.take_of_length_le (by rw [bk_size hL]; omega), hJs⟩⟩

set_option maxHeartbeats 1000000 in
/-- slices.Backward: the slice is boxed. -/
theorem back_in (n : Nat) (a : Option Addr) (len cap : Nat) (w : World) :
    CallsIn Fence.wide n Try.prog 95 #[.slice a len cap] w fun e w' => e = .returned (.func (.func 99) #[] #[.pointer (some ⟨w.heap.size, 0, none⟩)]) ∧
      w' = w.alloc (.cells #[.slice a len cap] 33) := by
  refine callsIn_of_wp Try.func95 rfl trivial ?_ rfl;simp only [Try.ntmps95, List.size_toArray, List.length_cons, List.length_nil, Nat.reduceAdd, Nat.reduceSub, Array.replicate_succ, Array.replicate_zero, List.push_toArray, List.append_toArray, List.nil_append, List.cons_append]
  gi_wp2
  go_ret;exact ⟨rfl, rfl⟩
/-- The iterator's contract. -/
theorem back_stops (w0 : World) (n : Nat) (hn : 1 ≤ n) (Bs : Nat) (A : Option Addr) (cap : Nat) (xs : List (S24)) (hlc : xs.length ≤ cap) (hcap : xs.length ≤ 4611686018427387904) (hC : Kd.C k24 w0 A xs.length xs)
    {P : Int × S24 → Prop} (L : List { x // P x }) (hL : L.map Subtype.val = bk xs) (w : World) (hw : Below w0.heap.size w0 w) (hs : Bs < w.heap.size) (hBs : w.cell? ⟨Bs, 0, none⟩ = some (.slice A xs.length cap)) :
    SeqStopsK Fence.wide n Try.prog 99 #[.pointer (some ⟨Bs, 0, none⟩)] (fun x : { x // P x } => #[.int .i64 x.1.1, .agg #[.int .i64 x.1.2.f0, .int .i64 x.1.2.f1, .int .i64 x.1.2.f2, .int .i64 x.1.2.f3]]) (KB1 w0.heap.size Bs)
      (fun ys => ys = L) (fun pre => ∃ k, pre = L.take k) xs.length w := fun l J Jx W hW hJ hJx hY h0 =>
  back1_in w0 n hn l Bs A cap xs hlc hcap hC L hL J Jx hY W (hw.trans (hW.mono hw.size)) ((hW.cell (p := ⟨Bs, 0, none⟩) hs).trans hBs) h0
/-- A route is the one. -/
def hit (a1 a2 : Int) (x : Int × S24) : Bool := decide (x.2.f1 < a2) && (impl_Route_fits.f x.2.f0 x.2.f1 x.2.f2 x.2.f3 a1 == some true)
theorem hit_of {a1 a2 j f0 f1 f2 f3 : Int} {b : Bool} (hf : f1 < a2) (hb : impl_Route_fits.f f0 f1 f2 f3 a1 = some b) : hit a1 a2 (j, ⟨f0, f1, f2, f3⟩) = b := by
  unfold hit; dsimp only; rw [hb]; cases b <;> simp [hf]
def rtP (a1 : Int) (x : Int × S24) : Prop := ∃ b, impl_Route_fits.f x.2.f0 x.2.f1 x.2.f2 x.2.f3 a1 = some b
/-- The boxes of the walk, ahead of a hit. -/
def RtCells (n : Nat) (a1 a2 : Int) (W : World) : Prop :=
  W.cell? ⟨n, 0, none⟩ = some (.int .i64 a1) ∧ W.cell? ⟨n + 1, 0, none⟩ = some (.int .i64 a2) ∧
  W.cell? ⟨n + 1 + 1, 0, none⟩ = some (.int .i64 0) ∧ W.cell? ⟨n + 1 + 1, 1, none⟩ = some (.int .i64 0) ∧ W.cell? ⟨n + 1 + 1, 2, none⟩ = some (.int .i64 0) ∧ W.cell? ⟨n + 1 + 1, 3, none⟩ = some (.int .i64 0) ∧
  W.cell? ⟨n + 1 + 1 + 1, 0, none⟩ = some (.bool false) ∧
  W.frozen? ⟨n + 1 + 1, 0, none⟩ = false ∧ W.frozen? ⟨n + 1 + 1, 1, none⟩ = false ∧ W.frozen? ⟨n + 1 + 1, 2, none⟩ = false ∧ W.frozen? ⟨n + 1 + 1, 3, none⟩ = false ∧ W.frozen? ⟨n + 1 + 1 + 1, 0, none⟩ = false ∧ n + 4 < W.heap.size
theorem RtCells.own {n : Nat} {a1 a2 : Int} {A B : World} {row : Option Nat} (h : RtCells n a1 a2 A) (hg : A.grownBy B row) (hr : ∀ r, row = some r → ∃ o : Obj, A.heap[r]? = some o ∧ o.isCells = false) : RtCells n a1 a2 B := by
  obtain ⟨h1, h2, h3, h4, h5, h6, h7, f3, f4, f5, f6, f7, hs⟩ := h;exact ⟨cell_kept h1 hg hr, cell_kept h2 hg hr, cell_kept h3 hg hr, cell_kept h4 hg hr, cell_kept h5 hg hr, cell_kept h6 hg hr, cell_kept h7 hg hr, (frozen_kept h3 hg hr).trans f3, (frozen_kept h4 hg hr).trans f4, (frozen_kept h5 hg hr).trans f5, (frozen_kept h6 hg hr).trans f6, (frozen_kept h7 hg hr).trans f7, Nat.lt_of_lt_of_le hs hg.size⟩
/-- The result's boxes. -/
def RtVals (n : Nat) (v0 v1 v2 v3 : Int) (b : Bool) (W : World) : Prop :=
  W.cell? ⟨n + 1 + 1, 0, none⟩ = some (.int .i64 v0) ∧ W.cell? ⟨n + 1 + 1, 1, none⟩ = some (.int .i64 v1) ∧ W.cell? ⟨n + 1 + 1, 2, none⟩ = some (.int .i64 v2) ∧ W.cell? ⟨n + 1 + 1, 3, none⟩ = some (.int .i64 v3) ∧ W.cell? ⟨n + 1 + 1 + 1, 0, none⟩ = some (.bool b)
abbrev RtHit (n : Nat) (x : Int × S24) (W : World) : Prop := RtVals n x.2.f0 x.2.f1 x.2.f2 x.2.f3 true W
theorem RtVals.own {n : Nat} {v0 v1 v2 v3 : Int} {b : Bool} {A B : World} {row : Option Nat} (h : RtVals n v0 v1 v2 v3 b A) (hg : A.grownBy B row) (hr : ∀ r, row = some r → ∃ o : Obj, A.heap[r]? = some o ∧ o.isCells = false) : RtVals n v0 v1 v2 v3 b B := by
  obtain ⟨h1, h2, h3, h4, h5⟩ := h;exact ⟨cell_kept h1 hg hr, cell_kept h2 hg hr, cell_kept h3 hg hr, cell_kept h4 hg hr, cell_kept h5 hg hr⟩
abbrev rtChain (n : Nat) (v0 v1 v2 v3 : Int) (b : Bool) (W : World) : World := ((((W.setCell ⟨n + 1 + 1, 0, none⟩ (.int .i64 v0)).setCell ⟨n + 1 + 1, 1, none⟩ (.int .i64 v1)).setCell ⟨n + 1 + 1, 2, none⟩ (.int .i64 v2)).setCell ⟨n + 1 + 1, 3, none⟩ (.int .i64 v3)).setCell ⟨n + 1 + 1 + 1, 0, none⟩ (.bool b)
theorem rt_set {n : Nat} {a1 a2 : Int} {W : World} (h : RtCells n a1 a2 W) (v0 v1 v2 v3 : Int) (b : Bool) : RtVals n v0 v1 v2 v3 b (rtChain n v0 v1 v2 v3 b W) := by
  obtain ⟨_, _, h3, h4, h5, h6, h7, _⟩ := h;refine ⟨?_, ?_, ?_, ?_, ?_⟩
  · rw [World.cell?_setCell_other _ _ _ _ (by simp), World.cell?_setCell_other _ _ _ _ (by simp), World.cell?_setCell_other _ _ _ _ (by simp), World.cell?_setCell_other _ _ _ _ (by simp)]
    exact World.cell?_setCell_same' _ _ _ (by rw [h3]; rfl)
  · rw [World.cell?_setCell_other _ _ _ _ (by simp), World.cell?_setCell_other _ _ _ _ (by simp), World.cell?_setCell_other _ _ _ _ (by simp)]
    exact World.cell?_setCell_same' _ _ _ (by rw [World.cell?_setCell_other _ _ _ _ (by simp), h4]; rfl)
  · rw [World.cell?_setCell_other _ _ _ _ (by simp), World.cell?_setCell_other _ _ _ _ (by simp)]
    exact World.cell?_setCell_same' _ _ _ (by rw [World.cell?_setCell_other _ _ _ _ (by simp), World.cell?_setCell_other _ _ _ _ (by simp), h5]; rfl)
  · rw [World.cell?_setCell_other _ _ _ _ (by simp)]
    exact World.cell?_setCell_same' _ _ _ (by rw [World.cell?_setCell_other _ _ _ _ (by simp), World.cell?_setCell_other _ _ _ _ (by simp), World.cell?_setCell_other _ _ _ _ (by simp), h6]; rfl)
  · exact World.cell?_setCell_same' _ _ _ (by rw [World.cell?_setCell_other _ _ _ _ (by simp), World.cell?_setCell_other _ _ _ _ (by simp), World.cell?_setCell_other _ _ _ _ (by simp), World.cell?_setCell_other _ _ _ _ (by simp), h7]; rfl)
theorem rt_keeps (n : Nat) (v0 v1 v2 v3 : Int) (b : Bool) (W : World) : KeepsOthers W (rtChain n v0 v1 v2 v3 b W) :=
  ((((KeepsOthers.setCell _ _ _).trans (KeepsOthers.setCell _ _ _)).trans (KeepsOthers.setCell _ _ _)).trans (KeepsOthers.setCell _ _ _)).trans (KeepsOthers.setCell _ _ _)
theorem rt_below {w W : World} (h : Below w.heap.size w W) (v0 v1 v2 v3 : Int) (b : Bool) : Below w.heap.size w (rtChain w.heap.size v0 v1 v2 v3 b W) :=
  ((((h.setCell (p := ⟨w.heap.size + 1 + 1, 0, none⟩) (by show w.heap.size ≤ w.heap.size + 1 + 1; omega) _).setCell (p := ⟨w.heap.size + 1 + 1, 1, none⟩) (by show w.heap.size ≤ w.heap.size + 1 + 1; omega) _).setCell (p := ⟨w.heap.size + 1 + 1, 2, none⟩) (by show w.heap.size ≤ w.heap.size + 1 + 1; omega) _).setCell (p := ⟨w.heap.size + 1 + 1, 3, none⟩) (by show w.heap.size ≤ w.heap.size + 1 + 1; omega) _).setCell (p := ⟨w.heap.size + 1 + 1 + 1, 0, none⟩) (by show w.heap.size ≤ w.heap.size + 1 + 1 + 1; omega) _
theorem cell_alloc_r {W : World} {a : Addr} {v : Value} (o : Obj) (h : W.cell? a = some v) : (W.alloc o).cell? a = some v := (((Below.refl W.heap.size W).alloc (Nat.le_refl _) o).cell (World.block_lt_of_cell? W a h)).trans h
theorem frozen_alloc_r {W : World} {a : Addr} {v : Value} {b : Bool} (o : Obj) (h : W.cell? a = some v) (hf : W.frozen? a = b) : (W.alloc o).frozen? a = b := (((Below.refl W.heap.size W).alloc (Nat.le_refl _) o).frozen (World.block_lt_of_cell? W a h)).trans hf
theorem RtCells.alloc {n : Nat} {a1 a2 : Int} {W : World} (o : Obj) (h : RtCells n a1 a2 W) : RtCells n a1 a2 (W.alloc o) := h.own (World.grownBy_alloc W o none) (fun r e => by cases e)
theorem rt_start (w : World) (a1 a2 : Int) (o : Obj) : RtCells w.heap.size a1 a2 (((((w.alloc (.cells #[.int .i64 a1] 3)).alloc (.cells #[.int .i64 a2] 3)).alloc (.cells #[.int .i64 0, .int .i64 0, .int .i64 0, .int .i64 0] 24)).alloc (.cells #[.bool false] 4)).alloc o) := by
  have c1 : (w.alloc (.cells #[.int .i64 a1] 3)).cell? ⟨w.heap.size, 0, none⟩ = some (.int .i64 a1) := (blk_cell (blk_new w _) 0).trans rfl;have s1 : (w.alloc (.cells #[.int .i64 a1] 3)).heap.size = w.heap.size + 1 := World.size_alloc _ _
  generalize w.alloc (.cells #[.int .i64 a1] 3) = W1 at *
  have c2 : (W1.alloc (.cells #[.int .i64 a2] 3)).cell? ⟨W1.heap.size, 0, none⟩ = some (.int .i64 a2) := (blk_cell (blk_new W1 _) 0).trans rfl
  have s2 : (W1.alloc (.cells #[.int .i64 a2] 3)).heap.size = w.heap.size + 2 := by rw [World.size_alloc, s1]
  rw [s1] at c2
  replace c1 := cell_alloc_r (.cells #[.int .i64 a2] 3) c1
  generalize W1.alloc (.cells #[.int .i64 a2] 3) = W2 at *
  obtain ⟨cs, ecs⟩ : ∃ cs, cs = (#[.int .i64 0, .int .i64 0, .int .i64 0, .int .i64 0] : Array Value) := ⟨_, rfl⟩;have k0 : (W2.alloc (.cells #[.int .i64 0, .int .i64 0, .int .i64 0, .int .i64 0] 24)).cell? ⟨W2.heap.size, 0, none⟩ = some (.int .i64 0) := (blk_cell (blk_new W2 _) 0).trans rfl;have k1 : (W2.alloc (.cells #[.int .i64 0, .int .i64 0, .int .i64 0, .int .i64 0] 24)).cell? ⟨W2.heap.size, 1, none⟩ = some (.int .i64 0) := (blk_cell (blk_new W2 _) 1).trans rfl;have k2 : (W2.alloc (.cells #[.int .i64 0, .int .i64 0, .int .i64 0, .int .i64 0] 24)).cell? ⟨W2.heap.size, 2, none⟩ = some (.int .i64 0) := (blk_cell (blk_new W2 _) 2).trans rfl;have k3 : (W2.alloc (.cells #[.int .i64 0, .int .i64 0, .int .i64 0, .int .i64 0] 24)).cell? ⟨W2.heap.size, 3, none⟩ = some (.int .i64 0) := (blk_cell (blk_new W2 _) 3).trans rfl;have f0 : (W2.alloc (.cells #[.int .i64 0, .int .i64 0, .int .i64 0, .int .i64 0] 24)).frozen? ⟨W2.heap.size, 0, none⟩ = false := blk_frozen (blk_new W2 _) 0;have f1 : (W2.alloc (.cells #[.int .i64 0, .int .i64 0, .int .i64 0, .int .i64 0] 24)).frozen? ⟨W2.heap.size, 1, none⟩ = false := blk_frozen (blk_new W2 _) 1;have f2 : (W2.alloc (.cells #[.int .i64 0, .int .i64 0, .int .i64 0, .int .i64 0] 24)).frozen? ⟨W2.heap.size, 2, none⟩ = false := blk_frozen (blk_new W2 _) 2;have f3 : (W2.alloc (.cells #[.int .i64 0, .int .i64 0, .int .i64 0, .int .i64 0] 24)).frozen? ⟨W2.heap.size, 3, none⟩ = false := blk_frozen (blk_new W2 _) 3
  have s3 : (W2.alloc (.cells #[.int .i64 0, .int .i64 0, .int .i64 0, .int .i64 0] 24)).heap.size = w.heap.size + 3 := by rw [World.size_alloc, s2]
  rw [s2] at k0 k1 k2 k3 f0 f1 f2 f3
  replace c1 := cell_alloc_r (.cells #[.int .i64 0, .int .i64 0, .int .i64 0, .int .i64 0] 24) c1;replace c2 := cell_alloc_r (.cells #[.int .i64 0, .int .i64 0, .int .i64 0, .int .i64 0] 24) c2
  generalize W2.alloc (.cells #[.int .i64 0, .int .i64 0, .int .i64 0, .int .i64 0] 24) = W3 at *
  have b0 : (W3.alloc (.cells #[.bool false] 4)).cell? ⟨W3.heap.size, 0, none⟩ = some (.bool false) := (blk_cell (blk_new W3 _) 0).trans rfl;have g0 : (W3.alloc (.cells #[.bool false] 4)).frozen? ⟨W3.heap.size, 0, none⟩ = false := blk_frozen (blk_new W3 _) 0
  have s4 : (W3.alloc (.cells #[.bool false] 4)).heap.size = w.heap.size + 4 := by rw [World.size_alloc, s3]
  rw [s3] at b0 g0
  have A := fun {a : Addr} {v : Value} (h : W3.cell? a = some v) => cell_alloc_r (.cells #[.bool false] 4) h;have F := fun {a : Addr} {v : Value} {b : Bool} (h : W3.cell? a = some v) (hf : W3.frozen? a = b) => frozen_alloc_r (.cells #[.bool false] 4) h hf
  have s5 : ((W3.alloc (.cells #[.bool false] 4)).alloc o).heap.size = w.heap.size + 5 := by rw [World.size_alloc, s4]
  exact ⟨cell_alloc_r o (A c1), cell_alloc_r o (A c2), cell_alloc_r o (A k0), cell_alloc_r o (A k1), cell_alloc_r o (A k2), cell_alloc_r o (A k3), cell_alloc_r o b0,
    frozen_alloc_r o (A k0) (F k0 f0), frozen_alloc_r o (A k1) (F k1 f1), frozen_alloc_r o (A k2) (F k2 f2), frozen_alloc_r o (A k3) (F k3 f3), frozen_alloc_r o b0 g0, by omega⟩
set_option maxRecDepth 100000 in
set_option maxHeartbeats 1000000 in
theorem routeTo_in (A0 : Option Addr) (c0 : Nat) (l0 : List (S24)) (a1 a2 : Int) (w : World) (hr0 : Kd.C k24 w A0 l0.length l0) (hc0 : l0.length ≤ c0) (hcap : l0.length ≤ 4611686018427387904)
    (L : List { x // rtP a1 x }) (hL : L.map Subtype.val = bk l0) :
    CallsIn Fence.wide 3 Try.prog 86 #[.slice A0 l0.length c0, .int .i64 a1, .int .i64 a2] w fun e w' =>
      ((e = .returned (.tuple #[.agg #[.int .i64 0, .int .i64 0, .int .i64 0, .int .i64 0], .bool false]) ∧ ∀ p ∈ bk l0, hit a1 a2 p = false) ∨
       (∃ ini last rest, bk l0 = ini ++ last :: rest ∧ (∀ p ∈ ini, hit a1 a2 p = false) ∧ hit a1 a2 last = true ∧ e = .returned (.tuple #[.agg #[.int .i64 last.2.f0, .int .i64 last.2.f1, .int .i64 last.2.f2, .int .i64 last.2.f3], .bool true]))) ∧ Below w.heap.size w w' := by
  have hro : Fence.wide.round = none := rfl
  have h1 : 1 ≤ 3 := by omega
  refine callsIn_of_wp_marks Try.func86 rfl trivial ?_ hro;simp only [Try.ntmps86, List.size_toArray, List.length_cons, List.length_nil, Nat.reduceAdd, Nat.reduceSub, Array.replicate_succ, Array.replicate_zero, List.push_toArray, List.append_toArray, List.nil_append, List.cons_append]
  gi_wp2_with (refine ⟨trivial, ?_⟩; gi_at_call 95; refine (back_in _ _ _ _ _).mono ?_; rintro e w' ⟨rfl, rfl⟩)
  have hS0 := rt_start w a1 a2 (.cells #[.slice A0 l0.length c0] 33)
  have hB0 : Below w.heap.size w (((((w.alloc (.cells #[.int .i64 a1] 3)).alloc (.cells #[.int .i64 a2] 3)).alloc (.cells #[.int .i64 0, .int .i64 0, .int .i64 0, .int .i64 0] 24)).alloc (.cells #[.bool false] 4)).alloc (.cells #[.slice A0 l0.length c0] 33)) :=
    (((((Below.refl _ w).alloc (Nat.le_refl _) _).alloc (by simp) _).alloc (by simp; omega) _).alloc (by simp; omega) _).alloc (by simp; omega) _
  have hsz : (((((w.alloc (.cells #[.int .i64 a1] 3)).alloc (.cells #[.int .i64 a2] 3)).alloc (.cells #[.int .i64 0, .int .i64 0, .int .i64 0, .int .i64 0] 24)).alloc (.cells #[.bool false] 4)).alloc (.cells #[.slice A0 l0.length c0] 33)).heap.size = w.heap.size + 1 + 1 + 1 + 1 + 1 := by simp
  have hbx : (((((w.alloc (.cells #[.int .i64 a1] 3)).alloc (.cells #[.int .i64 a2] 3)).alloc (.cells #[.int .i64 0, .int .i64 0, .int .i64 0, .int .i64 0] 24)).alloc (.cells #[.bool false] 4)).alloc (.cells #[.slice A0 l0.length c0] 33)).cell? ⟨w.heap.size + 1 + 1 + 1 + 1, 0, none⟩ = some (.slice A0 l0.length c0) := by
    have h := Boxed.new ((((w.alloc (.cells #[.int .i64 a1] 3)).alloc (.cells #[.int .i64 a2] 3)).alloc (.cells #[.int .i64 0, .int .i64 0, .int .i64 0, .int .i64 0] 24)).alloc (.cells #[.bool false] 4)) 33 (.slice A0 l0.length c0)
    rw [World.size_alloc, World.size_alloc, World.size_alloc, World.size_alloc] at h
    exact h.cell
  generalize ((((w.alloc (.cells #[.int .i64 a1] 3)).alloc (.cells #[.int .i64 a2] 3)).alloc (.cells #[.int .i64 0, .int .i64 0, .int .i64 0, .int .i64 0] 24)).alloc (.cells #[.bool false] 4)).alloc (.cells #[.slice A0 l0.length c0] 33) = w5 at *
  refine wpIn_rangeFunc_ownH hro h1 (gf := 99) (lb := #[.pointer (some ⟨w.heap.size + 1 + 1 + 1 + 1, 0, none⟩)]) rfl trivial (enters_of Try.func99 (by kernel_rfl) rfl)
    (back_stops w (3 - 1) (by omega) (w.heap.size + 1 + 1 + 1 + 1) A0 c0 l0 hc0 hcap hr0 L hL w5 hB0 (by omega) hbx) KB1.trans (KB1.put (by omega) (by omega)) (Below.refl _ _) (fun _ => rfl)
    (fun pre W => ((∀ p ∈ pre, hit a1 a2 p.1 = false) ∧ RtCells w.heap.size a1 a2 W) ∧ Below w.heap.size w W)
    (fun c pre W => (c = .ret ∧ ∃ ini last, pre = ini ++ [last] ∧ (∀ p ∈ ini, hit a1 a2 p.1 = false) ∧ hit a1 a2 last.1 = true ∧ RtHit w.heap.size last.1 W) ∧ Below w.heap.size w W)
    (OwnFrom.and (Own.from (fun s A B row hs hg hr => ⟨hs.1, hs.2.own hg hr⟩) _) (ownFrom_below (Nat.le_refl _) (by omega)))
    (fun c => OwnFrom.and (Own.from (fun s A B row hs hg hr => by obtain ⟨hc, ini, last, e1, e2, e3, e4⟩ := hs; exact ⟨hc, ini, last, e1, e2, e3, e4.own hg hr⟩) _) (ownFrom_below (Nat.le_refl _) (by omega)))
    ⟨⟨by simp, hS0⟩, hB0⟩
    (fun x a' W => ∃ g, a' = { tmps := #[.slice A0 l0.length c0, .int .i64 a1, .int .i64 a2, undef, .pointer (some ⟨w.heap.size, 0, none⟩), .pointer (some ⟨w.heap.size + 1, 0, none⟩), .pointer (some ⟨w.heap.size + 1 + 1, 0, none⟩), .pointer (some ⟨w.heap.size + 1 + 1 + 1, 0, none⟩), undef, .pointer (some ⟨g, 0, none⟩), .slice A0 l0.length c0,
        .func (.func 99) #[] #[.pointer (some ⟨w.heap.size + 1 + 1 + 1 + 1, 0, none⟩)], .int .i64 x.1.1, .agg #[.int .i64 x.1.2.f0, .int .i64 x.1.2.f1, .int .i64 x.1.2.f2, .int .i64 x.1.2.f3], undef, undef, undef, undef, undef, undef, undef, undef, undef, undef, undef], defers := [] } ∧
      w5.heap.size ≤ g ∧ W.cell? ⟨g, 0, none⟩ = some (.int .i64 x.1.2.f0) ∧ W.cell? ⟨g, 1, none⟩ = some (.int .i64 x.1.2.f1) ∧ W.cell? ⟨g, 2, none⟩ = some (.int .i64 x.1.2.f2) ∧ W.cell? ⟨g, 3, none⟩ = some (.int .i64 x.1.2.f3))
    (fun x a' => Own.from (fun s A B row hs hg hr => by obtain ⟨g, e, hg0, h0, h1, h2, h3⟩ := hs; exact ⟨g, e, hg0, cell_kept h0 hg hr, cell_kept h1 hg hr, cell_kept h2 hg hr, cell_kept h3 hg hr⟩) _) ?assign ?body ?done ?stop
  case assign =>
    intro l pre x W K hI hK
    gi_wp2
    have hs : w.heap.size + 4 < W.heap.size := by obtain ⟨_, _, _, _, _, _, _, _, _, _, _, _, hs⟩ := hI.1.2; exact hs
    exact hK _ _ ((KeepsOthers.alloc W _).from _) ⟨(Below.refl _ W).alloc (by omega) _, ((Below.refl W.heap.size W).alloc (Nat.le_refl _) _).cell (p := ⟨w.heap.size + 1 + 1 + 1 + 1, 0, none⟩) (show w.heap.size + 1 + 1 + 1 + 1 < W.heap.size by omega)⟩ ⟨⟨hI.1.1, hI.1.2.alloc _⟩, hI.2.alloc (by omega) _⟩
      ⟨W.heap.size, rfl, by omega, (blk_cell (blk_new W _) 0).trans rfl, (blk_cell (blk_new W _) 1).trans rfl, (blk_cell (blk_new W _) 2).trans rfl, (blk_cell (blk_new W _) 3).trans rfl⟩
  case body =>
    rintro l pre ⟨⟨j, ⟨f0, f1, f2, f3⟩⟩, b, hb⟩ a' W hl hr ⟨⟨hpre, hc⟩, hB⟩ ⟨g, rfl, hg, x0, x1, x2, x3⟩ hlt
    dsimp only at x0 x1 x2 x3 hb ⊢
    have hcc := hc;obtain ⟨c1, c2, c3, c4, c5, c6, c7, z3, z4, z5, z6, z7, hs⟩ := hcc
    by_cases hf : f1 < a2
    · gi_wp2_with (refine ⟨trivial, ?_⟩; gi_at_call 67; refine (CallsIn.inRound l (callsIn_wide.2 (impl_Route_fits.calls f0 f1 f2 f3 a1 b _ hb))).mono ?_; rintro e w' ⟨rfl, hBf⟩; have y0 := (hBf.cell (World.block_lt_of_cell? W _ x0)).trans x0; have y1 := (hBf.cell (World.block_lt_of_cell? W _ x1)).trans x1; have y2 := (hBf.cell (World.block_lt_of_cell? W _ x2)).trans x2; have y3 := (hBf.cell (World.block_lt_of_cell? W _ x3)).trans x3; have hcw := hc.own (grown_of_below hBf none) (fun r e => by cases e); have HCW := Lib.hid hcw; have HKF := Lib.hid (KeepsFrom.of_grownBy (B := w5.heap.size) (grown_of_below hBf none) (fun j e => by cases e)); have HKB := Lib.hid (show KB1 w.heap.size (w.heap.size + 1 + 1 + 1 + 1) W w' from ⟨hBf.mono (by omega), hBf.cell (p := ⟨w.heap.size + 1 + 1 + 1 + 1, 0, none⟩) (show w.heap.size + 1 + 1 + 1 + 1 < W.heap.size by omega)⟩); obtain ⟨d1, d2, d3, d4, d5, d6, d7, u3, u4, u5, u6, u7, us⟩ := hcw)
      · refine ⟨HKF.out.trans ((rt_keeps _ _ _ _ _ _ _).from _), ⟨rfl, pre, _, rfl, hpre, ?_, rt_set HCW.out _ _ _ _ _⟩, rt_below (hB.trans HKB.out.1) _ _ _ _ _⟩
        exact (hit_of hf hb).trans (by first | assumption | simp [*])
      · refine ⟨HKF.out, HKB.out, ⟨fun p hp => (List.mem_append.1 hp).elim (hpre p) (fun e => ?_), HCW.out⟩, hB.trans HKB.out.1⟩
        simp only [List.mem_singleton] at e
        subst e
        exact (hit_of hf hb).trans (by first | assumption | simp [*])
    · gi_wp2_with (refine ⟨trivial, ?_⟩)
      refine ⟨KeepsFrom.refl _ _, KB1.refl _ _ _, ⟨?_, hc⟩, hB⟩
      rintro q1 q2 q3 hp
      refine (List.mem_append.1 hp).elim (hpre ⟨(q1, q2), q3⟩) (fun e => ?_);simp only [List.mem_singleton, Subtype.mk.injEq, Prod.mk.injEq] at e;obtain ⟨rfl, rfl⟩ := e;have hf' : decide (f1 < a2) = false := decide_eq_false (by omega)
      unfold hit; dsimp only; rw [hf']; rfl
  case done =>
    rintro D ys W hD rfl ⟨⟨hne, hc⟩, hB⟩ hK
    have hcc := hc;obtain ⟨c1, c2, c3, c4, c5, c6, c7, z3, z4, z5, z6, z7, hs⟩ := hcc
    gi_wp2
    have hK' := (rt_keeps w.heap.size 0 0 0 0 false W).same D _ hK rfl;refine ⟨by simp, .inl ⟨_, _, rfl, run_takeDeferred hK', ?_⟩⟩;obtain ⟨r0, r1, r2, r3, r4⟩ := (rt_set hc 0 0 0 0 false).own (grownBy_putObj' _ D (.deferred none)) (fun r e => by cases e; exact ⟨_, hK', rfl⟩);refine ⟨_, ?_, .inl ⟨rfl, fun p hp => ?_⟩, (rt_below hB 0 0 0 0 false).trans (belowK_b (w := w) (Nat.le_refl _) _ D _ _ (by omega) hK' rfl rfl)⟩
    · simp [results, Try.f86, go_sem, r0, r1, r2, r3, r4]
    · rw [← hL] at hp
      obtain ⟨q, hq, rfl⟩ := List.mem_map.1 hp;exact hne q hq
  case stop =>
    rintro D c pre W hD ⟨k, hk⟩ ⟨⟨rfl, ini, last, e1, e2, e3, hcr⟩, hB⟩ hK
    gi_wp2
    refine ⟨by simp, .inl ⟨_, _, rfl, run_takeDeferred hK, ?_⟩⟩;obtain ⟨r0, r1, r2, r3, r4⟩ := hcr.own (grownBy_putObj' _ D (.deferred none)) (fun r e => by cases e; exact ⟨_, hK, rfl⟩);refine ⟨_, ?_, .inr ⟨ini.map Subtype.val, last.1, (L.drop k).map Subtype.val, ?_, fun p hp => ?_, e3, rfl⟩, hB.trans (belowK_b (w := w) (Nat.le_refl _) W D _ _ (by omega) hK rfl rfl)⟩
    · simp [results, Try.f86, go_sem, r0, r1, r2, r3, r4]
    · have e : L = ini ++ last :: L.drop k := by
        have h := List.take_append_drop k L
        rw [← hk, e1] at h
        rw [List.append_assoc] at h
        exact h.symm
      exact hL.symm.trans ((congrArg (List.map Subtype.val) e).trans (by rw [List.map_append, List.map_cons]))
    · obtain ⟨q, hq, rfl⟩ := List.mem_map.1 hp
      exact e2 q hq
theorem bk_lift {P : Int × S24 → Prop} (xs : List (Int × S24)) (h : ∀ x ∈ xs, P x) : ∃ L : List { x // P x }, L.map Subtype.val = xs := by
  induction xs with
  | nil => exact ⟨[], rfl⟩
  | cons x xs ih =>
    obtain ⟨L, hL⟩ := ih (fun y hy => h y (List.mem_cons_of_mem _ hy));exact ⟨⟨x, h x List.mem_cons_self⟩ :: L, by rw [List.map_cons, hL]⟩
def impl_routeTo.f (l0 : List (S24)) (a1 : Int) (a2 : Int) : Option (Int × Int × Int × Int × Bool) :=
  if l0.length ≤ 4611686018427387904 ∧ ((bk l0).all fun x => (impl_Route_fits.f x.2.f0 x.2.f1 x.2.f2 x.2.f3 a1).isSome) = true then
    (match (bk l0).find? (hit a1 a2) with
      | some x => some (x.2.f0, x.2.f1, x.2.f2, x.2.f3, true)
      | none => some (0, 0, 0, 0, false))
  else none
theorem impl_routeTo.calls (A0 : Option Addr) (c0 : Nat) (l0 : List (S24)) (a1 : Int) (a2 : Int) (r1 : Int) (r2 : Int) (r3 : Int) (r4 : Int) (r5 : Bool) (w : World) (hr0 : Kd.C k24 w A0 l0.length l0) (hc0 : l0.length ≤ c0) (h : impl_routeTo.f l0 a1 a2 = some (r1, r2, r3, r4, r5)) :
    Calls Try.prog 86 #[.slice A0 l0.length c0, .int .i64 a1, .int .i64 a2] w fun e w' => e = .returned (.tuple #[.agg #[.int .i64 r1, .int .i64 r2, .int .i64 r3, .int .i64 r4], .bool r5]) ∧ Below w.heap.size w w' := by
  unfold impl_routeTo.f at h
  by_cases hb : l0.length ≤ 4611686018427387904 ∧ ((bk l0).all fun x => (impl_Route_fits.f x.2.f0 x.2.f1 x.2.f2 x.2.f3 a1).isSome) = true
  · rw [if_pos hb] at h
    obtain ⟨L, hL⟩ := bk_lift (P := rtP a1) (bk l0) (fun x hx => Option.isSome_iff_exists.1 (List.all_eq_true.1 hb.2 x hx));refine (callsIn_wide.1 (routeTo_in A0 c0 l0 a1 a2 w hr0 hc0 hb.1 L hL)).mono ?_
    rintro e w' ⟨⟨rfl, hn⟩ | ⟨ini, last, rest, e1, e2, e3, rfl⟩, hB⟩
    · rw [List.find?_eq_none.2 (fun x hx => by rw [hn x hx]; decide)] at h
      simp only [Option.some.injEq, Prod.mk.injEq] at h;obtain ⟨rfl, rfl, rfl, rfl, rfl⟩ := h;exact ⟨rfl, hB⟩
    · rw [e1, List.find?_append, List.find?_eq_none.2 (fun x hx => by rw [e2 x hx]; decide), Option.none_or, List.find?_cons_of_pos e3] at h
      simp only [Option.some.injEq, Prod.mk.injEq] at h;obtain ⟨rfl, rfl, rfl, rfl, rfl⟩ := h;exact ⟨rfl, hB⟩
  · rw [if_neg hb] at h; cases h
end

/-! ### impl_RouteTo: function 51 -/
def impl_RouteTo.f (k : Nat) (l0 : List (S24)) (a1 : Int) : Option (Int × Int × Int × Int × Bool) := (impl_RoutesOk.f k l0).bind fun t295 => (if t295 = true then ((impl_word.f a1).bind fun t296 => (if t296 = true then ((impl_routeTo.f l0 a1 17).bind fun bt297 => (some (bt297.1, bt297.2.1, bt297.2.2.1, bt297.2.2.2.1, bt297.2.2.2.2))) else (some (0, 0, 0, 0, false)))) else (some (0, 0, 0, 0, false)))
theorem impl_RouteTo.mono : ∀ a0 a1 k, LeO (impl_RouteTo.f k a0 a1) (impl_RouteTo.f (k + 1) a0 a1) := by
  intro a0 a1 k
  unfold impl_RouteTo.f
  repeat' first
      | (with_reducible exact impl_RoutesOk.mono _ _)
      | (with_reducible exact LeO.refl _)
      | (with_reducible exact LeO.none _)
      | (with_reducible refine LeO.ite ?_ ?_)
      | (with_reducible refine LeO.bind ?_ (fun _ => ?_))
      | exact impl_RoutesOk.mono _ _
      | exact LeO.none _
      | refine LeO.ite ?_ ?_
      | refine LeO.bind ?_ (fun _ => ?_)
set_option maxHeartbeats 8000000 in
set_option maxRecDepth 100000 in
theorem impl_RouteTo.calls (k : Nat) (A0 : Option Addr) (c0 : Nat) (l0 : List (S24)) (a1 : Int) (r1 : Int) (r2 : Int) (r3 : Int) (r4 : Int) (r5 : Bool) (w : World) (hr0 : Kd.C k24 w A0 l0.length l0) (hc0 : l0.length ≤ c0) (h : impl_RouteTo.f k l0 a1 = some (r1, r2, r3, r4, r5)) :
    Calls Try.prog 51 #[.slice A0 l0.length c0, .int .i64 a1] w fun e w' => e = .returned (.tuple #[.agg #[.int .i64 r1, .int .i64 r2, .int .i64 r3, .int .i64 r4], .bool r5]) ∧ Below w.heap.size w w' := by
  have hu24 := Try.underlying24;have HR0 := Aside0.mk hr0;have HC0 := Aside0.mk hc0;clear hr0 hc0;have HB := Aside0.mk (Below.refl w.heap.size w);have H : ((impl_RoutesOk.f k l0).bind fun t295 => (if t295 = true then ((impl_word.f a1).bind fun t296 => (if t296 = true then ((impl_routeTo.f l0 a1 17).bind fun bt297 => (some (bt297.1, bt297.2.1, bt297.2.2.1, bt297.2.2.2.1, bt297.2.2.2.2))) else (some (0, 0, 0, 0, false)))) else (some (0, 0, 0, 0, false)))) = some (r1, r2, r3, r4, r5) := h;clear h;replace H := ze H;obtain ⟨t295, A30, H⟩ := H;replace H : (if t295 = true then ((impl_word.f a1).bind fun t296 => (if t296 = true then ((impl_routeTo.f l0 a1 17).bind fun bt297 => (some (bt297.1, bt297.2.1, bt297.2.2.1, bt297.2.2.2.1, bt297.2.2.2.2))) else (some (0, 0, 0, 0, false)))) else (some (0, 0, 0, 0, false))) = some (r1, r2, r3, r4, r5) := H;have A3 := Aside0.mk A30;clear A30
  by_cases c4 : t295 = true
  · subst c4
    have H1 : ((impl_word.f a1).bind fun t296 => (if t296 = true then ((impl_routeTo.f l0 a1 17).bind fun bt297 => (some (bt297.1, bt297.2.1, bt297.2.2.1, bt297.2.2.2.1, bt297.2.2.2.2))) else (some (0, 0, 0, 0, false)))) = some (r1, r2, r3, r4, r5) := by rw [if_pos rfl] at H; exact H
    clear H;have H := H1;clear H1;replace H := ze H;obtain ⟨t296, A50, H⟩ := H;replace H : (if t296 = true then ((impl_routeTo.f l0 a1 17).bind fun bt297 => (some (bt297.1, bt297.2.1, bt297.2.2.1, bt297.2.2.2.1, bt297.2.2.2.2))) else (some (0, 0, 0, 0, false))) = some (r1, r2, r3, r4, r5) := H;have A5 := Aside0.mk A50;clear A50
    by_cases c6 : t296 = true
    · subst c6
      have H1 : ((impl_routeTo.f l0 a1 17).bind fun bt297 => (some (bt297.1, bt297.2.1, bt297.2.2.1, bt297.2.2.2.1, bt297.2.2.2.2))) = some (r1, r2, r3, r4, r5) := by rw [if_pos rfl] at H; exact H
      clear H;have H := H1;clear H1;replace H := ze H;obtain ⟨⟨t297, t298, t299, t300, t301⟩, A70, H⟩ := H;replace H : (some (t297, t298, t299, t300, t301)) = some (r1, r2, r3, r4, r5) := H;have A7 := Aside0.mk A70;clear A70;simp only [Option.some.injEq, Prod.mk.injEq] at H;obtain ⟨rfl, rfl, rfl, rfl, rfl⟩ := H
      go_enter Try.func51, Try.ntmps51
      go_wp2_with (first | ((with_reducible refine gate_dst (N := 4) rfl ?_); refine box_event ?hg (N := 4) ?hd (cs := #[.int .i64 0, .int .i64 0, .int .i64 0, .int .i64 0]) (t := 24) ?hr ?_; (case hd => rfl); (case hg => rfl); (case hr => first | (go_simp; done) | (go_simp; rfl)); intro gb294 hg w8 hbox hb; have n0_ := Aside0.mk (below_step (by repeat (first | (with_reducible first | exact HB.out | apply below_alloc | apply pw_below_drewN | apply below_drew1) | exact HB.out)) hb); have n1_ := Aside0.mk (hbox); have n2_ := Aside0.mk ((by rw [hg]; exact (below_size (by repeat (first | (with_reducible first | exact HB.out | apply below_alloc | apply pw_below_drewN | apply below_drew1) | exact HB.out))) : w.heap.size ≤ gb294)); have n3_ := n2_; clear HB; have HB := n0_; have BK294 := n1_; have GW294 := n2_; have GE294 := n3_; clear n0_ n1_ n2_ n3_; clear hb hbox hg) | ((with_reducible refine gate_callee (f := 52) rfl ?_); refine goesL_ (some 7) rfl rfl Try.func52 (by kernel_rfl) rfl #[.slice A0 l0.length c0] rfl (by (try simp only [zm]); first | done | rfl | (simp only [zl]; rfl)) ?_; (with_reducible refine (impl_RoutesOk.calls k _ _ l0 true _ ?side1 ?side2 A3.out).mono ?_); (case side1 => repeat (first | exact (Kd.C_below HR0.out HB.out) | (with_reducible first | refine Kd.C_alloc ?_ _ | refine Kd.C_drewN ?_ _ | refine Kd.C_drew ?_))); (case side2 => exact HC0.out); rintro e w9 ⟨rfl, hb⟩; refine ⟨_, rfl, ?_⟩; have n0_ := Aside0.mk (blk_below (g := gb294) (o := .cells #[.int .i64 0, .int .i64 0, .int .i64 0, .int .i64 0] 24 (0, 0)) (by (with_reducible repeat (first | apply blk_drewN | apply blk_drew | apply blk_alloc)); exact BK294.out) hb); have n1_ := Aside0.mk (below_step (by repeat (first | (with_reducible first | exact HB.out | apply below_alloc | apply pw_below_drewN | apply below_drew1 | refine below_set ?_ GE294.out) | exact HB.out)) hb); clear BK294; clear HB; have BK294 := n0_; have HB := n1_; clear n0_ n1_; (try clear hb); (try clear hb2); (try clear hk); (try clear hi)) | (go_at_call 64; (with_reducible refine (impl_word.calls a1 true _ A5.out).mono ?_); rintro e w' ⟨rfl, ⟨nd, rfl⟩⟩; (try (rw [drewN_self w9]; generalize hq_ : World.drewN w9 _ = w9; have n0_ : Aside0 (w9.heap[gb294]? = some (.cells #[.int .i64 0, .int .i64 0, .int .i64 0, .int .i64 0] 24 (0, 0))) := ⟨by rw [← hq_]; exact (by (with_reducible repeat (first | apply blk_drewN | apply blk_drew | apply blk_alloc)); exact BK294.out)⟩; have n1_ : Aside0 (Below w.heap.size w w9) := ⟨by rw [← hq_]; exact (by repeat (first | (with_reducible first | exact HB.out | apply below_alloc | apply pw_below_drewN | apply below_drew1 | refine below_set ?_ GE294.out) | exact HB.out))⟩; clear BK294 HB hq_; have BK294 := n0_; have HB := n1_; clear n0_ n1_))) | ((with_reducible refine gate_callee (f := 86) rfl ?_); refine goesL_ (some 17) rfl rfl Try.func86 (by kernel_rfl) rfl #[.slice A0 l0.length c0, .int .i64 a1, .int .i64 17] rfl (by (try simp only [zm]); first | done | rfl | (simp only [zl]; rfl)) ?_; (with_reducible refine (impl_routeTo.calls _ _ l0 a1 17 t297 t298 t299 t300 t301 _ ?side1 ?side2 A7.out).mono ?_); (case side1 => repeat (first | exact (Kd.C_below HR0.out HB.out) | (with_reducible first | refine Kd.C_alloc ?_ _ | refine Kd.C_drewN ?_ _ | refine Kd.C_drew ?_))); (case side2 => exact HC0.out); rintro e w10 ⟨rfl, hb⟩; refine ⟨_, rfl, ?_⟩; have n0_ := Aside0.mk (blk_below (g := gb294) (o := .cells #[.int .i64 0, .int .i64 0, .int .i64 0, .int .i64 0] 24 (0, 0)) (by (with_reducible repeat (first | apply blk_drewN | apply blk_drew | apply blk_alloc)); exact BK294.out) hb); have n1_ := Aside0.mk (below_step (by repeat (first | (with_reducible first | exact HB.out | apply below_alloc | apply pw_below_drewN | apply below_drew1 | refine below_set ?_ GE294.out) | exact HB.out)) hb); clear BK294; clear HB; have BK294 := n0_; have HB := n1_; clear n0_ n1_; (try clear hb); (try clear hb2); (try clear hk); (try clear hi); obtain ⟨hcz11_0, hcz11_1, hcz11_2, hcz11_3, hfz11_0, hfz11_1, hfz11_2, hfz11_3⟩ := zc4 BK294.out))
      refine bodyPost_ret (results_ct rfl _ _ gb294 24 #[.int .i64 t297, .int .i64 t298, .int .i64 t299, .int .i64 t300] (0, 0) _ rfl (by (with_reducible repeat (first | apply blk_drewN | apply blk_drew | apply blk_alloc)); refine blk_put (cs := #[.int .i64 t297, .int .i64 t298, .int .i64 t299, .int .i64 0]) ?_ 3 _ rfl; refine blk_put (cs := #[.int .i64 t297, .int .i64 t298, .int .i64 0, .int .i64 0]) ?_ 2 _ rfl; refine blk_put (cs := #[.int .i64 t297, .int .i64 0, .int .i64 0, .int .i64 0]) ?_ 1 _ rfl; refine blk_put (cs := #[.int .i64 0, .int .i64 0, .int .i64 0, .int .i64 0]) ?_ 0 _ rfl; (with_reducible repeat (first | apply blk_drewN | apply blk_drew | apply blk_alloc)); exact BK294.out) Try.underlying24 rfl (by kernel_rfl)) rfl ?_;exact ⟨by first | rfl | (simp <;> rfl) | (simp [*] <;> rfl), by repeat (first | (with_reducible first | exact HB.out | apply below_alloc | apply pw_below_drewN | apply below_drew1 | refine below_set ?_ GE294.out) | exact HB.out)⟩
    · replace c6 := Bool.eq_false_iff.mpr c6
      subst c6
      have H1 : (some (0, 0, 0, 0, false)) = some (r1, r2, r3, r4, r5) := by rw [if_neg (show ¬ (false = true) by decide)] at H; exact H
      clear H;have H := H1;clear H1;simp only [Option.some.injEq, Prod.mk.injEq] at H;obtain ⟨rfl, rfl, rfl, rfl, rfl⟩ := H
      go_enter Try.func51, Try.ntmps51
      go_wp2_with (first | ((with_reducible refine gate_dst (N := 4) rfl ?_); refine box_event ?hg (N := 4) ?hd (cs := #[.int .i64 0, .int .i64 0, .int .i64 0, .int .i64 0]) (t := 24) ?hr ?_; (case hd => rfl); (case hg => rfl); (case hr => first | (go_simp; done) | (go_simp; rfl)); intro gb294 hg w12 hbox hb; have n0_ := Aside0.mk (below_step (by repeat (first | (with_reducible first | exact HB.out | apply below_alloc | apply pw_below_drewN | apply below_drew1) | exact HB.out)) hb); have n1_ := Aside0.mk (hbox); have n2_ := Aside0.mk ((by rw [hg]; exact (below_size (by repeat (first | (with_reducible first | exact HB.out | apply below_alloc | apply pw_below_drewN | apply below_drew1) | exact HB.out))) : w.heap.size ≤ gb294)); have n3_ := n2_; clear HB; have HB := n0_; have BK294 := n1_; have GW294 := n2_; have GE294 := n3_; clear n0_ n1_ n2_ n3_; clear hb hbox hg) | ((with_reducible refine gate_callee (f := 52) rfl ?_); refine goesL_ (some 7) rfl rfl Try.func52 (by kernel_rfl) rfl #[.slice A0 l0.length c0] rfl (by (try simp only [zm]); first | done | rfl | (simp only [zl]; rfl)) ?_; (with_reducible refine (impl_RoutesOk.calls k _ _ l0 true _ ?side1 ?side2 A3.out).mono ?_); (case side1 => repeat (first | exact (Kd.C_below HR0.out HB.out) | (with_reducible first | refine Kd.C_alloc ?_ _ | refine Kd.C_drewN ?_ _ | refine Kd.C_drew ?_))); (case side2 => exact HC0.out); rintro e w13 ⟨rfl, hb⟩; refine ⟨_, rfl, ?_⟩; have n0_ := Aside0.mk (blk_below (g := gb294) (o := .cells #[.int .i64 0, .int .i64 0, .int .i64 0, .int .i64 0] 24 (0, 0)) (by (with_reducible repeat (first | apply blk_drewN | apply blk_drew | apply blk_alloc)); exact BK294.out) hb); have n1_ := Aside0.mk (below_step (by repeat (first | (with_reducible first | exact HB.out | apply below_alloc | apply pw_below_drewN | apply below_drew1 | refine below_set ?_ GE294.out) | exact HB.out)) hb); clear BK294; clear HB; have BK294 := n0_; have HB := n1_; clear n0_ n1_; (try clear hb); (try clear hb2); (try clear hk); (try clear hi)) | (go_at_call 64; (with_reducible refine (impl_word.calls a1 false _ A5.out).mono ?_); rintro e w' ⟨rfl, ⟨nd, rfl⟩⟩; (try (rw [drewN_self w13]; generalize hq_ : World.drewN w13 _ = w13; have n0_ : Aside0 (w13.heap[gb294]? = some (.cells #[.int .i64 0, .int .i64 0, .int .i64 0, .int .i64 0] 24 (0, 0))) := ⟨by rw [← hq_]; exact (by (with_reducible repeat (first | apply blk_drewN | apply blk_drew | apply blk_alloc)); exact BK294.out)⟩; have n1_ : Aside0 (Below w.heap.size w w13) := ⟨by rw [← hq_]; exact (by repeat (first | (with_reducible first | exact HB.out | apply below_alloc | apply pw_below_drewN | apply below_drew1 | refine below_set ?_ GE294.out) | exact HB.out))⟩; clear BK294 HB hq_; have BK294 := n0_; have HB := n1_; clear n0_ n1_)); obtain ⟨hcz14_0, hcz14_1, hcz14_2, hcz14_3, hfz14_0, hfz14_1, hfz14_2, hfz14_3⟩ := zc4 BK294.out))
      refine bodyPost_ret (results_ct rfl _ _ gb294 24 #[.int .i64 0, .int .i64 0, .int .i64 0, .int .i64 0] (0, 0) _ rfl (by (with_reducible repeat (first | apply blk_drewN | apply blk_drew | apply blk_alloc)); refine blk_put (cs := #[.int .i64 0, .int .i64 0, .int .i64 0, .int .i64 0]) ?_ 3 _ rfl; refine blk_put (cs := #[.int .i64 0, .int .i64 0, .int .i64 0, .int .i64 0]) ?_ 2 _ rfl; refine blk_put (cs := #[.int .i64 0, .int .i64 0, .int .i64 0, .int .i64 0]) ?_ 1 _ rfl; refine blk_put (cs := #[.int .i64 0, .int .i64 0, .int .i64 0, .int .i64 0]) ?_ 0 _ rfl; (with_reducible repeat (first | apply blk_drewN | apply blk_drew | apply blk_alloc)); exact BK294.out) Try.underlying24 rfl (by kernel_rfl)) rfl ?_;exact ⟨by first | rfl | (simp <;> rfl) | (simp [*] <;> rfl), by repeat (first | (with_reducible first | exact HB.out | apply below_alloc | apply pw_below_drewN | apply below_drew1 | refine below_set ?_ GE294.out) | exact HB.out)⟩
  · replace c4 := Bool.eq_false_iff.mpr c4
    subst c4
    have H1 : (some (0, 0, 0, 0, false)) = some (r1, r2, r3, r4, r5) := by rw [if_neg (show ¬ (false = true) by decide)] at H; exact H
    clear H;have H := H1;clear H1;simp only [Option.some.injEq, Prod.mk.injEq] at H;obtain ⟨rfl, rfl, rfl, rfl, rfl⟩ := H
    go_enter Try.func51, Try.ntmps51
    go_wp2_with (first | ((with_reducible refine gate_dst (N := 4) rfl ?_); refine box_event ?hg (N := 4) ?hd (cs := #[.int .i64 0, .int .i64 0, .int .i64 0, .int .i64 0]) (t := 24) ?hr ?_; (case hd => rfl); (case hg => rfl); (case hr => first | (go_simp; done) | (go_simp; rfl)); intro gb294 hg w15 hbox hb; have n0_ := Aside0.mk (below_step (by repeat (first | (with_reducible first | exact HB.out | apply below_alloc | apply pw_below_drewN | apply below_drew1) | exact HB.out)) hb); have n1_ := Aside0.mk (hbox); have n2_ := Aside0.mk ((by rw [hg]; exact (below_size (by repeat (first | (with_reducible first | exact HB.out | apply below_alloc | apply pw_below_drewN | apply below_drew1) | exact HB.out))) : w.heap.size ≤ gb294)); have n3_ := n2_; clear HB; have HB := n0_; have BK294 := n1_; have GW294 := n2_; have GE294 := n3_; clear n0_ n1_ n2_ n3_; clear hb hbox hg) | ((with_reducible refine gate_callee (f := 52) rfl ?_); refine goesL_ (some 7) rfl rfl Try.func52 (by kernel_rfl) rfl #[.slice A0 l0.length c0] rfl (by (try simp only [zm]); first | done | rfl | (simp only [zl]; rfl)) ?_; (with_reducible refine (impl_RoutesOk.calls k _ _ l0 false _ ?side1 ?side2 A3.out).mono ?_); (case side1 => repeat (first | exact (Kd.C_below HR0.out HB.out) | (with_reducible first | refine Kd.C_alloc ?_ _ | refine Kd.C_drewN ?_ _ | refine Kd.C_drew ?_))); (case side2 => exact HC0.out); rintro e w16 ⟨rfl, hb⟩; refine ⟨_, rfl, ?_⟩; have n0_ := Aside0.mk (blk_below (g := gb294) (o := .cells #[.int .i64 0, .int .i64 0, .int .i64 0, .int .i64 0] 24 (0, 0)) (by (with_reducible repeat (first | apply blk_drewN | apply blk_drew | apply blk_alloc)); exact BK294.out) hb); have n1_ := Aside0.mk (below_step (by repeat (first | (with_reducible first | exact HB.out | apply below_alloc | apply pw_below_drewN | apply below_drew1 | refine below_set ?_ GE294.out) | exact HB.out)) hb); clear BK294; clear HB; have BK294 := n0_; have HB := n1_; clear n0_ n1_; (try clear hb); (try clear hb2); (try clear hk); (try clear hi); obtain ⟨hcz17_0, hcz17_1, hcz17_2, hcz17_3, hfz17_0, hfz17_1, hfz17_2, hfz17_3⟩ := zc4 BK294.out))
    refine bodyPost_ret (results_ct rfl _ _ gb294 24 #[.int .i64 0, .int .i64 0, .int .i64 0, .int .i64 0] (0, 0) _ rfl (by (with_reducible repeat (first | apply blk_drewN | apply blk_drew | apply blk_alloc)); refine blk_put (cs := #[.int .i64 0, .int .i64 0, .int .i64 0, .int .i64 0]) ?_ 3 _ rfl; refine blk_put (cs := #[.int .i64 0, .int .i64 0, .int .i64 0, .int .i64 0]) ?_ 2 _ rfl; refine blk_put (cs := #[.int .i64 0, .int .i64 0, .int .i64 0, .int .i64 0]) ?_ 1 _ rfl; refine blk_put (cs := #[.int .i64 0, .int .i64 0, .int .i64 0, .int .i64 0]) ?_ 0 _ rfl; (with_reducible repeat (first | apply blk_drewN | apply blk_drew | apply blk_alloc)); exact BK294.out) Try.underlying24 rfl (by kernel_rfl)) rfl ?_;exact ⟨by first | rfl | (simp <;> rfl) | (simp [*] <;> rfl), by repeat (first | (with_reducible first | exact HB.out | apply below_alloc | apply pw_below_drewN | apply below_drew1 | refine below_set ?_ GE294.out) | exact HB.out)⟩

end Go.Proofs.Ytpoedefohfonjaa.PFnRoutePut

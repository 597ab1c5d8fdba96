-- PRINTED BY print.sh 35421559b90ae4d0a3588c463048766b98c2df88dd9212a6774a882060cdf62d: not written by this session
import Derived.Test.YtpoedefohfonjaaPFnFrameForx0
import Derived.Test.YtpoedefohfonjaaPFnFrameForx1
import Derived.Test.YtpoedefohfonjaaPFnFrameForx2
namespace Go.Proofs.Ytpoedefohfonjaa.PFnFrameFor
open Go.RowKit Go.Proofs.YtpoedefohfonjaaW.PrintWords Go.Proofs.YtpoedefohfonjaaW.PrintLast Go.Proofs.YtpoedefohfonjaaW.PrintMore
attribute [local go_sem] max2_int min2_int max_two min_two max_three min_three max_four min_four   -- for this text's walks alone
set_option linter.unusedVariables false
set_option linter.unusedSimpArgs false

/-! ### laws_FnFrameFor: function 14 -/
def laws_FnFrameFor.l0 : Nat → Int → Int → Int → Int → Int → List Int → Option (Bool)
  | 0, _, _, _, _, _, _ => none
  | k + 1, x6, x7, x201000, x201001, x201002, x201003 => if x7 < 255 then ((impl_FrameFor.f x201000 x201001 x201002 x201003 x7).bind fun t203 => (if t203 = true then (laws_FnFrameFor.l0 k (wrap64 (x6 + 1)) (wrap64 (x7 + 1)) x201000 x201001 x201002 x201003) else (laws_FnFrameFor.l0 k x6 (wrap64 (x7 + 1)) x201000 x201001 x201002 x201003))) else ((impl_FrameOk.f x201000 x201001 x201002 x201003).bind fun t204 => (if t204 = true then (if x201000 = 255 then (if x6 = 254 then ((impl_FrameFor.f x201000 x201001 x201002 x201003 x201001).bind fun t206 => (some (!t206))) else (some false)) else (if x6 = 1 then ((impl_FrameFor.f x201000 x201001 x201002 x201003 x201000).bind fun t207 => (some t207)) else (some false))) else (if x6 = 0 then ((laws_alive.f k).bind fun t205 => (some t205)) else (some false))))
def laws_FnFrameFor.f (k : Nat) (l0 : List Int) : Option (Bool) := if (l0.length : Int) > 1048576 then (some true) else ((spec_DrawFrameFor.f k l0).bind fun bt193 => ((impl_FrameFor.f bt193.1 bt193.2.1 bt193.2.2.1 bt193.2.2.2.1 bt193.2.2.2.2).bind fun t201 => ((spec_FrameFor.f bt193.1 bt193.2.1 bt193.2.2.1 bt193.2.2.2.1 bt193.2.2.2.2).bind fun t202 => (if (t201 != t202) = true then (some false) else (laws_FnFrameFor.l0 k 0 0 bt193.1 bt193.2.1 bt193.2.2.1 bt193.2.2.2.1)))))
theorem laws_FnFrameFor.mono_l : ∀ k, (∀ y0 y1 y2 y3 y4 y5, LeO (laws_FnFrameFor.l0 k y0 y1 y2 y3 y4 y5) (laws_FnFrameFor.l0 (k + 1) y0 y1 y2 y3 y4 y5))
  | 0 => fun _ _ _ _ _ _ r h => by simp [laws_FnFrameFor.l0] at h
  | k + 1 => by
    have ih0 := laws_FnFrameFor.mono_l k
    · intro y0 y1 y2 y3 y4 y5
      unfold laws_FnFrameFor.l0
      repeat' first
      | (with_reducible exact ih0 _ _ _ _ _ _)
      | (with_reducible exact laws_alive.mono _)
      | (with_reducible exact spec_DrawFrameFor.mono _ _)
      | (with_reducible exact LeO.refl _)
      | (with_reducible exact LeO.none _)
      | (with_reducible refine LeO.ite ?_ ?_)
      | (with_reducible refine LeO.bind ?_ (fun _ => ?_))
      | exact ih0 _ _ _ _ _ _
      | exact laws_alive.mono _
      | exact spec_DrawFrameFor.mono _ _
      | exact LeO.none _
      | refine LeO.ite ?_ ?_
      | refine LeO.bind ?_ (fun _ => ?_)
theorem laws_FnFrameFor.mono : ∀ a0 k, LeO (laws_FnFrameFor.f k a0) (laws_FnFrameFor.f (k + 1) a0) := by
  intro a0 k
  have ih0 := laws_FnFrameFor.mono_l k
  unfold laws_FnFrameFor.f
  repeat' first
      | (with_reducible exact ih0 _ _ _ _ _ _)
      | (with_reducible exact laws_alive.mono _)
      | (with_reducible exact spec_DrawFrameFor.mono _ _)
      | (with_reducible exact LeO.refl _)
      | (with_reducible exact LeO.none _)
      | (with_reducible refine LeO.ite ?_ ?_)
      | (with_reducible refine LeO.bind ?_ (fun _ => ?_))
      | exact ih0 _ _ _ _ _ _
      | exact laws_alive.mono _
      | exact spec_DrawFrameFor.mono _ _
      | exact LeO.none _
      | refine LeO.ite ?_ ?_
      | refine LeO.bind ?_ (fun _ => ?_)
set_option maxHeartbeats 8000000 in
set_option maxRecDepth 100000 in
theorem laws_FnFrameFor.calls (k : Nat) (A0 : Option Addr) (c0 : Nat) (l0 : List Int) (r : Bool) (w : World) (hr0 : Kd.C (Kd.int .u8) w A0 l0.length l0) (hc0 : l0.length ≤ c0) (h : laws_FnFrameFor.f k l0 = some r) :
    Calls Try.prog 14 #[.slice A0 l0.length c0] w fun e w' => e = .returned (.bool r) ∧ Below w.heap.size w w' := by
  have hu51 := Try.underlying51
  have HR0 := Aside0.mk hr0
  have HC0 := Aside0.mk hc0
  clear hr0 hc0
  have HB := Aside0.mk (Below.refl w.heap.size w)
  have H : (if (l0.length : Int) > 1048576 then (some true) else ((spec_DrawFrameFor.f k l0).bind fun bt193 => ((impl_FrameFor.f bt193.1 bt193.2.1 bt193.2.2.1 bt193.2.2.2.1 bt193.2.2.2.2).bind fun t201 => ((spec_FrameFor.f bt193.1 bt193.2.1 bt193.2.2.1 bt193.2.2.2.1 bt193.2.2.2.2).bind fun t202 => (if (t201 != t202) = true then (some false) else (laws_FnFrameFor.l0 k 0 0 bt193.1 bt193.2.1 bt193.2.2.1 bt193.2.2.2.1)))))) = some r := h
  clear h
  by_cases c2 : (l0.length : Int) > 1048576
  · rw [if_pos c2] at H
    have c2b0 : decide (1048576 < (l0.length : Int)) = true := decide_eq_true c2
    have c2b1 : decide (1048576 < l0.length) = true := decide_eq_true (by omega)
    clear c2
    obtain rfl := Option.some.inj H
    go_enter Try.func14, Try.ntmps14
    go_wp2
    go_ret
    exact ⟨by first | rfl | (simp [errW_none, errW_some] <;> rfl) | (simp [*, errW_none, errW_some] <;> rfl), by repeat (first | (with_reducible first | exact HB.out | apply below_alloc | apply pw_below_drewN | apply below_drew1) | exact HB.out)⟩
  · rw [if_neg c2] at H
    have c2b0 : decide (1048576 < (l0.length : Int)) = false := decide_eq_false c2
    have c2b1 : decide (1048576 < l0.length) = false := decide_eq_false (by omega)
    clear c2
    replace H := Option.bind_eq_some_iff.mp H
    obtain ⟨⟨t193, t194, t195, t196, t199⟩, A30, H⟩ := H
    replace H : ((impl_FrameFor.f t193 t194 t195 t196 t199).bind fun t201 => ((spec_FrameFor.f t193 t194 t195 t196 t199).bind fun t202 => (if (t201 != t202) = true then (some false) else (laws_FnFrameFor.l0 k 0 0 t193 t194 t195 t196)))) = some r := H
    have A3 := Aside0.mk A30
    clear A30
    replace H := Option.bind_eq_some_iff.mp H
    obtain ⟨t201, A40, H⟩ := H
    replace H : ((spec_FrameFor.f t193 t194 t195 t196 t199).bind fun t202 => (if (t201 != t202) = true then (some false) else (laws_FnFrameFor.l0 k 0 0 t193 t194 t195 t196))) = some r := H
    have A4 := Aside0.mk A40
    clear A40
    replace H := Option.bind_eq_some_iff.mp H
    obtain ⟨t202, A50, H⟩ := H
    replace H : (if (t201 != t202) = true then (some false) else (laws_FnFrameFor.l0 k 0 0 t193 t194 t195 t196)) = some r := H
    have A5 := Aside0.mk A50
    clear A50
    by_cases c6 : (t201 != t202) = true
    · rw [if_pos c6] at H
      have c6b0 : (t201 != t202) = true := c6
      (try (have c6b1 : decide (t201 = t202) = false := by simpa using c6))
      (try (have c6b2 : (t201 == t202) = false := by simpa using c6))
      (try (have c6b3 : ¬ (t201 = t202) := by simpa using c6))
      clear c6
      obtain rfl := Option.some.inj H
      go_enter Try.func14, Try.ntmps14
      go_wp2_with (first | ((with_reducible refine gate_callee (f := 58) rfl ?_); refine goesL_ (some 13) rfl rfl Try.func58 (by kernel_rfl) rfl #[.slice A0 l0.length c0] rfl (by (try simp only [List.map_toArray, List.map_cons, List.map_nil]); first | done | rfl | (simp only [List.length_drop, List.length_take]; rfl)) ?_; (with_reducible refine (spec_DrawFrameFor.calls k _ _ l0 t193 t194 t195 t196 t199 _ ?side1 ?side2 A3.out).mono ?_); (case side1 => repeat (first | exact HR0.out | (with_reducible refine Kd.C_alloc ?_ _) | (with_reducible refine Kd.C_drewN ?_ _) | (with_reducible refine Kd.C_drew ?_))); (case side2 => exact HC0.out); rintro e w7 ⟨v197, rfl, ho0, hb⟩; refine ⟨_, rfl, ?_⟩; have n0_ := Aside0.mk (Kd.R_lower ho0 (below_size (by repeat (first | (with_reducible first | exact HB.out | apply below_alloc | apply pw_below_drewN | apply below_drew1) | exact HB.out)))); have n1_ := Aside0.mk (below_step (by repeat (first | (with_reducible first | exact HB.out | apply below_alloc | apply pw_below_drewN | apply below_drew1) | exact HB.out)) hb); clear HB; have HO198 := n0_; have HB := n1_; clear n0_ n1_; (try clear hb); (try clear hb2); (try clear hk); (try clear hi); (try clear ho0)) | ((with_reducible refine gate_dst (N := 3) rfl ?_); refine box_event ?hg (N := 3) ?hd (cs := #[.int .i64 0, .int .i64 0, .int .i64 0, .slice none 0 0]) (t := 51) ?hr ?_; (case hd => rfl); (case hg => rfl); (case hr => first | (go_simp; done) | (go_simp; rfl)); intro gb200 hg w8 hbox hb; have n0_ := Aside0.mk (Kd.R_below (by (with_reducible repeat (first | apply Kd.R_alloc | apply Kd.R_drewN | apply Kd.R_drew)); exact HO198.out) hb); have n1_ := Aside0.mk (below_step (by repeat (first | (with_reducible first | exact HB.out | apply below_alloc | apply pw_below_drewN | apply below_drew1) | exact HB.out)) hb); have n2_ := Aside0.mk (hbox); have n3_ := Aside0.mk ((by rw [hg]; exact (below_size (by repeat (first | (with_reducible first | exact HB.out | apply below_alloc | apply pw_below_drewN | apply below_drew1) | exact HB.out))) : w.heap.size ≤ gb200)); have n4_ := Aside0.mk ((by rw [hg]; exact (below_size (by repeat (first | (with_reducible first | exact HB.out | apply below_alloc | apply pw_below_drewN | apply below_drew1) | exact HB.out))) : w.heap.size ≤ gb200)); clear HO198; clear HB; have HO198 := n0_; have HB := n1_; have BK200 := n2_; have GW200 := n3_; have GE200 := n4_; clear n0_ n1_ n2_ n3_ n4_; clear hb hbox hg; have hcz9_0 : w8.cell? ⟨gb200, 0, none⟩ = some (.int .i64 0) := (blk_cell BK200.out 0).trans rfl; have hcz9_1 : w8.cell? ⟨gb200, 1, none⟩ = some (.int .i64 0) := (blk_cell BK200.out 1).trans rfl; have hcz9_2 : w8.cell? ⟨gb200, 2, none⟩ = some (.int .i64 0) := (blk_cell BK200.out 2).trans rfl; have hcz9_3 : w8.cell? ⟨gb200, 3, none⟩ = some (.slice none 0 0) := (blk_cell BK200.out 3).trans rfl; have hfz9_0 := blk_frozen BK200.out 0; have hfz9_1 := blk_frozen BK200.out 1; have hfz9_2 := blk_frozen BK200.out 2; have hfz9_3 := blk_frozen BK200.out 3; obtain ⟨Ao10, co10, eo10⟩ := Kd.R_slice HO198.out; subst eo10) | ((with_reducible refine gate_callee (f := 59) rfl ?_); refine goesL_ (some 18) rfl rfl Try.func59 (by kernel_rfl) rfl #[.agg #[.int .i64 t193, .int .i64 t194, .int .i64 t195, .slice Ao10 t196.length co10], .int .i64 t199] rfl (by (try simp only [List.map_toArray, List.map_cons, List.map_nil]); first | done | rfl | (simp only [List.length_drop, List.length_take]; rfl)) ?_; (with_reducible refine (impl_FrameFor.calls t193 t194 t195 _ _ t196 t199 t201 _ ?side1 ?side2 A4.out).mono ?_); (case side1 => refine (Kd.R_reads' (e := 5) (base := w.heap.size) (ok := fun k_ => True) (n := t196.length) (c := co10) ?_).2.2; exact (by (with_reducible repeat (first | apply Kd.R_alloc | apply Kd.R_drewN | apply Kd.R_drew)); exact (Kd.R_mono (Kd.R_far (p := ⟨gb200, 3, none⟩) (Kd.R_far (p := ⟨gb200, 2, none⟩) (Kd.R_far (p := ⟨gb200, 1, none⟩) (Kd.R_far (p := ⟨gb200, 0, none⟩) (Kd.R_types HO198.out BK200.out (by decide)) (fun _ hk => hk.2) (.int .i64 t193)) (fun _ hk => hk.2) (.int .i64 t194)) (fun _ hk => hk.2) (.int .i64 t195)) (fun _ hk => hk.2) (.slice Ao10 t196.length co10)) (fun _ h_ => h_.1)))); (case side2 => exact (Kd.R_reads' HO198.out).2.1); rintro e w11 ⟨rfl, hb⟩; refine ⟨_, rfl, ?_⟩; have n0_ := Aside0.mk (Kd.R_below (by (with_reducible repeat (first | apply Kd.R_alloc | apply Kd.R_drewN | apply Kd.R_drew)); exact (Kd.R_mono (Kd.R_far (p := ⟨gb200, 3, none⟩) (Kd.R_far (p := ⟨gb200, 2, none⟩) (Kd.R_far (p := ⟨gb200, 1, none⟩) (Kd.R_far (p := ⟨gb200, 0, none⟩) (Kd.R_types HO198.out BK200.out (by decide)) (fun _ hk => hk.2) (.int .i64 t193)) (fun _ hk => hk.2) (.int .i64 t194)) (fun _ hk => hk.2) (.int .i64 t195)) (fun _ hk => hk.2) (.slice Ao10 t196.length co10)) (fun _ h_ => h_.1))) hb); have n1_ := Aside0.mk (blk_below (g := gb200) (o := .cells #[.int .i64 t193, .int .i64 t194, .int .i64 t195, .slice Ao10 t196.length co10] 51 (0, 0)) (by (with_reducible repeat (first | refine blk_drewN ?_ _ | refine blk_drew ?_ | refine blk_alloc ?_ _)); refine blk_put (cs := #[.int .i64 t193, .int .i64 t194, .int .i64 t195, .slice none 0 0]) ?_ 3 _ rfl; (with_reducible repeat (first | refine blk_drewN ?_ _ | refine blk_drew ?_ | refine blk_alloc ?_ _)); refine blk_put (cs := #[.int .i64 t193, .int .i64 t194, .int .i64 0, .slice none 0 0]) ?_ 2 _ rfl; (with_reducible repeat (first | refine blk_drewN ?_ _ | refine blk_drew ?_ | refine blk_alloc ?_ _)); refine blk_put (cs := #[.int .i64 t193, .int .i64 0, .int .i64 0, .slice none 0 0]) ?_ 1 _ rfl; (with_reducible repeat (first | refine blk_drewN ?_ _ | refine blk_drew ?_ | refine blk_alloc ?_ _)); refine blk_put (cs := #[.int .i64 0, .int .i64 0, .int .i64 0, .slice none 0 0]) ?_ 0 _ rfl; (with_reducible repeat (first | refine blk_drewN ?_ _ | refine blk_drew ?_ | refine blk_alloc ?_ _)); exact BK200.out) hb); have n2_ := Aside0.mk (below_step (by repeat (first | (with_reducible first | exact HB.out | apply below_alloc | apply pw_below_drewN | apply below_drew1 | refine below_set ?_ GE200.out) | exact HB.out)) hb); clear HO198; clear BK200; clear HB; have HO198 := n0_; have BK200 := n1_; have HB := n2_; clear n0_ n1_ n2_; (try clear hb); (try clear hb2); (try clear hk); (try clear hi); have hcz12_0 : w11.cell? ⟨gb200, 0, none⟩ = some (.int .i64 t193) := (blk_cell BK200.out 0).trans rfl; have hcz12_1 : w11.cell? ⟨gb200, 1, none⟩ = some (.int .i64 t194) := (blk_cell BK200.out 1).trans rfl; have hcz12_2 : w11.cell? ⟨gb200, 2, none⟩ = some (.int .i64 t195) := (blk_cell BK200.out 2).trans rfl; have hcz12_3 : w11.cell? ⟨gb200, 3, none⟩ = some (.slice Ao10 t196.length co10) := (blk_cell BK200.out 3).trans rfl; have hfz12_0 := blk_frozen BK200.out 0; have hfz12_1 := blk_frozen BK200.out 1; have hfz12_2 := blk_frozen BK200.out 2; have hfz12_3 := blk_frozen BK200.out 3) | ((with_reducible refine gate_callee (f := 60) rfl ?_); refine goesL_ (some 22) rfl rfl Try.func60 (by kernel_rfl) rfl #[.agg #[.int .i64 t193, .int .i64 t194, .int .i64 t195, .slice Ao10 t196.length co10], .int .i64 t199] rfl (by (try simp only [List.map_toArray, List.map_cons, List.map_nil]); first | done | rfl | (simp only [List.length_drop, List.length_take]; rfl)) ?_; (with_reducible refine (spec_FrameFor.calls t193 t194 t195 _ _ t196 t199 t202 _ ?side1 ?side2 A5.out).mono ?_); (case side1 => repeat (first | exact (Kd.R_reads' HO198.out).2.2 | (with_reducible refine Kd.C_alloc ?_ _) | (with_reducible refine Kd.C_drewN ?_ _) | (with_reducible refine Kd.C_drew ?_))); (case side2 => exact (Kd.R_reads' HO198.out).2.1); rintro e w13 ⟨rfl, hb⟩; refine ⟨_, rfl, ?_⟩; have n0_ := Aside0.mk (Kd.R_below (by (with_reducible repeat (first | apply Kd.R_alloc | apply Kd.R_drewN | apply Kd.R_drew)); exact HO198.out) hb); have n1_ := Aside0.mk (blk_below (g := gb200) (o := .cells #[.int .i64 t193, .int .i64 t194, .int .i64 t195, .slice Ao10 t196.length co10] 51 (0, 0)) (by (with_reducible repeat (first | refine blk_drewN ?_ _ | refine blk_drew ?_ | refine blk_alloc ?_ _)); exact BK200.out) hb); have n2_ := Aside0.mk (below_step (by repeat (first | (with_reducible first | exact HB.out | apply below_alloc | apply pw_below_drewN | apply below_drew1 | refine below_set ?_ GE200.out) | exact HB.out)) hb); clear HO198; clear BK200; clear HB; have HO198 := n0_; have BK200 := n1_; have HB := n2_; clear n0_ n1_ n2_; (try clear hb); (try clear hb2); (try clear hk); (try clear hi)))
      go_ret
      exact ⟨by first | rfl | (simp [errW_none, errW_some] <;> rfl) | (simp [*, errW_none, errW_some] <;> rfl), by repeat (first | (with_reducible first | exact HB.out | apply below_alloc | apply pw_below_drewN | apply below_drew1 | refine below_set ?_ GE200.out) | exact HB.out)⟩
    · rw [if_neg c6] at H
      have c6b0 : (t201 != t202) = false := by simpa using c6
      (try (have c6b1 : decide (t201 = t202) = true := by simpa using c6))
      (try (have c6b2 : (t201 == t202) = true := by simpa using c6))
      clear c6
      have H' := Aside0.mk H
      clear H
      go_enter Try.func14, Try.ntmps14
      go_wp2_with (first | ((with_reducible refine gate_callee (f := 58) rfl ?_); refine goesL_ (some 13) rfl rfl Try.func58 (by kernel_rfl) rfl #[.slice A0 l0.length c0] rfl (by (try simp only [List.map_toArray, List.map_cons, List.map_nil]); first | done | rfl | (simp only [List.length_drop, List.length_take]; rfl)) ?_; (with_reducible refine (spec_DrawFrameFor.calls k _ _ l0 t193 t194 t195 t196 t199 _ ?side1 ?side2 A3.out).mono ?_); (case side1 => repeat (first | exact HR0.out | (with_reducible refine Kd.C_alloc ?_ _) | (with_reducible refine Kd.C_drewN ?_ _) | (with_reducible refine Kd.C_drew ?_))); (case side2 => exact HC0.out); rintro e w14 ⟨v197, rfl, ho0, hb⟩; refine ⟨_, rfl, ?_⟩; have n0_ := Aside0.mk (Kd.R_lower ho0 (below_size (by repeat (first | (with_reducible first | exact HB.out | apply below_alloc | apply pw_below_drewN | apply below_drew1) | exact HB.out)))); have n1_ := Aside0.mk (below_step (by repeat (first | (with_reducible first | exact HB.out | apply below_alloc | apply pw_below_drewN | apply below_drew1) | exact HB.out)) hb); clear HB; have HO198 := n0_; have HB := n1_; clear n0_ n1_; (try clear hb); (try clear hb2); (try clear hk); (try clear hi); (try clear ho0)) | ((with_reducible refine gate_dst (N := 3) rfl ?_); refine box_event ?hg (N := 3) ?hd (cs := #[.int .i64 0, .int .i64 0, .int .i64 0, .slice none 0 0]) (t := 51) ?hr ?_; (case hd => rfl); (case hg => rfl); (case hr => first | (go_simp; done) | (go_simp; rfl)); intro gb200 hg w15 hbox hb; have n0_ := Aside0.mk (Kd.R_below (by (with_reducible repeat (first | apply Kd.R_alloc | apply Kd.R_drewN | apply Kd.R_drew)); exact HO198.out) hb); have n1_ := Aside0.mk (below_step (by repeat (first | (with_reducible first | exact HB.out | apply below_alloc | apply pw_below_drewN | apply below_drew1) | exact HB.out)) hb); have n2_ := Aside0.mk (hbox); have n3_ := Aside0.mk ((by rw [hg]; exact (below_size (by repeat (first | (with_reducible first | exact HB.out | apply below_alloc | apply pw_below_drewN | apply below_drew1) | exact HB.out))) : w.heap.size ≤ gb200)); have n4_ := Aside0.mk ((by rw [hg]; exact (below_size (by repeat (first | (with_reducible first | exact HB.out | apply below_alloc | apply pw_below_drewN | apply below_drew1) | exact HB.out))) : w.heap.size ≤ gb200)); clear HO198; clear HB; have HO198 := n0_; have HB := n1_; have BK200 := n2_; have GW200 := n3_; have GE200 := n4_; clear n0_ n1_ n2_ n3_ n4_; clear hb hbox hg; have hcz16_0 : w15.cell? ⟨gb200, 0, none⟩ = some (.int .i64 0) := (blk_cell BK200.out 0).trans rfl; have hcz16_1 : w15.cell? ⟨gb200, 1, none⟩ = some (.int .i64 0) := (blk_cell BK200.out 1).trans rfl; have hcz16_2 : w15.cell? ⟨gb200, 2, none⟩ = some (.int .i64 0) := (blk_cell BK200.out 2).trans rfl; have hcz16_3 : w15.cell? ⟨gb200, 3, none⟩ = some (.slice none 0 0) := (blk_cell BK200.out 3).trans rfl; have hfz16_0 := blk_frozen BK200.out 0; have hfz16_1 := blk_frozen BK200.out 1; have hfz16_2 := blk_frozen BK200.out 2; have hfz16_3 := blk_frozen BK200.out 3; obtain ⟨Ao17, co17, eo17⟩ := Kd.R_slice HO198.out; subst eo17) | ((with_reducible refine gate_callee (f := 59) rfl ?_); refine goesL_ (some 18) rfl rfl Try.func59 (by kernel_rfl) rfl #[.agg #[.int .i64 t193, .int .i64 t194, .int .i64 t195, .slice Ao17 t196.length co17], .int .i64 t199] rfl (by (try simp only [List.map_toArray, List.map_cons, List.map_nil]); first | done | rfl | (simp only [List.length_drop, List.length_take]; rfl)) ?_; (with_reducible refine (impl_FrameFor.calls t193 t194 t195 _ _ t196 t199 t201 _ ?side1 ?side2 A4.out).mono ?_); (case side1 => refine (Kd.R_reads' (e := 5) (base := w.heap.size) (ok := fun k_ => True) (n := t196.length) (c := co17) ?_).2.2; exact (by (with_reducible repeat (first | apply Kd.R_alloc | apply Kd.R_drewN | apply Kd.R_drew)); exact (Kd.R_mono (Kd.R_far (p := ⟨gb200, 3, none⟩) (Kd.R_far (p := ⟨gb200, 2, none⟩) (Kd.R_far (p := ⟨gb200, 1, none⟩) (Kd.R_far (p := ⟨gb200, 0, none⟩) (Kd.R_types HO198.out BK200.out (by decide)) (fun _ hk => hk.2) (.int .i64 t193)) (fun _ hk => hk.2) (.int .i64 t194)) (fun _ hk => hk.2) (.int .i64 t195)) (fun _ hk => hk.2) (.slice Ao17 t196.length co17)) (fun _ h_ => h_.1)))); (case side2 => exact (Kd.R_reads' HO198.out).2.1); rintro e w18 ⟨rfl, hb⟩; refine ⟨_, rfl, ?_⟩; have n0_ := Aside0.mk (Kd.R_below (by (with_reducible repeat (first | apply Kd.R_alloc | apply Kd.R_drewN | apply Kd.R_drew)); exact (Kd.R_mono (Kd.R_far (p := ⟨gb200, 3, none⟩) (Kd.R_far (p := ⟨gb200, 2, none⟩) (Kd.R_far (p := ⟨gb200, 1, none⟩) (Kd.R_far (p := ⟨gb200, 0, none⟩) (Kd.R_types HO198.out BK200.out (by decide)) (fun _ hk => hk.2) (.int .i64 t193)) (fun _ hk => hk.2) (.int .i64 t194)) (fun _ hk => hk.2) (.int .i64 t195)) (fun _ hk => hk.2) (.slice Ao17 t196.length co17)) (fun _ h_ => h_.1))) hb); have n1_ := Aside0.mk (blk_below (g := gb200) (o := .cells #[.int .i64 t193, .int .i64 t194, .int .i64 t195, .slice Ao17 t196.length co17] 51 (0, 0)) (by (with_reducible repeat (first | refine blk_drewN ?_ _ | refine blk_drew ?_ | refine blk_alloc ?_ _)); refine blk_put (cs := #[.int .i64 t193, .int .i64 t194, .int .i64 t195, .slice none 0 0]) ?_ 3 _ rfl; (with_reducible repeat (first | refine blk_drewN ?_ _ | refine blk_drew ?_ | refine blk_alloc ?_ _)); refine blk_put (cs := #[.int .i64 t193, .int .i64 t194, .int .i64 0, .slice none 0 0]) ?_ 2 _ rfl; (with_reducible repeat (first | refine blk_drewN ?_ _ | refine blk_drew ?_ | refine blk_alloc ?_ _)); refine blk_put (cs := #[.int .i64 t193, .int .i64 0, .int .i64 0, .slice none 0 0]) ?_ 1 _ rfl; (with_reducible repeat (first | refine blk_drewN ?_ _ | refine blk_drew ?_ | refine blk_alloc ?_ _)); refine blk_put (cs := #[.int .i64 0, .int .i64 0, .int .i64 0, .slice none 0 0]) ?_ 0 _ rfl; (with_reducible repeat (first | refine blk_drewN ?_ _ | refine blk_drew ?_ | refine blk_alloc ?_ _)); exact BK200.out) hb); have n2_ := Aside0.mk (below_step (by repeat (first | (with_reducible first | exact HB.out | apply below_alloc | apply pw_below_drewN | apply below_drew1 | refine below_set ?_ GE200.out) | exact HB.out)) hb); clear HO198; clear BK200; clear HB; have HO198 := n0_; have BK200 := n1_; have HB := n2_; clear n0_ n1_ n2_; (try clear hb); (try clear hb2); (try clear hk); (try clear hi); have hcz19_0 : w18.cell? ⟨gb200, 0, none⟩ = some (.int .i64 t193) := (blk_cell BK200.out 0).trans rfl; have hcz19_1 : w18.cell? ⟨gb200, 1, none⟩ = some (.int .i64 t194) := (blk_cell BK200.out 1).trans rfl; have hcz19_2 : w18.cell? ⟨gb200, 2, none⟩ = some (.int .i64 t195) := (blk_cell BK200.out 2).trans rfl; have hcz19_3 : w18.cell? ⟨gb200, 3, none⟩ = some (.slice Ao17 t196.length co17) := (blk_cell BK200.out 3).trans rfl; have hfz19_0 := blk_frozen BK200.out 0; have hfz19_1 := blk_frozen BK200.out 1; have hfz19_2 := blk_frozen BK200.out 2; have hfz19_3 := blk_frozen BK200.out 3) | ((with_reducible refine gate_callee (f := 60) rfl ?_); refine goesL_ (some 22) rfl rfl Try.func60 (by kernel_rfl) rfl #[.agg #[.int .i64 t193, .int .i64 t194, .int .i64 t195, .slice Ao17 t196.length co17], .int .i64 t199] rfl (by (try simp only [List.map_toArray, List.map_cons, List.map_nil]); first | done | rfl | (simp only [List.length_drop, List.length_take]; rfl)) ?_; (with_reducible refine (spec_FrameFor.calls t193 t194 t195 _ _ t196 t199 t202 _ ?side1 ?side2 A5.out).mono ?_); (case side1 => repeat (first | exact (Kd.R_reads' HO198.out).2.2 | (with_reducible refine Kd.C_alloc ?_ _) | (with_reducible refine Kd.C_drewN ?_ _) | (with_reducible refine Kd.C_drew ?_))); (case side2 => exact (Kd.R_reads' HO198.out).2.1); rintro e w20 ⟨rfl, hb⟩; refine ⟨_, rfl, ?_⟩; have n0_ := Aside0.mk (Kd.R_below (by (with_reducible repeat (first | apply Kd.R_alloc | apply Kd.R_drewN | apply Kd.R_drew)); exact HO198.out) hb); have n1_ := Aside0.mk (blk_below (g := gb200) (o := .cells #[.int .i64 t193, .int .i64 t194, .int .i64 t195, .slice Ao17 t196.length co17] 51 (0, 0)) (by (with_reducible repeat (first | refine blk_drewN ?_ _ | refine blk_drew ?_ | refine blk_alloc ?_ _)); exact BK200.out) hb); have n2_ := Aside0.mk (below_step (by repeat (first | (with_reducible first | exact HB.out | apply below_alloc | apply pw_below_drewN | apply below_drew1 | refine below_set ?_ GE200.out) | exact HB.out)) hb); clear HO198; clear BK200; clear HB; have HO198 := n0_; have BK200 := n1_; have HB := n2_; clear n0_ n1_ n2_; (try clear hb); (try clear hb2); (try clear hk); (try clear hi)))
      go_loopg [6, 7] k (fun kq v6 v7 w' => ∃ (x6_1 : Int) (x7_1 : Int), v6 = .int .i64 x6_1 ∧ v7 = .int .i64 x7_1 ∧ Aside0 (laws_FnFrameFor.l0 kq x6_1 x7_1 t193 t194 t195 t196 = some r) ∧ Aside0 (kq ≤ k) ∧ Aside0 (Kd.R (Kd.int .u8) 5 w' w.heap.size (fun _ => True) (.slice Ao17 t196.length co17) t196) ∧ Aside0 (w'.heap[gb200]? = some (.cells #[.int .i64 t193, .int .i64 t194, .int .i64 t195, (.slice Ao17 t196.length co17)] 51 (0, 0))) ∧ Aside0 (Below w.heap.size w w'))
      case atStart => exact ⟨(0), (0), (by first | rfl | (simp; done) | (simp [*]; done)), (by first | rfl | (simp; done) | (simp [*]; done)), H', ⟨Nat.le_refl _⟩, ⟨by (with_reducible repeat (first | apply Kd.R_alloc | apply Kd.R_drewN | apply Kd.R_drew)); exact HO198.out⟩, ⟨by (with_reducible repeat (first | refine blk_drewN ?_ _ | refine blk_drew ?_ | refine blk_alloc ?_ _)); exact BK200.out⟩, ⟨by repeat (first | (with_reducible first | exact HB.out | apply below_alloc | apply pw_below_drewN | apply below_drew1 | refine below_set ?_ GE200.out) | exact HB.out)⟩⟩
      case round =>
        clear H'
        try clear c1
        try clear c2
        try clear c2b0
        try clear c2b1
        try clear p2
        try clear c5
        try clear c6
        try clear c6b0
        try clear c6b1
        try clear c6b2
        try clear c14
        try clear hcz12_0
        try clear hcz12_1
        try clear hcz12_2
        try clear hcz12_3
        try clear hcz16_0
        try clear hcz16_1
        try clear hcz16_2
        try clear hcz16_3
        try clear hcz19_0
        try clear hcz19_1
        try clear hcz19_2
        try clear hcz19_3
        try clear hcz9_0
        try clear hcz9_1
        try clear hcz9_2
        try clear hcz9_3
        try clear hfz12_0
        try clear hfz12_1
        try clear hfz12_2
        try clear hfz12_3
        try clear hfz16_0
        try clear hfz16_1
        try clear hfz16_2
        try clear hfz16_3
        try clear hfz19_0
        try clear hfz19_1
        try clear hfz19_2
        try clear hfz19_3
        try clear hfz9_0
        try clear hfz9_1
        try clear hfz9_2
        try clear hfz9_3
        obtain ⟨x6_1, x7_1, rfl, rfl, HA, HK1, HO_201003, BK200, HB⟩ := hrel
        cases gk with
        | zero => exact absurd HA.out (by simp [laws_FnFrameFor.l0])
        | succ k1 =>
          have H := HA.out
          clear HA
          simp only [laws_FnFrameFor.l0] at H
          by_cases c21 : x7_1 < 255
          · rw [if_pos c21] at H
            have c21b0 : decide (x7_1 < 255) = true := decide_eq_true c21
            clear c21
            replace H := Option.bind_eq_some_iff.mp H
            obtain ⟨t203, A220, H⟩ := H
            replace H : (if t203 = true then (laws_FnFrameFor.l0 k1 (wrap64 (x6_1 + 1)) (wrap64 (x7_1 + 1)) t193 t194 t195 t196) else (laws_FnFrameFor.l0 k1 x6_1 (wrap64 (x7_1 + 1)) t193 t194 t195 t196)) = some r := H
            have A22 := Aside0.mk A220
            clear A220
            by_cases c23 : t203 = true
            · subst c23
              have H1 : (laws_FnFrameFor.l0 k1 (wrap64 (x6_1 + 1)) (wrap64 (x7_1 + 1)) t193 t194 t195 t196) = some r := by rw [if_pos rfl] at H; exact H
              clear H
              have H := H1
              clear H1
              have H' := Aside0.mk H
              clear H
              have hcz24_0 : wr.cell? ⟨gb200, 0, none⟩ = some (.int .i64 t193) := (blk_cell BK200.out 0).trans rfl
              have hcz24_1 : wr.cell? ⟨gb200, 1, none⟩ = some (.int .i64 t194) := (blk_cell BK200.out 1).trans rfl
              have hcz24_2 : wr.cell? ⟨gb200, 2, none⟩ = some (.int .i64 t195) := (blk_cell BK200.out 2).trans rfl
              have hcz24_3 : wr.cell? ⟨gb200, 3, none⟩ = some (.slice Ao17 t196.length co17) := (blk_cell BK200.out 3).trans rfl
              have hfz24_0 := blk_frozen BK200.out 0
              have hfz24_1 := blk_frozen BK200.out 1
              have hfz24_2 := blk_frozen BK200.out 2
              have hfz24_3 := blk_frozen BK200.out 3
              go_wp2_with (first | ((with_reducible refine gate_callee (f := 59) rfl ?_); refine goesL_ (some 30) rfl rfl Try.func59 (by kernel_rfl) rfl #[.agg #[.int .i64 t193, .int .i64 t194, .int .i64 t195, .slice Ao17 t196.length co17], .int .i64 x7_1] rfl (by (try simp only [List.map_toArray, List.map_cons, List.map_nil]); first | done | rfl | (simp only [List.length_drop, List.length_take]; rfl)) ?_; (with_reducible refine (impl_FrameFor.calls t193 t194 t195 _ _ t196 x7_1 true _ ?side1 ?side2 A22.out).mono ?_); (case side1 => repeat (first | exact (Kd.R_reads' HO_201003.out).2.2 | (with_reducible refine Kd.C_alloc ?_ _) | (with_reducible refine Kd.C_drewN ?_ _) | (with_reducible refine Kd.C_drew ?_))); (case side2 => exact (Kd.R_reads' HO_201003.out).2.1); rintro e w25 ⟨rfl, hb⟩; refine ⟨_, rfl, ?_⟩; have n0_ := Aside0.mk (Kd.R_below (by (with_reducible repeat (first | apply Kd.R_alloc | apply Kd.R_drewN | apply Kd.R_drew)); exact HO_201003.out) hb); have n1_ := Aside0.mk (blk_below (g := gb200) (o := .cells #[.int .i64 t193, .int .i64 t194, .int .i64 t195, .slice Ao17 t196.length co17] 51 (0, 0)) (by (with_reducible repeat (first | refine blk_drewN ?_ _ | refine blk_drew ?_ | refine blk_alloc ?_ _)); exact BK200.out) hb); have n2_ := Aside0.mk (below_step (by repeat (first | (with_reducible first | exact HB.out | apply below_alloc | apply pw_below_drewN | apply below_drew1 | refine below_set ?_ GE200.out) | exact HB.out)) hb); clear HO_201003; clear BK200; clear HB; have HO_201003 := n0_; have BK200 := n1_; have HB := n2_; clear n0_ n1_ n2_; (try clear hb); (try clear hb2); (try clear hk); (try clear hi)))
              go_roundg k1
              case measure => have := HK1.out; omega
              case rel => exact ⟨(wrap64 (x6_1 + 1)), (wrap64 (x7_1 + 1)), (by first | rfl | (simp; done) | (simp [*]; done)), (by first | rfl | (simp; done) | (simp [*]; done)), H', ⟨by have := HK1.out; omega⟩, ⟨by (with_reducible repeat (first | apply Kd.R_alloc | apply Kd.R_drewN | apply Kd.R_drew)); exact HO_201003.out⟩, ⟨by (with_reducible repeat (first | refine blk_drewN ?_ _ | refine blk_drew ?_ | refine blk_alloc ?_ _)); exact BK200.out⟩, ⟨by repeat (first | (with_reducible first | exact HB.out | apply below_alloc | apply pw_below_drewN | apply below_drew1 | refine below_set ?_ GE200.out) | exact HB.out)⟩⟩
            · replace c23 := Bool.eq_false_iff.mpr c23
              subst c23
              have H1 : (laws_FnFrameFor.l0 k1 x6_1 (wrap64 (x7_1 + 1)) t193 t194 t195 t196) = some r := by rw [if_neg (show ¬ (false = true) by decide)] at H; exact H
              clear H
              have H := H1
              clear H1
              have H' := Aside0.mk H
              clear H
              have hcz26_0 : wr.cell? ⟨gb200, 0, none⟩ = some (.int .i64 t193) := (blk_cell BK200.out 0).trans rfl
              have hcz26_1 : wr.cell? ⟨gb200, 1, none⟩ = some (.int .i64 t194) := (blk_cell BK200.out 1).trans rfl
              have hcz26_2 : wr.cell? ⟨gb200, 2, none⟩ = some (.int .i64 t195) := (blk_cell BK200.out 2).trans rfl
              have hcz26_3 : wr.cell? ⟨gb200, 3, none⟩ = some (.slice Ao17 t196.length co17) := (blk_cell BK200.out 3).trans rfl
              have hfz26_0 := blk_frozen BK200.out 0
              have hfz26_1 := blk_frozen BK200.out 1
              have hfz26_2 := blk_frozen BK200.out 2
              have hfz26_3 := blk_frozen BK200.out 3
              go_wp2_with (first | ((with_reducible refine gate_callee (f := 59) rfl ?_); refine goesL_ (some 30) rfl rfl Try.func59 (by kernel_rfl) rfl #[.agg #[.int .i64 t193, .int .i64 t194, .int .i64 t195, .slice Ao17 t196.length co17], .int .i64 x7_1] rfl (by (try simp only [List.map_toArray, List.map_cons, List.map_nil]); first | done | rfl | (simp only [List.length_drop, List.length_take]; rfl)) ?_; (with_reducible refine (impl_FrameFor.calls t193 t194 t195 _ _ t196 x7_1 false _ ?side1 ?side2 A22.out).mono ?_); (case side1 => repeat (first | exact (Kd.R_reads' HO_201003.out).2.2 | (with_reducible refine Kd.C_alloc ?_ _) | (with_reducible refine Kd.C_drewN ?_ _) | (with_reducible refine Kd.C_drew ?_))); (case side2 => exact (Kd.R_reads' HO_201003.out).2.1); rintro e w27 ⟨rfl, hb⟩; refine ⟨_, rfl, ?_⟩; have n0_ := Aside0.mk (Kd.R_below (by (with_reducible repeat (first | apply Kd.R_alloc | apply Kd.R_drewN | apply Kd.R_drew)); exact HO_201003.out) hb); have n1_ := Aside0.mk (blk_below (g := gb200) (o := .cells #[.int .i64 t193, .int .i64 t194, .int .i64 t195, .slice Ao17 t196.length co17] 51 (0, 0)) (by (with_reducible repeat (first | refine blk_drewN ?_ _ | refine blk_drew ?_ | refine blk_alloc ?_ _)); exact BK200.out) hb); have n2_ := Aside0.mk (below_step (by repeat (first | (with_reducible first | exact HB.out | apply below_alloc | apply pw_below_drewN | apply below_drew1 | refine below_set ?_ GE200.out) | exact HB.out)) hb); clear HO_201003; clear BK200; clear HB; have HO_201003 := n0_; have BK200 := n1_; have HB := n2_; clear n0_ n1_ n2_; (try clear hb); (try clear hb2); (try clear hk); (try clear hi)))
              go_roundg k1
              case measure => have := HK1.out; omega
              case rel => exact ⟨(x6_1), (wrap64 (x7_1 + 1)), (by first | rfl | (simp; done) | (simp [*]; done)), (by first | rfl | (simp; done) | (simp [*]; done)), H', ⟨by have := HK1.out; omega⟩, ⟨by (with_reducible repeat (first | apply Kd.R_alloc | apply Kd.R_drewN | apply Kd.R_drew)); exact HO_201003.out⟩, ⟨by (with_reducible repeat (first | refine blk_drewN ?_ _ | refine blk_drew ?_ | refine blk_alloc ?_ _)); exact BK200.out⟩, ⟨by repeat (first | (with_reducible first | exact HB.out | apply below_alloc | apply pw_below_drewN | apply below_drew1 | refine below_set ?_ GE200.out) | exact HB.out)⟩⟩
          · rw [if_neg c21] at H
            have c21b0 : decide (x7_1 < 255) = false := decide_eq_false c21
            clear c21
            replace H := Option.bind_eq_some_iff.mp H
            obtain ⟨t204, A280, H⟩ := H
            replace H : (if t204 = true then (if t193 = 255 then (if x6_1 = 254 then ((impl_FrameFor.f t193 t194 t195 t196 t194).bind fun t206 => (some (!t206))) else (some false)) else (if x6_1 = 1 then ((impl_FrameFor.f t193 t194 t195 t196 t193).bind fun t207 => (some t207)) else (some false))) else (if x6_1 = 0 then ((laws_alive.f k1).bind fun t205 => (some t205)) else (some false))) = some r := H
            have A28 := Aside0.mk A280
            clear A280
            by_cases c29 : t204 = true
            · subst c29
              have H1 : (if t193 = 255 then (if x6_1 = 254 then ((impl_FrameFor.f t193 t194 t195 t196 t194).bind fun t206 => (some (!t206))) else (some false)) else (if x6_1 = 1 then ((impl_FrameFor.f t193 t194 t195 t196 t193).bind fun t207 => (some t207)) else (some false))) = some r := by rw [if_pos rfl] at H; exact H
              clear H
              have H := H1
              clear H1
              by_cases c30 : t193 = 255
              · rw [if_pos c30] at H
                have c30b0 : (t193 == 255) = true := beq_iff_eq.mpr c30
                have c30b1 : (t193 != 255) = false := bne_eq_false_iff_eq.mpr c30
                clear c30
                by_cases c31 : x6_1 = 254
                · rw [if_pos c31] at H
                  have c31b0 : (x6_1 == 254) = true := beq_iff_eq.mpr c31
                  have c31b1 : (x6_1 != 254) = false := bne_eq_false_iff_eq.mpr c31
                  clear c31
                  replace H := Option.bind_eq_some_iff.mp H
                  obtain ⟨t206, A320, H⟩ := H
                  replace H : (some (!t206)) = some r := H
                  have A32 := Aside0.mk A320
                  clear A320
                  obtain rfl := Option.some.inj H
                  have hcz33_0 : wr.cell? ⟨gb200, 0, none⟩ = some (.int .i64 t193) := (blk_cell BK200.out 0).trans rfl
                  have hcz33_1 : wr.cell? ⟨gb200, 1, none⟩ = some (.int .i64 t194) := (blk_cell BK200.out 1).trans rfl
                  have hcz33_2 : wr.cell? ⟨gb200, 2, none⟩ = some (.int .i64 t195) := (blk_cell BK200.out 2).trans rfl
                  have hcz33_3 : wr.cell? ⟨gb200, 3, none⟩ = some (.slice Ao17 t196.length co17) := (blk_cell BK200.out 3).trans rfl
                  have hfz33_0 := blk_frozen BK200.out 0
                  have hfz33_1 := blk_frozen BK200.out 1
                  have hfz33_2 := blk_frozen BK200.out 2
                  have hfz33_3 := blk_frozen BK200.out 3
                  go_wp2_with (first | ((with_reducible refine gate_callee (f := 40) rfl ?_); refine goesL_ (some 34) rfl rfl Try.func40 (by kernel_rfl) rfl #[.agg #[.int .i64 t193, .int .i64 t194, .int .i64 t195, .slice Ao17 t196.length co17]] rfl (by (try simp only [List.map_toArray, List.map_cons, List.map_nil]); first | done | rfl | (simp only [List.length_drop, List.length_take]; rfl)) ?_; (with_reducible refine (impl_FrameOk.calls t193 t194 t195 _ _ t196 true _ ?side1 ?side2 A28.out).mono ?_); (case side1 => repeat (first | exact (Kd.R_reads' HO_201003.out).2.2 | (with_reducible refine Kd.C_alloc ?_ _) | (with_reducible refine Kd.C_drewN ?_ _) | (with_reducible refine Kd.C_drew ?_))); (case side2 => exact (Kd.R_reads' HO_201003.out).2.1); rintro e w34 ⟨rfl, hb⟩; refine ⟨_, rfl, ?_⟩; have n0_ := Aside0.mk (Kd.R_below (by (with_reducible repeat (first | apply Kd.R_alloc | apply Kd.R_drewN | apply Kd.R_drew)); exact HO_201003.out) hb); have n1_ := Aside0.mk (blk_below (g := gb200) (o := .cells #[.int .i64 t193, .int .i64 t194, .int .i64 t195, .slice Ao17 t196.length co17] 51 (0, 0)) (by (with_reducible repeat (first | refine blk_drewN ?_ _ | refine blk_drew ?_ | refine blk_alloc ?_ _)); exact BK200.out) hb); have n2_ := Aside0.mk (below_step (by repeat (first | (with_reducible first | exact HB.out | apply below_alloc | apply pw_below_drewN | apply below_drew1 | refine below_set ?_ GE200.out) | exact HB.out)) hb); clear HO_201003; clear BK200; clear HB; have HO_201003 := n0_; have BK200 := n1_; have HB := n2_; clear n0_ n1_ n2_; (try clear hb); (try clear hb2); (try clear hk); (try clear hi); have hcz35_0 : w34.cell? ⟨gb200, 0, none⟩ = some (.int .i64 t193) := (blk_cell BK200.out 0).trans rfl; have hcz35_1 : w34.cell? ⟨gb200, 1, none⟩ = some (.int .i64 t194) := (blk_cell BK200.out 1).trans rfl; have hcz35_2 : w34.cell? ⟨gb200, 2, none⟩ = some (.int .i64 t195) := (blk_cell BK200.out 2).trans rfl; have hcz35_3 : w34.cell? ⟨gb200, 3, none⟩ = some (.slice Ao17 t196.length co17) := (blk_cell BK200.out 3).trans rfl; have hfz35_0 := blk_frozen BK200.out 0; have hfz35_1 := blk_frozen BK200.out 1; have hfz35_2 := blk_frozen BK200.out 2; have hfz35_3 := blk_frozen BK200.out 3) | (go_at_call 59; (with_reducible refine (impl_FrameFor.calls t193 t194 t195 _ _ t196 t194 t206 _ ?side1 ?side2 A32.out).mono ?_); (case side1 => repeat (first | exact (Kd.R_reads' HO_201003.out).2.2 | (with_reducible refine Kd.C_alloc ?_ _) | (with_reducible refine Kd.C_drewN ?_ _) | (with_reducible refine Kd.C_drew ?_))); (case side2 => exact (Kd.R_reads' HO_201003.out).2.1); rintro e w36 ⟨rfl, hb⟩; have n0_ := Aside0.mk (Kd.R_below (by (with_reducible repeat (first | apply Kd.R_alloc | apply Kd.R_drewN | apply Kd.R_drew)); exact HO_201003.out) hb); have n1_ := Aside0.mk (blk_below (g := gb200) (o := .cells #[.int .i64 t193, .int .i64 t194, .int .i64 t195, .slice Ao17 t196.length co17] 51 (0, 0)) (by (with_reducible repeat (first | refine blk_drewN ?_ _ | refine blk_drew ?_ | refine blk_alloc ?_ _)); exact BK200.out) hb); have n2_ := Aside0.mk (below_step (by repeat (first | (with_reducible first | exact HB.out | apply below_alloc | apply pw_below_drewN | apply below_drew1 | refine below_set ?_ GE200.out) | exact HB.out)) hb); clear HO_201003; clear BK200; clear HB; have HO_201003 := n0_; have BK200 := n1_; have HB := n2_; clear n0_ n1_ n2_; (try clear hb); (try clear hb2); (try clear hk); (try clear hi)))
                  go_ret
                  exact ⟨by first | rfl | (simp [errW_none, errW_some] <;> rfl) | (simp [*, errW_none, errW_some] <;> rfl), by repeat (first | (with_reducible first | exact HB.out | apply below_alloc | apply pw_below_drewN | apply below_drew1 | refine below_set ?_ GE200.out) | exact HB.out)⟩
                · rw [if_neg c31] at H
                  have c31b0 : (x6_1 == 254) = false := beq_eq_false_iff_ne.mpr c31
                  have c31b1 : (x6_1 != 254) = true := bne_iff_ne.mpr c31
                  obtain rfl := Option.some.inj H
                  have hcz37_0 : wr.cell? ⟨gb200, 0, none⟩ = some (.int .i64 t193) := (blk_cell BK200.out 0).trans rfl
                  have hcz37_1 : wr.cell? ⟨gb200, 1, none⟩ = some (.int .i64 t194) := (blk_cell BK200.out 1).trans rfl
                  have hcz37_2 : wr.cell? ⟨gb200, 2, none⟩ = some (.int .i64 t195) := (blk_cell BK200.out 2).trans rfl
                  have hcz37_3 : wr.cell? ⟨gb200, 3, none⟩ = some (.slice Ao17 t196.length co17) := (blk_cell BK200.out 3).trans rfl
                  have hfz37_0 := blk_frozen BK200.out 0
                  have hfz37_1 := blk_frozen BK200.out 1
                  have hfz37_2 := blk_frozen BK200.out 2
                  have hfz37_3 := blk_frozen BK200.out 3
                  go_wp2_with (first | ((with_reducible refine gate_callee (f := 40) rfl ?_); refine goesL_ (some 34) rfl rfl Try.func40 (by kernel_rfl) rfl #[.agg #[.int .i64 t193, .int .i64 t194, .int .i64 t195, .slice Ao17 t196.length co17]] rfl (by (try simp only [List.map_toArray, List.map_cons, List.map_nil]); first | done | rfl | (simp only [List.length_drop, List.length_take]; rfl)) ?_; (with_reducible refine (impl_FrameOk.calls t193 t194 t195 _ _ t196 true _ ?side1 ?side2 A28.out).mono ?_); (case side1 => repeat (first | exact (Kd.R_reads' HO_201003.out).2.2 | (with_reducible refine Kd.C_alloc ?_ _) | (with_reducible refine Kd.C_drewN ?_ _) | (with_reducible refine Kd.C_drew ?_))); (case side2 => exact (Kd.R_reads' HO_201003.out).2.1); rintro e w38 ⟨rfl, hb⟩; refine ⟨_, rfl, ?_⟩; have n0_ := Aside0.mk (Kd.R_below (by (with_reducible repeat (first | apply Kd.R_alloc | apply Kd.R_drewN | apply Kd.R_drew)); exact HO_201003.out) hb); have n1_ := Aside0.mk (blk_below (g := gb200) (o := .cells #[.int .i64 t193, .int .i64 t194, .int .i64 t195, .slice Ao17 t196.length co17] 51 (0, 0)) (by (with_reducible repeat (first | refine blk_drewN ?_ _ | refine blk_drew ?_ | refine blk_alloc ?_ _)); exact BK200.out) hb); have n2_ := Aside0.mk (below_step (by repeat (first | (with_reducible first | exact HB.out | apply below_alloc | apply pw_below_drewN | apply below_drew1 | refine below_set ?_ GE200.out) | exact HB.out)) hb); clear HO_201003; clear BK200; clear HB; have HO_201003 := n0_; have BK200 := n1_; have HB := n2_; clear n0_ n1_ n2_; (try clear hb); (try clear hb2); (try clear hk); (try clear hi); have hcz39_0 : w38.cell? ⟨gb200, 0, none⟩ = some (.int .i64 t193) := (blk_cell BK200.out 0).trans rfl; have hcz39_1 : w38.cell? ⟨gb200, 1, none⟩ = some (.int .i64 t194) := (blk_cell BK200.out 1).trans rfl; have hcz39_2 : w38.cell? ⟨gb200, 2, none⟩ = some (.int .i64 t195) := (blk_cell BK200.out 2).trans rfl; have hcz39_3 : w38.cell? ⟨gb200, 3, none⟩ = some (.slice Ao17 t196.length co17) := (blk_cell BK200.out 3).trans rfl; have hfz39_0 := blk_frozen BK200.out 0; have hfz39_1 := blk_frozen BK200.out 1; have hfz39_2 := blk_frozen BK200.out 2; have hfz39_3 := blk_frozen BK200.out 3))
                  go_ret
                  exact ⟨by first | rfl | (simp [errW_none, errW_some] <;> rfl) | (simp [*, errW_none, errW_some] <;> rfl), by repeat (first | (with_reducible first | exact HB.out | apply below_alloc | apply pw_below_drewN | apply below_drew1 | refine below_set ?_ GE200.out) | exact HB.out)⟩
              · rw [if_neg c30] at H
                have c30b0 : (t193 == 255) = false := beq_eq_false_iff_ne.mpr c30
                have c30b1 : (t193 != 255) = true := bne_iff_ne.mpr c30
                by_cases c40 : x6_1 = 1
                · rw [if_pos c40] at H
                  have c40b0 : (x6_1 == 1) = true := beq_iff_eq.mpr c40
                  have c40b1 : (x6_1 != 1) = false := bne_eq_false_iff_eq.mpr c40
                  clear c40
                  replace H := Option.bind_eq_some_iff.mp H
                  obtain ⟨t207, A410, H⟩ := H
                  replace H : (some t207) = some r := H
                  have A41 := Aside0.mk A410
                  clear A410
                  obtain rfl := Option.some.inj H
                  have hcz42_0 : wr.cell? ⟨gb200, 0, none⟩ = some (.int .i64 t193) := (blk_cell BK200.out 0).trans rfl
                  have hcz42_1 : wr.cell? ⟨gb200, 1, none⟩ = some (.int .i64 t194) := (blk_cell BK200.out 1).trans rfl
                  have hcz42_2 : wr.cell? ⟨gb200, 2, none⟩ = some (.int .i64 t195) := (blk_cell BK200.out 2).trans rfl
                  have hcz42_3 : wr.cell? ⟨gb200, 3, none⟩ = some (.slice Ao17 t196.length co17) := (blk_cell BK200.out 3).trans rfl
                  have hfz42_0 := blk_frozen BK200.out 0
                  have hfz42_1 := blk_frozen BK200.out 1
                  have hfz42_2 := blk_frozen BK200.out 2
                  have hfz42_3 := blk_frozen BK200.out 3
                  go_wp2_with (first | ((with_reducible refine gate_callee (f := 40) rfl ?_); refine goesL_ (some 34) rfl rfl Try.func40 (by kernel_rfl) rfl #[.agg #[.int .i64 t193, .int .i64 t194, .int .i64 t195, .slice Ao17 t196.length co17]] rfl (by (try simp only [List.map_toArray, List.map_cons, List.map_nil]); first | done | rfl | (simp only [List.length_drop, List.length_take]; rfl)) ?_; (with_reducible refine (impl_FrameOk.calls t193 t194 t195 _ _ t196 true _ ?side1 ?side2 A28.out).mono ?_); (case side1 => repeat (first | exact (Kd.R_reads' HO_201003.out).2.2 | (with_reducible refine Kd.C_alloc ?_ _) | (with_reducible refine Kd.C_drewN ?_ _) | (with_reducible refine Kd.C_drew ?_))); (case side2 => exact (Kd.R_reads' HO_201003.out).2.1); rintro e w43 ⟨rfl, hb⟩; refine ⟨_, rfl, ?_⟩; have n0_ := Aside0.mk (Kd.R_below (by (with_reducible repeat (first | apply Kd.R_alloc | apply Kd.R_drewN | apply Kd.R_drew)); exact HO_201003.out) hb); have n1_ := Aside0.mk (blk_below (g := gb200) (o := .cells #[.int .i64 t193, .int .i64 t194, .int .i64 t195, .slice Ao17 t196.length co17] 51 (0, 0)) (by (with_reducible repeat (first | refine blk_drewN ?_ _ | refine blk_drew ?_ | refine blk_alloc ?_ _)); exact BK200.out) hb); have n2_ := Aside0.mk (below_step (by repeat (first | (with_reducible first | exact HB.out | apply below_alloc | apply pw_below_drewN | apply below_drew1 | refine below_set ?_ GE200.out) | exact HB.out)) hb); clear HO_201003; clear BK200; clear HB; have HO_201003 := n0_; have BK200 := n1_; have HB := n2_; clear n0_ n1_ n2_; (try clear hb); (try clear hb2); (try clear hk); (try clear hi); have hcz44_0 : w43.cell? ⟨gb200, 0, none⟩ = some (.int .i64 t193) := (blk_cell BK200.out 0).trans rfl; have hcz44_1 : w43.cell? ⟨gb200, 1, none⟩ = some (.int .i64 t194) := (blk_cell BK200.out 1).trans rfl; have hcz44_2 : w43.cell? ⟨gb200, 2, none⟩ = some (.int .i64 t195) := (blk_cell BK200.out 2).trans rfl; have hcz44_3 : w43.cell? ⟨gb200, 3, none⟩ = some (.slice Ao17 t196.length co17) := (blk_cell BK200.out 3).trans rfl; have hfz44_0 := blk_frozen BK200.out 0; have hfz44_1 := blk_frozen BK200.out 1; have hfz44_2 := blk_frozen BK200.out 2; have hfz44_3 := blk_frozen BK200.out 3) | (go_at_call 59; (with_reducible refine (impl_FrameFor.calls t193 t194 t195 _ _ t196 t193 t207 _ ?side1 ?side2 A41.out).mono ?_); (case side1 => repeat (first | exact (Kd.R_reads' HO_201003.out).2.2 | (with_reducible refine Kd.C_alloc ?_ _) | (with_reducible refine Kd.C_drewN ?_ _) | (with_reducible refine Kd.C_drew ?_))); (case side2 => exact (Kd.R_reads' HO_201003.out).2.1); rintro e w45 ⟨rfl, hb⟩; have n0_ := Aside0.mk (Kd.R_below (by (with_reducible repeat (first | apply Kd.R_alloc | apply Kd.R_drewN | apply Kd.R_drew)); exact HO_201003.out) hb); have n1_ := Aside0.mk (blk_below (g := gb200) (o := .cells #[.int .i64 t193, .int .i64 t194, .int .i64 t195, .slice Ao17 t196.length co17] 51 (0, 0)) (by (with_reducible repeat (first | refine blk_drewN ?_ _ | refine blk_drew ?_ | refine blk_alloc ?_ _)); exact BK200.out) hb); have n2_ := Aside0.mk (below_step (by repeat (first | (with_reducible first | exact HB.out | apply below_alloc | apply pw_below_drewN | apply below_drew1 | refine below_set ?_ GE200.out) | exact HB.out)) hb); clear HO_201003; clear BK200; clear HB; have HO_201003 := n0_; have BK200 := n1_; have HB := n2_; clear n0_ n1_ n2_; (try clear hb); (try clear hb2); (try clear hk); (try clear hi)))
                  go_ret
                  exact ⟨by first | rfl | (simp [errW_none, errW_some] <;> rfl) | (simp [*, errW_none, errW_some] <;> rfl), by repeat (first | (with_reducible first | exact HB.out | apply below_alloc | apply pw_below_drewN | apply below_drew1 | refine below_set ?_ GE200.out) | exact HB.out)⟩
                · rw [if_neg c40] at H
                  have c40b0 : (x6_1 == 1) = false := beq_eq_false_iff_ne.mpr c40
                  have c40b1 : (x6_1 != 1) = true := bne_iff_ne.mpr c40
                  obtain rfl := Option.some.inj H
                  have hcz46_0 : wr.cell? ⟨gb200, 0, none⟩ = some (.int .i64 t193) := (blk_cell BK200.out 0).trans rfl
                  have hcz46_1 : wr.cell? ⟨gb200, 1, none⟩ = some (.int .i64 t194) := (blk_cell BK200.out 1).trans rfl
                  have hcz46_2 : wr.cell? ⟨gb200, 2, none⟩ = some (.int .i64 t195) := (blk_cell BK200.out 2).trans rfl
                  have hcz46_3 : wr.cell? ⟨gb200, 3, none⟩ = some (.slice Ao17 t196.length co17) := (blk_cell BK200.out 3).trans rfl
                  have hfz46_0 := blk_frozen BK200.out 0
                  have hfz46_1 := blk_frozen BK200.out 1
                  have hfz46_2 := blk_frozen BK200.out 2
                  have hfz46_3 := blk_frozen BK200.out 3
                  go_wp2_with (first | ((with_reducible refine gate_callee (f := 40) rfl ?_); refine goesL_ (some 34) rfl rfl Try.func40 (by kernel_rfl) rfl #[.agg #[.int .i64 t193, .int .i64 t194, .int .i64 t195, .slice Ao17 t196.length co17]] rfl (by (try simp only [List.map_toArray, List.map_cons, List.map_nil]); first | done | rfl | (simp only [List.length_drop, List.length_take]; rfl)) ?_; (with_reducible refine (impl_FrameOk.calls t193 t194 t195 _ _ t196 true _ ?side1 ?side2 A28.out).mono ?_); (case side1 => repeat (first | exact (Kd.R_reads' HO_201003.out).2.2 | (with_reducible refine Kd.C_alloc ?_ _) | (with_reducible refine Kd.C_drewN ?_ _) | (with_reducible refine Kd.C_drew ?_))); (case side2 => exact (Kd.R_reads' HO_201003.out).2.1); rintro e w47 ⟨rfl, hb⟩; refine ⟨_, rfl, ?_⟩; have n0_ := Aside0.mk (Kd.R_below (by (with_reducible repeat (first | apply Kd.R_alloc | apply Kd.R_drewN | apply Kd.R_drew)); exact HO_201003.out) hb); have n1_ := Aside0.mk (blk_below (g := gb200) (o := .cells #[.int .i64 t193, .int .i64 t194, .int .i64 t195, .slice Ao17 t196.length co17] 51 (0, 0)) (by (with_reducible repeat (first | refine blk_drewN ?_ _ | refine blk_drew ?_ | refine blk_alloc ?_ _)); exact BK200.out) hb); have n2_ := Aside0.mk (below_step (by repeat (first | (with_reducible first | exact HB.out | apply below_alloc | apply pw_below_drewN | apply below_drew1 | refine below_set ?_ GE200.out) | exact HB.out)) hb); clear HO_201003; clear BK200; clear HB; have HO_201003 := n0_; have BK200 := n1_; have HB := n2_; clear n0_ n1_ n2_; (try clear hb); (try clear hb2); (try clear hk); (try clear hi); have hcz48_0 : w47.cell? ⟨gb200, 0, none⟩ = some (.int .i64 t193) := (blk_cell BK200.out 0).trans rfl; have hcz48_1 : w47.cell? ⟨gb200, 1, none⟩ = some (.int .i64 t194) := (blk_cell BK200.out 1).trans rfl; have hcz48_2 : w47.cell? ⟨gb200, 2, none⟩ = some (.int .i64 t195) := (blk_cell BK200.out 2).trans rfl; have hcz48_3 : w47.cell? ⟨gb200, 3, none⟩ = some (.slice Ao17 t196.length co17) := (blk_cell BK200.out 3).trans rfl; have hfz48_0 := blk_frozen BK200.out 0; have hfz48_1 := blk_frozen BK200.out 1; have hfz48_2 := blk_frozen BK200.out 2; have hfz48_3 := blk_frozen BK200.out 3))
                  go_ret
                  exact ⟨by first | rfl | (simp [errW_none, errW_some] <;> rfl) | (simp [*, errW_none, errW_some] <;> rfl), by repeat (first | (with_reducible first | exact HB.out | apply below_alloc | apply pw_below_drewN | apply below_drew1 | refine below_set ?_ GE200.out) | exact HB.out)⟩
            · replace c29 := Bool.eq_false_iff.mpr c29
              subst c29
              have H1 : (if x6_1 = 0 then ((laws_alive.f k1).bind fun t205 => (some t205)) else (some false)) = some r := by rw [if_neg (show ¬ (false = true) by decide)] at H; exact H
              clear H
              have H := H1
              clear H1
              by_cases c49 : x6_1 = 0
              · rw [if_pos c49] at H
                have c49b0 : (x6_1 == 0) = true := beq_iff_eq.mpr c49
                have c49b1 : (x6_1 != 0) = false := bne_eq_false_iff_eq.mpr c49
                clear c49
                replace H := Option.bind_eq_some_iff.mp H
                obtain ⟨t205, A500, H⟩ := H
                replace H : (some t205) = some r := H
                have A50 := Aside0.mk A500
                clear A500
                obtain rfl := Option.some.inj H
                have hcz51_0 : wr.cell? ⟨gb200, 0, none⟩ = some (.int .i64 t193) := (blk_cell BK200.out 0).trans rfl
                have hcz51_1 : wr.cell? ⟨gb200, 1, none⟩ = some (.int .i64 t194) := (blk_cell BK200.out 1).trans rfl
                have hcz51_2 : wr.cell? ⟨gb200, 2, none⟩ = some (.int .i64 t195) := (blk_cell BK200.out 2).trans rfl
                have hcz51_3 : wr.cell? ⟨gb200, 3, none⟩ = some (.slice Ao17 t196.length co17) := (blk_cell BK200.out 3).trans rfl
                have hfz51_0 := blk_frozen BK200.out 0
                have hfz51_1 := blk_frozen BK200.out 1
                have hfz51_2 := blk_frozen BK200.out 2
                have hfz51_3 := blk_frozen BK200.out 3
                go_wp2_with (first | ((with_reducible refine gate_callee (f := 40) rfl ?_); refine goesL_ (some 34) rfl rfl Try.func40 (by kernel_rfl) rfl #[.agg #[.int .i64 t193, .int .i64 t194, .int .i64 t195, .slice Ao17 t196.length co17]] rfl (by (try simp only [List.map_toArray, List.map_cons, List.map_nil]); first | done | rfl | (simp only [List.length_drop, List.length_take]; rfl)) ?_; (with_reducible refine (impl_FrameOk.calls t193 t194 t195 _ _ t196 false _ ?side1 ?side2 A28.out).mono ?_); (case side1 => repeat (first | exact (Kd.R_reads' HO_201003.out).2.2 | (with_reducible refine Kd.C_alloc ?_ _) | (with_reducible refine Kd.C_drewN ?_ _) | (with_reducible refine Kd.C_drew ?_))); (case side2 => exact (Kd.R_reads' HO_201003.out).2.1); rintro e w52 ⟨rfl, hb⟩; refine ⟨_, rfl, ?_⟩; have n0_ := Aside0.mk (Kd.R_below (by (with_reducible repeat (first | apply Kd.R_alloc | apply Kd.R_drewN | apply Kd.R_drew)); exact HO_201003.out) hb); have n1_ := Aside0.mk (blk_below (g := gb200) (o := .cells #[.int .i64 t193, .int .i64 t194, .int .i64 t195, .slice Ao17 t196.length co17] 51 (0, 0)) (by (with_reducible repeat (first | refine blk_drewN ?_ _ | refine blk_drew ?_ | refine blk_alloc ?_ _)); exact BK200.out) hb); have n2_ := Aside0.mk (below_step (by repeat (first | (with_reducible first | exact HB.out | apply below_alloc | apply pw_below_drewN | apply below_drew1 | refine below_set ?_ GE200.out) | exact HB.out)) hb); clear HO_201003; clear BK200; clear HB; have HO_201003 := n0_; have BK200 := n1_; have HB := n2_; clear n0_ n1_ n2_; (try clear hb); (try clear hb2); (try clear hk); (try clear hi)) | (go_at_call 19; (with_reducible refine (laws_alive.calls k1  t205 _ A50.out).mono ?_); rintro e w53 ⟨rfl, hb⟩; have n0_ := Aside0.mk (Kd.R_below (by (with_reducible repeat (first | apply Kd.R_alloc | apply Kd.R_drewN | apply Kd.R_drew)); exact HO_201003.out) hb); have n1_ := Aside0.mk (blk_below (g := gb200) (o := .cells #[.int .i64 t193, .int .i64 t194, .int .i64 t195, .slice Ao17 t196.length co17] 51 (0, 0)) (by (with_reducible repeat (first | refine blk_drewN ?_ _ | refine blk_drew ?_ | refine blk_alloc ?_ _)); exact BK200.out) hb); have n2_ := Aside0.mk (below_step (by repeat (first | (with_reducible first | exact HB.out | apply below_alloc | apply pw_below_drewN | apply below_drew1 | refine below_set ?_ GE200.out) | exact HB.out)) hb); clear HO_201003; clear BK200; clear HB; have HO_201003 := n0_; have BK200 := n1_; have HB := n2_; clear n0_ n1_ n2_; (try clear hb); (try clear hb2); (try clear hk); (try clear hi)))
                go_ret
                exact ⟨by first | rfl | (simp [errW_none, errW_some] <;> rfl) | (simp [*, errW_none, errW_some] <;> rfl), by repeat (first | (with_reducible first | exact HB.out | apply below_alloc | apply pw_below_drewN | apply below_drew1 | refine below_set ?_ GE200.out) | exact HB.out)⟩
              · rw [if_neg c49] at H
                have c49b0 : (x6_1 == 0) = false := beq_eq_false_iff_ne.mpr c49
                have c49b1 : (x6_1 != 0) = true := bne_iff_ne.mpr c49
                obtain rfl := Option.some.inj H
                have hcz54_0 : wr.cell? ⟨gb200, 0, none⟩ = some (.int .i64 t193) := (blk_cell BK200.out 0).trans rfl
                have hcz54_1 : wr.cell? ⟨gb200, 1, none⟩ = some (.int .i64 t194) := (blk_cell BK200.out 1).trans rfl
                have hcz54_2 : wr.cell? ⟨gb200, 2, none⟩ = some (.int .i64 t195) := (blk_cell BK200.out 2).trans rfl
                have hcz54_3 : wr.cell? ⟨gb200, 3, none⟩ = some (.slice Ao17 t196.length co17) := (blk_cell BK200.out 3).trans rfl
                have hfz54_0 := blk_frozen BK200.out 0
                have hfz54_1 := blk_frozen BK200.out 1
                have hfz54_2 := blk_frozen BK200.out 2
                have hfz54_3 := blk_frozen BK200.out 3
                go_wp2_with (first | ((with_reducible refine gate_callee (f := 40) rfl ?_); refine goesL_ (some 34) rfl rfl Try.func40 (by kernel_rfl) rfl #[.agg #[.int .i64 t193, .int .i64 t194, .int .i64 t195, .slice Ao17 t196.length co17]] rfl (by (try simp only [List.map_toArray, List.map_cons, List.map_nil]); first | done | rfl | (simp only [List.length_drop, List.length_take]; rfl)) ?_; (with_reducible refine (impl_FrameOk.calls t193 t194 t195 _ _ t196 false _ ?side1 ?side2 A28.out).mono ?_); (case side1 => repeat (first | exact (Kd.R_reads' HO_201003.out).2.2 | (with_reducible refine Kd.C_alloc ?_ _) | (with_reducible refine Kd.C_drewN ?_ _) | (with_reducible refine Kd.C_drew ?_))); (case side2 => exact (Kd.R_reads' HO_201003.out).2.1); rintro e w55 ⟨rfl, hb⟩; refine ⟨_, rfl, ?_⟩; have n0_ := Aside0.mk (Kd.R_below (by (with_reducible repeat (first | apply Kd.R_alloc | apply Kd.R_drewN | apply Kd.R_drew)); exact HO_201003.out) hb); have n1_ := Aside0.mk (blk_below (g := gb200) (o := .cells #[.int .i64 t193, .int .i64 t194, .int .i64 t195, .slice Ao17 t196.length co17] 51 (0, 0)) (by (with_reducible repeat (first | refine blk_drewN ?_ _ | refine blk_drew ?_ | refine blk_alloc ?_ _)); exact BK200.out) hb); have n2_ := Aside0.mk (below_step (by repeat (first | (with_reducible first | exact HB.out | apply below_alloc | apply pw_below_drewN | apply below_drew1 | refine below_set ?_ GE200.out) | exact HB.out)) hb); clear HO_201003; clear BK200; clear HB; have HO_201003 := n0_; have BK200 := n1_; have HB := n2_; clear n0_ n1_ n2_; (try clear hb); (try clear hb2); (try clear hk); (try clear hi)))
                go_ret
                exact ⟨by first | rfl | (simp [errW_none, errW_some] <;> rfl) | (simp [*, errW_none, errW_some] <;> rfl), by repeat (first | (with_reducible first | exact HB.out | apply below_alloc | apply pw_below_drewN | apply below_drew1 | refine below_set ?_ GE200.out) | exact HB.out)⟩

/-- THE ONE PURE STATEMENT of laws_FnFrameFor: yours. -/
def laws_FnFrameFor.Pure : Prop := ∀ (l0 : List Int), l0.length ≤ maxLen → l0.length * 1 ≤ 140737488351232 → (∀ x ∈ l0, (Lit.int .u8 x).wf = true) → ∃ k, laws_FnFrameFor.f k l0 = some true
theorem laws_FnFrameFor.walk (P : laws_FnFrameFor.Pure) (a0 : Option Addr) (len0 cap0 : Nat) (z0 : List Int) (w : World) (w0 : (a0 = none ∧ len0 = 0 ∧ cap0 = 0 ∧ z0 = []) ∨ ∃ x, a0 = some x ∧ len0 ≤ cap0 ∧ cap0 ≤ maxLen ∧ z0.length = cap0 ∧ (∀ i, i < z0.length → w.cell? (x.add i) = some (.int .u8 (z0.getD i 0))) ∧ ∀ n ∈ z0, (Lit.int .u8 n).wf = true) (y0 : len0 * 1 ≤ 140737488351232) :
    Calls Try.prog 14 #[.slice a0 len0 cap0] w fun e w' => e = .returned (.bool true) ∧ Below w.heap.size w w' := by
  obtain ⟨l0, rfl, hr0, hm0, hw0, hc0⟩ := ReadsInt.ofRowC w0
  obtain ⟨k, h⟩ := P l0 hm0 y0 hw0
  refine (laws_FnFrameFor.calls k _ _ l0 true w (Kd.C_of_reads (d := (0 : Int)) (h1 := fun _ => rfl) hr0) hc0 h).mono ?_
  rintro e w' ⟨rfl, hd⟩
  exact ⟨rfl, hd⟩

end Go.Proofs.Ytpoedefohfonjaa.PFnFrameFor

/- The machine side of some functions: each comes to its pure answer (written by a program of this session with the kit's print). No condition. -/
import Derived.Test.YtdbmmkhaeghjaaaPFnPartsOkx0
import Derived.Test.YtdbmmkhaeghjaaaPFnPartsOkx6
namespace Go.Proofs.Ytdbmmkhaeghjaaa.PFnPartsOk
open Go.RowKit Go.Proofs.YtdbmmkhaeghjaaaUFnPartsOk.PrintWords Go.Proofs.YtdbmmkhaeghjaaaUFnPartsOk.PrintLast Go.Proofs.YtdbmmkhaeghjaaaUFnPartsOk.PrintMore
attribute [local go_sem] max2_int min2_int max_two min_two max_three min_three max_four min_four   -- for this text's walks alone
set_option linter.unusedVariables false
set_option linter.unusedSimpArgs false

/-! ### spec_PartWhole: function 32 -/
mutual
def spec_PartWhole.j0 : Nat → Bool → List (S29) → Int → Option (Int × Int × Int × Int × Int × Int × Bool × Bool × List Int × Bool)
 | 0, _, _, _ => none
 | k + 1, x19, x315000, x315001 => if x19 = true then (some (0, 0, 0, 0, 0, 0, false, false, ([] : List Int), false)) else (if 0 < (x315000.length : Int) then (spec_PartWhole.l0 k 0 x315000 x315001 ((rd_T29 x315000 0).f0) ((rd_T29 x315000 0).f1) ((rd_T29 x315000 0).f2) ((rd_T29 x315000 0).f3) ((rd_T29 x315000 0).f4) ((rd_T29 x315000 0).f5) false ((rd_T29 x315000 0).f7) (([] : List Int))) else (none))
def spec_PartWhole.l0 : Nat → Int → List (S29) → Int → Int → Int → Int → Int → Int → Int → Bool → Bool → List Int → Option (Int × Int × Int × Int × Int × Int × Bool × Bool × List Int × Bool)
 | 0, _, _, _, _, _, _, _, _, _, _, _, _ => none
 | k + 1, x5, x315000, x315001, x320000, x320001, x320002, x320003, x320004, x320005, x320006, x320007, x320008 => if x5 < (x315000.length : Int) then (if 0 ≤ x5 then (if ((rd_T29 x315000 x5).f5) = (x320008.length : Int) then (if x320008.length + ((rd_T29 x315000 x5).f8).length < 140737488355328 then (spec_PartWhole.l0 k (wrap64 (x5 + 1)) x315000 x315001 x320000 x320001 x320002 x320003 x320004 x320005 x320006 x320007 (x320008 ++ ((rd_T29 x315000 x5).f8))) else (none)) else (some (0, 0, 0, 0, 0, 0, false, false, ([] : List Int), false))) else (none)) else (some (x320000, x320001, x320002, x320003, x320004, x320005, x320006, x320007, x320008, true))
end
def spec_PartWhole.f (k : Nat) (l0_0 : List (S29)) (a0_1 : Int) : Option (Int × Int × Int × Int × Int × Int × Bool × Bool × List Int × Bool) := (spec_PartOk.f k l0_0 a0_1).bind fun t316 => (if t316 = true then (if 0 ≤ (wrap64 ((l0_0.length : Int) - 1)) then (if (wrap64 ((l0_0.length : Int) - 1)) < (l0_0.length : Int) then (spec_PartWhole.j0 k ((rd_T29 l0_0 (wrap64 ((l0_0.length : Int) - 1))).f6) l0_0 a0_1) else (none)) else (none)) else (spec_PartWhole.j0 k true l0_0 a0_1))
theorem spec_PartWhole.mono_l : ∀ k, (∀ y0 y1 y2, LeO (spec_PartWhole.j0 k y0 y1 y2) (spec_PartWhole.j0 (k + 1) y0 y1 y2)) ∧ (∀ y0 y1 y2 y3 y4 y5 y6 y7 y8 y9 y10 y11, LeO (spec_PartWhole.l0 k y0 y1 y2 y3 y4 y5 y6 y7 y8 y9 y10 y11) (spec_PartWhole.l0 (k + 1) y0 y1 y2 y3 y4 y5 y6 y7 y8 y9 y10 y11))
 | 0 => ⟨fun _ _ _ r h => by simp [spec_PartWhole.j0] at h, fun _ _ _ _ _ _ _ _ _ _ _ _ r h => by simp [spec_PartWhole.l0] at h⟩
 | k + 1 => by
  obtain ⟨ih0, ih1⟩ := spec_PartWhole.mono_l k;refine ⟨?_, ?_⟩
  ·intro y0 y1 y2
   unfold spec_PartWhole.j0
   repeat' first
   | (with_reducible exact ih0 _ _ _)
   | (with_reducible exact ih1 _ _ _ _ _ _ _ _ _ _ _ _)
   | (with_reducible exact spec_PartOk.mono _ _ _)
   | (with_reducible exact LeO.refl _)
   | (with_reducible exact LeO.none _)
   | (with_reducible refine LeO.ite ?_ ?_)
   | (with_reducible refine LeO.bind ?_ (fun _ => ?_))
   | exact ih0 _ _ _
   | exact ih1 _ _ _ _ _ _ _ _ _ _ _ _
   | exact spec_PartOk.mono _ _ _
   | exact LeO.none _
   | refine LeO.ite ?_ ?_
   | refine LeO.bind ?_ (fun _ => ?_)
  ·intro y0 y1 y2 y3 y4 y5 y6 y7 y8 y9 y10 y11
   unfold spec_PartWhole.l0
   repeat' first
   | (with_reducible exact ih0 _ _ _)
   | (with_reducible exact ih1 _ _ _ _ _ _ _ _ _ _ _ _)
   | (with_reducible exact spec_PartOk.mono _ _ _)
   | (with_reducible exact LeO.refl _)
   | (with_reducible exact LeO.none _)
   | (with_reducible refine LeO.ite ?_ ?_)
   | (with_reducible refine LeO.bind ?_ (fun _ => ?_))
   | exact ih0 _ _ _
   | exact ih1 _ _ _ _ _ _ _ _ _ _ _ _
   | exact spec_PartOk.mono _ _ _
   | exact LeO.none _
   | refine LeO.ite ?_ ?_
   | refine LeO.bind ?_ (fun _ => ?_)
theorem spec_PartWhole.mono : ∀ a0 a1 k, LeO (spec_PartWhole.f k a0 a1) (spec_PartWhole.f (k + 1) a0 a1) := by
 intro a0 a1 k;obtain ⟨ih0, ih1⟩ := spec_PartWhole.mono_l k
 unfold spec_PartWhole.f
 repeat' first
   | (with_reducible exact ih0 _ _ _)
   | (with_reducible exact ih1 _ _ _ _ _ _ _ _ _ _ _ _)
   | (with_reducible exact spec_PartOk.mono _ _ _)
   | (with_reducible exact LeO.refl _)
   | (with_reducible exact LeO.none _)
   | (with_reducible refine LeO.ite ?_ ?_)
   | (with_reducible refine LeO.bind ?_ (fun _ => ?_))
   | exact ih0 _ _ _
   | exact ih1 _ _ _ _ _ _ _ _ _ _ _ _
   | exact spec_PartOk.mono _ _ _
   | exact LeO.none _
   | refine LeO.ite ?_ ?_
   | refine LeO.bind ?_ (fun _ => ?_)
def spec_PartWhole.T9 : Bool × List (List Nat × List Nat) := (true, [([], []), ([0], [0]), ([], []), ([1, 2], [1, 2]), ([3], [3]), ([4], [4]), ([], []), ([6], [6]), ([7], [7]), ([5, 8], [5, 8])])
def spec_PartWhole.B9 : List Nat := [0, 1, 0, 7, 15, 31, 0, 64, 192, 511]
theorem spec_PartWhole.tab9 : rtab .any (opsOf Try.f32 9) = spec_PartWhole.T9 := by kernel_rfl
theorem spec_PartWhole.bits9 : waitsOk spec_PartWhole.T9.2 spec_PartWhole.B9 = true := by kernel_rfl
def spec_PartWhole.T11 : Bool × List (List Nat × List Nat) := (true, [([], []), ([0], [0]), ([], []), ([2], [2]), ([], []), ([3, 4], [3, 4]), ([5], [5]), ([6], [6]), ([1, 7], [1, 7]), ([0, 1, 2, 3, 4, 5, 6, 7, 8], []), ([9, 8, 8, 0, 1, 2, 3, 4, 5, 6, 7, 8], [8, 9])])
def spec_PartWhole.B11 : List Nat := [0, 1, 0, 4, 0, 28, 60, 124, 255, 511, 1023]
theorem spec_PartWhole.tab11 : rtab .any (opsOf Try.f32 11) = spec_PartWhole.T11 := by kernel_rfl
theorem spec_PartWhole.bits11 : waitsOk spec_PartWhole.T11.2 spec_PartWhole.B11 = true := by kernel_rfl
set_option maxHeartbeats 8000000 in
set_option maxRecDepth 100000 in
theorem spec_PartWhole.calls (k : Nat) (A0_0 : Option Addr) (c0_0 : Nat) (l0_0 : List (S29)) (a0_1 : Int) (r1 : Int) (r2 : Int) (r3 : Int) (r4 : Int) (r5 : Int) (r6 : Int) (r7 : Bool) (r8 : Bool) (r9 : List Int) (r10 : Bool) (w : World) (hr0_0 : Kd.C k29 w A0_0 l0_0.length l0_0) (hc0_0 : l0_0.length ≤ c0_0) (h : spec_PartWhole.f k l0_0 a0_1 = some (r1, r2, r3, r4, r5, r6, r7, r8, r9, r10)) :
  Calls Try.prog 32 #[.agg #[.slice A0_0 l0_0.length c0_0, .int .i64 a0_1]] w fun e w' => ∃ v8_ : Value, e = .returned (.tuple #[.agg #[.int .i64 r1, .int .i64 r2, .int .i64 r3, .int .i64 r4, .int .i64 r5, .int .i64 r6, .bool r7, .bool r8, v8_], .bool r10]) ∧ Kd.R (Kd.int .u8) 5 w' w.heap.size (fun _ => True) v8_ r9 ∧ Below w.heap.size w w' := by
 have hu36 := Try.underlying36;have hu29 := Try.underlying29;have HR0_0 := Aside0.mk hr0_0;have HC0_0 := Aside0.mk hc0_0;clear hr0_0 hc0_0;have HB := Aside0.mk (Below.refl w.heap.size w);have H : ((spec_PartOk.f k l0_0 a0_1).bind fun t316 => (if t316 = true then (if 0 ≤ (wrap64 ((l0_0.length : Int) - 1)) then (if (wrap64 ((l0_0.length : Int) - 1)) < (l0_0.length : Int) then (spec_PartWhole.j0 k ((rd_T29 l0_0 (wrap64 ((l0_0.length : Int) - 1))).f6) l0_0 a0_1) else (none)) else (none)) else (spec_PartWhole.j0 k true l0_0 a0_1))) = some (r1, r2, r3, r4, r5, r6, r7, r8, r9, r10) := h;clear h;have HC2 := Aside0.mk H;clear H
 go_enter Try.func32, Try.ntmps32
 go_upto_region 1 with (first | ((with_reducible refine gate_dst (N := 1) rfl ?_); (try (refine gate_guard (by rfl) ?_; dsimp only)); refine box_event (by rfl) (N := 1) (by rfl) (cs := #[.slice A0_0 l0_0.length c0_0, .int .i64 a0_1]) (t := 36) zr ?_; intro gb314 hg w3 hbox hb; have BK314 := Aside0.mk (hbox); have GW314 := zg HB hg; replace HB := zbb HB hb; have GE314 := GW314; clear hb hbox hg) | ((with_reducible refine gate_dst (N := 2) rfl ?_); (try (refine gate_guard (by rfl) ?_; dsimp only)); refine box_event (by rfl) (N := 2) (by rfl) (cs := #[.int .i64 0, .int .i64 0, .int .i64 0, .int .i64 0, .int .i64 0, .int .i64 0, .bool false, .bool false, .slice none 0 0]) (t := 29) zr ?_; intro gb315 hg w4 hbox hb; have BK315 := Aside0.mk (hbox); have GW315 := zg HB hg; replace HB := zbb HB hb; have GE315 := GW315; have NB314_315 := zlt BK314 hg; have NB315_314 := zgt BK314 hg; replace BK314 := zq BK314 hb; clear hb hbox hg))
 (try simp only [Act.put, List.setIfInBounds_toArray, List.set_cons_zero, List.set_cons_succ])
 go_cut [19] (fun v19 wc => ∃ (kq : Nat) (x19_1 : Bool), v19 = .bool x19_1 ∧ Aside0 (spec_PartWhole.j0 kq x19_1 l0_0 a0_1 = some (r1, r2, r3, r4, r5, r6, r7, r8, r9, r10)) ∧ Aside0 (kq ≤ k) ∧ Aside0 (wc.heap[gb314]? = some (.cells #[(.slice A0_0 l0_0.length c0_0), .int .i64 a0_1] 36 (0, 0))) ∧ Aside0 (wc.heap[gb315]? = some (.cells #[.int .i64 0, .int .i64 0, .int .i64 0, .int .i64 0, .int .i64 0, .int .i64 0, .bool false, .bool false, (.slice none 0 0)] 29 (0, 0))) ∧ Aside0 (Below w.heap.size w wc))
 case first =>
  have H := HC2.out;clear HC2;replace H := zf H;obtain ⟨t316, A5, H⟩ := H
  by_cases c6 : t316 = true
  ·subst c6
   rw [if_pos rfl] at H;obtain ⟨ji7, hji7⟩ : ∃ j_ : Int, (wrap64 ((l0_0.length : Int) - 1)) = j_ := ⟨_, rfl⟩
   (first | rw [hji7] at H | simp only [hji7] at H)
   (try rw [hji7] at A5);have hji7w : (IntKind.i64.wrap ((l0_0.length : Int) - 1)) = ji7 := (i64_w _).trans hji7
   by_cases c8 : 0 ≤ (ji7)
   ·rw [if_pos c8] at H
    have c8b0 : decide (0 ≤ (ji7)) = true := decide_eq_true c8;clear c8
    (first | rw [c8b0] | (simp only [i64_w, i32_w]; rw [c8b0]) | skip)
    by_cases c9 : (ji7) < (l0_0.length : Int)
    ·rw [if_pos c9] at H
     have c9b0 : decide ((ji7) < (l0_0.length : Int)) = true := decide_eq_true c9;clear c9;have H' := Aside0.mk H;clear H;have hnb10 := NB314_315.out;have hnc10 := NB315_314.out;obtain ⟨_, _, _, _⟩ := zc2 BK314.out
     go_wp2_with (first | ((with_reducible refine gate_callee (f := 14) rfl ?_); refine goesL_ (some 7) rfl rfl Try.func14 (by kernel_rfl) rfl #[.agg #[.slice A0_0 l0_0.length c0_0, .int .i64 a0_1]] rfl zM ?_; (with_reducible refine (spec_PartOk.calls k _ _ l0_0 a0_1 true _ ?side1 ?side2 A5.out).mono ?_); (case side1 => exact zC HR0_0 HB); (case side2 => exact HC0_0.out); rintro e w12 ⟨rfl, hb⟩; refine ⟨_, rfl, ?_⟩; replace BK314 := zq BK314 hb; replace BK315 := zq BK315 hb; replace HB := zbb HB hb; (try clear hb); (try clear hb2); (try clear hk); (try clear hi); obtain ⟨_, _, _, _⟩ := zc2 BK314.out; have p317 : 0 ≤ ((ji7) : Int) := of_decide_eq_true (by first | (with_reducible assumption) | assumption); have q317 : (ji7) < (l0_0.length : Int) := of_decide_eq_true (by first | (with_reducible assumption) | assumption); obtain ⟨ad317, A317_8, c317_8, e317, hx317_0, hx317_1, hx317_2, hx317_3, hx317_4, hx317_5, hx317_6, hx317_7, hx317_8, hl317_8, hi317_8⟩ := at_T29 HR0_0.out (ji7) p317 q317; cases e317; replace hx317_0 := zk HB.out hx317_0; replace hx317_1 := zk HB.out hx317_1; replace hx317_2 := zk HB.out hx317_2; replace hx317_3 := zk HB.out hx317_3; replace hx317_4 := zk HB.out hx317_4; replace hx317_5 := zk HB.out hx317_5; replace hx317_6 := zk HB.out hx317_6; replace hx317_7 := zk HB.out hx317_7; replace hx317_8 := zk HB.out hx317_8; have HR317_8 := Aside0.mk hi317_8; have HC317_8 := Aside0.mk hl317_8; clear hi317_8 hl317_8; replace p317 := eq_true p317; replace q317 := eq_true q317))
     go_meet
     case rel => exact ⟨_, ((rd_T29 l0_0 (ji7)).f6), (by first | rfl | (simp; done) | (simp only [← hji7] <;> (first | rfl | simp)) | (simp [*]; done)), H', ⟨z2⟩, ⟨zK BK314⟩, ⟨zK BK315⟩, ⟨zB HB⟩⟩
    ·rw [if_neg c9] at H
     exact absurd H (by simp)
   ·rw [if_neg c8] at H
    exact absurd H (by simp)
  ·replace c6 := Bool.eq_false_iff.mpr c6
   subst c6
   rw [if_neg (show ¬ (false = true) by decide)] at H;have H' := Aside0.mk H;clear H;have hnb14 := NB314_315.out;have hnc14 := NB315_314.out;obtain ⟨_, _, _, _⟩ := zc2 BK314.out
   go_wp2_with (first | ((with_reducible refine gate_callee (f := 14) rfl ?_); refine goesL_ (some 7) rfl rfl Try.func14 (by kernel_rfl) rfl #[.agg #[.slice A0_0 l0_0.length c0_0, .int .i64 a0_1]] rfl zM ?_; (with_reducible refine (spec_PartOk.calls k _ _ l0_0 a0_1 false _ ?side1 ?side2 A5.out).mono ?_); (case side1 => exact zC HR0_0 HB); (case side2 => exact HC0_0.out); rintro e w16 ⟨rfl, hb⟩; refine ⟨_, rfl, ?_⟩; replace BK314 := zq BK314 hb; replace BK315 := zq BK315 hb; replace HB := zbb HB hb; (try clear hb); (try clear hb2); (try clear hk); (try clear hi)))
   go_meet
   case rel => exact ⟨_, (true), z1, H', ⟨z2⟩, ⟨zK BK314⟩, ⟨zK BK315⟩, ⟨zB HB⟩⟩
 case rest =>
  clear HC2
  obtain ⟨kq, x19_1, rfl, HA, HJ1, BK314, BK315, HB⟩ := hcut
  cases kq with
  | zero => exact absurd HA.out (by simp [spec_PartWhole.j0])
  | succ kj1 =>
   have H := HA.out;clear HA;simp only [spec_PartWhole.j0] at H
   by_cases c17 : x19_1 = true
   ·subst c17
    rw [if_pos rfl] at H;simp only [Option.some.injEq, Prod.mk.injEq] at H;obtain ⟨rfl, rfl, rfl, rfl, rfl, rfl, rfl, rfl, rfl, rfl⟩ := H;have hnb18 := NB315_314.out;have hnc18 := NB314_315.out;obtain ⟨_, _, _, _, _, _, _, _, _, _, _, _, _, _, _, _, _, _⟩ := zc9 BK315.out
    go_wp2
    refine bodyPost_ret (results_ct rfl _ _ gb315 29 #[.int .i64 0, .int .i64 0, .int .i64 0, .int .i64 0, .int .i64 0, .int .i64 0, .bool false, .bool false, .slice none 0 0] (0, 0) _ rfl (zW (zpt (zpt (zpt (zpt (zpt (zpt (zpt (zpt (zpt (zK BK315))))))))))) Try.underlying29 rfl (by kernel_rfl)) rfl ?_;exact ⟨_, by first | rfl | (simp <;> rfl) | (simp [*] <;> rfl), by first | exact Kd.R_nil _ _ _ _ _ | exact Kd.N_nil _ _ _ _ _ | exact Kd.V_nil _ _ _ _ _ | exact Kd.Q_nil _ _ _ _ _ | exact Kd.S_nil _ _ _ _ _, zB HB⟩
   ·replace c17 := Bool.eq_false_iff.mpr c17
    subst c17
    rw [if_neg (show ¬ (false = true) by decide)] at H
    by_cases c20 : 0 < (l0_0.length : Int)
    ·rw [if_pos c20] at H
     have c20b0 : decide (0 < (l0_0.length : Int)) = true := decide_eq_true c20;have c20b1 : decide (0 < l0_0.length) = true := decide_eq_true (by omega);clear c20;(first | (with_reducible (replace H := zy H); obtain ⟨y320, Ny320, H⟩ := H) | (obtain ⟨y320, hy320⟩ : ∃ y_ : List Int, y_ = (([] : List Int)) := ⟨_, rfl⟩; rw [← hy320] at H; have Ny320 := Aside0.mk hy320; clear hy320));have H' := Aside0.mk H;clear H;have hnb21 := NB314_315.out;have hnc21 := NB315_314.out;obtain ⟨_, _, _, _⟩ := zc2 BK314.out;have p318 : 0 ≤ (0 : Int) := (by omega);have q318 : 0 < (l0_0.length : Int) := of_decide_eq_true (by first | (with_reducible assumption) | assumption);obtain ⟨ad318, A318_8, c318_8, e318, hx318_0, hx318_1, hx318_2, hx318_3, hx318_4, hx318_5, hx318_6, hx318_7, hx318_8, hl318_8, hi318_8⟩ := at_T29 HR0_0.out 0 p318 q318
     cases e318
     have qi318 : (0 < l0_0.length) = True := eq_true (by omega);(try rw [show ((0 : Int)).toNat = 0 from rfl] at hx318_0 hx318_1 hx318_2 hx318_3 hx318_4 hx318_5 hx318_6 hx318_7 hx318_8);(try rw [show 0 * 9 = 0 from rfl] at hx318_0 hx318_1 hx318_2 hx318_3 hx318_4 hx318_5 hx318_6 hx318_7 hx318_8);(try rw [Addr.add_zero'] at hx318_0 hx318_1 hx318_2 hx318_3 hx318_4 hx318_5 hx318_6 hx318_7 hx318_8);replace hx318_0 := zk HB.out hx318_0;replace hx318_1 := zk HB.out hx318_1;replace hx318_2 := zk HB.out hx318_2;replace hx318_3 := zk HB.out hx318_3;replace hx318_4 := zk HB.out hx318_4;replace hx318_5 := zk HB.out hx318_5;replace hx318_6 := zk HB.out hx318_6;replace hx318_7 := zk HB.out hx318_7;replace hx318_8 := zk HB.out hx318_8;have HR318_8 := Aside0.mk hi318_8;have HC318_8 := Aside0.mk hl318_8;clear hi318_8 hl318_8;replace p318 := eq_true p318;replace q318 := eq_true q318
     go_wp2_with (first | ((with_reducible refine gate_dst (N := 4) rfl ?_); (try (refine gate_guard (by rfl) ?_; dsimp only)); refine box_event (by rfl) (N := 4) (by rfl) (cs := #[.int .i64 0, .int .i64 0, .int .i64 0, .int .i64 0, .int .i64 0, .int .i64 0, .bool false, .bool false, .slice none 0 0]) (t := 29) zr ?_; intro gb319 hg w23 hbox hb; have BK319 := Aside0.mk (hbox); have GW319 := zg HB hg; replace HB := zbb HB hb; have GE319 := GW319; have NB314_319 := zlt BK314 hg; have NB319_314 := zgt BK314 hg; replace BK314 := zq BK314 hb; have NB315_319 := zlt BK315 hg; have NB319_315 := zgt BK315 hg; replace BK315 := zq BK315 hb; clear hb hbox hg; have hnb24 := NB319_314.out; have hnc24 := NB314_319.out; have hnb25 := NB319_315.out; have hnc25 := NB315_319.out; obtain ⟨_, _, _, _, _, _, _, _, _, _, _, _, _, _, _, _, _, _⟩ := zc9 BK319.out) | ((with_reducible refine gate_dst (N := 26) rfl ?_); (try (refine gate_guard (by rfl) ?_; dsimp only)); refine Kd.R_lit (Kd.int .u8) _ 5 (by rfl) (N := 26) (by rfl) (xs := ([] : List Int)) (inner := []) (ok := fun _ => True) (okp := fun _ => True) zr ?hp (fun _ hk => hk) trivial (Below.refl _ _) (Nat.le_refl _) (by simp) ?_; (case hp => exact (Reps.none _ _)); intro v321 w27 ho28 hb hg_ hnew_; clear hg_ hnew_; (first | rw [← Ny320.out] at ho28 | (simp only [Int.reduceToNat] at ho28; rw [← Ny320.out] at ho28)); have HO322 := Aside0.mk (Kd.R_lower ho28 (below_size (zB HB))); replace BK314 := Aside0.mk (blk_below (g := gb314) (o := .cells #[.slice (some ad318) l0_0.length c0_0, .int .i64 a0_1] 36 (0, 0)) (zfr NB314_319 (zfr NB314_319 (zfr NB314_319 (zfr NB314_319 (zfr NB314_319 (zfr NB314_319 (zfr NB314_319 (zfr NB314_319 (zfr NB314_319 (zfr NB314_319 (zK BK314))))))))))) hb); replace BK315 := Aside0.mk (blk_below (g := gb315) (o := .cells #[.int .i64 0, .int .i64 0, .int .i64 0, .int .i64 0, .int .i64 0, .int .i64 0, .bool false, .bool false, .slice none 0 0] 29 (0, 0)) (zfr NB315_319 (zfr NB315_319 (zfr NB315_319 (zfr NB315_319 (zfr NB315_319 (zfr NB315_319 (zfr NB315_319 (zfr NB315_319 (zfr NB315_319 (zfr NB315_319 (zK BK315))))))))))) hb); replace BK319 := Aside0.mk (blk_below (g := gb319) (o := .cells #[.int .i64 ((rd_T29 l0_0 0).f0), .int .i64 ((rd_T29 l0_0 0).f1), .int .i64 ((rd_T29 l0_0 0).f2), .int .i64 ((rd_T29 l0_0 0).f3), .int .i64 ((rd_T29 l0_0 0).f4), .int .i64 ((rd_T29 l0_0 0).f5), .bool false, .bool ((rd_T29 l0_0 0).f7), .slice A318_8 ((rd_T29 l0_0 0).f8).length c318_8] 29 (0, 0)) (zW (zpt (zpt (zpt (zpt (zpt (zpt (zpt (zpt (zpt (zpt (zK BK319)))))))))))) hb); replace HB := zbb HB hb; clear hb ho28; obtain ⟨Ao29, co29, eo29⟩ := Kd.R_slice HO322.out; subst eo29; obtain ⟨_, _, _, _, _, _, _, _, _, _, _, _, _, _, _, _, _, _⟩ := zc9 BK319.out))
     go_loopg [5] kj1 (fun kq v5 w' => ∃ (x5_2 : Int) (x316000_2 : Int) (x316001_2 : Int) (x316002_2 : Int) (x316003_2 : Int) (x316004_2 : Int) (x316005_2 : Int) (x316006_2 : Bool) (x316007_2 : Bool) (x320008_2 : List Int) (u320008 : Value), v5 = .int .i64 x5_2 ∧ Aside0 (spec_PartWhole.l0 kq x5_2 l0_0 a0_1 ((rd_T29 l0_0 0).f0) ((rd_T29 l0_0 0).f1) ((rd_T29 l0_0 0).f2) ((rd_T29 l0_0 0).f3) ((rd_T29 l0_0 0).f4) ((rd_T29 l0_0 0).f5) false ((rd_T29 l0_0 0).f7) x320008_2 = some (r1, r2, r3, r4, r5, r6, r7, r8, r9, r10)) ∧ Aside0 (kq ≤ kj1) ∧ Aside0 (Kd.R (Kd.int .u8) 5 w' w.heap.size (fun _ => True) u320008 x320008_2) ∧ Aside0 (w'.heap[gb314]? = some (.cells #[(.slice (some ad318) l0_0.length c0_0), .int .i64 a0_1] 36 (0, 0))) ∧ Aside0 (w'.heap[gb315]? = some (.cells #[.int .i64 x316000_2, .int .i64 x316001_2, .int .i64 x316002_2, .int .i64 x316003_2, .int .i64 x316004_2, .int .i64 x316005_2, .bool x316006_2, .bool x316007_2, (.slice none 0 0)] 29 (0, 0))) ∧ Aside0 (w'.heap[gb319]? = some (.cells #[.int .i64 ((rd_T29 l0_0 0).f0), .int .i64 ((rd_T29 l0_0 0).f1), .int .i64 ((rd_T29 l0_0 0).f2), .int .i64 ((rd_T29 l0_0 0).f3), .int .i64 ((rd_T29 l0_0 0).f4), .int .i64 ((rd_T29 l0_0 0).f5), .bool false, .bool ((rd_T29 l0_0 0).f7), u320008] 29 (0, 0))) ∧ Aside0 (Below w.heap.size w w'))
     case atStart => exact ⟨(0), (0), (0), (0), (0), (0), (0), (false), (false), (y320), (.slice Ao29 y320.length co29), z1, H', ⟨Nat.le_refl _⟩, ⟨by (with_reducible repeat (first | apply Kd.R_alloc | apply Kd.R_drewN | apply Kd.R_drew)); exact Kd.R_mono (zRf (Kd.R_types HO322.out BK319.out (by decide))) (fun _ hk => trivial)⟩, ⟨zfr NB314_319 (zK BK314)⟩, ⟨zfr NB315_319 (zK BK315)⟩, ⟨zW (zpt (zK BK319))⟩, ⟨zB HB⟩⟩
     case round =>
      clear H'
      try clear c17
      try clear c20
      try clear c20b0
      try clear c20b1
      try clear hx318_0
      try clear hx318_1
      try clear hx318_2
      try clear hx318_3
      try clear hx318_4
      try clear hx318_5
      try clear hx318_6
      try clear hx318_7
      try clear hx318_8
      try clear p318
      try clear q318
      obtain ⟨x5_2, x316000_2, x316001_2, x316002_2, x316003_2, x316004_2, x316005_2, x316006_2, x316007_2, x320008_2, u320008, rfl, HA, HK2, HO_320008, BK314, BK315, BK319, HB⟩ := hrel
      cases gk with
      | zero => exact absurd HA.out (by simp [spec_PartWhole.l0])
      | succ k2 =>
       have H := HA.out;clear HA;simp only [spec_PartWhole.l0] at H
       by_cases c31 : x5_2 < (l0_0.length : Int)
       ·rw [if_pos c31] at H
        have c31b0 : decide (x5_2 < (l0_0.length : Int)) = true := decide_eq_true c31;clear c31
        by_cases c32 : 0 ≤ x5_2
        ·rw [if_pos c32] at H
         have c32b0 : decide (0 ≤ x5_2) = true := decide_eq_true c32;clear c32
         by_cases c33 : ((rd_T29 l0_0 x5_2).f5) = (x320008_2.length : Int)
         ·rw [if_pos c33] at H
          have c33b0 : (((rd_T29 l0_0 x5_2).f5) == (x320008_2.length : Int)) = true := beq_iff_eq.mpr c33;have c33b1 : (((rd_T29 l0_0 x5_2).f5) != (x320008_2.length : Int)) = false := bne_eq_false_iff_eq.mpr c33;clear c33
          by_cases c34 : x320008_2.length + ((rd_T29 l0_0 x5_2).f8).length < 140737488355328
          ·rw [if_pos c34] at H
           have LMc34 := Aside0.mk c34;clear c34;(first | (with_reducible (replace H := zy H); obtain ⟨y325, Ny325, H⟩ := H) | (obtain ⟨y325, hy325⟩ : ∃ y_ : List Int, y_ = (x320008_2 ++ ((rd_T29 l0_0 x5_2).f8)) := ⟨_, rfl⟩; rw [← hy325] at H; have Ny325 := Aside0.mk hy325; clear hy325));have H' := Aside0.mk H;clear H;have hnb35 := NB314_315.out;have hnc35 := NB315_314.out;have hnb36 := NB314_319.out;have hnc36 := NB319_314.out;obtain ⟨_, _, _, _⟩ := zc2 BK314.out
           try go_wp2
           replace HO_320008 := Aside0.mk (Kd.R_drew HO_320008.out); replace BK314 := Aside0.mk (blk_drew BK314.out); replace BK315 := Aside0.mk (blk_drew BK315.out); replace BK319 := Aside0.mk (blk_drew BK319.out); replace HB := Aside0.mk (below_drew1 HB.out);have p323 : 0 ≤ (x5_2 : Int) := of_decide_eq_true (by first | (with_reducible assumption) | assumption);have q323 : x5_2 < (l0_0.length : Int) := of_decide_eq_true (by first | (with_reducible assumption) | assumption);obtain ⟨ad323, A323_8, c323_8, e323, hx323_0, hx323_1, hx323_2, hx323_3, hx323_4, hx323_5, hx323_6, hx323_7, hx323_8, hl323_8, hi323_8⟩ := at_T29 HR0_0.out x5_2 p323 q323;have hw323_8 := hx323_8;have hw323_7 := hx323_7;have hw323_6 := hx323_6;have hw323_5 := hx323_5;have hw323_4 := hx323_4;have hw323_3 := hx323_3;have hw323_2 := hx323_2;have hw323_1 := hx323_1;have hw323_0 := hx323_0;obtain rfl : ad318 = ad323 := (by injection e323);replace hx323_0 := zk HB.out hx323_0;replace hx323_1 := zk HB.out hx323_1;replace hx323_2 := zk HB.out hx323_2;replace hx323_3 := zk HB.out hx323_3;replace hx323_4 := zk HB.out hx323_4;replace hx323_5 := zk HB.out hx323_5;replace hx323_6 := zk HB.out hx323_6;replace hx323_7 := zk HB.out hx323_7;replace hx323_8 := zk HB.out hx323_8;have HR323_8 := Aside0.mk hi323_8;have HC323_8 := Aside0.mk hl323_8;clear hi323_8 hl323_8;replace p323 := eq_true p323;replace q323 := eq_true q323;obtain ⟨Ao39, co39, eo39⟩ := Kd.R_slice HO_320008.out
           (first | subst eo39 | (injection eo39 with f1_ f2_ f3_; have f4_ := f1_.symm; have f5_ := f3_.symm; clear f1_ f2_ f3_; subst f4_; subst f5_))
           refine start_ (n := 10) (S := fun w' => w'.cell? ⟨gb314, 0, none⟩ = some (.slice (some ad318) l0_0.length c0_0) ∧ w'.cell? ⟨gb314, 1, none⟩ = some (.int .i64 a0_1) ∧ w'.cell? ⟨gb319, 0, none⟩ = some (.int .i64 ((rd_T29 l0_0 0).f0)) ∧ w'.cell? ⟨gb319, 1, none⟩ = some (.int .i64 ((rd_T29 l0_0 0).f1)) ∧ w'.cell? ⟨gb319, 2, none⟩ = some (.int .i64 ((rd_T29 l0_0 0).f2)) ∧ w'.cell? ⟨gb319, 3, none⟩ = some (.int .i64 ((rd_T29 l0_0 0).f3)) ∧ w'.cell? ⟨gb319, 4, none⟩ = some (.int .i64 ((rd_T29 l0_0 0).f4)) ∧ w'.cell? ⟨gb319, 5, none⟩ = some (.int .i64 ((rd_T29 l0_0 0).f5)) ∧ w'.cell? ⟨gb319, 6, none⟩ = some (.bool false) ∧ w'.cell? ⟨gb319, 7, none⟩ = some (.bool ((rd_T29 l0_0 0).f7)) ∧ w'.cell? ⟨gb319, 8, none⟩ = some (.slice Ao39 x320008_2.length co39) ∧ w'.cell? (ad318.add ((x5_2).toNat * 9)) = some (.int .i64 ((rd_T29 l0_0 x5_2).f0)) ∧ w'.cell? ⟨(ad318.add ((x5_2).toNat * 9)).block, (ad318.add ((x5_2).toNat * 9)).off + 1, none⟩ = some (.int .i64 ((rd_T29 l0_0 x5_2).f1)) ∧ w'.cell? ⟨(ad318.add ((x5_2).toNat * 9)).block, (ad318.add ((x5_2).toNat * 9)).off + 2, none⟩ = some (.int .i64 ((rd_T29 l0_0 x5_2).f2)) ∧ w'.cell? ⟨(ad318.add ((x5_2).toNat * 9)).block, (ad318.add ((x5_2).toNat * 9)).off + 3, none⟩ = some (.int .i64 ((rd_T29 l0_0 x5_2).f3)) ∧ w'.cell? ⟨(ad318.add ((x5_2).toNat * 9)).block, (ad318.add ((x5_2).toNat * 9)).off + 4, none⟩ = some (.int .i64 ((rd_T29 l0_0 x5_2).f4)) ∧ w'.cell? ⟨(ad318.add ((x5_2).toNat * 9)).block, (ad318.add ((x5_2).toNat * 9)).off + 5, none⟩ = some (.int .i64 ((rd_T29 l0_0 x5_2).f5)) ∧ w'.cell? ⟨(ad318.add ((x5_2).toNat * 9)).block, (ad318.add ((x5_2).toNat * 9)).off + 6, none⟩ = some (.bool ((rd_T29 l0_0 x5_2).f6)) ∧ w'.cell? ⟨(ad318.add ((x5_2).toNat * 9)).block, (ad318.add ((x5_2).toNat * 9)).off + 7, none⟩ = some (.bool ((rd_T29 l0_0 x5_2).f7)) ∧ w'.cell? ⟨(ad318.add ((x5_2).toNat * 9)).block, (ad318.add ((x5_2).toNat * 9)).off + 8, none⟩ = some (.slice A323_8 ((rd_T29 l0_0 x5_2).f8).length c323_8)) (ds := []) (bitsA 10 0) (by kernel_rfl) rfl rfl zH (fun hHeld => ?_); refine with_tabW spec_PartWhole.tab9 spec_PartWhole.bits9 (fun HT_ HW_ => ?_)
           generalize wr.drew = w38 at HO_320008 BK314 BK315 BK319 HB HR323_8 hx323_0 hx323_1 hx323_2 hx323_3 hx323_4 hx323_5 hx323_6 hx323_7 hx323_8 hHeld ⊢
           refine zp (i := 0) (N := some 35) (bitsA 10 1) HT_ ?_;refine zp (i := 2) (N := some 37) (bitsA 10 5) HT_ ?_;refine zp (i := 6) (N := some 41) (bitsA 10 69) HT_ ?_;refine zt (i := 1) (N := some 36) (bitsA 10 71) HT_ HW_ hHeld ?_;refine zp (i := 3) (N := some 38) (bitsA 10 79) HT_ ?_;refine zp (i := 4) (N := some 39) (bitsA 10 95) HT_ ?_;refine zt (i := 5) (N := some 40) (bitsA 10 127) HT_ HW_ hHeld ?_;refine zt (i := 7) (N := some 42) (bitsA 10 255) HT_ HW_ hHeld ?_;refine zp (i := 8) (N := some 43) (bitsA 10 511) HT_ ?_;refine zp (i := 9) (N := some 44) (bitsA 10 1023) HT_ ?_;refine done_ (done_of HT_.out (by kernel_rfl)) ?_
           try go_wp2
           replace HO_320008 := Aside0.mk (Kd.R_drew HO_320008.out); replace BK314 := Aside0.mk (blk_drew BK314.out); replace BK315 := Aside0.mk (blk_drew BK315.out); replace BK319 := Aside0.mk (blk_drew BK319.out); replace HB := Aside0.mk (below_drew1 HB.out);have p324 : 0 ≤ (x5_2 : Int) := of_decide_eq_true (by first | (with_reducible assumption) | assumption);have q324 : x5_2 < (l0_0.length : Int) := of_decide_eq_true (by first | (with_reducible assumption) | assumption);obtain ⟨ad324, A324_8, c324_8, e324, hx324_0, hx324_1, hx324_2, hx324_3, hx324_4, hx324_5, hx324_6, hx324_7, hx324_8, hl324_8, hi324_8⟩ := at_T29 HR0_0.out x5_2 p324 q324;have hw324_8 := hx324_8;have hw324_7 := hx324_7;have hw324_6 := hx324_6;have hw324_5 := hx324_5;have hw324_4 := hx324_4;have hw324_3 := hx324_3;have hw324_2 := hx324_2;have hw324_1 := hx324_1;have hw324_0 := hx324_0;obtain rfl : ad318 = ad324 := (by injection e324);replace hx324_0 := zk HB.out hx324_0;replace hx324_1 := zk HB.out hx324_1;replace hx324_2 := zk HB.out hx324_2;replace hx324_3 := zk HB.out hx324_3;replace hx324_4 := zk HB.out hx324_4;replace hx324_5 := zk HB.out hx324_5;replace hx324_6 := zk HB.out hx324_6;replace hx324_7 := zk HB.out hx324_7;replace hx324_8 := zk HB.out hx324_8;have HR324_8 := Aside0.mk hi324_8;have HC324_8 := Aside0.mk hl324_8;clear hi324_8 hl324_8;replace p324 := eq_true p324;replace q324 := eq_true q324;refine start_ (n := 11) (S := fun w' => w'.cell? ⟨gb319, 0, none⟩ = some (.int .i64 ((rd_T29 l0_0 0).f0)) ∧ w'.cell? ⟨gb319, 1, none⟩ = some (.int .i64 ((rd_T29 l0_0 0).f1)) ∧ w'.cell? ⟨gb319, 2, none⟩ = some (.int .i64 ((rd_T29 l0_0 0).f2)) ∧ w'.cell? ⟨gb319, 3, none⟩ = some (.int .i64 ((rd_T29 l0_0 0).f3)) ∧ w'.cell? ⟨gb319, 4, none⟩ = some (.int .i64 ((rd_T29 l0_0 0).f4)) ∧ w'.cell? ⟨gb319, 5, none⟩ = some (.int .i64 ((rd_T29 l0_0 0).f5)) ∧ w'.cell? ⟨gb319, 6, none⟩ = some (.bool false) ∧ w'.cell? ⟨gb319, 7, none⟩ = some (.bool ((rd_T29 l0_0 0).f7)) ∧ w'.cell? ⟨gb319, 8, none⟩ = some (.slice Ao39 x320008_2.length co39) ∧ w'.cell? ⟨gb314, 0, none⟩ = some (.slice (some ad318) l0_0.length c0_0) ∧ w'.cell? ⟨gb314, 1, none⟩ = some (.int .i64 a0_1) ∧ w'.cell? (ad318.add ((x5_2).toNat * 9)) = some (.int .i64 ((rd_T29 l0_0 x5_2).f0)) ∧ w'.cell? ⟨(ad318.add ((x5_2).toNat * 9)).block, (ad318.add ((x5_2).toNat * 9)).off + 1, none⟩ = some (.int .i64 ((rd_T29 l0_0 x5_2).f1)) ∧ w'.cell? ⟨(ad318.add ((x5_2).toNat * 9)).block, (ad318.add ((x5_2).toNat * 9)).off + 2, none⟩ = some (.int .i64 ((rd_T29 l0_0 x5_2).f2)) ∧ w'.cell? ⟨(ad318.add ((x5_2).toNat * 9)).block, (ad318.add ((x5_2).toNat * 9)).off + 3, none⟩ = some (.int .i64 ((rd_T29 l0_0 x5_2).f3)) ∧ w'.cell? ⟨(ad318.add ((x5_2).toNat * 9)).block, (ad318.add ((x5_2).toNat * 9)).off + 4, none⟩ = some (.int .i64 ((rd_T29 l0_0 x5_2).f4)) ∧ w'.cell? ⟨(ad318.add ((x5_2).toNat * 9)).block, (ad318.add ((x5_2).toNat * 9)).off + 5, none⟩ = some (.int .i64 ((rd_T29 l0_0 x5_2).f5)) ∧ w'.cell? ⟨(ad318.add ((x5_2).toNat * 9)).block, (ad318.add ((x5_2).toNat * 9)).off + 6, none⟩ = some (.bool ((rd_T29 l0_0 x5_2).f6)) ∧ w'.cell? ⟨(ad318.add ((x5_2).toNat * 9)).block, (ad318.add ((x5_2).toNat * 9)).off + 7, none⟩ = some (.bool ((rd_T29 l0_0 x5_2).f7)) ∧ w'.cell? ⟨(ad318.add ((x5_2).toNat * 9)).block, (ad318.add ((x5_2).toNat * 9)).off + 8, none⟩ = some (.slice A324_8 ((rd_T29 l0_0 x5_2).f8).length c324_8)) (ds := [10]) (bitsA 11 0) (by kernel_rfl) rfl rfl zH (fun hHeld => ?_); refine with_tabW spec_PartWhole.tab11 spec_PartWhole.bits11 (fun HT_ HW_ => ?_)
           generalize w38.drew = w40 at HO_320008 BK314 BK315 BK319 HB HR324_8 hx324_0 hx324_1 hx324_2 hx324_3 hx324_4 hx324_5 hx324_6 hx324_7 hx324_8 hHeld ⊢
           refine zp (i := 0) (N := some 46) (bitsA 11 1) HT_ ?_;refine zp (i := 2) (N := some 48) (bitsA 11 5) HT_ ?_;refine zp (i := 4) (N := some 50) (bitsA 11 21) HT_ ?_;refine zt (i := 1) (N := some 47) (bitsA 11 23) HT_ HW_ hHeld ?_;refine zt (i := 3) (N := some 49) (bitsA 11 31) HT_ HW_ hHeld ?_;refine zp (i := 5) (N := some 51) (bitsA 11 63) HT_ ?_;refine zp (i := 6) (N := some 52) (bitsA 11 127) HT_ ?_;refine zt (i := 7) (N := some 53) (bitsA 11 255) HT_ HW_ hHeld ?_;refine zone (i := 8) (N := some 54) (bitsA 11 511) HT_ (fun K hK => ?_);refine Kd.R_append_rows_step (Kd.int .u8) (w0 := w) w.heap.size (by rfl) (.tmp 47) (.tmp 53) 22 5 (.int .u8 0) 1 rfl Try.underlying22 info5 rfl (by decide) (by omega) (.slice Ao39 x320008_2.length co39) x320008_2 ((rd_T29 l0_0 x5_2).f8) _ _ _ (fun _ => True) (fun _ => False) rfl rfl ?aO ?aR (fun _ _ h => h) (fun _ h => h.elim) ?aF ?aB ?aS ?aL ?_
           (case aR => repeat (first | exact (Kd.C_below HR324_8.out HB.out) | (with_reducible first | refine Kd.C_alloc ?_ _ | refine Kd.C_drewN ?_ _ | refine Kd.C_drew ?_)))
           (case aB => exact (zB HB))
           (case aF => exact (fun _ _ => trivial))
           (case aO => exact (zO HO_320008))
           (case aS => exact (below_size (zB HB)))
           (case aL => have := LMc34.out; omega)
           intro v326 w41 ho hb hg hat
           rw [← Ny325.out] at ho
           replace BK314 := Aside0.mk (blk_grown (zK BK314) hg (Kd.R_ne HO_320008.out BK314.out (by decide))); replace BK315 := Aside0.mk (blk_grown (zK BK315) hg (Kd.R_ne HO_320008.out BK315.out (by decide))); replace BK319 := Aside0.mk (blk_grown (zK BK319) hg (Kd.R_ne HO_320008.out BK319.out (by decide))); replace HB := Aside0.mk (hb); have HO327 := Aside0.mk (ho); clear HO_320008;clear ho hb hg hat;obtain ⟨Ao42, co42, eo42⟩ := Kd.R_slice HO327.out
           (first | subst eo42 | (injection eo42 with f1_ f2_ f3_; have f4_ := f1_.symm; have f5_ := f3_.symm; clear f1_ f2_ f3_; subst f4_; subst f5_))
           refine hK.out _ _ zH (fun hHeld => ?_);clear hK K;refine znorm ?_;refine zp (i := 9) (N := some 55) (bitsA 11 1023) HT_ ?_;refine last_ (i := 10) (N := none) (bitsA 11 2047) rfl rfl (one_of HT_.out (by kernel_rfl)) (by decide) (fun K hK => ?_);have hs43 : w41.cell? ⟨gb319, 8, none⟩ = some (.slice Ao39 x320008_2.length co39) := (blk_cell BK319.out 8).trans rfl;have hfs43 := blk_frozen BK319.out 8;have hns43_0 := NB314_319.out;have hns43_1 := NB315_319.out;have hms43_0 := NB319_314.out;have hms43_1 := NB319_315.out;refine skip_ (w1 := ?_) (by rfl) rfl ?_ ?_;rotate_left; (focus (go_simp; rfl));refine hK.out _ _ ?_;clear hK K;refine done_ (done_of HT_.out (by kernel_rfl)) ?_
           try go_wp2
           go_roundg k2
           case measure => have := HJ1.out; have := HK2.out; omega
           case rel => exact ⟨(wrap64 (x5_2 + 1)), (x316000_2), (x316001_2), (x316002_2), (x316003_2), (x316004_2), (x316005_2), (x316006_2), (x316007_2), (y325), (.slice Ao42 y325.length co42), z1, H', ⟨by have := HJ1.out; have := HK2.out; omega⟩, ⟨by (with_reducible repeat (first | apply Kd.R_alloc | apply Kd.R_drewN | apply Kd.R_drew)); exact Kd.R_mono (zRf (Kd.R_types HO327.out BK319.out (by decide))) (fun _ hk => trivial)⟩, ⟨zfr NB314_319 (zK BK314)⟩, ⟨zfr NB315_319 (zK BK315)⟩, ⟨zW (zpt (zK BK319))⟩, ⟨zB HB⟩⟩
          ·rw [if_neg c34] at H
           exact absurd H (by simp)
         ·rw [if_neg c33] at H
          have c33b0 : (((rd_T29 l0_0 x5_2).f5) == (x320008_2.length : Int)) = false := beq_eq_false_iff_ne.mpr c33;have c33b1 : (((rd_T29 l0_0 x5_2).f5) != (x320008_2.length : Int)) = true := bne_iff_ne.mpr c33;simp only [Option.some.injEq, Prod.mk.injEq] at H;obtain ⟨rfl, rfl, rfl, rfl, rfl, rfl, rfl, rfl, rfl, rfl⟩ := H;have hnb44 := NB314_315.out;have hnc44 := NB315_314.out;have hnb45 := NB314_319.out;have hnc45 := NB319_314.out;obtain ⟨_, _, _, _⟩ := zc2 BK314.out
          try go_wp2
          replace HO_320008 := Aside0.mk (Kd.R_drew HO_320008.out); replace BK314 := Aside0.mk (blk_drew BK314.out); replace BK315 := Aside0.mk (blk_drew BK315.out); replace BK319 := Aside0.mk (blk_drew BK319.out); replace HB := Aside0.mk (below_drew1 HB.out);have p323 : 0 ≤ (x5_2 : Int) := of_decide_eq_true (by first | (with_reducible assumption) | assumption);have q323 : x5_2 < (l0_0.length : Int) := of_decide_eq_true (by first | (with_reducible assumption) | assumption);obtain ⟨ad323, A323_8, c323_8, e323, hx323_0, hx323_1, hx323_2, hx323_3, hx323_4, hx323_5, hx323_6, hx323_7, hx323_8, hl323_8, hi323_8⟩ := at_T29 HR0_0.out x5_2 p323 q323;have hw323_8 := hx323_8;have hw323_7 := hx323_7;have hw323_6 := hx323_6;have hw323_5 := hx323_5;have hw323_4 := hx323_4;have hw323_3 := hx323_3;have hw323_2 := hx323_2;have hw323_1 := hx323_1;have hw323_0 := hx323_0;obtain rfl : ad318 = ad323 := (by injection e323);replace hx323_0 := zk HB.out hx323_0;replace hx323_1 := zk HB.out hx323_1;replace hx323_2 := zk HB.out hx323_2;replace hx323_3 := zk HB.out hx323_3;replace hx323_4 := zk HB.out hx323_4;replace hx323_5 := zk HB.out hx323_5;replace hx323_6 := zk HB.out hx323_6;replace hx323_7 := zk HB.out hx323_7;replace hx323_8 := zk HB.out hx323_8;have HR323_8 := Aside0.mk hi323_8;have HC323_8 := Aside0.mk hl323_8;clear hi323_8 hl323_8;replace p323 := eq_true p323;replace q323 := eq_true q323;obtain ⟨Ao48, co48, eo48⟩ := Kd.R_slice HO_320008.out
          (first | subst eo48 | (injection eo48 with f1_ f2_ f3_; have f4_ := f1_.symm; have f5_ := f3_.symm; clear f1_ f2_ f3_; subst f4_; subst f5_))
          refine start_ (n := 10) (S := fun w' => w'.cell? ⟨gb314, 0, none⟩ = some (.slice (some ad318) l0_0.length c0_0) ∧ w'.cell? ⟨gb314, 1, none⟩ = some (.int .i64 a0_1) ∧ w'.cell? ⟨gb319, 0, none⟩ = some (.int .i64 ((rd_T29 l0_0 0).f0)) ∧ w'.cell? ⟨gb319, 1, none⟩ = some (.int .i64 ((rd_T29 l0_0 0).f1)) ∧ w'.cell? ⟨gb319, 2, none⟩ = some (.int .i64 ((rd_T29 l0_0 0).f2)) ∧ w'.cell? ⟨gb319, 3, none⟩ = some (.int .i64 ((rd_T29 l0_0 0).f3)) ∧ w'.cell? ⟨gb319, 4, none⟩ = some (.int .i64 ((rd_T29 l0_0 0).f4)) ∧ w'.cell? ⟨gb319, 5, none⟩ = some (.int .i64 ((rd_T29 l0_0 0).f5)) ∧ w'.cell? ⟨gb319, 6, none⟩ = some (.bool false) ∧ w'.cell? ⟨gb319, 7, none⟩ = some (.bool ((rd_T29 l0_0 0).f7)) ∧ w'.cell? ⟨gb319, 8, none⟩ = some (.slice Ao48 x320008_2.length co48) ∧ w'.cell? (ad318.add ((x5_2).toNat * 9)) = some (.int .i64 ((rd_T29 l0_0 x5_2).f0)) ∧ w'.cell? ⟨(ad318.add ((x5_2).toNat * 9)).block, (ad318.add ((x5_2).toNat * 9)).off + 1, none⟩ = some (.int .i64 ((rd_T29 l0_0 x5_2).f1)) ∧ w'.cell? ⟨(ad318.add ((x5_2).toNat * 9)).block, (ad318.add ((x5_2).toNat * 9)).off + 2, none⟩ = some (.int .i64 ((rd_T29 l0_0 x5_2).f2)) ∧ w'.cell? ⟨(ad318.add ((x5_2).toNat * 9)).block, (ad318.add ((x5_2).toNat * 9)).off + 3, none⟩ = some (.int .i64 ((rd_T29 l0_0 x5_2).f3)) ∧ w'.cell? ⟨(ad318.add ((x5_2).toNat * 9)).block, (ad318.add ((x5_2).toNat * 9)).off + 4, none⟩ = some (.int .i64 ((rd_T29 l0_0 x5_2).f4)) ∧ w'.cell? ⟨(ad318.add ((x5_2).toNat * 9)).block, (ad318.add ((x5_2).toNat * 9)).off + 5, none⟩ = some (.int .i64 ((rd_T29 l0_0 x5_2).f5)) ∧ w'.cell? ⟨(ad318.add ((x5_2).toNat * 9)).block, (ad318.add ((x5_2).toNat * 9)).off + 6, none⟩ = some (.bool ((rd_T29 l0_0 x5_2).f6)) ∧ w'.cell? ⟨(ad318.add ((x5_2).toNat * 9)).block, (ad318.add ((x5_2).toNat * 9)).off + 7, none⟩ = some (.bool ((rd_T29 l0_0 x5_2).f7)) ∧ w'.cell? ⟨(ad318.add ((x5_2).toNat * 9)).block, (ad318.add ((x5_2).toNat * 9)).off + 8, none⟩ = some (.slice A323_8 ((rd_T29 l0_0 x5_2).f8).length c323_8)) (ds := []) (bitsA 10 0) (by kernel_rfl) rfl rfl zH (fun hHeld => ?_); refine with_tabW spec_PartWhole.tab9 spec_PartWhole.bits9 (fun HT_ HW_ => ?_)
          generalize wr.drew = w47 at HO_320008 BK314 BK315 BK319 HB HR323_8 hx323_0 hx323_1 hx323_2 hx323_3 hx323_4 hx323_5 hx323_6 hx323_7 hx323_8 hHeld ⊢
          refine zp (i := 0) (N := some 35) (bitsA 10 1) HT_ ?_;refine zp (i := 2) (N := some 37) (bitsA 10 5) HT_ ?_;refine zp (i := 6) (N := some 41) (bitsA 10 69) HT_ ?_;refine zt (i := 1) (N := some 36) (bitsA 10 71) HT_ HW_ hHeld ?_;refine zp (i := 3) (N := some 38) (bitsA 10 79) HT_ ?_;refine zp (i := 4) (N := some 39) (bitsA 10 95) HT_ ?_;refine zt (i := 5) (N := some 40) (bitsA 10 127) HT_ HW_ hHeld ?_;refine zt (i := 7) (N := some 42) (bitsA 10 255) HT_ HW_ hHeld ?_;refine zp (i := 8) (N := some 43) (bitsA 10 511) HT_ ?_;refine zp (i := 9) (N := some 44) (bitsA 10 1023) HT_ ?_;refine done_ (done_of HT_.out (by kernel_rfl)) ?_;have hnb49 := NB315_319.out;have hnc49 := NB319_315.out;obtain ⟨_, _, _, _, _, _, _, _, _, _, _, _, _, _, _, _, _, _⟩ := zc9 BK315.out
          try go_wp2
          refine bodyPost_ret (results_ct rfl _ _ gb315 29 #[.int .i64 0, .int .i64 0, .int .i64 0, .int .i64 0, .int .i64 0, .int .i64 0, .bool false, .bool false, .slice none 0 0] (0, 0) _ rfl (zW (zpt (zpt (zpt (zpt (zpt (zpt (zpt (zpt (zpt (zK BK315))))))))))) Try.underlying29 rfl (by kernel_rfl)) rfl ?_;exact ⟨_, by first | rfl | (simp <;> rfl) | (simp [*] <;> rfl), by first | exact Kd.R_nil _ _ _ _ _ | exact Kd.N_nil _ _ _ _ _ | exact Kd.V_nil _ _ _ _ _ | exact Kd.Q_nil _ _ _ _ _ | exact Kd.S_nil _ _ _ _ _, zB HB⟩
        ·rw [if_neg c32] at H
         exact absurd H (by simp)
       ·rw [if_neg c31] at H
        have c31b0 : decide (x5_2 < (l0_0.length : Int)) = false := decide_eq_false c31;clear c31;simp only [Option.some.injEq, Prod.mk.injEq] at H;obtain ⟨rfl, rfl, rfl, rfl, rfl, rfl, rfl, rfl, rfl, rfl⟩ := H;have hnb51 := NB314_315.out;have hnc51 := NB315_314.out;have hnb52 := NB314_319.out;have hnc52 := NB319_314.out;obtain ⟨_, _, _, _⟩ := zc2 BK314.out;have hnb54 := NB319_315.out;have hnc54 := NB315_319.out;obtain ⟨_, _, _, _, _, _, _, _, _, _, _, _, _, _, _, _, _, _⟩ := zc9 BK319.out;obtain ⟨_, _, _, _, _, _, _, _, _, _, _, _, _, _, _, _, _, _⟩ := zc9 BK315.out;obtain ⟨Ao57, co57, eo57⟩ := Kd.R_slice HO_320008.out
        subst eo57
        go_wp2
        refine bodyPost_ret (results_ct rfl _ _ gb315 29 #[.int .i64 ((rd_T29 l0_0 0).f0), .int .i64 ((rd_T29 l0_0 0).f1), .int .i64 ((rd_T29 l0_0 0).f2), .int .i64 ((rd_T29 l0_0 0).f3), .int .i64 ((rd_T29 l0_0 0).f4), .int .i64 ((rd_T29 l0_0 0).f5), .bool false, .bool ((rd_T29 l0_0 0).f7), .slice Ao57 x320008_2.length co57] (0, 0) _ rfl (zW (zpt (zpt (zpt (zpt (zpt (zpt (zpt (zpt (zpt (zK BK315))))))))))) Try.underlying29 rfl (by kernel_rfl)) rfl ?_;exact ⟨_, by first | rfl | (simp <;> rfl) | (simp [*] <;> rfl), by (with_reducible repeat (first | apply Kd.R_alloc | apply Kd.R_drewN | apply Kd.R_drew)); exact Kd.R_mono (zRf (zRf (zRf (zRf (zRf (zRf (zRf (zRf (zRf (Kd.R_types HO_320008.out BK315.out (by decide))))))))))) (fun _ hk => trivial), zB HB⟩
    ·rw [if_neg c20] at H
     exact absurd H (by simp)

end Go.Proofs.Ytdbmmkhaeghjaaa.PFnPartsOk

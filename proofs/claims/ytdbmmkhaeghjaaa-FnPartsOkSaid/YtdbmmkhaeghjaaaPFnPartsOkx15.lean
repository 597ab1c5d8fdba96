/- The machine side of some functions: each comes to its pure answer (written by a program of this session with the kit's print). No condition. -/
import Derived.Test.YtdbmmkhaeghjaaaPFnPartsOkx0
import Derived.Test.YtdbmmkhaeghjaaaPFnPartsOkx1
import Derived.Test.YtdbmmkhaeghjaaaPFnPartsOkx14
namespace Go.Proofs.Ytdbmmkhaeghjaaa.PFnPartsOk
open Go.RowKit Go.Proofs.YtdbmmkhaeghjaaaUFnPartsOk.PrintWords Go.Proofs.YtdbmmkhaeghjaaaUFnPartsOk.PrintLast Go.Proofs.YtdbmmkhaeghjaaaUFnPartsOk.PrintMore
attribute [local go_sem] max2_int min2_int max_two min_two max_three min_three max_four min_four   -- for this text's walks alone
set_option linter.unusedVariables false
set_option linter.unusedSimpArgs false

/-! ### spec_l20Open: function 9 -/
def spec_l20Open.f (l0 : List Int) : Option (List Int × Int) := if (l0.length : Int) > 2000 then (if 2000 ≤ (l0.length : Int) then (some (l0.take 2000, 0)) else (none)) else (some (l0, 0))
set_option maxHeartbeats 8000000 in
set_option maxRecDepth 100000 in
theorem spec_l20Open.calls (A0 : Option Addr) (c0 : Nat) (l0 : List Int) (r1 : List Int) (r2 : Int) (w0 w : World) (hB : Below w0.heap.size w0 w) (hr0 : Kd.C (Kd.int .u8) w0 A0 l0.length l0) (hc0 : l0.length ≤ c0) (h : spec_l20Open.f l0 = some (r1, r2)) :
  Calls Try.prog 9 #[.slice A0 l0.length c0] w fun e w' => ∃ g_ : Nat, e = .returned (.pointer (some ⟨g_, 0, none⟩)) ∧ IsS52 w0 w' g_ r1 r2 ∧ Below w0.heap.size w0 w' ∧ Below w.heap.size w w' := by
 have hu52 := Try.underlying52;have HR0 := Aside0.mk hr0;have HC0 := Aside0.mk hc0;clear hr0 hc0;have HBW := Aside0.mk (Below.refl w.heap.size w);have HW0 := Aside0.mk hB.size;have HB := Aside0.mk hB;clear hB;have H : (if (l0.length : Int) > 2000 then (if 2000 ≤ (l0.length : Int) then (some (l0.take 2000, 0)) else (none)) else (some (l0, 0))) = some (r1, r2) := h;clear h
 by_cases c2 : (l0.length : Int) > 2000
 ·rw [if_pos c2] at H
  have c2b0 : decide (2000 < (l0.length : Int)) = true := decide_eq_true c2;have c2b1 : decide (2000 < l0.length) = true := decide_eq_true (by omega);clear c2
  by_cases c3 : 2000 ≤ (l0.length : Int)
  ·rw [if_pos c3] at H
   have c3b0 := eq_true c3;have c3b1 : decide (2000 ≤ (l0.length : Int)) = true := decide_eq_true c3;clear c3;simp only [Option.some.injEq, Prod.mk.injEq] at H;obtain ⟨rfl, rfl⟩ := H;obtain ⟨i04, hi04, _, hsz4, _⟩ := info_parts info5;obtain ⟨hcut4, hA4, hC4⟩ := print_take_of (P := Try.prog) (Value.int .u8) 0 22 5 .i64 Try.underlying22 hi04 hsz4 A0 c0 l0 2000 (by omega) (of_decide_eq_true (by first | (with_reducible assumption) | assumption)) HC0.out;have HR569 := Aside0.mk (Kd.C_of_reads (h1 := fun _ => rfl) (hA4 _ (Kd.reads_of_C HR0.out)));have HC569 := Aside0.mk hC4;clear hA4 hC4 hi04 hsz4
   go_enter Try.func9, Try.ntmps9
   go_wp2_with (first | ((with_reducible refine gate_dst (N := 10) rfl ?_); refine box_event (by rfl) (N := 10) (by rfl) (cs := #[.slice A0 (l0.take 2000).length c0, .int .i64 0]) (t := 52) zr ?_; intro gb570 hg w5 hbox hb; replace HB := zbb HB hb; have BK570 := Aside0.mk (hbox); have GW570 := Aside0.mk ((by rw [hg]; exact (below_size (by repeat (first | (with_reducible first | exact HBW.out | apply below_alloc | apply pw_below_drewN | apply below_drew1) | exact HBW.out))) : w.heap.size ≤ gb570)); have GE570 := Aside0.mk ((Nat.le_trans HW0.out (by rw [hg]; exact (below_size (by repeat (first | (with_reducible first | exact HBW.out | apply below_alloc | apply pw_below_drewN | apply below_drew1) | exact HBW.out))) : w.heap.size ≤ gb570) : w0.heap.size ≤ gb570)); replace HBW := Aside0.mk (below_step HBW.out hb); clear hb hbox hg))
   go_ret;exact ⟨_, rfl, (show IsS52 w0 _ gb570 (l0.take 2000) 0 from ⟨_, _, by (with_reducible repeat (first | apply blk_drewN | apply blk_drew | apply blk_alloc)); exact BK570.out, GE570.out, HR569.out⟩), by repeat (first | (with_reducible first | exact HB.out | apply below_alloc | apply pw_below_drewN | apply below_drew1 | refine below_set ?_ GE570.out) | exact HB.out), by repeat (first | (with_reducible first | exact HBW.out | apply below_alloc | apply pw_below_drewN | apply below_drew1 | refine below_set ?_ GW570.out) | exact HBW.out)⟩
  ·rw [if_neg c3] at H
   exact absurd H (by simp)
 ·rw [if_neg c2] at H
  have c2b0 : decide (2000 < (l0.length : Int)) = false := decide_eq_false c2;have c2b1 : decide (2000 < l0.length) = false := decide_eq_false (by omega);clear c2;simp only [Option.some.injEq, Prod.mk.injEq] at H;obtain ⟨rfl, rfl⟩ := H
  go_enter Try.func9, Try.ntmps9
  go_wp2_with (first | ((with_reducible refine gate_dst (N := 10) rfl ?_); refine box_event (by rfl) (N := 10) (by rfl) (cs := #[.slice A0 l0.length c0, .int .i64 0]) (t := 52) zr ?_; intro gb571 hg w6 hbox hb; replace HB := zbb HB hb; have BK571 := Aside0.mk (hbox); have GW571 := Aside0.mk ((by rw [hg]; exact (below_size (by repeat (first | (with_reducible first | exact HBW.out | apply below_alloc | apply pw_below_drewN | apply below_drew1) | exact HBW.out))) : w.heap.size ≤ gb571)); have GE571 := Aside0.mk ((Nat.le_trans HW0.out (by rw [hg]; exact (below_size (by repeat (first | (with_reducible first | exact HBW.out | apply below_alloc | apply pw_below_drewN | apply below_drew1) | exact HBW.out))) : w.heap.size ≤ gb571) : w0.heap.size ≤ gb571)); replace HBW := Aside0.mk (below_step HBW.out hb); clear hb hbox hg))
  go_ret;exact ⟨_, rfl, (show IsS52 w0 _ gb571 l0 0 from ⟨_, _, by (with_reducible repeat (first | apply blk_drewN | apply blk_drew | apply blk_alloc)); exact BK571.out, GE571.out, HR0.out⟩), by repeat (first | (with_reducible first | exact HB.out | apply below_alloc | apply pw_below_drewN | apply below_drew1 | refine below_set ?_ GE571.out) | exact HB.out), by repeat (first | (with_reducible first | exact HBW.out | apply below_alloc | apply pw_below_drewN | apply below_drew1 | refine below_set ?_ GW571.out) | exact HBW.out)⟩

/-! ### spec_DrawPartsOk: function 4 -/
def spec_DrawPartsOk.f (k : Nat) (l0 : List Int) : Option ((List (S36))) := (spec_l20Open.f l0).bind fun bt572 => ((spec_l20Parts.f k bt572.1 bt572.2 2).bind fun bt575 => (some bt575.1))
theorem spec_DrawPartsOk.mono : ∀ a0 k, LeO (spec_DrawPartsOk.f k a0) (spec_DrawPartsOk.f (k + 1) a0) := by
 intro a0 k
 unfold spec_DrawPartsOk.f
 repeat' first
   | (with_reducible exact spec_l20Parts.mono _ _ _ _)
   | (with_reducible exact LeO.refl _)
   | (with_reducible exact LeO.none _)
   | (with_reducible refine LeO.ite ?_ ?_)
   | (with_reducible refine LeO.bind ?_ (fun _ => ?_))
   | exact spec_l20Parts.mono _ _ _ _
   | exact LeO.none _
   | refine LeO.ite ?_ ?_
   | refine LeO.bind ?_ (fun _ => ?_)
set_option maxHeartbeats 8000000 in
set_option maxRecDepth 100000 in
theorem spec_DrawPartsOk.calls (k : Nat) (A0 : Option Addr) (c0 : Nat) (l0 : List Int) (r : List (S36)) (w : World) (hr0 : Kd.C (Kd.int .u8) w A0 l0.length l0) (hc0 : l0.length ≤ c0) (h : spec_DrawPartsOk.f k l0 = some r) :
  Calls Try.prog 4 #[.slice A0 l0.length c0] w fun e w' => ∃ v0_ : Value, e = .returned (v0_) ∧ Kd.N k36 36 w' w.heap.size (fun k_ => (w.heap.size ≤ k_)) v0_ r ∧ Below w.heap.size w w' := by
 have hu29 := Try.underlying29;have HR0 := Aside0.mk hr0;have HC0 := Aside0.mk hc0;clear hr0 hc0;have HB := Aside0.mk (Below.refl w.heap.size w);have H : ((spec_l20Open.f l0).bind fun bt572 => ((spec_l20Parts.f k bt572.1 bt572.2 2).bind fun bt575 => (some bt575.1))) = some r := h;clear h;replace H := zf H;obtain ⟨⟨t572, t573⟩, A2, H⟩ := H;replace H := zf H;obtain ⟨⟨t575, t578, t579, t580, t581, t582, t583, t584, t585, t586, t589⟩, A3, H⟩ := H;obtain rfl := Option.some.inj H
 go_enter Try.func4, Try.ntmps4
 go_wp2_with (first | ((with_reducible refine gate_callee (f := 9) rfl ?_); refine goesL_ (some 7) rfl rfl Try.func9 (by kernel_rfl) rfl #[.slice A0 l0.length c0] rfl zM ?_; (with_reducible refine (spec_l20Open.calls _ _ l0 t572 t573 w _ ?side1 ?side2 ?side3 A2.out).mono ?_); (case side1 => exact zB HB); (case side2 => exact HR0.out); (case side3 => exact HC0.out); rintro e w4 ⟨g574, rfl, hi, hb, hb2⟩; refine ⟨_, rfl, ?_⟩; replace HB := Aside0.mk (hb); have HI574 := Aside0.mk (hi); (try clear hb); (try clear hb2); (try clear hk); (try clear hi)) | ((with_reducible refine gate_callee (f := 8) rfl ?_); refine goesL_ (some 8) rfl rfl Try.func8 (by kernel_rfl) rfl #[.pointer (some ⟨g574, 0, none⟩), .int .i64 2] rfl zM ?_; (with_reducible refine (spec_l20Parts.calls k g574 t572 t573 2 t575 t578 t579 t580 t581 t582 t583 t584 t585 t586 t589 w _ ?side1 ?side2 A3.out).mono ?_); (case side1 => exact zI HI574); (case side2 => exact zBi HB HI574); rintro e w5 ⟨v576, v587, rfl, ho0, ho1, hi, hb, hk⟩; refine ⟨_, rfl, ?_⟩; have HO577 := Aside0.mk (Kd.N_lower (Kd.N_mono (ok' := fun k_ => (w.heap.size ≤ k_) ∧ k_ ≠ g574) ho0 (fun k_ hk_ => ⟨(Nat.le_trans (below_size (zBi HB HI574)) hk_), (IsS52.fresh (zI HI574) k_ hk_)⟩)) (below_size (zBi HB HI574))); have HO588 := Aside0.mk (Kd.V_lower (Kd.V_mono (ok' := fun k_ => (w.heap.size ≤ k_) ∧ some k_ ≠ (v576 : Value).ownBlock ∧ k_ ≠ g574) ho1 (fun k_ hk_ => ⟨(Nat.le_trans (below_size (zBi HB HI574)) hk_.1), hk_.2, (IsS52.fresh (zI HI574) k_ hk_.1)⟩)) (below_size (zBi HB HI574))); replace HB := Aside0.mk (hb); replace HI574 := Aside0.mk (hi); (try clear hb); (try clear hb2); (try clear hk); (try clear hi); (try clear ho0); (try clear ho1)) | ((with_reducible refine gate_dst (N := 4) rfl ?_); refine box_event (by rfl) (N := 4) (by rfl) (cs := #[.int .i64 0, .int .i64 0, .int .i64 0, .int .i64 0, .int .i64 0, .int .i64 0, .bool false, .bool false, .slice none 0 0]) (t := 29) zr ?_; intro gb590 hg w6 hbox hb; replace HO577 := Aside0.mk (Kd.N_below (Kd.N_elderB (zO HO577) gb590 (Nat.le_of_eq hg.symm)) hb); replace HO588 := Aside0.mk (Kd.V_below (Kd.V_elderB (zO HO588) gb590 (Nat.le_of_eq hg.symm)) hb); have BK590 := Aside0.mk (hbox); have GW590 := Aside0.mk ((by rw [hg]; exact (below_size (zBi HB HI574)) : w.heap.size ≤ gb590)); replace HB := Aside0.mk (below_step (zBi HB HI574) hb); have GE590 := GW590; have NB574_590 := Aside0.mk ((by rw [hg]; exact Nat.ne_of_lt (IsS52.lt (show IsS52 w _ g574 t572 t589 from zI HI574)) : g574 ≠ gb590)); have NB590_574 := Aside0.mk ((by rw [hg]; exact Nat.ne_of_gt (IsS52.lt (show IsS52 w _ g574 t572 t589 from zI HI574)) : gb590 ≠ g574)); replace HI574 := Aside0.mk (IsS52.below (zI HI574) hb); clear hb hbox hg; have hnb7 := NB590_574.out; have hnc7 := NB574_590.out; obtain ⟨_, _, _, _, _, _, _, _, _, _, _, _, _, _, _, _, _, _⟩ := zc9 BK590.out; obtain ⟨Ao9, co9, eo9⟩ := Kd.V_slice HO588.out; subst eo9))
 go_ret;exact ⟨_, by first | rfl | (simp <;> rfl) | (simp [*] <;> rfl), by (with_reducible repeat (first | apply Kd.N_alloc | apply Kd.N_drewN | apply Kd.N_drew)); exact Kd.N_mono (zNf (zNf (zNf (zNf (zNf (zNf (zNf (zNf (zNf (Kd.N_mono HO577.out (fun k_ hk => (⟨hk, hk.2⟩ : _ ∧ k_ ≠ gb590)))))))))))) (fun _ hk => hk.1.1.1), zBi HB HI574⟩

/-! ### impl_Packet_same: function 13 -/
def impl_Packet_same.f (a0_0 : Int) (a0_1 : Int) (a0_2 : Int) (a0_3 : Int) (a0_4 : Int) (a0_5 : Int) (a0_6 : Bool) (a0_7 : Bool) (l0_8 : List Int) (a1_0 : Int) (a1_1 : Int) (a1_2 : Int) (a1_3 : Int) (a1_4 : Int) (a1_5 : Int) (a1_6 : Bool) (a1_7 : Bool) (l1_8 : List Int) : Option (Bool) := if a0_0 = a1_0 then (if a0_1 = a1_1 then (if a0_2 = a1_2 then (some (a0_4 == a1_4)) else (some false)) else (some false)) else (some false)
set_option maxHeartbeats 8000000 in
set_option maxRecDepth 100000 in
theorem impl_Packet_same.calls (a0_0 : Int) (a0_1 : Int) (a0_2 : Int) (a0_3 : Int) (a0_4 : Int) (a0_5 : Int) (a0_6 : Bool) (a0_7 : Bool) (A0_8 : Option Addr) (c0_8 : Nat) (l0_8 : List Int) (a1_0 : Int) (a1_1 : Int) (a1_2 : Int) (a1_3 : Int) (a1_4 : Int) (a1_5 : Int) (a1_6 : Bool) (a1_7 : Bool) (A1_8 : Option Addr) (c1_8 : Nat) (l1_8 : List Int) (r : Bool) (w : World) (hr0_8 : Kd.C (Kd.int .u8) w A0_8 l0_8.length l0_8) (hc0_8 : l0_8.length ≤ c0_8) (hr1_8 : Kd.C (Kd.int .u8) w A1_8 l1_8.length l1_8) (hc1_8 : l1_8.length ≤ c1_8) (h : impl_Packet_same.f a0_0 a0_1 a0_2 a0_3 a0_4 a0_5 a0_6 a0_7 l0_8 a1_0 a1_1 a1_2 a1_3 a1_4 a1_5 a1_6 a1_7 l1_8 = some r) :
  Calls Try.prog 13 #[.agg #[.int .i64 a0_0, .int .i64 a0_1, .int .i64 a0_2, .int .i64 a0_3, .int .i64 a0_4, .int .i64 a0_5, .bool a0_6, .bool a0_7, .slice A0_8 l0_8.length c0_8], .agg #[.int .i64 a1_0, .int .i64 a1_1, .int .i64 a1_2, .int .i64 a1_3, .int .i64 a1_4, .int .i64 a1_5, .bool a1_6, .bool a1_7, .slice A1_8 l1_8.length c1_8]] w fun e w' => e = .returned (.bool r) ∧ Below w.heap.size w w' := by
 have hu29 := Try.underlying29;have HR0_8 := Aside0.mk hr0_8;have HC0_8 := Aside0.mk hc0_8;clear hr0_8 hc0_8;have HR1_8 := Aside0.mk hr1_8;have HC1_8 := Aside0.mk hc1_8;clear hr1_8 hc1_8;have HB := Aside0.mk (Below.refl w.heap.size w);have H : (if a0_0 = a1_0 then (if a0_1 = a1_1 then (if a0_2 = a1_2 then (some (a0_4 == a1_4)) else (some false)) else (some false)) else (some false)) = some r := h;clear h
 by_cases c3 : a0_0 = a1_0
 ·rw [if_pos c3] at H
  have c3b0 : (a0_0 == a1_0) = true := beq_iff_eq.mpr c3;have c3b1 : (a0_0 != a1_0) = false := bne_eq_false_iff_eq.mpr c3;clear c3
  by_cases c4 : a0_1 = a1_1
  ·rw [if_pos c4] at H
   have c4b0 : (a0_1 == a1_1) = true := beq_iff_eq.mpr c4;have c4b1 : (a0_1 != a1_1) = false := bne_eq_false_iff_eq.mpr c4;clear c4
   by_cases c5 : a0_2 = a1_2
   ·rw [if_pos c5] at H
    have c5b0 : (a0_2 == a1_2) = true := beq_iff_eq.mpr c5;have c5b1 : (a0_2 != a1_2) = false := bne_eq_false_iff_eq.mpr c5;clear c5;obtain rfl := Option.some.inj H
    go_enter Try.func13, Try.ntmps13
    go_wp2_with (first | ((with_reducible refine gate_dst (N := 2) rfl ?_); refine box_event (by rfl) (N := 2) (by rfl) (cs := #[.int .i64 a0_0, .int .i64 a0_1, .int .i64 a0_2, .int .i64 a0_3, .int .i64 a0_4, .int .i64 a0_5, .bool a0_6, .bool a0_7, .slice A0_8 l0_8.length c0_8]) (t := 29) zr ?_; intro gb591 hg w6 hbox hb; have BK591 := Aside0.mk (hbox); have GW591 := zg HB hg; replace HB := zbb HB hb; have GE591 := GW591; clear hb hbox hg) | ((with_reducible refine gate_dst (N := 3) rfl ?_); refine box_event (by rfl) (N := 3) (by rfl) (cs := #[.int .i64 a1_0, .int .i64 a1_1, .int .i64 a1_2, .int .i64 a1_3, .int .i64 a1_4, .int .i64 a1_5, .bool a1_6, .bool a1_7, .slice A1_8 l1_8.length c1_8]) (t := 29) zr ?_; intro gb592 hg w7 hbox hb; have BK592 := Aside0.mk (hbox); have GW592 := zg HB hg; replace HB := zbb HB hb; have GE592 := GW592; have NB591_592 := zlt BK591 hg; have NB592_591 := zgt BK591 hg; replace BK591 := zq BK591 hb; clear hb hbox hg; have hnb8 := NB591_592.out; have hnc8 := NB592_591.out; obtain ⟨_, _, _, _, _, _, _, _, _, _, _, _, _, _, _, _, _, _⟩ := zc9 BK591.out; obtain ⟨_, _, _, _, _, _, _, _, _, _, _, _, _, _, _, _, _, _⟩ := zc9 BK592.out))
    go_ret;exact ⟨by first | rfl | (simp <;> rfl) | (simp [*] <;> rfl), zB HB⟩
   ·rw [if_neg c5] at H
    have c5b0 : (a0_2 == a1_2) = false := beq_eq_false_iff_ne.mpr c5;have c5b1 : (a0_2 != a1_2) = true := bne_iff_ne.mpr c5;obtain rfl := Option.some.inj H
    go_enter Try.func13, Try.ntmps13
    go_wp2_with (first | ((with_reducible refine gate_dst (N := 2) rfl ?_); refine box_event (by rfl) (N := 2) (by rfl) (cs := #[.int .i64 a0_0, .int .i64 a0_1, .int .i64 a0_2, .int .i64 a0_3, .int .i64 a0_4, .int .i64 a0_5, .bool a0_6, .bool a0_7, .slice A0_8 l0_8.length c0_8]) (t := 29) zr ?_; intro gb591 hg w11 hbox hb; have BK591 := Aside0.mk (hbox); have GW591 := zg HB hg; replace HB := zbb HB hb; have GE591 := GW591; clear hb hbox hg) | ((with_reducible refine gate_dst (N := 3) rfl ?_); refine box_event (by rfl) (N := 3) (by rfl) (cs := #[.int .i64 a1_0, .int .i64 a1_1, .int .i64 a1_2, .int .i64 a1_3, .int .i64 a1_4, .int .i64 a1_5, .bool a1_6, .bool a1_7, .slice A1_8 l1_8.length c1_8]) (t := 29) zr ?_; intro gb592 hg w12 hbox hb; have BK592 := Aside0.mk (hbox); have GW592 := zg HB hg; replace HB := zbb HB hb; have GE592 := GW592; have NB591_592 := zlt BK591 hg; have NB592_591 := zgt BK591 hg; replace BK591 := zq BK591 hb; clear hb hbox hg; have hnb13 := NB591_592.out; have hnc13 := NB592_591.out; obtain ⟨_, _, _, _, _, _, _, _, _, _, _, _, _, _, _, _, _, _⟩ := zc9 BK591.out; obtain ⟨_, _, _, _, _, _, _, _, _, _, _, _, _, _, _, _, _, _⟩ := zc9 BK592.out))
    go_ret;exact ⟨by first | rfl | (simp <;> rfl) | (simp [*] <;> rfl), zB HB⟩
  ·rw [if_neg c4] at H
   have c4b0 : (a0_1 == a1_1) = false := beq_eq_false_iff_ne.mpr c4;have c4b1 : (a0_1 != a1_1) = true := bne_iff_ne.mpr c4;obtain rfl := Option.some.inj H
   go_enter Try.func13, Try.ntmps13
   go_wp2_with (first | ((with_reducible refine gate_dst (N := 2) rfl ?_); refine box_event (by rfl) (N := 2) (by rfl) (cs := #[.int .i64 a0_0, .int .i64 a0_1, .int .i64 a0_2, .int .i64 a0_3, .int .i64 a0_4, .int .i64 a0_5, .bool a0_6, .bool a0_7, .slice A0_8 l0_8.length c0_8]) (t := 29) zr ?_; intro gb591 hg w16 hbox hb; have BK591 := Aside0.mk (hbox); have GW591 := zg HB hg; replace HB := zbb HB hb; have GE591 := GW591; clear hb hbox hg) | ((with_reducible refine gate_dst (N := 3) rfl ?_); refine box_event (by rfl) (N := 3) (by rfl) (cs := #[.int .i64 a1_0, .int .i64 a1_1, .int .i64 a1_2, .int .i64 a1_3, .int .i64 a1_4, .int .i64 a1_5, .bool a1_6, .bool a1_7, .slice A1_8 l1_8.length c1_8]) (t := 29) zr ?_; intro gb592 hg w17 hbox hb; have BK592 := Aside0.mk (hbox); have GW592 := zg HB hg; replace HB := zbb HB hb; have GE592 := GW592; have NB591_592 := zlt BK591 hg; have NB592_591 := zgt BK591 hg; replace BK591 := zq BK591 hb; clear hb hbox hg; have hnb18 := NB591_592.out; have hnc18 := NB592_591.out; obtain ⟨_, _, _, _, _, _, _, _, _, _, _, _, _, _, _, _, _, _⟩ := zc9 BK591.out; obtain ⟨_, _, _, _, _, _, _, _, _, _, _, _, _, _, _, _, _, _⟩ := zc9 BK592.out))
   go_ret;exact ⟨by first | rfl | (simp <;> rfl) | (simp [*] <;> rfl), zB HB⟩
 ·rw [if_neg c3] at H
  have c3b0 : (a0_0 == a1_0) = false := beq_eq_false_iff_ne.mpr c3;have c3b1 : (a0_0 != a1_0) = true := bne_iff_ne.mpr c3;obtain rfl := Option.some.inj H
  go_enter Try.func13, Try.ntmps13
  go_wp2_with (first | ((with_reducible refine gate_dst (N := 2) rfl ?_); refine box_event (by rfl) (N := 2) (by rfl) (cs := #[.int .i64 a0_0, .int .i64 a0_1, .int .i64 a0_2, .int .i64 a0_3, .int .i64 a0_4, .int .i64 a0_5, .bool a0_6, .bool a0_7, .slice A0_8 l0_8.length c0_8]) (t := 29) zr ?_; intro gb591 hg w21 hbox hb; have BK591 := Aside0.mk (hbox); have GW591 := zg HB hg; replace HB := zbb HB hb; have GE591 := GW591; clear hb hbox hg) | ((with_reducible refine gate_dst (N := 3) rfl ?_); refine box_event (by rfl) (N := 3) (by rfl) (cs := #[.int .i64 a1_0, .int .i64 a1_1, .int .i64 a1_2, .int .i64 a1_3, .int .i64 a1_4, .int .i64 a1_5, .bool a1_6, .bool a1_7, .slice A1_8 l1_8.length c1_8]) (t := 29) zr ?_; intro gb592 hg w22 hbox hb; have BK592 := Aside0.mk (hbox); have GW592 := zg HB hg; replace HB := zbb HB hb; have GE592 := GW592; have NB591_592 := zlt BK591 hg; have NB592_591 := zgt BK591 hg; replace BK591 := zq BK591 hb; clear hb hbox hg; have hnb23 := NB591_592.out; have hnc23 := NB592_591.out; obtain ⟨_, _, _, _, _, _, _, _, _, _, _, _, _, _, _, _, _, _⟩ := zc9 BK591.out; obtain ⟨_, _, _, _, _, _, _, _, _, _, _, _, _, _, _, _, _, _⟩ := zc9 BK592.out))
  go_ret;exact ⟨by first | rfl | (simp <;> rfl) | (simp [*] <;> rfl), zB HB⟩

/-! ### impl_in: function 25 -/
def impl_in.f (a0 : Int) (a1 : Int) (a2 : Int) : Option (Bool) := if a0 ≥ a1 then (some (decide (a0 ≤ a2))) else (some false)
set_option maxHeartbeats 8000000 in
set_option maxRecDepth 100000 in
theorem impl_in.calls (a0 : Int) (a1 : Int) (a2 : Int) (r : Bool) (w : World) (h : impl_in.f a0 a1 a2 = some r) :
  Calls Try.prog 25 #[.int .i64 a0, .int .i64 a1, .int .i64 a2] w fun e w' => e = .returned (.bool r) ∧ Drawn0 w w' := by
 have H : (if a0 ≥ a1 then (some (decide (a0 ≤ a2))) else (some false)) = some r := h;clear h
 by_cases c4 : a0 ≥ a1
 ·rw [if_pos c4] at H
  have c4b0 : decide (a1 ≤ a0) = true := decide_eq_true c4;clear c4;obtain rfl := Option.some.inj H
  go_enter Try.func25, Try.ntmps25
  go_wp2
  go_ret;exact ⟨by first | rfl | (simp; done) | (simp [*]; done), by repeat (first | exact Drawn0.refl _ | apply Drawn0.step)⟩
 ·rw [if_neg c4] at H
  have c4b0 : decide (a1 ≤ a0) = false := decide_eq_false c4;clear c4;obtain rfl := Option.some.inj H
  go_enter Try.func25, Try.ntmps25
  go_wp2
  go_ret;exact ⟨by first | rfl | (simp; done) | (simp [*]; done), by repeat (first | exact Drawn0.refl _ | apply Drawn0.step)⟩

/-! ### impl_word: function 35 -/
def impl_word.f (a0 : Int) : Option (Bool) := (impl_in.f a0 0 65535).bind fun t593 => (some t593)
set_option maxHeartbeats 8000000 in
set_option maxRecDepth 100000 in
theorem impl_word.calls (a0 : Int) (r : Bool) (w : World) (h : impl_word.f a0 = some r) :
  Calls Try.prog 35 #[.int .i64 a0] w fun e w' => e = .returned (.bool r) ∧ Drawn0 w w' := by
 have H : ((impl_in.f a0 0 65535).bind fun t593 => (some t593)) = some r := h;clear h;replace H := zf H;obtain ⟨t593, A2, H⟩ := H;obtain rfl := Option.some.inj H
 go_enter Try.func35, Try.ntmps35
 go_wp2_with (first | ((with_reducible refine gate_callee (f := 25) rfl ?_); refine goesL_ (some 4) rfl rfl Try.func25 (by kernel_rfl) rfl #[.int .i64 a0, .int .i64 0, .int .i64 65535] rfl zM ?_; (with_reducible refine (impl_in.calls a0 0 65535 t593 _ A2.out).mono ?_); rintro e w' ⟨rfl, ⟨nd, rfl⟩⟩; refine ⟨_, rfl, ?_⟩))
 go_ret;exact ⟨by first | rfl | (simp; done) | (simp [*]; done), by repeat (first | exact Drawn0.refl _ | apply Drawn0.step)⟩

/-! ### impl_PacketOk: function 24 -/
def impl_PacketOk.f (a0_0 : Int) (a0_1 : Int) (a0_2 : Int) (a0_3 : Int) (a0_4 : Int) (a0_5 : Int) (a0_6 : Bool) (a0_7 : Bool) (l0_8 : List Int) : Option (Bool) := (impl_word.f a0_0).bind fun t595 => (if t595 = true then ((impl_word.f a0_1).bind fun t596 => (if t596 = true then ((impl_in.f a0_2 0 255).bind fun t597 => (if t597 = true then ((impl_in.f a0_3 0 255).bind fun t598 => (if t598 = true then ((impl_in.f a0_4 0 255).bind fun t599 => (if t599 = true then ((impl_in.f a0_5 0 255).bind fun t600 => (if t600 = true then (if (l0_8.length : Int) ≤ 48 then (if a0_6 = true then (if (l0_8.length : Int) > 0 then (if a0_7 = true then (if a0_5 = 0 then (some (!a0_6)) else (some false)) else (some true)) else (some false)) else (if a0_7 = true then (if a0_5 = 0 then (some (!a0_6)) else (some false)) else (some true))) else (some false)) else (some false))) else (some false))) else (some false))) else (some false))) else (some false))) else (some false))
set_option maxHeartbeats 8000000 in
set_option maxRecDepth 100000 in
theorem impl_PacketOk.calls (a0_0 : Int) (a0_1 : Int) (a0_2 : Int) (a0_3 : Int) (a0_4 : Int) (a0_5 : Int) (a0_6 : Bool) (a0_7 : Bool) (A0_8 : Option Addr) (c0_8 : Nat) (l0_8 : List Int) (r : Bool) (w : World) (hr0_8 : Kd.C (Kd.int .u8) w A0_8 l0_8.length l0_8) (hc0_8 : l0_8.length ≤ c0_8) (h : impl_PacketOk.f a0_0 a0_1 a0_2 a0_3 a0_4 a0_5 a0_6 a0_7 l0_8 = some r) :
  Calls Try.prog 24 #[.agg #[.int .i64 a0_0, .int .i64 a0_1, .int .i64 a0_2, .int .i64 a0_3, .int .i64 a0_4, .int .i64 a0_5, .bool a0_6, .bool a0_7, .slice A0_8 l0_8.length c0_8]] w fun e w' => e = .returned (.bool r) ∧ Below w.heap.size w w' := by
 have hu29 := Try.underlying29;have HR0_8 := Aside0.mk hr0_8;have HC0_8 := Aside0.mk hc0_8;clear hr0_8 hc0_8;have HB := Aside0.mk (Below.refl w.heap.size w);have H : ((impl_word.f a0_0).bind fun t595 => (if t595 = true then ((impl_word.f a0_1).bind fun t596 => (if t596 = true then ((impl_in.f a0_2 0 255).bind fun t597 => (if t597 = true then ((impl_in.f a0_3 0 255).bind fun t598 => (if t598 = true then ((impl_in.f a0_4 0 255).bind fun t599 => (if t599 = true then ((impl_in.f a0_5 0 255).bind fun t600 => (if t600 = true then (if (l0_8.length : Int) ≤ 48 then (if a0_6 = true then (if (l0_8.length : Int) > 0 then (if a0_7 = true then (if a0_5 = 0 then (some (!a0_6)) else (some false)) else (some true)) else (some false)) else (if a0_7 = true then (if a0_5 = 0 then (some (!a0_6)) else (some false)) else (some true))) else (some false)) else (some false))) else (some false))) else (some false))) else (some false))) else (some false))) else (some false))) = some r := h;clear h;replace H := zf H;obtain ⟨t595, A2, H⟩ := H
 by_cases c3 : t595 = true
 ·subst c3
  rw [if_pos rfl] at H;replace H := zf H;obtain ⟨t596, A4, H⟩ := H
  by_cases c5 : t596 = true
  ·subst c5
   rw [if_pos rfl] at H;replace H := zf H;obtain ⟨t597, A6, H⟩ := H
   by_cases c7 : t597 = true
   ·subst c7
    rw [if_pos rfl] at H;replace H := zf H;obtain ⟨t598, A8, H⟩ := H
    by_cases c9 : t598 = true
    ·subst c9
     rw [if_pos rfl] at H;replace H := zf H;obtain ⟨t599, A10, H⟩ := H
     by_cases c11 : t599 = true
     ·subst c11
      rw [if_pos rfl] at H;replace H := zf H;obtain ⟨t600, A12, H⟩ := H
      by_cases c13 : t600 = true
      ·subst c13
       rw [if_pos rfl] at H
       by_cases c14 : (l0_8.length : Int) ≤ 48
       ·rw [if_pos c14] at H
        have c14b0 : decide ((l0_8.length : Int) ≤ 48) = true := decide_eq_true c14;have c14b1 : decide (l0_8.length ≤ 48) = true := decide_eq_true (by omega);clear c14
        by_cases c15 : a0_6 = true
        ·subst c15
         rw [if_pos rfl] at H
         by_cases c16 : (l0_8.length : Int) > 0
         ·rw [if_pos c16] at H
          have c16b0 : decide (0 < (l0_8.length : Int)) = true := decide_eq_true c16;have c16b1 : decide (0 < l0_8.length) = true := decide_eq_true (by omega);clear c16
          by_cases c17 : a0_7 = true
          ·subst c17
           rw [if_pos rfl] at H
           by_cases c18 : a0_5 = 0
           ·rw [if_pos c18] at H
            have c18b0 : (a0_5 == 0) = true := beq_iff_eq.mpr c18;have c18b1 : (a0_5 != 0) = false := bne_eq_false_iff_eq.mpr c18;clear c18;obtain rfl := Option.some.inj H
            go_enter Try.func24, Try.ntmps24
            go_wp2_with (first | ((with_reducible refine gate_dst (N := 1) rfl ?_); (try (refine gate_guard (by rfl) ?_; dsimp only)); refine box_event (by rfl) (N := 1) (by rfl) (cs := #[.int .i64 a0_0, .int .i64 a0_1, .int .i64 a0_2, .int .i64 a0_3, .int .i64 a0_4, .int .i64 a0_5, .bool true, .bool true, .slice A0_8 l0_8.length c0_8]) (t := 29) zr ?_; intro gb594 hg w19 hbox hb; have BK594 := Aside0.mk (hbox); have GW594 := zg HB hg; replace HB := zbb HB hb; have GE594 := GW594; clear hb hbox hg; obtain ⟨_, _, _, _, _, _, _, _, _, _, _, _, _, _, _, _, _, _⟩ := zc9 BK594.out) | ((with_reducible refine gate_callee (f := 35) rfl ?_); refine goesL_ (some 5) rfl rfl Try.func35 (by kernel_rfl) rfl #[.int .i64 a0_0] rfl zM ?_; (with_reducible refine (impl_word.calls a0_0 true _ A2.out).mono ?_); rintro e w' ⟨rfl, ⟨nd, rfl⟩⟩; refine ⟨_, rfl, ?_⟩) | (go_at_call 35; (with_reducible refine (impl_word.calls a0_1 true _ A4.out).mono ?_); rintro e w' ⟨rfl, ⟨nd, rfl⟩⟩) | (go_at_call 25; (with_reducible refine (impl_in.calls a0_2 0 255 true _ A6.out).mono ?_); rintro e w' ⟨rfl, ⟨nd, rfl⟩⟩) | (go_at_call 25; (with_reducible refine (impl_in.calls a0_3 0 255 true _ A8.out).mono ?_); rintro e w' ⟨rfl, ⟨nd, rfl⟩⟩) | (go_at_call 25; (with_reducible refine (impl_in.calls a0_4 0 255 true _ A10.out).mono ?_); rintro e w' ⟨rfl, ⟨nd, rfl⟩⟩) | (go_at_call 25; (with_reducible refine (impl_in.calls a0_5 0 255 true _ A12.out).mono ?_); rintro e w' ⟨rfl, ⟨nd, rfl⟩⟩))
            go_ret;exact ⟨by first | rfl | (simp <;> rfl) | (simp [*] <;> rfl), zB HB⟩
           ·rw [if_neg c18] at H
            have c18b0 : (a0_5 == 0) = false := beq_eq_false_iff_ne.mpr c18;have c18b1 : (a0_5 != 0) = true := bne_iff_ne.mpr c18;obtain rfl := Option.some.inj H
            go_enter Try.func24, Try.ntmps24
            go_wp2_with (first | ((with_reducible refine gate_dst (N := 1) rfl ?_); (try (refine gate_guard (by rfl) ?_; dsimp only)); refine box_event (by rfl) (N := 1) (by rfl) (cs := #[.int .i64 a0_0, .int .i64 a0_1, .int .i64 a0_2, .int .i64 a0_3, .int .i64 a0_4, .int .i64 a0_5, .bool true, .bool true, .slice A0_8 l0_8.length c0_8]) (t := 29) zr ?_; intro gb594 hg w21 hbox hb; have BK594 := Aside0.mk (hbox); have GW594 := zg HB hg; replace HB := zbb HB hb; have GE594 := GW594; clear hb hbox hg; obtain ⟨_, _, _, _, _, _, _, _, _, _, _, _, _, _, _, _, _, _⟩ := zc9 BK594.out) | ((with_reducible refine gate_callee (f := 35) rfl ?_); refine goesL_ (some 5) rfl rfl Try.func35 (by kernel_rfl) rfl #[.int .i64 a0_0] rfl zM ?_; (with_reducible refine (impl_word.calls a0_0 true _ A2.out).mono ?_); rintro e w' ⟨rfl, ⟨nd, rfl⟩⟩; refine ⟨_, rfl, ?_⟩) | (go_at_call 35; (with_reducible refine (impl_word.calls a0_1 true _ A4.out).mono ?_); rintro e w' ⟨rfl, ⟨nd, rfl⟩⟩) | (go_at_call 25; (with_reducible refine (impl_in.calls a0_2 0 255 true _ A6.out).mono ?_); rintro e w' ⟨rfl, ⟨nd, rfl⟩⟩) | (go_at_call 25; (with_reducible refine (impl_in.calls a0_3 0 255 true _ A8.out).mono ?_); rintro e w' ⟨rfl, ⟨nd, rfl⟩⟩) | (go_at_call 25; (with_reducible refine (impl_in.calls a0_4 0 255 true _ A10.out).mono ?_); rintro e w' ⟨rfl, ⟨nd, rfl⟩⟩) | (go_at_call 25; (with_reducible refine (impl_in.calls a0_5 0 255 true _ A12.out).mono ?_); rintro e w' ⟨rfl, ⟨nd, rfl⟩⟩))
            go_ret;exact ⟨by first | rfl | (simp <;> rfl) | (simp [*] <;> rfl), zB HB⟩
          ·replace c17 := Bool.eq_false_iff.mpr c17
           subst c17
           rw [if_neg (show ¬ (false = true) by decide)] at H;obtain rfl := Option.some.inj H
           go_enter Try.func24, Try.ntmps24
           go_wp2_with (first | ((with_reducible refine gate_dst (N := 1) rfl ?_); (try (refine gate_guard (by rfl) ?_; dsimp only)); refine box_event (by rfl) (N := 1) (by rfl) (cs := #[.int .i64 a0_0, .int .i64 a0_1, .int .i64 a0_2, .int .i64 a0_3, .int .i64 a0_4, .int .i64 a0_5, .bool true, .bool false, .slice A0_8 l0_8.length c0_8]) (t := 29) zr ?_; intro gb594 hg w23 hbox hb; have BK594 := Aside0.mk (hbox); have GW594 := zg HB hg; replace HB := zbb HB hb; have GE594 := GW594; clear hb hbox hg; obtain ⟨_, _, _, _, _, _, _, _, _, _, _, _, _, _, _, _, _, _⟩ := zc9 BK594.out) | ((with_reducible refine gate_callee (f := 35) rfl ?_); refine goesL_ (some 5) rfl rfl Try.func35 (by kernel_rfl) rfl #[.int .i64 a0_0] rfl zM ?_; (with_reducible refine (impl_word.calls a0_0 true _ A2.out).mono ?_); rintro e w' ⟨rfl, ⟨nd, rfl⟩⟩; refine ⟨_, rfl, ?_⟩) | (go_at_call 35; (with_reducible refine (impl_word.calls a0_1 true _ A4.out).mono ?_); rintro e w' ⟨rfl, ⟨nd, rfl⟩⟩) | (go_at_call 25; (with_reducible refine (impl_in.calls a0_2 0 255 true _ A6.out).mono ?_); rintro e w' ⟨rfl, ⟨nd, rfl⟩⟩) | (go_at_call 25; (with_reducible refine (impl_in.calls a0_3 0 255 true _ A8.out).mono ?_); rintro e w' ⟨rfl, ⟨nd, rfl⟩⟩) | (go_at_call 25; (with_reducible refine (impl_in.calls a0_4 0 255 true _ A10.out).mono ?_); rintro e w' ⟨rfl, ⟨nd, rfl⟩⟩) | (go_at_call 25; (with_reducible refine (impl_in.calls a0_5 0 255 true _ A12.out).mono ?_); rintro e w' ⟨rfl, ⟨nd, rfl⟩⟩))
           go_ret;exact ⟨by first | rfl | (simp <;> rfl) | (simp [*] <;> rfl), zB HB⟩
         ·rw [if_neg c16] at H
          have c16b0 : decide (0 < (l0_8.length : Int)) = false := decide_eq_false c16;have c16b1 : decide (0 < l0_8.length) = false := decide_eq_false (by omega);clear c16;obtain rfl := Option.some.inj H
          go_enter Try.func24, Try.ntmps24
          go_wp2_with (first | ((with_reducible refine gate_dst (N := 1) rfl ?_); (try (refine gate_guard (by rfl) ?_; dsimp only)); refine box_event (by rfl) (N := 1) (by rfl) (cs := #[.int .i64 a0_0, .int .i64 a0_1, .int .i64 a0_2, .int .i64 a0_3, .int .i64 a0_4, .int .i64 a0_5, .bool true, .bool a0_7, .slice A0_8 l0_8.length c0_8]) (t := 29) zr ?_; intro gb594 hg w25 hbox hb; have BK594 := Aside0.mk (hbox); have GW594 := zg HB hg; replace HB := zbb HB hb; have GE594 := GW594; clear hb hbox hg; obtain ⟨_, _, _, _, _, _, _, _, _, _, _, _, _, _, _, _, _, _⟩ := zc9 BK594.out) | ((with_reducible refine gate_callee (f := 35) rfl ?_); refine goesL_ (some 5) rfl rfl Try.func35 (by kernel_rfl) rfl #[.int .i64 a0_0] rfl zM ?_; (with_reducible refine (impl_word.calls a0_0 true _ A2.out).mono ?_); rintro e w' ⟨rfl, ⟨nd, rfl⟩⟩; refine ⟨_, rfl, ?_⟩) | (go_at_call 35; (with_reducible refine (impl_word.calls a0_1 true _ A4.out).mono ?_); rintro e w' ⟨rfl, ⟨nd, rfl⟩⟩) | (go_at_call 25; (with_reducible refine (impl_in.calls a0_2 0 255 true _ A6.out).mono ?_); rintro e w' ⟨rfl, ⟨nd, rfl⟩⟩) | (go_at_call 25; (with_reducible refine (impl_in.calls a0_3 0 255 true _ A8.out).mono ?_); rintro e w' ⟨rfl, ⟨nd, rfl⟩⟩) | (go_at_call 25; (with_reducible refine (impl_in.calls a0_4 0 255 true _ A10.out).mono ?_); rintro e w' ⟨rfl, ⟨nd, rfl⟩⟩) | (go_at_call 25; (with_reducible refine (impl_in.calls a0_5 0 255 true _ A12.out).mono ?_); rintro e w' ⟨rfl, ⟨nd, rfl⟩⟩))
          go_ret;exact ⟨by first | rfl | (simp <;> rfl) | (simp [*] <;> rfl), zB HB⟩
        ·replace c15 := Bool.eq_false_iff.mpr c15
         subst c15
         rw [if_neg (show ¬ (false = true) by decide)] at H
         by_cases c27 : a0_7 = true
         ·subst c27
          rw [if_pos rfl] at H
          by_cases c28 : a0_5 = 0
          ·rw [if_pos c28] at H
           have c28b0 : (a0_5 == 0) = true := beq_iff_eq.mpr c28;have c28b1 : (a0_5 != 0) = false := bne_eq_false_iff_eq.mpr c28;clear c28;obtain rfl := Option.some.inj H
           go_enter Try.func24, Try.ntmps24
           go_wp2_with (first | ((with_reducible refine gate_dst (N := 1) rfl ?_); (try (refine gate_guard (by rfl) ?_; dsimp only)); refine box_event (by rfl) (N := 1) (by rfl) (cs := #[.int .i64 a0_0, .int .i64 a0_1, .int .i64 a0_2, .int .i64 a0_3, .int .i64 a0_4, .int .i64 a0_5, .bool false, .bool true, .slice A0_8 l0_8.length c0_8]) (t := 29) zr ?_; intro gb594 hg w29 hbox hb; have BK594 := Aside0.mk (hbox); have GW594 := zg HB hg; replace HB := zbb HB hb; have GE594 := GW594; clear hb hbox hg; obtain ⟨_, _, _, _, _, _, _, _, _, _, _, _, _, _, _, _, _, _⟩ := zc9 BK594.out) | ((with_reducible refine gate_callee (f := 35) rfl ?_); refine goesL_ (some 5) rfl rfl Try.func35 (by kernel_rfl) rfl #[.int .i64 a0_0] rfl zM ?_; (with_reducible refine (impl_word.calls a0_0 true _ A2.out).mono ?_); rintro e w' ⟨rfl, ⟨nd, rfl⟩⟩; refine ⟨_, rfl, ?_⟩) | (go_at_call 35; (with_reducible refine (impl_word.calls a0_1 true _ A4.out).mono ?_); rintro e w' ⟨rfl, ⟨nd, rfl⟩⟩) | (go_at_call 25; (with_reducible refine (impl_in.calls a0_2 0 255 true _ A6.out).mono ?_); rintro e w' ⟨rfl, ⟨nd, rfl⟩⟩) | (go_at_call 25; (with_reducible refine (impl_in.calls a0_3 0 255 true _ A8.out).mono ?_); rintro e w' ⟨rfl, ⟨nd, rfl⟩⟩) | (go_at_call 25; (with_reducible refine (impl_in.calls a0_4 0 255 true _ A10.out).mono ?_); rintro e w' ⟨rfl, ⟨nd, rfl⟩⟩) | (go_at_call 25; (with_reducible refine (impl_in.calls a0_5 0 255 true _ A12.out).mono ?_); rintro e w' ⟨rfl, ⟨nd, rfl⟩⟩))
           go_ret;exact ⟨by first | rfl | (simp <;> rfl) | (simp [*] <;> rfl), zB HB⟩
          ·rw [if_neg c28] at H
           have c28b0 : (a0_5 == 0) = false := beq_eq_false_iff_ne.mpr c28;have c28b1 : (a0_5 != 0) = true := bne_iff_ne.mpr c28;obtain rfl := Option.some.inj H
           go_enter Try.func24, Try.ntmps24
           go_wp2_with (first | ((with_reducible refine gate_dst (N := 1) rfl ?_); (try (refine gate_guard (by rfl) ?_; dsimp only)); refine box_event (by rfl) (N := 1) (by rfl) (cs := #[.int .i64 a0_0, .int .i64 a0_1, .int .i64 a0_2, .int .i64 a0_3, .int .i64 a0_4, .int .i64 a0_5, .bool false, .bool true, .slice A0_8 l0_8.length c0_8]) (t := 29) zr ?_; intro gb594 hg w31 hbox hb; have BK594 := Aside0.mk (hbox); have GW594 := zg HB hg; replace HB := zbb HB hb; have GE594 := GW594; clear hb hbox hg; obtain ⟨_, _, _, _, _, _, _, _, _, _, _, _, _, _, _, _, _, _⟩ := zc9 BK594.out) | ((with_reducible refine gate_callee (f := 35) rfl ?_); refine goesL_ (some 5) rfl rfl Try.func35 (by kernel_rfl) rfl #[.int .i64 a0_0] rfl zM ?_; (with_reducible refine (impl_word.calls a0_0 true _ A2.out).mono ?_); rintro e w' ⟨rfl, ⟨nd, rfl⟩⟩; refine ⟨_, rfl, ?_⟩) | (go_at_call 35; (with_reducible refine (impl_word.calls a0_1 true _ A4.out).mono ?_); rintro e w' ⟨rfl, ⟨nd, rfl⟩⟩) | (go_at_call 25; (with_reducible refine (impl_in.calls a0_2 0 255 true _ A6.out).mono ?_); rintro e w' ⟨rfl, ⟨nd, rfl⟩⟩) | (go_at_call 25; (with_reducible refine (impl_in.calls a0_3 0 255 true _ A8.out).mono ?_); rintro e w' ⟨rfl, ⟨nd, rfl⟩⟩) | (go_at_call 25; (with_reducible refine (impl_in.calls a0_4 0 255 true _ A10.out).mono ?_); rintro e w' ⟨rfl, ⟨nd, rfl⟩⟩) | (go_at_call 25; (with_reducible refine (impl_in.calls a0_5 0 255 true _ A12.out).mono ?_); rintro e w' ⟨rfl, ⟨nd, rfl⟩⟩))
           go_ret;exact ⟨by first | rfl | (simp <;> rfl) | (simp [*] <;> rfl), zB HB⟩
         ·replace c27 := Bool.eq_false_iff.mpr c27
          subst c27
          rw [if_neg (show ¬ (false = true) by decide)] at H;obtain rfl := Option.some.inj H
          go_enter Try.func24, Try.ntmps24
          go_wp2_with (first | ((with_reducible refine gate_dst (N := 1) rfl ?_); (try (refine gate_guard (by rfl) ?_; dsimp only)); refine box_event (by rfl) (N := 1) (by rfl) (cs := #[.int .i64 a0_0, .int .i64 a0_1, .int .i64 a0_2, .int .i64 a0_3, .int .i64 a0_4, .int .i64 a0_5, .bool false, .bool false, .slice A0_8 l0_8.length c0_8]) (t := 29) zr ?_; intro gb594 hg w33 hbox hb; have BK594 := Aside0.mk (hbox); have GW594 := zg HB hg; replace HB := zbb HB hb; have GE594 := GW594; clear hb hbox hg; obtain ⟨_, _, _, _, _, _, _, _, _, _, _, _, _, _, _, _, _, _⟩ := zc9 BK594.out) | ((with_reducible refine gate_callee (f := 35) rfl ?_); refine goesL_ (some 5) rfl rfl Try.func35 (by kernel_rfl) rfl #[.int .i64 a0_0] rfl zM ?_; (with_reducible refine (impl_word.calls a0_0 true _ A2.out).mono ?_); rintro e w' ⟨rfl, ⟨nd, rfl⟩⟩; refine ⟨_, rfl, ?_⟩) | (go_at_call 35; (with_reducible refine (impl_word.calls a0_1 true _ A4.out).mono ?_); rintro e w' ⟨rfl, ⟨nd, rfl⟩⟩) | (go_at_call 25; (with_reducible refine (impl_in.calls a0_2 0 255 true _ A6.out).mono ?_); rintro e w' ⟨rfl, ⟨nd, rfl⟩⟩) | (go_at_call 25; (with_reducible refine (impl_in.calls a0_3 0 255 true _ A8.out).mono ?_); rintro e w' ⟨rfl, ⟨nd, rfl⟩⟩) | (go_at_call 25; (with_reducible refine (impl_in.calls a0_4 0 255 true _ A10.out).mono ?_); rintro e w' ⟨rfl, ⟨nd, rfl⟩⟩) | (go_at_call 25; (with_reducible refine (impl_in.calls a0_5 0 255 true _ A12.out).mono ?_); rintro e w' ⟨rfl, ⟨nd, rfl⟩⟩))
          go_ret;exact ⟨by first | rfl | (simp <;> rfl) | (simp [*] <;> rfl), zB HB⟩
       ·rw [if_neg c14] at H
        have c14b0 : decide ((l0_8.length : Int) ≤ 48) = false := decide_eq_false c14;have c14b1 : decide (l0_8.length ≤ 48) = false := decide_eq_false (by omega);clear c14;obtain rfl := Option.some.inj H
        go_enter Try.func24, Try.ntmps24
        go_wp2_with (first | ((with_reducible refine gate_dst (N := 1) rfl ?_); (try (refine gate_guard (by rfl) ?_; dsimp only)); refine box_event (by rfl) (N := 1) (by rfl) (cs := #[.int .i64 a0_0, .int .i64 a0_1, .int .i64 a0_2, .int .i64 a0_3, .int .i64 a0_4, .int .i64 a0_5, .bool a0_6, .bool a0_7, .slice A0_8 l0_8.length c0_8]) (t := 29) zr ?_; intro gb594 hg w35 hbox hb; have BK594 := Aside0.mk (hbox); have GW594 := zg HB hg; replace HB := zbb HB hb; have GE594 := GW594; clear hb hbox hg; obtain ⟨_, _, _, _, _, _, _, _, _, _, _, _, _, _, _, _, _, _⟩ := zc9 BK594.out) | ((with_reducible refine gate_callee (f := 35) rfl ?_); refine goesL_ (some 5) rfl rfl Try.func35 (by kernel_rfl) rfl #[.int .i64 a0_0] rfl zM ?_; (with_reducible refine (impl_word.calls a0_0 true _ A2.out).mono ?_); rintro e w' ⟨rfl, ⟨nd, rfl⟩⟩; refine ⟨_, rfl, ?_⟩) | (go_at_call 35; (with_reducible refine (impl_word.calls a0_1 true _ A4.out).mono ?_); rintro e w' ⟨rfl, ⟨nd, rfl⟩⟩) | (go_at_call 25; (with_reducible refine (impl_in.calls a0_2 0 255 true _ A6.out).mono ?_); rintro e w' ⟨rfl, ⟨nd, rfl⟩⟩) | (go_at_call 25; (with_reducible refine (impl_in.calls a0_3 0 255 true _ A8.out).mono ?_); rintro e w' ⟨rfl, ⟨nd, rfl⟩⟩) | (go_at_call 25; (with_reducible refine (impl_in.calls a0_4 0 255 true _ A10.out).mono ?_); rintro e w' ⟨rfl, ⟨nd, rfl⟩⟩) | (go_at_call 25; (with_reducible refine (impl_in.calls a0_5 0 255 true _ A12.out).mono ?_); rintro e w' ⟨rfl, ⟨nd, rfl⟩⟩))
        go_ret;exact ⟨by first | rfl | (simp <;> rfl) | (simp [*] <;> rfl), zB HB⟩
      ·replace c13 := Bool.eq_false_iff.mpr c13
       subst c13
       rw [if_neg (show ¬ (false = true) by decide)] at H;obtain rfl := Option.some.inj H
       go_enter Try.func24, Try.ntmps24
       go_wp2_with (first | ((with_reducible refine gate_dst (N := 1) rfl ?_); (try (refine gate_guard (by rfl) ?_; dsimp only)); refine box_event (by rfl) (N := 1) (by rfl) (cs := #[.int .i64 a0_0, .int .i64 a0_1, .int .i64 a0_2, .int .i64 a0_3, .int .i64 a0_4, .int .i64 a0_5, .bool a0_6, .bool a0_7, .slice A0_8 l0_8.length c0_8]) (t := 29) zr ?_; intro gb594 hg w37 hbox hb; have BK594 := Aside0.mk (hbox); have GW594 := zg HB hg; replace HB := zbb HB hb; have GE594 := GW594; clear hb hbox hg; obtain ⟨_, _, _, _, _, _, _, _, _, _, _, _, _, _, _, _, _, _⟩ := zc9 BK594.out) | ((with_reducible refine gate_callee (f := 35) rfl ?_); refine goesL_ (some 5) rfl rfl Try.func35 (by kernel_rfl) rfl #[.int .i64 a0_0] rfl zM ?_; (with_reducible refine (impl_word.calls a0_0 true _ A2.out).mono ?_); rintro e w' ⟨rfl, ⟨nd, rfl⟩⟩; refine ⟨_, rfl, ?_⟩) | (go_at_call 35; (with_reducible refine (impl_word.calls a0_1 true _ A4.out).mono ?_); rintro e w' ⟨rfl, ⟨nd, rfl⟩⟩) | (go_at_call 25; (with_reducible refine (impl_in.calls a0_2 0 255 true _ A6.out).mono ?_); rintro e w' ⟨rfl, ⟨nd, rfl⟩⟩) | (go_at_call 25; (with_reducible refine (impl_in.calls a0_3 0 255 true _ A8.out).mono ?_); rintro e w' ⟨rfl, ⟨nd, rfl⟩⟩) | (go_at_call 25; (with_reducible refine (impl_in.calls a0_4 0 255 true _ A10.out).mono ?_); rintro e w' ⟨rfl, ⟨nd, rfl⟩⟩) | (go_at_call 25; (with_reducible refine (impl_in.calls a0_5 0 255 false _ A12.out).mono ?_); rintro e w' ⟨rfl, ⟨nd, rfl⟩⟩))
       go_ret;exact ⟨by first | rfl | (simp <;> rfl) | (simp [*] <;> rfl), zB HB⟩
     ·replace c11 := Bool.eq_false_iff.mpr c11
      subst c11
      rw [if_neg (show ¬ (false = true) by decide)] at H;obtain rfl := Option.some.inj H
      go_enter Try.func24, Try.ntmps24
      go_wp2_with (first | ((with_reducible refine gate_dst (N := 1) rfl ?_); (try (refine gate_guard (by rfl) ?_; dsimp only)); refine box_event (by rfl) (N := 1) (by rfl) (cs := #[.int .i64 a0_0, .int .i64 a0_1, .int .i64 a0_2, .int .i64 a0_3, .int .i64 a0_4, .int .i64 a0_5, .bool a0_6, .bool a0_7, .slice A0_8 l0_8.length c0_8]) (t := 29) zr ?_; intro gb594 hg w39 hbox hb; have BK594 := Aside0.mk (hbox); have GW594 := zg HB hg; replace HB := zbb HB hb; have GE594 := GW594; clear hb hbox hg; obtain ⟨_, _, _, _, _, _, _, _, _, _, _, _, _, _, _, _, _, _⟩ := zc9 BK594.out) | ((with_reducible refine gate_callee (f := 35) rfl ?_); refine goesL_ (some 5) rfl rfl Try.func35 (by kernel_rfl) rfl #[.int .i64 a0_0] rfl zM ?_; (with_reducible refine (impl_word.calls a0_0 true _ A2.out).mono ?_); rintro e w' ⟨rfl, ⟨nd, rfl⟩⟩; refine ⟨_, rfl, ?_⟩) | (go_at_call 35; (with_reducible refine (impl_word.calls a0_1 true _ A4.out).mono ?_); rintro e w' ⟨rfl, ⟨nd, rfl⟩⟩) | (go_at_call 25; (with_reducible refine (impl_in.calls a0_2 0 255 true _ A6.out).mono ?_); rintro e w' ⟨rfl, ⟨nd, rfl⟩⟩) | (go_at_call 25; (with_reducible refine (impl_in.calls a0_3 0 255 true _ A8.out).mono ?_); rintro e w' ⟨rfl, ⟨nd, rfl⟩⟩) | (go_at_call 25; (with_reducible refine (impl_in.calls a0_4 0 255 false _ A10.out).mono ?_); rintro e w' ⟨rfl, ⟨nd, rfl⟩⟩))
      go_ret;exact ⟨by first | rfl | (simp <;> rfl) | (simp [*] <;> rfl), zB HB⟩
    ·replace c9 := Bool.eq_false_iff.mpr c9
     subst c9
     rw [if_neg (show ¬ (false = true) by decide)] at H;obtain rfl := Option.some.inj H
     go_enter Try.func24, Try.ntmps24
     go_wp2_with (first | ((with_reducible refine gate_dst (N := 1) rfl ?_); (try (refine gate_guard (by rfl) ?_; dsimp only)); refine box_event (by rfl) (N := 1) (by rfl) (cs := #[.int .i64 a0_0, .int .i64 a0_1, .int .i64 a0_2, .int .i64 a0_3, .int .i64 a0_4, .int .i64 a0_5, .bool a0_6, .bool a0_7, .slice A0_8 l0_8.length c0_8]) (t := 29) zr ?_; intro gb594 hg w41 hbox hb; have BK594 := Aside0.mk (hbox); have GW594 := zg HB hg; replace HB := zbb HB hb; have GE594 := GW594; clear hb hbox hg; obtain ⟨_, _, _, _, _, _, _, _, _, _, _, _, _, _, _, _, _, _⟩ := zc9 BK594.out) | ((with_reducible refine gate_callee (f := 35) rfl ?_); refine goesL_ (some 5) rfl rfl Try.func35 (by kernel_rfl) rfl #[.int .i64 a0_0] rfl zM ?_; (with_reducible refine (impl_word.calls a0_0 true _ A2.out).mono ?_); rintro e w' ⟨rfl, ⟨nd, rfl⟩⟩; refine ⟨_, rfl, ?_⟩) | (go_at_call 35; (with_reducible refine (impl_word.calls a0_1 true _ A4.out).mono ?_); rintro e w' ⟨rfl, ⟨nd, rfl⟩⟩) | (go_at_call 25; (with_reducible refine (impl_in.calls a0_2 0 255 true _ A6.out).mono ?_); rintro e w' ⟨rfl, ⟨nd, rfl⟩⟩) | (go_at_call 25; (with_reducible refine (impl_in.calls a0_3 0 255 false _ A8.out).mono ?_); rintro e w' ⟨rfl, ⟨nd, rfl⟩⟩))
     go_ret;exact ⟨by first | rfl | (simp <;> rfl) | (simp [*] <;> rfl), zB HB⟩
   ·replace c7 := Bool.eq_false_iff.mpr c7
    subst c7
    rw [if_neg (show ¬ (false = true) by decide)] at H;obtain rfl := Option.some.inj H
    go_enter Try.func24, Try.ntmps24
    go_wp2_with (first | ((with_reducible refine gate_dst (N := 1) rfl ?_); (try (refine gate_guard (by rfl) ?_; dsimp only)); refine box_event (by rfl) (N := 1) (by rfl) (cs := #[.int .i64 a0_0, .int .i64 a0_1, .int .i64 a0_2, .int .i64 a0_3, .int .i64 a0_4, .int .i64 a0_5, .bool a0_6, .bool a0_7, .slice A0_8 l0_8.length c0_8]) (t := 29) zr ?_; intro gb594 hg w43 hbox hb; have BK594 := Aside0.mk (hbox); have GW594 := zg HB hg; replace HB := zbb HB hb; have GE594 := GW594; clear hb hbox hg; obtain ⟨_, _, _, _, _, _, _, _, _, _, _, _, _, _, _, _, _, _⟩ := zc9 BK594.out) | ((with_reducible refine gate_callee (f := 35) rfl ?_); refine goesL_ (some 5) rfl rfl Try.func35 (by kernel_rfl) rfl #[.int .i64 a0_0] rfl zM ?_; (with_reducible refine (impl_word.calls a0_0 true _ A2.out).mono ?_); rintro e w' ⟨rfl, ⟨nd, rfl⟩⟩; refine ⟨_, rfl, ?_⟩) | (go_at_call 35; (with_reducible refine (impl_word.calls a0_1 true _ A4.out).mono ?_); rintro e w' ⟨rfl, ⟨nd, rfl⟩⟩) | (go_at_call 25; (with_reducible refine (impl_in.calls a0_2 0 255 false _ A6.out).mono ?_); rintro e w' ⟨rfl, ⟨nd, rfl⟩⟩))
    go_ret;exact ⟨by first | rfl | (simp <;> rfl) | (simp [*] <;> rfl), zB HB⟩
  ·replace c5 := Bool.eq_false_iff.mpr c5
   subst c5
   rw [if_neg (show ¬ (false = true) by decide)] at H;obtain rfl := Option.some.inj H
   go_enter Try.func24, Try.ntmps24
   go_wp2_with (first | ((with_reducible refine gate_dst (N := 1) rfl ?_); (try (refine gate_guard (by rfl) ?_; dsimp only)); refine box_event (by rfl) (N := 1) (by rfl) (cs := #[.int .i64 a0_0, .int .i64 a0_1, .int .i64 a0_2, .int .i64 a0_3, .int .i64 a0_4, .int .i64 a0_5, .bool a0_6, .bool a0_7, .slice A0_8 l0_8.length c0_8]) (t := 29) zr ?_; intro gb594 hg w45 hbox hb; have BK594 := Aside0.mk (hbox); have GW594 := zg HB hg; replace HB := zbb HB hb; have GE594 := GW594; clear hb hbox hg; obtain ⟨_, _, _, _, _, _, _, _, _, _, _, _, _, _, _, _, _, _⟩ := zc9 BK594.out) | ((with_reducible refine gate_callee (f := 35) rfl ?_); refine goesL_ (some 5) rfl rfl Try.func35 (by kernel_rfl) rfl #[.int .i64 a0_0] rfl zM ?_; (with_reducible refine (impl_word.calls a0_0 true _ A2.out).mono ?_); rintro e w' ⟨rfl, ⟨nd, rfl⟩⟩; refine ⟨_, rfl, ?_⟩) | (go_at_call 35; (with_reducible refine (impl_word.calls a0_1 false _ A4.out).mono ?_); rintro e w' ⟨rfl, ⟨nd, rfl⟩⟩))
   go_ret;exact ⟨by first | rfl | (simp <;> rfl) | (simp [*] <;> rfl), zB HB⟩
 ·replace c3 := Bool.eq_false_iff.mpr c3
  subst c3
  rw [if_neg (show ¬ (false = true) by decide)] at H;obtain rfl := Option.some.inj H
  go_enter Try.func24, Try.ntmps24
  go_wp2_with (first | ((with_reducible refine gate_dst (N := 1) rfl ?_); (try (refine gate_guard (by rfl) ?_; dsimp only)); refine box_event (by rfl) (N := 1) (by rfl) (cs := #[.int .i64 a0_0, .int .i64 a0_1, .int .i64 a0_2, .int .i64 a0_3, .int .i64 a0_4, .int .i64 a0_5, .bool a0_6, .bool a0_7, .slice A0_8 l0_8.length c0_8]) (t := 29) zr ?_; intro gb594 hg w47 hbox hb; have BK594 := Aside0.mk (hbox); have GW594 := zg HB hg; replace HB := zbb HB hb; have GE594 := GW594; clear hb hbox hg; obtain ⟨_, _, _, _, _, _, _, _, _, _, _, _, _, _, _, _, _, _⟩ := zc9 BK594.out) | ((with_reducible refine gate_callee (f := 35) rfl ?_); refine goesL_ (some 5) rfl rfl Try.func35 (by kernel_rfl) rfl #[.int .i64 a0_0] rfl zM ?_; (with_reducible refine (impl_word.calls a0_0 false _ A2.out).mono ?_); rintro e w' ⟨rfl, ⟨nd, rfl⟩⟩; refine ⟨_, rfl, ?_⟩))
  go_ret;exact ⟨by first | rfl | (simp <;> rfl) | (simp [*] <;> rfl), zB HB⟩

end Go.Proofs.Ytdbmmkhaeghjaaa.PFnPartsOk

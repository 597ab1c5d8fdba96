/- The machine side of some functions: each comes to its pure answer (written by a program of this session with the kit's print). No condition. -/
import Derived.Test.YtibfeacgnadiaaaPFnRoutesOkx0
import Derived.Test.YtibfeacgnadiaaaPFnRoutesOkx1
import Derived.Test.YtibfeacgnadiaaaPFnRoutesOkx3
import Derived.Test.YtibfeacgnadiaaaPFnRoutesOkx7
namespace Go.Proofs.Ytibfeacgnadiaaa.PFnRoutesOk
open Go.RowKit Go.Proofs.YtibfeacgnadiaaaW.PrintWords Go.Proofs.YtibfeacgnadiaaaW.PrintLast Go.Proofs.YtibfeacgnadiaaaW.PrintMore
attribute [local go_sem] max2_int min2_int max_two min_two max_three min_three max_four min_four   -- for this text's walks alone
set_option linter.unusedVariables false
set_option linter.unusedSimpArgs false

/-! ### laws_FnRoutesOk: function 12 -/
mutual
def laws_FnRoutesOk.l0 : Nat → List (S63) → Bool → Int → Option (Bool)
  | 0, _, _, _ => none
  | k + 1, x3, x4, x5 => if x5 < (x3.length : Int) then (laws_FnRoutesOk.j1 k x3 x4 x5 x4) else (laws_FnRoutesOk.j1 k x3 x4 x5 false)
def laws_FnRoutesOk.j1 : Nat → List (S63) → Bool → Int → Bool → Option (Bool)
  | 0, _, _, _, _ => none
  | k + 1, x3, x4, x5, x23 => if x23 = true then ((some (([] : List (S63)) : List (S63))).bind fun y261 => (if 0 ≤ x5 then (if x5 ≤ (x3.length : Int) then ((some (x3.take (x5 : Int).toNat : List (S63))).bind fun y264 => (if y261.length + y264.length < 4398046511104 then ((some (y261 ++ y264 : List (S63))).bind fun y268 => (if 0 ≤ (wrap64 (x5 + 1)) then (if (wrap64 (x5 + 1)) ≤ (x3.length : Int) then ((some (x3.drop ((wrap64 (x5 + 1)) : Int).toNat : List (S63))).bind fun y271 => (if y268.length + y271.length < 4398046511104 then ((impl_RoutesOk.f k (y268 ++ y271)).bind fun t278 => (if t278 = true then (laws_FnRoutesOk.l0 k x3 x4 (wrap64 (x5 + 1))) else (some false))) else (none))) else (none)) else (none))) else (none))) else (none)) else (none))) else ((impl_RoutesOk.f k (([] : List (S63)))).bind fun t282 => (if t282 = true then ((laws_alive.f k).bind fun t283 => (some t283)) else (some false)))
end
def laws_FnRoutesOk.f (k : Nat) (l0 : List Int) : Option (Bool) := if (l0.length : Int) > 1048576 then (some true) else ((spec_DrawRoutesOk.f k l0).bind fun t256 => ((impl_RoutesOk.f k t256).bind fun t259 => ((spec_RoutesOk.f k t256).bind fun t260 => (if (t259 != t260) = true then (some false) else (laws_FnRoutesOk.l0 k t256 t259 0)))))
theorem laws_FnRoutesOk.mono_l : ∀ k, (∀ y0 y1 y2, LeO (laws_FnRoutesOk.l0 k y0 y1 y2) (laws_FnRoutesOk.l0 (k + 1) y0 y1 y2)) ∧ (∀ y0 y1 y2 y3, LeO (laws_FnRoutesOk.j1 k y0 y1 y2 y3) (laws_FnRoutesOk.j1 (k + 1) y0 y1 y2 y3))
  | 0 => ⟨fun _ _ _ r h => by simp [laws_FnRoutesOk.l0] at h, fun _ _ _ _ r h => by simp [laws_FnRoutesOk.j1] at h⟩
  | k + 1 => by
    obtain ⟨ih0, ih1⟩ := laws_FnRoutesOk.mono_l k
    refine ⟨?_, ?_⟩
    · intro y0 y1 y2
      unfold laws_FnRoutesOk.l0
      repeat' first
      | (with_reducible exact ih0 _ _ _)
      | (with_reducible exact ih1 _ _ _ _)
      | (with_reducible exact impl_RoutesOk.mono _ _)
      | (with_reducible exact laws_alive.mono _)
      | (with_reducible exact spec_DrawRoutesOk.mono _ _)
      | (with_reducible exact spec_RoutesOk.mono _ _)
      | (with_reducible exact LeO.refl _)
      | (with_reducible exact LeO.none _)
      | (with_reducible refine LeO.ite ?_ ?_)
      | (with_reducible refine LeO.bind ?_ (fun _ => ?_))
      | exact ih0 _ _ _
      | exact ih1 _ _ _ _
      | exact impl_RoutesOk.mono _ _
      | exact laws_alive.mono _
      | exact spec_DrawRoutesOk.mono _ _
      | exact spec_RoutesOk.mono _ _
      | exact LeO.none _
      | refine LeO.ite ?_ ?_
      | refine LeO.bind ?_ (fun _ => ?_)
    · intro y0 y1 y2 y3
      unfold laws_FnRoutesOk.j1
      repeat' first
      | (with_reducible exact ih0 _ _ _)
      | (with_reducible exact ih1 _ _ _ _)
      | (with_reducible exact impl_RoutesOk.mono _ _)
      | (with_reducible exact laws_alive.mono _)
      | (with_reducible exact spec_DrawRoutesOk.mono _ _)
      | (with_reducible exact spec_RoutesOk.mono _ _)
      | (with_reducible exact LeO.refl _)
      | (with_reducible exact LeO.none _)
      | (with_reducible refine LeO.ite ?_ ?_)
      | (with_reducible refine LeO.bind ?_ (fun _ => ?_))
      | exact ih0 _ _ _
      | exact ih1 _ _ _ _
      | exact impl_RoutesOk.mono _ _
      | exact laws_alive.mono _
      | exact spec_DrawRoutesOk.mono _ _
      | exact spec_RoutesOk.mono _ _
      | exact LeO.none _
      | refine LeO.ite ?_ ?_
      | refine LeO.bind ?_ (fun _ => ?_)
theorem laws_FnRoutesOk.mono : ∀ a0 k, LeO (laws_FnRoutesOk.f k a0) (laws_FnRoutesOk.f (k + 1) a0) := by
  intro a0 k
  obtain ⟨ih0, ih1⟩ := laws_FnRoutesOk.mono_l k
  unfold laws_FnRoutesOk.f
  repeat' first
      | (with_reducible exact ih0 _ _ _)
      | (with_reducible exact ih1 _ _ _ _)
      | (with_reducible exact impl_RoutesOk.mono _ _)
      | (with_reducible exact laws_alive.mono _)
      | (with_reducible exact spec_DrawRoutesOk.mono _ _)
      | (with_reducible exact spec_RoutesOk.mono _ _)
      | (with_reducible exact LeO.refl _)
      | (with_reducible exact LeO.none _)
      | (with_reducible refine LeO.ite ?_ ?_)
      | (with_reducible refine LeO.bind ?_ (fun _ => ?_))
      | exact ih0 _ _ _
      | exact ih1 _ _ _ _
      | exact impl_RoutesOk.mono _ _
      | exact laws_alive.mono _
      | exact spec_DrawRoutesOk.mono _ _
      | exact spec_RoutesOk.mono _ _
      | exact LeO.none _
      | refine LeO.ite ?_ ?_
      | refine LeO.bind ?_ (fun _ => ?_)
def laws_FnRoutesOk.T10 : Bool × List (List Nat × List Nat) := (true, [([], []), ([], []), ([], []), ([1, 2], [1, 2]), ([0, 3], [0, 3]), ([], []), ([], []), ([6], [6]), ([5, 7], [5, 7]), ([4, 8, 4], [4, 8]), ([9, 9], [9]), ([10], [10])])
def laws_FnRoutesOk.B10 : List Nat := [0, 0, 0, 6, 15, 0, 0, 64, 224, 511, 1023, 2047]
theorem laws_FnRoutesOk.tab10 : rtab .any (opsOf Try.f12 10) = laws_FnRoutesOk.T10 := by kernel_rfl
theorem laws_FnRoutesOk.bits10 : waitsOk laws_FnRoutesOk.T10.2 laws_FnRoutesOk.B10 = true := by kernel_rfl
set_option maxHeartbeats 8000000 in
set_option maxRecDepth 100000 in
theorem laws_FnRoutesOk.calls (k : Nat) (A0 : Option Addr) (c0 : Nat) (l0 : List Int) (r : Bool) (w : World) (hr0 : Kd.C (Kd.int .u8) w A0 l0.length l0) (hc0 : l0.length ≤ c0) (h : laws_FnRoutesOk.f k l0 = some r) :
    Calls Try.prog 12 #[.slice A0 l0.length c0] w fun e w' => e = .returned (.bool r) ∧ Below w.heap.size w w' := by
  have HR0 := Aside0.mk hr0
  have HC0 := Aside0.mk hc0
  clear hr0 hc0
  have HB := Aside0.mk (Below.refl w.heap.size w)
  have H : (if (l0.length : Int) > 1048576 then (some true) else ((spec_DrawRoutesOk.f k l0).bind fun t256 => ((impl_RoutesOk.f k t256).bind fun t259 => ((spec_RoutesOk.f k t256).bind fun t260 => (if (t259 != t260) = true then (some false) else (laws_FnRoutesOk.l0 k t256 t259 0)))))) = some r := h
  clear h
  by_cases c2 : (l0.length : Int) > 1048576
  · rw [if_pos c2] at H
    have c2b0 : decide (1048576 < (l0.length : Int)) = true := decide_eq_true c2
    have c2b1 : decide (1048576 < l0.length) = true := decide_eq_true (by omega)
    clear c2
    obtain rfl := Option.some.inj H
    go_enter Try.func12, Try.ntmps12
    go_wp2
    go_ret
    exact ⟨by first | rfl | (simp [errW_none, errW_some] <;> rfl) | (simp [*, errW_none, errW_some] <;> rfl), by repeat (first | (with_reducible first | exact HB.out | apply below_alloc | apply pw_below_drewN | apply below_drew1) | exact HB.out)⟩
  · rw [if_neg c2] at H
    have c2b0 : decide (1048576 < (l0.length : Int)) = false := decide_eq_false c2
    have c2b1 : decide (1048576 < l0.length) = false := decide_eq_false (by omega)
    clear c2
    replace H := Option.bind_eq_some_iff.mp H
    obtain ⟨t256, A30, H⟩ := H
    replace H : ((impl_RoutesOk.f k t256).bind fun t259 => ((spec_RoutesOk.f k t256).bind fun t260 => (if (t259 != t260) = true then (some false) else (laws_FnRoutesOk.l0 k t256 t259 0)))) = some r := H
    have A3 := Aside0.mk A30
    clear A30
    replace H := Option.bind_eq_some_iff.mp H
    obtain ⟨t259, A40, H⟩ := H
    replace H : ((spec_RoutesOk.f k t256).bind fun t260 => (if (t259 != t260) = true then (some false) else (laws_FnRoutesOk.l0 k t256 t259 0))) = some r := H
    have A4 := Aside0.mk A40
    clear A40
    replace H := Option.bind_eq_some_iff.mp H
    obtain ⟨t260, A50, H⟩ := H
    replace H : (if (t259 != t260) = true then (some false) else (laws_FnRoutesOk.l0 k t256 t259 0)) = some r := H
    have A5 := Aside0.mk A50
    clear A50
    by_cases c6 : (t259 != t260) = true
    · rw [if_pos c6] at H
      have c6b0 : (t259 != t260) = true := c6
      (try (have c6b1 : decide (t259 = t260) = false := by simpa using c6))
      (try (have c6b2 : (t259 == t260) = false := by simpa using c6))
      (try (have c6b3 : ¬ (t259 = t260) := by simpa using c6))
      clear c6
      obtain rfl := Option.some.inj H
      go_enter Try.func12, Try.ntmps12
      go_wp2_with (first | ((with_reducible refine gate_callee (f := 50) rfl ?_); refine goesL_ (some 10) rfl rfl Try.func50 (by kernel_rfl) rfl #[.slice A0 l0.length c0] rfl (by (try simp only [List.map_toArray, List.map_cons, List.map_nil]); first | done | rfl | (simp only [List.length_drop, List.length_take]; rfl)) ?_; (with_reducible refine (spec_DrawRoutesOk.calls k _ _ l0 t256 _ ?side1 ?side2 A3.out).mono ?_); (case side1 => repeat (first | exact HR0.out | (with_reducible refine Kd.C_alloc ?_ _) | (with_reducible refine Kd.C_drewN ?_ _) | (with_reducible refine Kd.C_drew ?_))); (case side2 => exact HC0.out); rintro e w7 ⟨v257, rfl, ho0, hb⟩; refine ⟨_, rfl, ?_⟩; have n0_ := Aside0.mk (Kd.R_lower ho0 (below_size (by repeat (first | (with_reducible first | exact HB.out | apply below_alloc | apply pw_below_drewN | apply below_drew1) | exact HB.out)))); have n1_ := Aside0.mk (below_step (by repeat (first | (with_reducible first | exact HB.out | apply below_alloc | apply pw_below_drewN | apply below_drew1) | exact HB.out)) hb); clear HB; have HO258 := n0_; have HB := n1_; clear n0_ n1_; (try clear hb); (try clear hb2); (try clear hk); (try clear hi); (try clear ho0); obtain ⟨Ao8, co8, eo8⟩ := Kd.R_slice HO258.out; subst eo8) | ((with_reducible refine gate_callee (f := 34) rfl ?_); refine goesL_ (some 12) rfl rfl Try.func34 (by kernel_rfl) rfl #[.slice Ao8 t256.length co8] rfl (by (try simp only [List.map_toArray, List.map_cons, List.map_nil]); first | done | rfl | (simp only [List.length_drop, List.length_take]; rfl)) ?_; (with_reducible refine (impl_RoutesOk.calls k _ _ t256 t259 _ ?side1 ?side2 A4.out).mono ?_); (case side1 => repeat (first | exact (Kd.R_reads' HO258.out).2.2 | (with_reducible refine Kd.C_alloc ?_ _) | (with_reducible refine Kd.C_drewN ?_ _) | (with_reducible refine Kd.C_drew ?_))); (case side2 => exact (Kd.R_reads' HO258.out).2.1); rintro e w9 ⟨rfl, hb⟩; refine ⟨_, rfl, ?_⟩; have n0_ := Aside0.mk (Kd.R_below (by (with_reducible repeat (first | apply Kd.R_alloc | apply Kd.R_drewN | apply Kd.R_drew)); exact HO258.out) hb); have n1_ := Aside0.mk (below_step (by repeat (first | (with_reducible first | exact HB.out | apply below_alloc | apply pw_below_drewN | apply below_drew1) | exact HB.out)) hb); clear HO258; clear HB; have HO258 := n0_; have HB := n1_; clear n0_ n1_; (try clear hb); (try clear hb2); (try clear hk); (try clear hi)) | ((with_reducible refine gate_callee (f := 32) rfl ?_); refine goesL_ (some 15) rfl rfl Try.func32 (by kernel_rfl) rfl #[.slice Ao8 t256.length co8] rfl (by (try simp only [List.map_toArray, List.map_cons, List.map_nil]); first | done | rfl | (simp only [List.length_drop, List.length_take]; rfl)) ?_; (with_reducible refine (spec_RoutesOk.calls k _ _ t256 t260 _ ?side1 ?side2 A5.out).mono ?_); (case side1 => repeat (first | exact (Kd.R_reads' HO258.out).2.2 | (with_reducible refine Kd.C_alloc ?_ _) | (with_reducible refine Kd.C_drewN ?_ _) | (with_reducible refine Kd.C_drew ?_))); (case side2 => exact (Kd.R_reads' HO258.out).2.1); rintro e w10 ⟨rfl, hb⟩; refine ⟨_, rfl, ?_⟩; have n0_ := Aside0.mk (Kd.R_below (by (with_reducible repeat (first | apply Kd.R_alloc | apply Kd.R_drewN | apply Kd.R_drew)); exact HO258.out) hb); have n1_ := Aside0.mk (below_step (by repeat (first | (with_reducible first | exact HB.out | apply below_alloc | apply pw_below_drewN | apply below_drew1) | exact HB.out)) hb); clear HO258; clear HB; have HO258 := n0_; have HB := n1_; clear n0_ n1_; (try clear hb); (try clear hb2); (try clear hk); (try clear hi)))
      go_ret
      exact ⟨by first | rfl | (simp [errW_none, errW_some] <;> rfl) | (simp [*, errW_none, errW_some] <;> rfl), by repeat (first | (with_reducible first | exact HB.out | apply below_alloc | apply pw_below_drewN | apply below_drew1) | exact HB.out)⟩
    · rw [if_neg c6] at H
      have c6b0 : (t259 != t260) = false := by simpa using c6
      (try (have c6b1 : decide (t259 = t260) = true := by simpa using c6))
      (try (have c6b2 : (t259 == t260) = true := by simpa using c6))
      clear c6
      have H' := Aside0.mk H
      clear H
      go_enter Try.func12, Try.ntmps12
      go_wp2_with (first | ((with_reducible refine gate_callee (f := 50) rfl ?_); refine goesL_ (some 10) rfl rfl Try.func50 (by kernel_rfl) rfl #[.slice A0 l0.length c0] rfl (by (try simp only [List.map_toArray, List.map_cons, List.map_nil]); first | done | rfl | (simp only [List.length_drop, List.length_take]; rfl)) ?_; (with_reducible refine (spec_DrawRoutesOk.calls k _ _ l0 t256 _ ?side1 ?side2 A3.out).mono ?_); (case side1 => repeat (first | exact HR0.out | (with_reducible refine Kd.C_alloc ?_ _) | (with_reducible refine Kd.C_drewN ?_ _) | (with_reducible refine Kd.C_drew ?_))); (case side2 => exact HC0.out); rintro e w11 ⟨v257, rfl, ho0, hb⟩; refine ⟨_, rfl, ?_⟩; have n0_ := Aside0.mk (Kd.R_lower ho0 (below_size (by repeat (first | (with_reducible first | exact HB.out | apply below_alloc | apply pw_below_drewN | apply below_drew1) | exact HB.out)))); have n1_ := Aside0.mk (below_step (by repeat (first | (with_reducible first | exact HB.out | apply below_alloc | apply pw_below_drewN | apply below_drew1) | exact HB.out)) hb); clear HB; have HO258 := n0_; have HB := n1_; clear n0_ n1_; (try clear hb); (try clear hb2); (try clear hk); (try clear hi); (try clear ho0); obtain ⟨Ao12, co12, eo12⟩ := Kd.R_slice HO258.out; subst eo12) | ((with_reducible refine gate_callee (f := 34) rfl ?_); refine goesL_ (some 12) rfl rfl Try.func34 (by kernel_rfl) rfl #[.slice Ao12 t256.length co12] rfl (by (try simp only [List.map_toArray, List.map_cons, List.map_nil]); first | done | rfl | (simp only [List.length_drop, List.length_take]; rfl)) ?_; (with_reducible refine (impl_RoutesOk.calls k _ _ t256 t259 _ ?side1 ?side2 A4.out).mono ?_); (case side1 => repeat (first | exact (Kd.R_reads' HO258.out).2.2 | (with_reducible refine Kd.C_alloc ?_ _) | (with_reducible refine Kd.C_drewN ?_ _) | (with_reducible refine Kd.C_drew ?_))); (case side2 => exact (Kd.R_reads' HO258.out).2.1); rintro e w13 ⟨rfl, hb⟩; refine ⟨_, rfl, ?_⟩; have n0_ := Aside0.mk (Kd.R_below (by (with_reducible repeat (first | apply Kd.R_alloc | apply Kd.R_drewN | apply Kd.R_drew)); exact HO258.out) hb); have n1_ := Aside0.mk (below_step (by repeat (first | (with_reducible first | exact HB.out | apply below_alloc | apply pw_below_drewN | apply below_drew1) | exact HB.out)) hb); clear HO258; clear HB; have HO258 := n0_; have HB := n1_; clear n0_ n1_; (try clear hb); (try clear hb2); (try clear hk); (try clear hi)) | ((with_reducible refine gate_callee (f := 32) rfl ?_); refine goesL_ (some 15) rfl rfl Try.func32 (by kernel_rfl) rfl #[.slice Ao12 t256.length co12] rfl (by (try simp only [List.map_toArray, List.map_cons, List.map_nil]); first | done | rfl | (simp only [List.length_drop, List.length_take]; rfl)) ?_; (with_reducible refine (spec_RoutesOk.calls k _ _ t256 t260 _ ?side1 ?side2 A5.out).mono ?_); (case side1 => repeat (first | exact (Kd.R_reads' HO258.out).2.2 | (with_reducible refine Kd.C_alloc ?_ _) | (with_reducible refine Kd.C_drewN ?_ _) | (with_reducible refine Kd.C_drew ?_))); (case side2 => exact (Kd.R_reads' HO258.out).2.1); rintro e w14 ⟨rfl, hb⟩; refine ⟨_, rfl, ?_⟩; have n0_ := Aside0.mk (Kd.R_below (by (with_reducible repeat (first | apply Kd.R_alloc | apply Kd.R_drewN | apply Kd.R_drew)); exact HO258.out) hb); have n1_ := Aside0.mk (below_step (by repeat (first | (with_reducible first | exact HB.out | apply below_alloc | apply pw_below_drewN | apply below_drew1) | exact HB.out)) hb); clear HO258; clear HB; have HO258 := n0_; have HB := n1_; clear n0_ n1_; (try clear hb); (try clear hb2); (try clear hk); (try clear hi)))
      go_loopg [5] k (fun kq v5 w' => ∃ (x5_1 : Int), v5 = .int .i64 x5_1 ∧ Aside0 (laws_FnRoutesOk.l0 kq t256 t259 x5_1 = some r) ∧ Aside0 (kq ≤ k) ∧ Aside0 (Kd.R k63 63 w' w.heap.size (fun _ => True) (.slice Ao12 t256.length co12) t256) ∧ Aside0 (Below w.heap.size w w'))
      case atStart => exact ⟨(0), (by first | rfl | (simp; done) | (simp [*]; done)), H', ⟨Nat.le_refl _⟩, ⟨by (with_reducible repeat (first | apply Kd.R_alloc | apply Kd.R_drewN | apply Kd.R_drew)); exact HO258.out⟩, ⟨by repeat (first | (with_reducible first | exact HB.out | apply below_alloc | apply pw_below_drewN | apply below_drew1) | exact HB.out)⟩⟩
      case round =>
        clear H'
        try clear c1
        try clear c2
        try clear c2b0
        try clear c2b1
        try clear p2
        try clear c3
        try clear c5
        try clear c6
        try clear c6b0
        try clear c6b1
        try clear c6b2
        try clear c12
        obtain ⟨x5_1, rfl, HA, HK1, HO_3, HB⟩ := hrel
        cases gk with
        | zero => exact absurd HA.out (by simp [laws_FnRoutesOk.l0])
        | succ k1 =>
          have H := HA.out
          clear HA
          simp only [laws_FnRoutesOk.l0] at H
          have HC15 := Aside0.mk H
          clear H
          go_upto_region 8 with (fail)
          go_cut [23] (fun v23 wc => ∃ (kq : Nat) (x23_14 : Bool), v23 = .bool x23_14 ∧ Aside0 (laws_FnRoutesOk.j1 kq t256 t259 x5_1 x23_14 = some r) ∧ Aside0 (kq ≤ k1) ∧ Aside0 (Kd.R k63 63 wc w.heap.size (fun _ => True) (.slice Ao12 t256.length co12) t256) ∧ Aside0 (Below w.heap.size w wc))
          case first =>
            have H := HC15.out
            clear HC15
            by_cases c16 : x5_1 < (t256.length : Int)
            · rw [if_pos c16] at H
              have c16b0 : decide (x5_1 < (t256.length : Int)) = true := decide_eq_true c16
              clear c16
              (first | rw [c16b0] | (simp only [i64_w, i32_w]; rw [c16b0]) | skip)
              have H' := Aside0.mk H
              clear H
              go_wp2
              go_meet
              case rel => exact ⟨_, (t259), (by first | rfl | (simp; done) | (simp [*]; done)), H', ⟨by have := HK1.out; first | omega | exact Nat.le_refl _⟩, ⟨by (with_reducible repeat (first | apply Kd.R_alloc | apply Kd.R_drewN | apply Kd.R_drew)); exact HO_3.out⟩, ⟨by repeat (first | (with_reducible first | exact HB.out | apply below_alloc | apply pw_below_drewN | apply below_drew1) | exact HB.out)⟩⟩
            · rw [if_neg c16] at H
              have c16b0 : decide (x5_1 < (t256.length : Int)) = false := decide_eq_false c16
              clear c16
              (first | rw [c16b0] | (simp only [i64_w, i32_w]; rw [c16b0]) | skip)
              have H' := Aside0.mk H
              clear H
              go_wp2
              go_meet
              case rel => exact ⟨_, (false), (by first | rfl | (simp; done) | (simp [*]; done)), H', ⟨by have := HK1.out; first | omega | exact Nat.le_refl _⟩, ⟨by (with_reducible repeat (first | apply Kd.R_alloc | apply Kd.R_drewN | apply Kd.R_drew)); exact HO_3.out⟩, ⟨by repeat (first | (with_reducible first | exact HB.out | apply below_alloc | apply pw_below_drewN | apply below_drew1) | exact HB.out)⟩⟩
          case rest =>
            clear HC15
            try clear c1
            try clear c2
            try clear c2b0
            try clear c2b1
            try clear p2
            try clear c3
            try clear c5
            try clear c6
            try clear c6b0
            try clear c6b1
            try clear c6b2
            try clear c12
            try clear c16
            try clear c16b0
            try clear p2
            obtain ⟨kq, x23_14, rfl, HA, HJ14, HO_3, HB⟩ := hcut
            cases kq with
            | zero => exact absurd HA.out (by simp [laws_FnRoutesOk.j1])
            | succ kj14 =>
              have H := HA.out
              clear HA
              simp only [laws_FnRoutesOk.j1] at H
              by_cases c17 : x23_14 = true
              · subst c17
                have H1 : ((some (([] : List (S63)) : List (S63))).bind fun y261 => (if 0 ≤ x5_1 then (if x5_1 ≤ (t256.length : Int) then ((some (t256.take (x5_1 : Int).toNat : List (S63))).bind fun y264 => (if y261.length + y264.length < 4398046511104 then ((some (y261 ++ y264 : List (S63))).bind fun y268 => (if 0 ≤ (wrap64 (x5_1 + 1)) then (if (wrap64 (x5_1 + 1)) ≤ (t256.length : Int) then ((some (t256.drop ((wrap64 (x5_1 + 1)) : Int).toNat : List (S63))).bind fun y271 => (if y268.length + y271.length < 4398046511104 then ((impl_RoutesOk.f kj14 (y268 ++ y271)).bind fun t278 => (if t278 = true then (laws_FnRoutesOk.l0 kj14 t256 t259 (wrap64 (x5_1 + 1))) else (some false))) else (none))) else (none)) else (none))) else (none))) else (none)) else (none))) = some r := by rw [if_pos rfl] at H; exact H
                clear H
                have H := H1
                clear H1
                obtain ⟨y261, hy261⟩ : ∃ y_ : List (S63), y_ = (([] : List (S63))) := ⟨_, rfl⟩
                replace H : (if 0 ≤ x5_1 then (if x5_1 ≤ (t256.length : Int) then ((some (t256.take (x5_1 : Int).toNat : List (S63))).bind fun y264 => (if y261.length + y264.length < 4398046511104 then ((some (y261 ++ y264 : List (S63))).bind fun y268 => (if 0 ≤ (wrap64 (x5_1 + 1)) then (if (wrap64 (x5_1 + 1)) ≤ (t256.length : Int) then ((some (t256.drop ((wrap64 (x5_1 + 1)) : Int).toNat : List (S63))).bind fun y271 => (if y268.length + y271.length < 4398046511104 then ((impl_RoutesOk.f kj14 (y268 ++ y271)).bind fun t278 => (if t278 = true then (laws_FnRoutesOk.l0 kj14 t256 t259 (wrap64 (x5_1 + 1))) else (some false))) else (none))) else (none)) else (none))) else (none))) else (none)) else (none)) = some r := by first | (rw [hy261]; with_reducible exact H) | (have H2_ := (Option.bind_some _ _).symm.trans H; rw [hy261]; with_reducible exact H2_) | (have H2_ := (Option.bind_some _ _).symm.trans H; with_reducible exact H2_) | with_reducible exact H | (rw [hy261]; exact H) | exact H
                have Ny261 := Aside0.mk hy261
                clear hy261
                by_cases c18 : 0 ≤ x5_1
                · rw [if_pos c18] at H
                  have c18b0 := eq_true c18
                  have c18b1 : decide (0 ≤ x5_1) = true := decide_eq_true c18
                  clear c18
                  by_cases c19 : x5_1 ≤ (t256.length : Int)
                  · rw [if_pos c19] at H
                    have c19b0 := eq_true c19
                    have c19b1 : decide (x5_1 ≤ (t256.length : Int)) = true := decide_eq_true c19
                    clear c19
                    obtain ⟨y264, hy264⟩ : ∃ y_ : List (S63), y_ = (t256.take (x5_1 : Int).toNat) := ⟨_, rfl⟩
                    replace H : (if y261.length + y264.length < 4398046511104 then ((some (y261 ++ y264 : List (S63))).bind fun y268 => (if 0 ≤ (wrap64 (x5_1 + 1)) then (if (wrap64 (x5_1 + 1)) ≤ (t256.length : Int) then ((some (t256.drop ((wrap64 (x5_1 + 1)) : Int).toNat : List (S63))).bind fun y271 => (if y268.length + y271.length < 4398046511104 then ((impl_RoutesOk.f kj14 (y268 ++ y271)).bind fun t278 => (if t278 = true then (laws_FnRoutesOk.l0 kj14 t256 t259 (wrap64 (x5_1 + 1))) else (some false))) else (none))) else (none)) else (none))) else (none)) = some r := by first | (rw [hy264]; with_reducible exact H) | (have H2_ := (Option.bind_some _ _).symm.trans H; rw [hy264]; with_reducible exact H2_) | (have H2_ := (Option.bind_some _ _).symm.trans H; with_reducible exact H2_) | with_reducible exact H | (rw [hy264]; exact H) | exact H
                    have Ny264 := Aside0.mk hy264
                    clear hy264
                    by_cases c20 : y261.length + y264.length < 4398046511104
                    · rw [if_pos c20] at H
                      have LMc20 := Aside0.mk c20
                      clear c20
                      obtain ⟨y268, hy268⟩ : ∃ y_ : List (S63), y_ = (y261 ++ y264) := ⟨_, rfl⟩
                      replace H : (if 0 ≤ (wrap64 (x5_1 + 1)) then (if (wrap64 (x5_1 + 1)) ≤ (t256.length : Int) then ((some (t256.drop ((wrap64 (x5_1 + 1)) : Int).toNat : List (S63))).bind fun y271 => (if y268.length + y271.length < 4398046511104 then ((impl_RoutesOk.f kj14 (y268 ++ y271)).bind fun t278 => (if t278 = true then (laws_FnRoutesOk.l0 kj14 t256 t259 (wrap64 (x5_1 + 1))) else (some false))) else (none))) else (none)) else (none)) = some r := by first | (rw [hy268]; with_reducible exact H) | (have H2_ := (Option.bind_some _ _).symm.trans H; rw [hy268]; with_reducible exact H2_) | (have H2_ := (Option.bind_some _ _).symm.trans H; with_reducible exact H2_) | with_reducible exact H | (rw [hy268]; exact H) | exact H
                      have Ny268 := Aside0.mk hy268
                      clear hy268
                      obtain ⟨ji21, hji21⟩ : ∃ j_ : Int, (wrap64 (x5_1 + 1)) = j_ := ⟨_, rfl⟩
                      replace H : (if 0 ≤ (ji21) then (if (ji21) ≤ (t256.length : Int) then ((some (t256.drop ((ji21) : Int).toNat : List (S63))).bind fun y271 => (if y268.length + y271.length < 4398046511104 then ((impl_RoutesOk.f kj14 (y268 ++ y271)).bind fun t278 => (if t278 = true then (laws_FnRoutesOk.l0 kj14 t256 t259 ji21) else (some false))) else (none))) else (none)) else (none)) = some r := by first | (rw [hji21] at H; exact H) | (simp only [hji21] at H ⊢; exact H)
                      have hji21w : (IntKind.i64.wrap (x5_1 + 1)) = ji21 := (i64_w _).trans hji21
                      by_cases c22 : 0 ≤ (ji21)
                      · rw [if_pos c22] at H
                        have c22b0 := eq_true c22
                        have c22b1 : decide (0 ≤ (ji21)) = true := decide_eq_true c22
                        clear c22
                        by_cases c23 : (ji21) ≤ (t256.length : Int)
                        · rw [if_pos c23] at H
                          have c23b0 := eq_true c23
                          have c23b1 : decide ((ji21) ≤ (t256.length : Int)) = true := decide_eq_true c23
                          clear c23
                          obtain ⟨y271, hy271⟩ : ∃ y_ : List (S63), y_ = (t256.drop ((ji21) : Int).toNat) := ⟨_, rfl⟩
                          replace H : (if y268.length + y271.length < 4398046511104 then ((impl_RoutesOk.f kj14 (y268 ++ y271)).bind fun t278 => (if t278 = true then (laws_FnRoutesOk.l0 kj14 t256 t259 ji21) else (some false))) else (none)) = some r := by first | (rw [hy271]; with_reducible exact H) | (have H2_ := (Option.bind_some _ _).symm.trans H; rw [hy271]; with_reducible exact H2_) | (have H2_ := (Option.bind_some _ _).symm.trans H; with_reducible exact H2_) | with_reducible exact H | (rw [hy271]; exact H) | exact H
                          have Ny271 := Aside0.mk hy271
                          clear hy271
                          by_cases c24 : y268.length + y271.length < 4398046511104
                          · rw [if_pos c24] at H
                            have LMc24 := Aside0.mk c24
                            clear c24
                            obtain ⟨y275, hy275⟩ : ∃ y_ : List (S63), y_ = (y268 ++ y271) := ⟨_, rfl⟩
                            replace H : ((impl_RoutesOk.f kj14 y275).bind fun t278 => (if t278 = true then (laws_FnRoutesOk.l0 kj14 t256 t259 ji21) else (some false))) = some r := by first | (rw [hy275]; with_reducible exact H) | (have H2_ := (Option.bind_some _ _).symm.trans H; rw [hy275]; with_reducible exact H2_) | (have H2_ := (Option.bind_some _ _).symm.trans H; with_reducible exact H2_) | with_reducible exact H | (rw [hy275]; exact H) | exact H
                            have Ny275 := Aside0.mk hy275
                            clear hy275
                            replace H := Option.bind_eq_some_iff.mp H
                            obtain ⟨t278, A250, H⟩ := H
                            replace H : (if t278 = true then (laws_FnRoutesOk.l0 kj14 t256 t259 ji21) else (some false)) = some r := H
                            have A25 := Aside0.mk A250
                            clear A250
                            by_cases c26 : t278 = true
                            · subst c26
                              have H1 : (laws_FnRoutesOk.l0 kj14 t256 t259 ji21) = some r := by rw [if_pos rfl] at H; exact H
                              clear H
                              have H := H1
                              clear H1
                              have H' := Aside0.mk H
                              clear H
                              try go_wp2
                              have n0_ := Aside0.mk (Kd.R_drew HO_3.out)
                              have n1_ := Aside0.mk (below_drew1 HB.out)
                              clear HO_3
                              clear HB
                              have HO_3 := n0_
                              have HB := n1_
                              clear n0_ n1_
                              have q28 : (x5_1 : Int) ≤ ((t256.length : Int) : Int) := of_decide_eq_true (by first | (with_reducible assumption) | assumption)
                              obtain ⟨i028, hi028, _, hsz28, _⟩ := info_parts info63
                              have hroom28 : t256.length ≤ co12 := (Kd.R_reads' HO_3.out).2.1
                              have hC28 : Kd.C k63 _ Ao12 t256.length t256 := (Kd.R_reads' HO_3.out).2.2
                              have hcut28 := cut_to (P := Try.prog) 47 63 .i64 Try.underlying47 hi028 Ao12 t256.length co12 x5_1 (of_decide_eq_true (by first | (with_reducible assumption) | assumption)) q28 hroom28
                              have hr28 := Kd.C_take (m := (x5_1 : Int).toNat) hC28 (by omega)
                              have hy28 : y264.length = (x5_1 : Int).toNat := (by rw [Ny264.out, List.length_take]; omega)
                              rw [← Ny264.out] at hr28
                              rw [← hy28] at hcut28
                              have HR267 := Aside0.mk hr28
                              have HC267 := Aside0.mk (show y264.length ≤ co12 from by omega)
                              clear hr28 hC28 hroom28 hi028 hsz28
                              have KY28 := Aside0.mk hy28
                              clear hy28
                              have KL28 := Aside0.mk (show (x5_1 : Int).toNat ≤ t256.length from by omega)
                              replace q28 := eq_true q28
                              have q29 : ((ji21) : Int) ≤ ((t256.length : Int) : Int) := of_decide_eq_true (by first | (with_reducible assumption) | assumption)
                              obtain ⟨i029, hi029, _, hsz29, _⟩ := info_parts info63
                              have hroom29 : t256.length ≤ co12 := (Kd.R_reads' HO_3.out).2.1
                              have hC29 : Kd.C k63 _ Ao12 t256.length t256 := (Kd.R_reads' HO_3.out).2.2
                              have q029 : (0 : Int) ≤ ((ji21) : Int) := of_decide_eq_true (by first | (with_reducible assumption) | assumption)
                              have hcut29 := cut_from (P := Try.prog) 47 63 .i64 Try.underlying47 hi029 4 hsz29 Ao12 t256.length co12 (ji21) q029 q29
                              have hr29 := Kd.C_drop (m := ((ji21) : Int).toNat) (c := co12) hC29 (by omega) hroom29
                              obtain ⟨A29, hA29⟩ : ∃ A1, A1 = (if co12 = ((ji21) : Int).toNat then Ao12 else (Ao12 : Option Addr).map (·.add (((ji21) : Int).toNat * 4))) := ⟨_, rfl⟩
                              obtain ⟨c29, hc29⟩ : ∃ c1, c1 = co12 - ((ji21) : Int).toNat := ⟨_, rfl⟩
                              have hy29 : y271.length = t256.length - ((ji21) : Int).toNat := (by rw [Ny271.out, List.length_drop] <;> omega)
                              rw [show (t256).drop ((ji21) : Int).toNat = y271 from Ny271.out.symm] at hr29
                              replace hr29 : Kd.C k63 _ A29 y271.length y271 := (by rw [hA29]; exact hr29)
                              rw [← hy29, ← hA29, ← hc29] at hcut29
                              have HR274 := Aside0.mk hr29
                              have HC274 := Aside0.mk (show y271.length ≤ c29 from by rw [hy29, hc29]; exact Nat.sub_le_sub_right hroom29 _)
                              clear hr29 hC29 hroom29 hi029 hsz29 hc29
                              have KY29 := Aside0.mk hy29
                              have KA29 := Aside0.mk hA29
                              clear hy29 hA29
                              have KL29 := Aside0.mk (show ((ji21) : Int).toNat ≤ t256.length from by omega)
                              replace q29 := eq_true q29
                              refine start_ (n := 12) (S := fun w' => True) (ds := []) #[false, false, false, false, false, false, false, false, false, false, false, false] (by kernel_rfl) rfl rfl trivial (fun hHeld => ?_); refine with_tabW laws_FnRoutesOk.tab10 laws_FnRoutesOk.bits10 (fun HT_ HW_ => ?_)
                              generalize wc.drew = w27 at HO_3 HB HR267 HR274 hHeld ⊢
                              refine pure_ (i := 1) (N := some 27) (v := ?_) (a' := ?_) #[false, true, false, false, false, false, false, false, false, false, false, false] rfl rfl (any_of HT_.out (by kernel_rfl)) (fun _ _ _ h => h) (Or.inl ⟨by rfl, ?_⟩) ?_ ?_
                              rotate_left
                              · intro w'
                                go_simp
                                with_reducible rfl
                              rotate_left
                              · simp only [Act.put, List.setIfInBounds_toArray, List.set_cons_zero, List.set_cons_succ, i64_w, i32_w]
                                rfl
                              refine pure_ (i := 2) (N := some 28) (v := ?_) (a' := ?_) #[false, true, true, false, false, false, false, false, false, false, false, false] rfl rfl (any_of HT_.out (by kernel_rfl)) (fun _ _ _ h => h) (Or.inl ⟨by rfl, ?_⟩) ?_ ?_
                              rotate_left
                              · intro w'
                                go_simp
                                with_reducible rfl
                              rotate_left
                              · simp only [Act.put, List.setIfInBounds_toArray, List.set_cons_zero, List.set_cons_succ, i64_w, i32_w]
                                rfl
                              refine pure_ (i := 3) (N := some 29) (v := ?_) (a' := ?_) #[false, true, true, true, false, false, false, false, false, false, false, false] rfl rfl (any_of HT_.out (by kernel_rfl)) (fun _ _ _ h => h) (Or.inl ⟨by rfl, ?_⟩) ?_ ?_
                              rotate_left
                              · intro w'
                                go_simp
                                with_reducible rfl
                              rotate_left
                              · simp only [Act.put, List.setIfInBounds_toArray, List.set_cons_zero, List.set_cons_succ, i64_w, i32_w]
                                rfl
                              refine pure_ (i := 5) (N := some 31) (v := ?_) (a' := ?_) #[false, true, true, true, false, true, false, false, false, false, false, false] rfl rfl (any_of HT_.out (by kernel_rfl)) (fun _ _ _ h => h) (Or.inl ⟨by rfl, ?_⟩) ?_ ?_
                              rotate_left
                              · intro w'
                                go_simp
                                with_reducible rfl
                              rotate_left
                              · simp only [Act.put, List.setIfInBounds_toArray, List.set_cons_zero, List.set_cons_succ, i64_w, i32_w]
                                rfl
                              refine pure_ (i := 6) (N := some 32) (v := ?_) (a' := ?_) #[false, true, true, true, false, true, true, false, false, false, false, false] rfl rfl (any_of HT_.out (by kernel_rfl)) (fun _ _ _ h => h) (Or.inl ⟨by rfl, ?_⟩) ?_ ?_
                              rotate_left
                              · intro w'
                                go_simp
                                with_reducible rfl
                              rotate_left
                              · simp only [Act.put, List.setIfInBounds_toArray, List.set_cons_zero, List.set_cons_succ, i64_w, i32_w]
                                rfl
                              refine pure_ (i := 7) (N := some 33) (v := ?_) (a' := ?_) #[false, true, true, true, false, true, true, true, false, false, false, false] rfl rfl (any_of HT_.out (by kernel_rfl)) (fun _ _ _ h => h) (Or.inl ⟨by rfl, ?_⟩) ?_ ?_
                              rotate_left
                              · intro w'
                                go_simp
                                with_reducible rfl
                              rotate_left
                              · simp only [Act.put, List.setIfInBounds_toArray, List.set_cons_zero, List.set_cons_succ, i64_w, i32_w]
                                rfl
                              refine pure_ (i := 8) (N := some 34) (v := ?_) (a' := ?_) #[false, true, true, true, false, true, true, true, true, false, false, false] rfl rfl (any_of HT_.out (by kernel_rfl)) (fun _ _ _ h => h) (Or.inl ⟨by rfl, ?_⟩) ?_ ?_
                              rotate_left
                              · intro w'
                                go_simp
                                with_reducible rfl
                              rotate_left
                              · simp only [Act.put, List.setIfInBounds_toArray, List.set_cons_zero, List.set_cons_succ, i64_w, i32_w]
                                rfl
                              refine one_ (i := 0) (N := some 26) #[true, true, true, true, false, true, true, true, true, false, false, false] rfl rfl (one_of HT_.out (by kernel_rfl)) (by decide) (fun K hK => ?_)
                              refine Kd.R_lit_step k63 _ 63 ?hg (N := 26) ?hd (xs := ([] : List (S63))) (inner := []) (ok := fun _ => True) (okp := fun _ => True) ?hr ?hp (fun _ hk => hk) trivial (Below.refl _ _) (Nat.le_refl _) (by simp) ?_; (case hd => rfl); (case hg => rfl); (case hr => first | (go_simp; done) | (go_simp; rfl)); (case hp => exact (Reps.none _ _))
                              intro v262 w30 ho31 hb hg_ hnew_
                              clear hg_ hnew_
                              (first | rw [← Ny261.out] at ho31 | (simp only [Int.reduceToNat] at ho31; rw [← Ny261.out] at ho31))
                              have n0_ := Aside0.mk (Kd.R_elder' (by (with_reducible repeat (first | apply Kd.R_alloc | apply Kd.R_drewN | apply Kd.R_drew)); exact HO_3.out) (Kd.R_base ho31) hb)
                              have n1_ := Aside0.mk (Kd.R_lower (Kd.R_new' ho31 (Kd.R_lt (by (with_reducible repeat (first | apply Kd.R_alloc | apply Kd.R_drewN | apply Kd.R_drew)); exact HO_3.out))) (below_size (by repeat (first | (with_reducible first | exact HB.out | apply below_alloc | apply pw_below_drewN | apply below_drew1) | exact HB.out))))
                              have n2_ := Aside0.mk (Kd.C_below (by repeat (first | (with_reducible exact HR267.out) | (with_reducible refine Kd.C_alloc ?_ _) | (with_reducible refine Kd.C_drewN ?_ _) | (with_reducible refine Kd.C_drew ?_) | exact HR267.out)) hb)
                              have n3_ := Aside0.mk (Kd.C_below (by repeat (first | (with_reducible exact HR274.out) | (with_reducible refine Kd.C_alloc ?_ _) | (with_reducible refine Kd.C_drewN ?_ _) | (with_reducible refine Kd.C_drew ?_) | exact HR274.out)) hb)
                              have n4_ := Aside0.mk (below_step (by repeat (first | (with_reducible first | exact HB.out | apply below_alloc | apply pw_below_drewN | apply below_drew1) | exact HB.out)) hb)
                              clear HO_3
                              clear HR267
                              clear HR274
                              clear HB
                              have HO_3 := n0_
                              have HO263 := n1_
                              have HR267 := n2_
                              have HR274 := n3_
                              have HB := n4_
                              clear n0_ n1_ n2_ n3_ n4_
                              clear hb ho31
                              refine hK.out _ _ trivial (fun hHeld => ?_)
                              clear hK K
                              refine norm_ (a' := ?_) ?_ ?_
                              rotate_left
                              · show Act.put _ (some 26) _ = _
                                simp only [Act.put, List.setIfInBounds_toArray, List.set_cons_zero, List.set_cons_succ, i64_w, i32_w]
                                rfl
                              refine one_ (i := 4) (N := some 30) #[true, true, true, true, true, true, true, true, true, false, false, false] rfl rfl (one_of HT_.out (by kernel_rfl)) (by decide) (fun K hK => ?_)
                              refine Kd.R_append_rows_step k63 (w0 := w) w.heap.size (by rfl) (.tmp 26) (.tmp 29) 47 63 (.agg #[(.int .i64 0), (.int .i64 0), (.int .i64 0), (.int .i64 0)]) 32 rfl Try.underlying47 info63 rfl (by decide) (by omega) v262 y261 y264 _ _ _ (fun k_ => some k_ ≠ (.slice Ao12 t256.length co12 : Value).ownBlock) (fun _ => False) rfl rfl ?aO ?aR (fun _ _ h => h) (fun _ h => h.elim) ?aF ?aB ?aS ?aL ?_
                              (case aR => repeat (first | exact (by repeat (first | (with_reducible exact HR267.out) | (with_reducible refine Kd.C_alloc ?_ _) | (with_reducible refine Kd.C_drewN ?_ _) | (with_reducible refine Kd.C_drew ?_) | exact HR267.out)) | (with_reducible refine Kd.C_alloc ?_ _) | (with_reducible refine Kd.C_drewN ?_ _) | (with_reducible refine Kd.C_drew ?_)))
                              (case aB => exact (by repeat (first | (with_reducible first | exact HB.out | apply below_alloc | apply pw_below_drewN | apply below_drew1) | exact HB.out)))
                              (case aF => exact (fun k_ hk => Kd.fresh' (Kd.R_lt (by (with_reducible repeat (first | apply Kd.R_alloc | apply Kd.R_drewN | apply Kd.R_drew)); exact HO_3.out)) k_ hk))
                              (case aO => exact (by (with_reducible repeat (first | apply Kd.R_alloc | apply Kd.R_drewN | apply Kd.R_drew)); exact Kd.R_mono HO263.out (fun _ hk => hk.2)))
                              (case aS => exact (below_size (by repeat (first | (with_reducible first | exact HB.out | apply below_alloc | apply pw_below_drewN | apply below_drew1) | exact HB.out))))
                              (case aL => have := LMc20.out; omega)
                              intro v269 w32 ho hb hg hat
                              rw [← Ny268.out] at ho
                              have n0_ := Aside0.mk (Kd.R_after (ok := (fun _ => True)) (by (with_reducible repeat (first | apply Kd.R_alloc | apply Kd.R_drewN | apply Kd.R_drew)); exact HO_3.out) hg hat)
                              have n1_ := Aside0.mk (hb)
                              have n2_ := Aside0.mk ((show Kd.C k63 w32 Ao12 y264.length y264 from by rw [Ny264.out]; exact Kd.C_take (m := (x5_1 : Int).toNat) ((Kd.R_reads' (Kd.R_after (ok := (fun _ => True)) (by (with_reducible repeat (first | apply Kd.R_alloc | apply Kd.R_drewN | apply Kd.R_drew)); exact HO_3.out) hg hat)).2.2) KL28.out))
                              have n3_ := Aside0.mk ((show Kd.C k63 w32 A29 y271.length y271 from by rw [Ny271.out, KA29.out]; exact Kd.C_drop (m := ((ji21) : Int).toNat) (c := co12) ((Kd.R_reads' (Kd.R_after (ok := (fun _ => True)) (by (with_reducible repeat (first | apply Kd.R_alloc | apply Kd.R_drewN | apply Kd.R_drew)); exact HO_3.out) hg hat)).2.2) KL29.out ((Kd.R_reads' (Kd.R_after (ok := (fun _ => True)) (by (with_reducible repeat (first | apply Kd.R_alloc | apply Kd.R_drewN | apply Kd.R_drew)); exact HO_3.out) hg hat)).2.1)))
                              have n4_ := Aside0.mk (ho)
                              clear HO_3
                              clear HB
                              clear HR267
                              clear HR274
                              clear HO263
                              have HO_3 := n0_
                              have HB := n1_
                              have HR267 := n2_
                              have HR274 := n3_
                              have HO270 := n4_
                              clear n0_ n1_ n2_ n3_ n4_
                              clear ho hb hg hat
                              refine hK.out _ _ trivial (fun hHeld => ?_)
                              clear hK K
                              refine norm_ (a' := ?_) ?_ ?_
                              rotate_left
                              · show Act.put _ (some 30) _ = _
                                simp only [Act.put, List.setIfInBounds_toArray, List.set_cons_zero, List.set_cons_succ, i64_w, i32_w]
                                rfl
                              refine one_ (i := 9) (N := some 35) #[true, true, true, true, true, true, true, true, true, true, false, false] rfl rfl (one_of HT_.out (by kernel_rfl)) (by decide) (fun K hK => ?_)
                              refine Kd.R_append_rows_step k63 (w0 := w) w.heap.size (by rfl) (.tmp 30) (.tmp 34) 47 63 (.agg #[(.int .i64 0), (.int .i64 0), (.int .i64 0), (.int .i64 0)]) 32 rfl Try.underlying47 info63 rfl (by decide) (by omega) v269 y268 y271 _ _ _ (fun k_ => some k_ ≠ (.slice Ao12 t256.length co12 : Value).ownBlock) (fun _ => False) rfl rfl ?aO ?aR (fun _ _ h => h) (fun _ h => h.elim) ?aF ?aB ?aS ?aL ?_
                              (case aR => repeat (first | exact (by repeat (first | (with_reducible exact HR274.out) | (with_reducible refine Kd.C_alloc ?_ _) | (with_reducible refine Kd.C_drewN ?_ _) | (with_reducible refine Kd.C_drew ?_) | exact HR274.out)) | (with_reducible refine Kd.C_alloc ?_ _) | (with_reducible refine Kd.C_drewN ?_ _) | (with_reducible refine Kd.C_drew ?_)))
                              (case aB => exact (by repeat (first | (with_reducible first | exact HB.out | apply below_alloc | apply pw_below_drewN | apply below_drew1) | exact HB.out)))
                              (case aF => exact (fun k_ hk => Kd.fresh' (Kd.R_lt (by (with_reducible repeat (first | apply Kd.R_alloc | apply Kd.R_drewN | apply Kd.R_drew)); exact HO_3.out)) k_ hk))
                              (case aO => exact (by (with_reducible repeat (first | apply Kd.R_alloc | apply Kd.R_drewN | apply Kd.R_drew)); exact HO270.out))
                              (case aS => exact (below_size (by repeat (first | (with_reducible first | exact HB.out | apply below_alloc | apply pw_below_drewN | apply below_drew1) | exact HB.out))))
                              (case aL => have := LMc24.out; omega)
                              intro v276 w33 ho hb hg hat
                              rw [← Ny275.out] at ho
                              have n0_ := Aside0.mk (Kd.R_after (ok := (fun _ => True)) (by (with_reducible repeat (first | apply Kd.R_alloc | apply Kd.R_drewN | apply Kd.R_drew)); exact HO_3.out) hg hat)
                              have n1_ := Aside0.mk (hb)
                              have n2_ := Aside0.mk ((show Kd.C k63 w33 Ao12 y264.length y264 from by rw [Ny264.out]; exact Kd.C_take (m := (x5_1 : Int).toNat) ((Kd.R_reads' (Kd.R_after (ok := (fun _ => True)) (by (with_reducible repeat (first | apply Kd.R_alloc | apply Kd.R_drewN | apply Kd.R_drew)); exact HO_3.out) hg hat)).2.2) KL28.out))
                              have n3_ := Aside0.mk ((show Kd.C k63 w33 A29 y271.length y271 from by rw [Ny271.out, KA29.out]; exact Kd.C_drop (m := ((ji21) : Int).toNat) (c := co12) ((Kd.R_reads' (Kd.R_after (ok := (fun _ => True)) (by (with_reducible repeat (first | apply Kd.R_alloc | apply Kd.R_drewN | apply Kd.R_drew)); exact HO_3.out) hg hat)).2.2) KL29.out ((Kd.R_reads' (Kd.R_after (ok := (fun _ => True)) (by (with_reducible repeat (first | apply Kd.R_alloc | apply Kd.R_drewN | apply Kd.R_drew)); exact HO_3.out) hg hat)).2.1)))
                              have n4_ := Aside0.mk (ho)
                              clear HO_3
                              clear HB
                              clear HR267
                              clear HR274
                              clear HO270
                              have HO_3 := n0_
                              have HB := n1_
                              have HR267 := n2_
                              have HR274 := n3_
                              have HO277 := n4_
                              clear n0_ n1_ n2_ n3_ n4_
                              clear ho hb hg hat
                              obtain ⟨Ao34, co34, eo34⟩ := Kd.R_slice HO277.out
                              (first | subst eo34 | (injection eo34 with f1_ f2_ f3_; have f4_ := f1_.symm; have f5_ := f3_.symm; clear f1_ f2_ f3_; subst f4_; subst f5_))
                              refine hK.out _ _ trivial (fun hHeld => ?_)
                              clear hK K
                              refine norm_ (a' := ?_) ?_ ?_
                              rotate_left
                              · show Act.put _ (some 35) _ = _
                                simp only [Act.put, List.setIfInBounds_toArray, List.set_cons_zero, List.set_cons_succ, i64_w, i32_w]
                                rfl
                              refine one_ (i := 10) (N := some 36) #[true, true, true, true, true, true, true, true, true, true, true, false] rfl rfl (one_of HT_.out (by kernel_rfl)) (by decide) (fun K hK => ?_)
                              refine goes_ Try.func34 (by kernel_rfl) rfl #[.slice Ao34 y275.length co34] (by rfl) rfl rfl (by (try simp only [List.map_toArray, List.map_cons, List.map_nil]); first | done | rfl | (simp only [List.length_drop, List.length_take]; rfl)) ?_
                              with_reducible refine (impl_RoutesOk.calls kj14 _ _ y275 true _ ?side1 ?side2 A25.out).mono ?_
                              (case side1 => repeat (first | exact (Kd.R_reads' HO277.out).2.2 | (with_reducible refine Kd.C_alloc ?_ _) | (with_reducible refine Kd.C_drewN ?_ _) | (with_reducible refine Kd.C_drew ?_)))
                              (case side2 => exact (Kd.R_reads' HO277.out).2.1)
                              rintro e w35 ⟨rfl, hb⟩
                              refine ⟨_, rfl, ?_⟩
                              have n0_ := Aside0.mk (Kd.R_below (by (with_reducible repeat (first | apply Kd.R_alloc | apply Kd.R_drewN | apply Kd.R_drew)); exact HO_3.out) hb)
                              have n1_ := Aside0.mk (Kd.R_below (by (with_reducible repeat (first | apply Kd.R_alloc | apply Kd.R_drewN | apply Kd.R_drew)); exact HO277.out) hb)
                              have n2_ := Aside0.mk (Kd.C_below (by repeat (first | (with_reducible exact HR267.out) | (with_reducible refine Kd.C_alloc ?_ _) | (with_reducible refine Kd.C_drewN ?_ _) | (with_reducible refine Kd.C_drew ?_) | exact HR267.out)) hb)
                              have n3_ := Aside0.mk (Kd.C_below (by repeat (first | (with_reducible exact HR274.out) | (with_reducible refine Kd.C_alloc ?_ _) | (with_reducible refine Kd.C_drewN ?_ _) | (with_reducible refine Kd.C_drew ?_) | exact HR274.out)) hb)
                              have n4_ := Aside0.mk (below_step (by repeat (first | (with_reducible first | exact HB.out | apply below_alloc | apply pw_below_drewN | apply below_drew1) | exact HB.out)) hb)
                              clear HO_3
                              clear HO277
                              clear HR267
                              clear HR274
                              clear HB
                              have HO_3 := n0_
                              have HO277 := n1_
                              have HR267 := n2_
                              have HR274 := n3_
                              have HB := n4_
                              clear n0_ n1_ n2_ n3_ n4_
                              (try clear hb)
                              (try clear hb2)
                              (try clear hk)
                              (try clear hi)
                              refine hK.out _ _ trivial (fun hHeld => ?_)
                              clear hK K
                              refine norm_ (a' := ?_) ?_ ?_
                              rotate_left
                              · show Act.put _ (some 36) _ = _
                                simp only [Act.put, List.setIfInBounds_toArray, List.set_cons_zero, List.set_cons_succ, i64_w, i32_w]
                                rfl
                              refine pure_ (i := 11) (N := some 37) (v := ?_) (a' := ?_) #[true, true, true, true, true, true, true, true, true, true, true, true] rfl rfl (any_of HT_.out (by kernel_rfl)) (fun _ _ _ h => h) (Or.inl ⟨by rfl, ?_⟩) ?_ ?_
                              rotate_left
                              · intro w'
                                go_simp
                                with_reducible rfl
                              rotate_left
                              · simp only [Act.put, List.setIfInBounds_toArray, List.set_cons_zero, List.set_cons_succ, i64_w, i32_w]
                                rfl
                              refine done_ (done_of HT_.out (by kernel_rfl)) ?_
                              try go_wp2
                              go_roundg kj14
                              case measure => have := HK1.out; have := HJ14.out; omega
                              case rel => exact ⟨(ji21), (by first | rfl | (simp; done) | (simp only [← hji21] <;> (first | rfl | simp)) | (simp [*]; done)), H', ⟨by have := HK1.out; have := HJ14.out; omega⟩, ⟨by (with_reducible repeat (first | apply Kd.R_alloc | apply Kd.R_drewN | apply Kd.R_drew)); exact Kd.R_mono HO_3.out (fun _ hk => trivial)⟩, ⟨by repeat (first | (with_reducible first | exact HB.out | apply below_alloc | apply pw_below_drewN | apply below_drew1) | exact HB.out)⟩⟩
                            · replace c26 := Bool.eq_false_iff.mpr c26
                              subst c26
                              have H1 : (some false) = some r := by rw [if_neg (show ¬ (false = true) by decide)] at H; exact H
                              clear H
                              have H := H1
                              clear H1
                              obtain rfl := Option.some.inj H
                              try go_wp2
                              have n0_ := Aside0.mk (Kd.R_drew HO_3.out)
                              have n1_ := Aside0.mk (below_drew1 HB.out)
                              clear HO_3
                              clear HB
                              have HO_3 := n0_
                              have HB := n1_
                              clear n0_ n1_
                              have q37 : (x5_1 : Int) ≤ ((t256.length : Int) : Int) := of_decide_eq_true (by first | (with_reducible assumption) | assumption)
                              obtain ⟨i037, hi037, _, hsz37, _⟩ := info_parts info63
                              have hroom37 : t256.length ≤ co12 := (Kd.R_reads' HO_3.out).2.1
                              have hC37 : Kd.C k63 _ Ao12 t256.length t256 := (Kd.R_reads' HO_3.out).2.2
                              have hcut37 := cut_to (P := Try.prog) 47 63 .i64 Try.underlying47 hi037 Ao12 t256.length co12 x5_1 (of_decide_eq_true (by first | (with_reducible assumption) | assumption)) q37 hroom37
                              have hr37 := Kd.C_take (m := (x5_1 : Int).toNat) hC37 (by omega)
                              have hy37 : y264.length = (x5_1 : Int).toNat := (by rw [Ny264.out, List.length_take]; omega)
                              rw [← Ny264.out] at hr37
                              rw [← hy37] at hcut37
                              have HR267 := Aside0.mk hr37
                              have HC267 := Aside0.mk (show y264.length ≤ co12 from by omega)
                              clear hr37 hC37 hroom37 hi037 hsz37
                              have KY37 := Aside0.mk hy37
                              clear hy37
                              have KL37 := Aside0.mk (show (x5_1 : Int).toNat ≤ t256.length from by omega)
                              replace q37 := eq_true q37
                              have q38 : ((ji21) : Int) ≤ ((t256.length : Int) : Int) := of_decide_eq_true (by first | (with_reducible assumption) | assumption)
                              obtain ⟨i038, hi038, _, hsz38, _⟩ := info_parts info63
                              have hroom38 : t256.length ≤ co12 := (Kd.R_reads' HO_3.out).2.1
                              have hC38 : Kd.C k63 _ Ao12 t256.length t256 := (Kd.R_reads' HO_3.out).2.2
                              have q038 : (0 : Int) ≤ ((ji21) : Int) := of_decide_eq_true (by first | (with_reducible assumption) | assumption)
                              have hcut38 := cut_from (P := Try.prog) 47 63 .i64 Try.underlying47 hi038 4 hsz38 Ao12 t256.length co12 (ji21) q038 q38
                              have hr38 := Kd.C_drop (m := ((ji21) : Int).toNat) (c := co12) hC38 (by omega) hroom38
                              obtain ⟨A38, hA38⟩ : ∃ A1, A1 = (if co12 = ((ji21) : Int).toNat then Ao12 else (Ao12 : Option Addr).map (·.add (((ji21) : Int).toNat * 4))) := ⟨_, rfl⟩
                              obtain ⟨c38, hc38⟩ : ∃ c1, c1 = co12 - ((ji21) : Int).toNat := ⟨_, rfl⟩
                              have hy38 : y271.length = t256.length - ((ji21) : Int).toNat := (by rw [Ny271.out, List.length_drop] <;> omega)
                              rw [show (t256).drop ((ji21) : Int).toNat = y271 from Ny271.out.symm] at hr38
                              replace hr38 : Kd.C k63 _ A38 y271.length y271 := (by rw [hA38]; exact hr38)
                              rw [← hy38, ← hA38, ← hc38] at hcut38
                              have HR274 := Aside0.mk hr38
                              have HC274 := Aside0.mk (show y271.length ≤ c38 from by rw [hy38, hc38]; exact Nat.sub_le_sub_right hroom38 _)
                              clear hr38 hC38 hroom38 hi038 hsz38 hc38
                              have KY38 := Aside0.mk hy38
                              have KA38 := Aside0.mk hA38
                              clear hy38 hA38
                              have KL38 := Aside0.mk (show ((ji21) : Int).toNat ≤ t256.length from by omega)
                              replace q38 := eq_true q38
                              refine start_ (n := 12) (S := fun w' => True) (ds := []) #[false, false, false, false, false, false, false, false, false, false, false, false] (by kernel_rfl) rfl rfl trivial (fun hHeld => ?_); refine with_tabW laws_FnRoutesOk.tab10 laws_FnRoutesOk.bits10 (fun HT_ HW_ => ?_)
                              generalize wc.drew = w36 at HO_3 HB HR267 HR274 hHeld ⊢
                              refine pure_ (i := 1) (N := some 27) (v := ?_) (a' := ?_) #[false, true, false, false, false, false, false, false, false, false, false, false] rfl rfl (any_of HT_.out (by kernel_rfl)) (fun _ _ _ h => h) (Or.inl ⟨by rfl, ?_⟩) ?_ ?_
                              rotate_left
                              · intro w'
                                go_simp
                                with_reducible rfl
                              rotate_left
                              · simp only [Act.put, List.setIfInBounds_toArray, List.set_cons_zero, List.set_cons_succ, i64_w, i32_w]
                                rfl
                              refine pure_ (i := 2) (N := some 28) (v := ?_) (a' := ?_) #[false, true, true, false, false, false, false, false, false, false, false, false] rfl rfl (any_of HT_.out (by kernel_rfl)) (fun _ _ _ h => h) (Or.inl ⟨by rfl, ?_⟩) ?_ ?_
                              rotate_left
                              · intro w'
                                go_simp
                                with_reducible rfl
                              rotate_left
                              · simp only [Act.put, List.setIfInBounds_toArray, List.set_cons_zero, List.set_cons_succ, i64_w, i32_w]
                                rfl
                              refine pure_ (i := 3) (N := some 29) (v := ?_) (a' := ?_) #[false, true, true, true, false, false, false, false, false, false, false, false] rfl rfl (any_of HT_.out (by kernel_rfl)) (fun _ _ _ h => h) (Or.inl ⟨by rfl, ?_⟩) ?_ ?_
                              rotate_left
                              · intro w'
                                go_simp
                                with_reducible rfl
                              rotate_left
                              · simp only [Act.put, List.setIfInBounds_toArray, List.set_cons_zero, List.set_cons_succ, i64_w, i32_w]
                                rfl
                              refine pure_ (i := 5) (N := some 31) (v := ?_) (a' := ?_) #[false, true, true, true, false, true, false, false, false, false, false, false] rfl rfl (any_of HT_.out (by kernel_rfl)) (fun _ _ _ h => h) (Or.inl ⟨by rfl, ?_⟩) ?_ ?_
                              rotate_left
                              · intro w'
                                go_simp
                                with_reducible rfl
                              rotate_left
                              · simp only [Act.put, List.setIfInBounds_toArray, List.set_cons_zero, List.set_cons_succ, i64_w, i32_w]
                                rfl
                              refine pure_ (i := 6) (N := some 32) (v := ?_) (a' := ?_) #[false, true, true, true, false, true, true, false, false, false, false, false] rfl rfl (any_of HT_.out (by kernel_rfl)) (fun _ _ _ h => h) (Or.inl ⟨by rfl, ?_⟩) ?_ ?_
                              rotate_left
                              · intro w'
                                go_simp
                                with_reducible rfl
                              rotate_left
                              · simp only [Act.put, List.setIfInBounds_toArray, List.set_cons_zero, List.set_cons_succ, i64_w, i32_w]
                                rfl
                              refine pure_ (i := 7) (N := some 33) (v := ?_) (a' := ?_) #[false, true, true, true, false, true, true, true, false, false, false, false] rfl rfl (any_of HT_.out (by kernel_rfl)) (fun _ _ _ h => h) (Or.inl ⟨by rfl, ?_⟩) ?_ ?_
                              rotate_left
                              · intro w'
                                go_simp
                                with_reducible rfl
                              rotate_left
                              · simp only [Act.put, List.setIfInBounds_toArray, List.set_cons_zero, List.set_cons_succ, i64_w, i32_w]
                                rfl
                              refine pure_ (i := 8) (N := some 34) (v := ?_) (a' := ?_) #[false, true, true, true, false, true, true, true, true, false, false, false] rfl rfl (any_of HT_.out (by kernel_rfl)) (fun _ _ _ h => h) (Or.inl ⟨by rfl, ?_⟩) ?_ ?_
                              rotate_left
                              · intro w'
                                go_simp
                                with_reducible rfl
                              rotate_left
                              · simp only [Act.put, List.setIfInBounds_toArray, List.set_cons_zero, List.set_cons_succ, i64_w, i32_w]
                                rfl
                              refine one_ (i := 0) (N := some 26) #[true, true, true, true, false, true, true, true, true, false, false, false] rfl rfl (one_of HT_.out (by kernel_rfl)) (by decide) (fun K hK => ?_)
                              refine Kd.R_lit_step k63 _ 63 ?hg (N := 26) ?hd (xs := ([] : List (S63))) (inner := []) (ok := fun _ => True) (okp := fun _ => True) ?hr ?hp (fun _ hk => hk) trivial (Below.refl _ _) (Nat.le_refl _) (by simp) ?_; (case hd => rfl); (case hg => rfl); (case hr => first | (go_simp; done) | (go_simp; rfl)); (case hp => exact (Reps.none _ _))
                              intro v262 w39 ho40 hb hg_ hnew_
                              clear hg_ hnew_
                              (first | rw [← Ny261.out] at ho40 | (simp only [Int.reduceToNat] at ho40; rw [← Ny261.out] at ho40))
                              have n0_ := Aside0.mk (Kd.R_elder' (by (with_reducible repeat (first | apply Kd.R_alloc | apply Kd.R_drewN | apply Kd.R_drew)); exact HO_3.out) (Kd.R_base ho40) hb)
                              have n1_ := Aside0.mk (Kd.R_lower (Kd.R_new' ho40 (Kd.R_lt (by (with_reducible repeat (first | apply Kd.R_alloc | apply Kd.R_drewN | apply Kd.R_drew)); exact HO_3.out))) (below_size (by repeat (first | (with_reducible first | exact HB.out | apply below_alloc | apply pw_below_drewN | apply below_drew1) | exact HB.out))))
                              have n2_ := Aside0.mk (Kd.C_below (by repeat (first | (with_reducible exact HR267.out) | (with_reducible refine Kd.C_alloc ?_ _) | (with_reducible refine Kd.C_drewN ?_ _) | (with_reducible refine Kd.C_drew ?_) | exact HR267.out)) hb)
                              have n3_ := Aside0.mk (Kd.C_below (by repeat (first | (with_reducible exact HR274.out) | (with_reducible refine Kd.C_alloc ?_ _) | (with_reducible refine Kd.C_drewN ?_ _) | (with_reducible refine Kd.C_drew ?_) | exact HR274.out)) hb)
                              have n4_ := Aside0.mk (below_step (by repeat (first | (with_reducible first | exact HB.out | apply below_alloc | apply pw_below_drewN | apply below_drew1) | exact HB.out)) hb)
                              clear HO_3
                              clear HR267
                              clear HR274
                              clear HB
                              have HO_3 := n0_
                              have HO263 := n1_
                              have HR267 := n2_
                              have HR274 := n3_
                              have HB := n4_
                              clear n0_ n1_ n2_ n3_ n4_
                              clear hb ho40
                              refine hK.out _ _ trivial (fun hHeld => ?_)
                              clear hK K
                              refine norm_ (a' := ?_) ?_ ?_
                              rotate_left
                              · show Act.put _ (some 26) _ = _
                                simp only [Act.put, List.setIfInBounds_toArray, List.set_cons_zero, List.set_cons_succ, i64_w, i32_w]
                                rfl
                              refine one_ (i := 4) (N := some 30) #[true, true, true, true, true, true, true, true, true, false, false, false] rfl rfl (one_of HT_.out (by kernel_rfl)) (by decide) (fun K hK => ?_)
                              refine Kd.R_append_rows_step k63 (w0 := w) w.heap.size (by rfl) (.tmp 26) (.tmp 29) 47 63 (.agg #[(.int .i64 0), (.int .i64 0), (.int .i64 0), (.int .i64 0)]) 32 rfl Try.underlying47 info63 rfl (by decide) (by omega) v262 y261 y264 _ _ _ (fun k_ => some k_ ≠ (.slice Ao12 t256.length co12 : Value).ownBlock) (fun _ => False) rfl rfl ?aO ?aR (fun _ _ h => h) (fun _ h => h.elim) ?aF ?aB ?aS ?aL ?_
                              (case aR => repeat (first | exact (by repeat (first | (with_reducible exact HR267.out) | (with_reducible refine Kd.C_alloc ?_ _) | (with_reducible refine Kd.C_drewN ?_ _) | (with_reducible refine Kd.C_drew ?_) | exact HR267.out)) | (with_reducible refine Kd.C_alloc ?_ _) | (with_reducible refine Kd.C_drewN ?_ _) | (with_reducible refine Kd.C_drew ?_)))
                              (case aB => exact (by repeat (first | (with_reducible first | exact HB.out | apply below_alloc | apply pw_below_drewN | apply below_drew1) | exact HB.out)))
                              (case aF => exact (fun k_ hk => Kd.fresh' (Kd.R_lt (by (with_reducible repeat (first | apply Kd.R_alloc | apply Kd.R_drewN | apply Kd.R_drew)); exact HO_3.out)) k_ hk))
                              (case aO => exact (by (with_reducible repeat (first | apply Kd.R_alloc | apply Kd.R_drewN | apply Kd.R_drew)); exact Kd.R_mono HO263.out (fun _ hk => hk.2)))
                              (case aS => exact (below_size (by repeat (first | (with_reducible first | exact HB.out | apply below_alloc | apply pw_below_drewN | apply below_drew1) | exact HB.out))))
                              (case aL => have := LMc20.out; omega)
                              intro v269 w41 ho hb hg hat
                              rw [← Ny268.out] at ho
                              have n0_ := Aside0.mk (Kd.R_after (ok := (fun _ => True)) (by (with_reducible repeat (first | apply Kd.R_alloc | apply Kd.R_drewN | apply Kd.R_drew)); exact HO_3.out) hg hat)
                              have n1_ := Aside0.mk (hb)
                              have n2_ := Aside0.mk ((show Kd.C k63 w41 Ao12 y264.length y264 from by rw [Ny264.out]; exact Kd.C_take (m := (x5_1 : Int).toNat) ((Kd.R_reads' (Kd.R_after (ok := (fun _ => True)) (by (with_reducible repeat (first | apply Kd.R_alloc | apply Kd.R_drewN | apply Kd.R_drew)); exact HO_3.out) hg hat)).2.2) KL37.out))
                              have n3_ := Aside0.mk ((show Kd.C k63 w41 A38 y271.length y271 from by rw [Ny271.out, KA38.out]; exact Kd.C_drop (m := ((ji21) : Int).toNat) (c := co12) ((Kd.R_reads' (Kd.R_after (ok := (fun _ => True)) (by (with_reducible repeat (first | apply Kd.R_alloc | apply Kd.R_drewN | apply Kd.R_drew)); exact HO_3.out) hg hat)).2.2) KL38.out ((Kd.R_reads' (Kd.R_after (ok := (fun _ => True)) (by (with_reducible repeat (first | apply Kd.R_alloc | apply Kd.R_drewN | apply Kd.R_drew)); exact HO_3.out) hg hat)).2.1)))
                              have n4_ := Aside0.mk (ho)
                              clear HO_3
                              clear HB
                              clear HR267
                              clear HR274
                              clear HO263
                              have HO_3 := n0_
                              have HB := n1_
                              have HR267 := n2_
                              have HR274 := n3_
                              have HO270 := n4_
                              clear n0_ n1_ n2_ n3_ n4_
                              clear ho hb hg hat
                              refine hK.out _ _ trivial (fun hHeld => ?_)
                              clear hK K
                              refine norm_ (a' := ?_) ?_ ?_
                              rotate_left
                              · show Act.put _ (some 30) _ = _
                                simp only [Act.put, List.setIfInBounds_toArray, List.set_cons_zero, List.set_cons_succ, i64_w, i32_w]
                                rfl
                              refine one_ (i := 9) (N := some 35) #[true, true, true, true, true, true, true, true, true, true, false, false] rfl rfl (one_of HT_.out (by kernel_rfl)) (by decide) (fun K hK => ?_)
                              refine Kd.R_append_rows_step k63 (w0 := w) w.heap.size (by rfl) (.tmp 30) (.tmp 34) 47 63 (.agg #[(.int .i64 0), (.int .i64 0), (.int .i64 0), (.int .i64 0)]) 32 rfl Try.underlying47 info63 rfl (by decide) (by omega) v269 y268 y271 _ _ _ (fun k_ => some k_ ≠ (.slice Ao12 t256.length co12 : Value).ownBlock) (fun _ => False) rfl rfl ?aO ?aR (fun _ _ h => h) (fun _ h => h.elim) ?aF ?aB ?aS ?aL ?_
                              (case aR => repeat (first | exact (by repeat (first | (with_reducible exact HR274.out) | (with_reducible refine Kd.C_alloc ?_ _) | (with_reducible refine Kd.C_drewN ?_ _) | (with_reducible refine Kd.C_drew ?_) | exact HR274.out)) | (with_reducible refine Kd.C_alloc ?_ _) | (with_reducible refine Kd.C_drewN ?_ _) | (with_reducible refine Kd.C_drew ?_)))
                              (case aB => exact (by repeat (first | (with_reducible first | exact HB.out | apply below_alloc | apply pw_below_drewN | apply below_drew1) | exact HB.out)))
                              (case aF => exact (fun k_ hk => Kd.fresh' (Kd.R_lt (by (with_reducible repeat (first | apply Kd.R_alloc | apply Kd.R_drewN | apply Kd.R_drew)); exact HO_3.out)) k_ hk))
                              (case aO => exact (by (with_reducible repeat (first | apply Kd.R_alloc | apply Kd.R_drewN | apply Kd.R_drew)); exact HO270.out))
                              (case aS => exact (below_size (by repeat (first | (with_reducible first | exact HB.out | apply below_alloc | apply pw_below_drewN | apply below_drew1) | exact HB.out))))
                              (case aL => have := LMc24.out; omega)
                              intro v276 w42 ho hb hg hat
                              rw [← Ny275.out] at ho
                              have n0_ := Aside0.mk (Kd.R_after (ok := (fun _ => True)) (by (with_reducible repeat (first | apply Kd.R_alloc | apply Kd.R_drewN | apply Kd.R_drew)); exact HO_3.out) hg hat)
                              have n1_ := Aside0.mk (hb)
                              have n2_ := Aside0.mk ((show Kd.C k63 w42 Ao12 y264.length y264 from by rw [Ny264.out]; exact Kd.C_take (m := (x5_1 : Int).toNat) ((Kd.R_reads' (Kd.R_after (ok := (fun _ => True)) (by (with_reducible repeat (first | apply Kd.R_alloc | apply Kd.R_drewN | apply Kd.R_drew)); exact HO_3.out) hg hat)).2.2) KL37.out))
                              have n3_ := Aside0.mk ((show Kd.C k63 w42 A38 y271.length y271 from by rw [Ny271.out, KA38.out]; exact Kd.C_drop (m := ((ji21) : Int).toNat) (c := co12) ((Kd.R_reads' (Kd.R_after (ok := (fun _ => True)) (by (with_reducible repeat (first | apply Kd.R_alloc | apply Kd.R_drewN | apply Kd.R_drew)); exact HO_3.out) hg hat)).2.2) KL38.out ((Kd.R_reads' (Kd.R_after (ok := (fun _ => True)) (by (with_reducible repeat (first | apply Kd.R_alloc | apply Kd.R_drewN | apply Kd.R_drew)); exact HO_3.out) hg hat)).2.1)))
                              have n4_ := Aside0.mk (ho)
                              clear HO_3
                              clear HB
                              clear HR267
                              clear HR274
                              clear HO270
                              have HO_3 := n0_
                              have HB := n1_
                              have HR267 := n2_
                              have HR274 := n3_
                              have HO277 := n4_
                              clear n0_ n1_ n2_ n3_ n4_
                              clear ho hb hg hat
                              obtain ⟨Ao43, co43, eo43⟩ := Kd.R_slice HO277.out
                              (first | subst eo43 | (injection eo43 with f1_ f2_ f3_; have f4_ := f1_.symm; have f5_ := f3_.symm; clear f1_ f2_ f3_; subst f4_; subst f5_))
                              refine hK.out _ _ trivial (fun hHeld => ?_)
                              clear hK K
                              refine norm_ (a' := ?_) ?_ ?_
                              rotate_left
                              · show Act.put _ (some 35) _ = _
                                simp only [Act.put, List.setIfInBounds_toArray, List.set_cons_zero, List.set_cons_succ, i64_w, i32_w]
                                rfl
                              refine one_ (i := 10) (N := some 36) #[true, true, true, true, true, true, true, true, true, true, true, false] rfl rfl (one_of HT_.out (by kernel_rfl)) (by decide) (fun K hK => ?_)
                              refine goes_ Try.func34 (by kernel_rfl) rfl #[.slice Ao43 y275.length co43] (by rfl) rfl rfl (by (try simp only [List.map_toArray, List.map_cons, List.map_nil]); first | done | rfl | (simp only [List.length_drop, List.length_take]; rfl)) ?_
                              with_reducible refine (impl_RoutesOk.calls kj14 _ _ y275 false _ ?side1 ?side2 A25.out).mono ?_
                              (case side1 => repeat (first | exact (Kd.R_reads' HO277.out).2.2 | (with_reducible refine Kd.C_alloc ?_ _) | (with_reducible refine Kd.C_drewN ?_ _) | (with_reducible refine Kd.C_drew ?_)))
                              (case side2 => exact (Kd.R_reads' HO277.out).2.1)
                              rintro e w44 ⟨rfl, hb⟩
                              refine ⟨_, rfl, ?_⟩
                              have n0_ := Aside0.mk (Kd.R_below (by (with_reducible repeat (first | apply Kd.R_alloc | apply Kd.R_drewN | apply Kd.R_drew)); exact HO_3.out) hb)
                              have n1_ := Aside0.mk (Kd.R_below (by (with_reducible repeat (first | apply Kd.R_alloc | apply Kd.R_drewN | apply Kd.R_drew)); exact HO277.out) hb)
                              have n2_ := Aside0.mk (Kd.C_below (by repeat (first | (with_reducible exact HR267.out) | (with_reducible refine Kd.C_alloc ?_ _) | (with_reducible refine Kd.C_drewN ?_ _) | (with_reducible refine Kd.C_drew ?_) | exact HR267.out)) hb)
                              have n3_ := Aside0.mk (Kd.C_below (by repeat (first | (with_reducible exact HR274.out) | (with_reducible refine Kd.C_alloc ?_ _) | (with_reducible refine Kd.C_drewN ?_ _) | (with_reducible refine Kd.C_drew ?_) | exact HR274.out)) hb)
                              have n4_ := Aside0.mk (below_step (by repeat (first | (with_reducible first | exact HB.out | apply below_alloc | apply pw_below_drewN | apply below_drew1) | exact HB.out)) hb)
                              clear HO_3
                              clear HO277
                              clear HR267
                              clear HR274
                              clear HB
                              have HO_3 := n0_
                              have HO277 := n1_
                              have HR267 := n2_
                              have HR274 := n3_
                              have HB := n4_
                              clear n0_ n1_ n2_ n3_ n4_
                              (try clear hb)
                              (try clear hb2)
                              (try clear hk)
                              (try clear hi)
                              refine hK.out _ _ trivial (fun hHeld => ?_)
                              clear hK K
                              refine norm_ (a' := ?_) ?_ ?_
                              rotate_left
                              · show Act.put _ (some 36) _ = _
                                simp only [Act.put, List.setIfInBounds_toArray, List.set_cons_zero, List.set_cons_succ, i64_w, i32_w]
                                rfl
                              refine pure_ (i := 11) (N := some 37) (v := ?_) (a' := ?_) #[true, true, true, true, true, true, true, true, true, true, true, true] rfl rfl (any_of HT_.out (by kernel_rfl)) (fun _ _ _ h => h) (Or.inl ⟨by rfl, ?_⟩) ?_ ?_
                              rotate_left
                              · intro w'
                                go_simp
                                with_reducible rfl
                              rotate_left
                              · simp only [Act.put, List.setIfInBounds_toArray, List.set_cons_zero, List.set_cons_succ, i64_w, i32_w]
                                rfl
                              refine done_ (done_of HT_.out (by kernel_rfl)) ?_
                              try go_wp2
                              go_ret
                              exact ⟨by first | rfl | (simp [errW_none, errW_some] <;> rfl) | (simp only [← hji21]; first | rfl | (simp [errW_none, errW_some] <;> rfl)) | (simp [*, errW_none, errW_some] <;> rfl), by repeat (first | (with_reducible first | exact HB.out | apply below_alloc | apply pw_below_drewN | apply below_drew1) | exact HB.out)⟩
                          · rw [if_neg c24] at H
                            exact absurd H (by simp)
                        · rw [if_neg c23] at H
                          exact absurd H (by simp)
                      · rw [if_neg c22] at H
                        exact absurd H (by simp)
                    · rw [if_neg c20] at H
                      exact absurd H (by simp)
                  · rw [if_neg c19] at H
                    exact absurd H (by simp)
                · rw [if_neg c18] at H
                  exact absurd H (by simp)
              · replace c17 := Bool.eq_false_iff.mpr c17
                subst c17
                have H1 : ((impl_RoutesOk.f kj14 (([] : List (S63)))).bind fun t282 => (if t282 = true then ((laws_alive.f kj14).bind fun t283 => (some t283)) else (some false))) = some r := by rw [if_neg (show ¬ (false = true) by decide)] at H; exact H
                clear H
                have H := H1
                clear H1
                obtain ⟨y279, hy279⟩ : ∃ y_ : List (S63), y_ = (([] : List (S63))) := ⟨_, rfl⟩
                replace H : ((impl_RoutesOk.f kj14 y279).bind fun t282 => (if t282 = true then ((laws_alive.f kj14).bind fun t283 => (some t283)) else (some false))) = some r := by first | (rw [hy279]; with_reducible exact H) | (have H2_ := (Option.bind_some _ _).symm.trans H; rw [hy279]; with_reducible exact H2_) | (have H2_ := (Option.bind_some _ _).symm.trans H; with_reducible exact H2_) | with_reducible exact H | (rw [hy279]; exact H) | exact H
                have Ny279 := Aside0.mk hy279
                clear hy279
                replace H := Option.bind_eq_some_iff.mp H
                obtain ⟨t282, A450, H⟩ := H
                replace H : (if t282 = true then ((laws_alive.f kj14).bind fun t283 => (some t283)) else (some false)) = some r := H
                have A45 := Aside0.mk A450
                clear A450
                by_cases c46 : t282 = true
                · subst c46
                  have H1 : ((laws_alive.f kj14).bind fun t283 => (some t283)) = some r := by rw [if_pos rfl] at H; exact H
                  clear H
                  have H := H1
                  clear H1
                  replace H := Option.bind_eq_some_iff.mp H
                  obtain ⟨t283, A470, H⟩ := H
                  replace H : (some t283) = some r := H
                  have A47 := Aside0.mk A470
                  clear A470
                  obtain rfl := Option.some.inj H
                  go_wp2_with (first | ((with_reducible refine gate_dst (N := 38) rfl ?_); refine Kd.R_lit k63 _ 63 ?hg (N := 38) ?hd (xs := ([] : List (S63))) (inner := []) (ok := fun _ => True) (okp := fun _ => True) ?hr ?hp (fun _ hk => hk) trivial (Below.refl _ _) (Nat.le_refl _) (by simp) ?_; (case hd => rfl); (case hg => rfl); (case hr => first | (go_simp; done) | (go_simp; rfl)); (case hp => exact (Reps.none _ _)); intro v280 w48 ho49 hb hg_ hnew_; clear hg_ hnew_; (first | rw [← Ny279.out] at ho49 | (simp only [Int.reduceToNat] at ho49; rw [← Ny279.out] at ho49)); have n0_ := Aside0.mk (Kd.R_elder' (by (with_reducible repeat (first | apply Kd.R_alloc | apply Kd.R_drewN | apply Kd.R_drew)); exact HO_3.out) (Kd.R_base ho49) hb); have n1_ := Aside0.mk (Kd.R_lower (Kd.R_new' ho49 (Kd.R_lt (by (with_reducible repeat (first | apply Kd.R_alloc | apply Kd.R_drewN | apply Kd.R_drew)); exact HO_3.out))) (below_size (by repeat (first | (with_reducible first | exact HB.out | apply below_alloc | apply pw_below_drewN | apply below_drew1) | exact HB.out)))); have n2_ := Aside0.mk (below_step (by repeat (first | (with_reducible first | exact HB.out | apply below_alloc | apply pw_below_drewN | apply below_drew1) | exact HB.out)) hb); clear HO_3; clear HB; have HO_3 := n0_; have HO281 := n1_; have HB := n2_; clear n0_ n1_ n2_; clear hb ho49; obtain ⟨Ao50, co50, eo50⟩ := Kd.R_slice HO281.out; subst eo50) | ((with_reducible refine gate_callee (f := 34) rfl ?_); refine goesL_ (some 39) rfl rfl Try.func34 (by kernel_rfl) rfl #[.slice Ao50 y279.length co50] rfl (by (try simp only [List.map_toArray, List.map_cons, List.map_nil]); first | done | rfl | (simp only [List.length_drop, List.length_take]; rfl)) ?_; (with_reducible refine (impl_RoutesOk.calls kj14 _ _ y279 true _ ?side1 ?side2 A45.out).mono ?_); (case side1 => repeat (first | exact (Kd.R_reads' HO281.out).2.2 | (with_reducible refine Kd.C_alloc ?_ _) | (with_reducible refine Kd.C_drewN ?_ _) | (with_reducible refine Kd.C_drew ?_))); (case side2 => exact (Kd.R_reads' HO281.out).2.1); rintro e w51 ⟨rfl, hb⟩; refine ⟨_, rfl, ?_⟩; have n0_ := Aside0.mk (Kd.R_below (by (with_reducible repeat (first | apply Kd.R_alloc | apply Kd.R_drewN | apply Kd.R_drew)); exact HO_3.out) hb); have n1_ := Aside0.mk (Kd.R_below (by (with_reducible repeat (first | apply Kd.R_alloc | apply Kd.R_drewN | apply Kd.R_drew)); exact HO281.out) hb); have n2_ := Aside0.mk (below_step (by repeat (first | (with_reducible first | exact HB.out | apply below_alloc | apply pw_below_drewN | apply below_drew1) | exact HB.out)) hb); clear HO_3; clear HO281; clear HB; have HO_3 := n0_; have HO281 := n1_; have HB := n2_; clear n0_ n1_ n2_; (try clear hb); (try clear hb2); (try clear hk); (try clear hi)) | (go_at_call 21; (with_reducible refine (laws_alive.calls kj14  t283 _ A47.out).mono ?_); rintro e w52 ⟨rfl, hb⟩; have n0_ := Aside0.mk (Kd.R_below (by (with_reducible repeat (first | apply Kd.R_alloc | apply Kd.R_drewN | apply Kd.R_drew)); exact HO_3.out) hb); have n1_ := Aside0.mk (Kd.R_below (by (with_reducible repeat (first | apply Kd.R_alloc | apply Kd.R_drewN | apply Kd.R_drew)); exact HO281.out) hb); have n2_ := Aside0.mk (below_step (by repeat (first | (with_reducible first | exact HB.out | apply below_alloc | apply pw_below_drewN | apply below_drew1) | exact HB.out)) hb); clear HO_3; clear HO281; clear HB; have HO_3 := n0_; have HO281 := n1_; have HB := n2_; clear n0_ n1_ n2_; (try clear hb); (try clear hb2); (try clear hk); (try clear hi)))
                  go_ret
                  exact ⟨by first | rfl | (simp [errW_none, errW_some] <;> rfl) | (simp [*, errW_none, errW_some] <;> rfl), by repeat (first | (with_reducible first | exact HB.out | apply below_alloc | apply pw_below_drewN | apply below_drew1) | exact HB.out)⟩
                · replace c46 := Bool.eq_false_iff.mpr c46
                  subst c46
                  have H1 : (some false) = some r := by rw [if_neg (show ¬ (false = true) by decide)] at H; exact H
                  clear H
                  have H := H1
                  clear H1
                  obtain rfl := Option.some.inj H
                  go_wp2_with (first | ((with_reducible refine gate_dst (N := 38) rfl ?_); refine Kd.R_lit k63 _ 63 ?hg (N := 38) ?hd (xs := ([] : List (S63))) (inner := []) (ok := fun _ => True) (okp := fun _ => True) ?hr ?hp (fun _ hk => hk) trivial (Below.refl _ _) (Nat.le_refl _) (by simp) ?_; (case hd => rfl); (case hg => rfl); (case hr => first | (go_simp; done) | (go_simp; rfl)); (case hp => exact (Reps.none _ _)); intro v280 w53 ho54 hb hg_ hnew_; clear hg_ hnew_; (first | rw [← Ny279.out] at ho54 | (simp only [Int.reduceToNat] at ho54; rw [← Ny279.out] at ho54)); have n0_ := Aside0.mk (Kd.R_elder' (by (with_reducible repeat (first | apply Kd.R_alloc | apply Kd.R_drewN | apply Kd.R_drew)); exact HO_3.out) (Kd.R_base ho54) hb); have n1_ := Aside0.mk (Kd.R_lower (Kd.R_new' ho54 (Kd.R_lt (by (with_reducible repeat (first | apply Kd.R_alloc | apply Kd.R_drewN | apply Kd.R_drew)); exact HO_3.out))) (below_size (by repeat (first | (with_reducible first | exact HB.out | apply below_alloc | apply pw_below_drewN | apply below_drew1) | exact HB.out)))); have n2_ := Aside0.mk (below_step (by repeat (first | (with_reducible first | exact HB.out | apply below_alloc | apply pw_below_drewN | apply below_drew1) | exact HB.out)) hb); clear HO_3; clear HB; have HO_3 := n0_; have HO281 := n1_; have HB := n2_; clear n0_ n1_ n2_; clear hb ho54; obtain ⟨Ao55, co55, eo55⟩ := Kd.R_slice HO281.out; subst eo55) | ((with_reducible refine gate_callee (f := 34) rfl ?_); refine goesL_ (some 39) rfl rfl Try.func34 (by kernel_rfl) rfl #[.slice Ao55 y279.length co55] rfl (by (try simp only [List.map_toArray, List.map_cons, List.map_nil]); first | done | rfl | (simp only [List.length_drop, List.length_take]; rfl)) ?_; (with_reducible refine (impl_RoutesOk.calls kj14 _ _ y279 false _ ?side1 ?side2 A45.out).mono ?_); (case side1 => repeat (first | exact (Kd.R_reads' HO281.out).2.2 | (with_reducible refine Kd.C_alloc ?_ _) | (with_reducible refine Kd.C_drewN ?_ _) | (with_reducible refine Kd.C_drew ?_))); (case side2 => exact (Kd.R_reads' HO281.out).2.1); rintro e w56 ⟨rfl, hb⟩; refine ⟨_, rfl, ?_⟩; have n0_ := Aside0.mk (Kd.R_below (by (with_reducible repeat (first | apply Kd.R_alloc | apply Kd.R_drewN | apply Kd.R_drew)); exact HO_3.out) hb); have n1_ := Aside0.mk (Kd.R_below (by (with_reducible repeat (first | apply Kd.R_alloc | apply Kd.R_drewN | apply Kd.R_drew)); exact HO281.out) hb); have n2_ := Aside0.mk (below_step (by repeat (first | (with_reducible first | exact HB.out | apply below_alloc | apply pw_below_drewN | apply below_drew1) | exact HB.out)) hb); clear HO_3; clear HO281; clear HB; have HO_3 := n0_; have HO281 := n1_; have HB := n2_; clear n0_ n1_ n2_; (try clear hb); (try clear hb2); (try clear hk); (try clear hi)))
                  go_ret
                  exact ⟨by first | rfl | (simp [errW_none, errW_some] <;> rfl) | (simp [*, errW_none, errW_some] <;> rfl), by repeat (first | (with_reducible first | exact HB.out | apply below_alloc | apply pw_below_drewN | apply below_drew1) | exact HB.out)⟩

/-- THE ONE PURE STATEMENT of laws_FnRoutesOk: yours. -/
def laws_FnRoutesOk.Pure : Prop := ∀ (l0 : List Int), l0.length ≤ maxLen → l0.length * 1 ≤ 140737488351232 → (∀ x ∈ l0, (Lit.int .u8 x).wf = true) → ∃ k, laws_FnRoutesOk.f k l0 = some true
theorem laws_FnRoutesOk.walk (P : laws_FnRoutesOk.Pure) (a0 : Option Addr) (len0 cap0 : Nat) (z0 : List Int) (w : World) (w0 : (a0 = none ∧ len0 = 0 ∧ cap0 = 0 ∧ z0 = []) ∨ ∃ x, a0 = some x ∧ len0 ≤ cap0 ∧ cap0 ≤ maxLen ∧ z0.length = cap0 ∧ (∀ i, i < z0.length → w.cell? (x.add i) = some (.int .u8 (z0.getD i 0))) ∧ ∀ n ∈ z0, (Lit.int .u8 n).wf = true) (y0 : len0 * 1 ≤ 140737488351232) :
    Calls Try.prog 12 #[.slice a0 len0 cap0] w fun e w' => e = .returned (.bool true) ∧ Below w.heap.size w w' := by
  obtain ⟨l0, rfl, hr0, hm0, hw0, hc0⟩ := ReadsInt.ofRowC w0
  obtain ⟨k, h⟩ := P l0 hm0 y0 hw0
  refine (laws_FnRoutesOk.calls k _ _ l0 true w (Kd.C_of_reads (d := (0 : Int)) (h1 := fun _ => rfl) hr0) hc0 h).mono ?_
  rintro e w' ⟨rfl, hd⟩
  exact ⟨rfl, hd⟩

end Go.Proofs.Ytibfeacgnadiaaa.PFnRoutesOk

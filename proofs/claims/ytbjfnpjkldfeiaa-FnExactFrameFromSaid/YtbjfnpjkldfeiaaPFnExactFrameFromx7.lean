/- The machine side of some functions: each comes to its pure answer (written by a program of this session with the kit's print). No condition. -/
import Derived.Test.YtbjfnpjkldfeiaaPFnExactFrameFromx0
import Derived.Test.YtbjfnpjkldfeiaaPFnExactFrameFromx2
import Derived.Test.YtbjfnpjkldfeiaaPFnExactFrameFromx3
import Derived.Test.YtbjfnpjkldfeiaaPFnExactFrameFromx5
import Derived.Test.YtbjfnpjkldfeiaaPFnExactFrameFromx6
namespace Go.Proofs.Ytbjfnpjkldfeiaa.PFnExactFrameFrom
open Go.RowKit Go.Proofs.YtbjfnpjkldfeiaaV.PrintWords Go.Proofs.YtbjfnpjkldfeiaaV.PrintLast Go.Proofs.YtbjfnpjkldfeiaaV.PrintMore
attribute [local go_sem] max2_int min2_int max_two min_two max_three min_three max_four min_four   -- for this text's walks alone
set_option linter.unusedVariables false
set_option linter.unusedSimpArgs false

/-! ### laws_FnExactFrameFrom: function 3 -/
mutual
def laws_FnExactFrameFrom.j0 : Nat → List Int → Bool → List Int → Bool → Bool → Int → Int → Int → List Int → Int → Int → Int → List Int → Option (Bool)
  | 0, _, _, _, _, _, _, _, _, _, _, _, _, _ => none
  | k + 1, x0, x4, x5, x7, x37, x214000, x214001, x214002, x214003, x225000, x225001, x225002, x225003 => if x37 = true then (some false) else ((laws_toByteS.f k x0).bind fun t226 => ((laws_eqByteS.f k x5 t226).bind fun t229 => (if t229 = true then ((laws_markByteS.f k x5 1).bind fun bt230 => (if bt230.1 < 0 then (laws_FnExactFrameFrom.j1 k x0 x4 true x214000 x214001 x214002 x214003 x225000 x225001 x225002 x225003) else ((laws_eqFrame.f k x225000 x225001 x225002 x225003 x214000 x214001 x214002 x214003).bind fun t232 => (if t232 = true then (laws_FnExactFrameFrom.j1 k x0 x4 (x7 != x4) x214000 x214001 x214002 x214003 x225000 x225001 x225002 x225003) else (laws_FnExactFrameFrom.j1 k x0 x4 true x214000 x214001 x214002 x214003 x225000 x225001 x225002 x225003))))) else (some false))))
def laws_FnExactFrameFrom.j1 : Nat → List Int → Bool → Bool → Int → Int → Int → List Int → Int → Int → Int → List Int → Option (Bool)
  | 0, _, _, _, _, _, _, _, _, _, _, _ => none
  | k + 1, x0, x4, x58, x214000, x214001, x214002, x214003, x225000, x225001, x225002, x225003 => if x58 = true then (some false) else ((laws_markFrame.f k x225000 x225001 x225002 x225003 1).bind fun bt233 => ((laws_heldFrame.f k x225000 x225001 x225002 bt233.2 1).bind fun t235 => (if t235 < 0 then (some false) else (if t235 = bt233.1 then ((laws_toByteS.f k x0).bind fun t236 => ((impl_FrameFrom.f k t236).bind fun bt239 => ((laws_eqFrame.f k bt239.1 bt239.2.1 bt239.2.2.1 bt239.2.2.2.1 x214000 x214001 x214002 x214003).bind fun t247 => (if t247 = true then (laws_FnExactFrameFrom.j2 k bt233.1 (bt239.2.2.2.2 != x4) x225000 x225001 x225002 bt233.2) else (laws_FnExactFrameFrom.j2 k bt233.1 true x225000 x225001 x225002 bt233.2))))) else (some false)))))
def laws_FnExactFrameFrom.j2 : Nat → Int → Bool → Int → Int → Int → List Int → Option (Bool)
  | 0, _, _, _, _, _, _ => none
  | k + 1, x9, x84, x225000, x225001, x225002, x225003 => if x84 = true then (some false) else ((laws_heldFrame.f k x225000 x225001 x225002 x225003 1).bind fun t248 => (if t248 < 0 then (some false) else (if t248 = x9 then (some true) else (some false))))
end
def laws_FnExactFrameFrom.f (k : Nat) (l0 : List Int) : Option (Bool) := if (l0.length : Int) > 1048576 then (some true) else ((laws_toByteS.f k l0).bind fun t203 => ((spec_FrameFrom.f k t203).bind fun bt206 => ((laws_toByteS.f k l0).bind fun t214 => ((impl_FrameFrom.f k t214).bind fun bt217 => ((laws_eqFrame.f k bt217.1 bt217.2.1 bt217.2.2.1 bt217.2.2.2.1 bt206.1 bt206.2.1 bt206.2.2.1 bt206.2.2.2.1).bind fun t225 => (if t225 = true then (laws_FnExactFrameFrom.j0 k l0 bt206.2.2.2.2 t214 bt217.2.2.2.2 (bt217.2.2.2.2 != bt206.2.2.2.2) bt206.1 bt206.2.1 bt206.2.2.1 bt206.2.2.2.1 bt217.1 bt217.2.1 bt217.2.2.1 bt217.2.2.2.1) else (laws_FnExactFrameFrom.j0 k l0 bt206.2.2.2.2 t214 bt217.2.2.2.2 true bt206.1 bt206.2.1 bt206.2.2.1 bt206.2.2.2.1 bt217.1 bt217.2.1 bt217.2.2.1 bt217.2.2.2.1)))))))
theorem laws_FnExactFrameFrom.mono_l : ∀ k, (∀ y0 y1 y2 y3 y4 y5 y6 y7 y8 y9 y10 y11 y12, LeO (laws_FnExactFrameFrom.j0 k y0 y1 y2 y3 y4 y5 y6 y7 y8 y9 y10 y11 y12) (laws_FnExactFrameFrom.j0 (k + 1) y0 y1 y2 y3 y4 y5 y6 y7 y8 y9 y10 y11 y12)) ∧ (∀ y0 y1 y2 y3 y4 y5 y6 y7 y8 y9 y10, LeO (laws_FnExactFrameFrom.j1 k y0 y1 y2 y3 y4 y5 y6 y7 y8 y9 y10) (laws_FnExactFrameFrom.j1 (k + 1) y0 y1 y2 y3 y4 y5 y6 y7 y8 y9 y10)) ∧ (∀ y0 y1 y2 y3 y4 y5, LeO (laws_FnExactFrameFrom.j2 k y0 y1 y2 y3 y4 y5) (laws_FnExactFrameFrom.j2 (k + 1) y0 y1 y2 y3 y4 y5))
  | 0 => ⟨fun _ _ _ _ _ _ _ _ _ _ _ _ _ r h => by simp [laws_FnExactFrameFrom.j0] at h, fun _ _ _ _ _ _ _ _ _ _ _ r h => by simp [laws_FnExactFrameFrom.j1] at h, fun _ _ _ _ _ _ r h => by simp [laws_FnExactFrameFrom.j2] at h⟩
  | k + 1 => by
    obtain ⟨ih0, ih1, ih2⟩ := laws_FnExactFrameFrom.mono_l k
    refine ⟨?_, ?_, ?_⟩
    · intro y0 y1 y2 y3 y4 y5 y6 y7 y8 y9 y10 y11 y12
      unfold laws_FnExactFrameFrom.j0
      repeat' first
      | (with_reducible exact ih0 _ _ _ _ _ _ _ _ _ _ _ _ _)
      | (with_reducible exact ih1 _ _ _ _ _ _ _ _ _ _ _)
      | (with_reducible exact ih2 _ _ _ _ _ _)
      | (with_reducible exact impl_FrameFrom.mono _ _)
      | (with_reducible exact laws_eqByteS.mono _ _ _)
      | (with_reducible exact laws_eqFrame.mono _ _ _ _ _ _ _ _ _)
      | (with_reducible exact laws_heldFrame.mono _ _ _ _ _ _)
      | (with_reducible exact laws_markByteS.mono _ _ _)
      | (with_reducible exact laws_markFrame.mono _ _ _ _ _ _)
      | (with_reducible exact laws_toByteS.mono _ _)
      | (with_reducible exact spec_FrameFrom.mono _ _)
      | (with_reducible exact LeO.refl _)
      | (with_reducible exact LeO.none _)
      | (with_reducible refine LeO.ite ?_ ?_)
      | (with_reducible refine LeO.bind ?_ (fun _ => ?_))
      | exact ih0 _ _ _ _ _ _ _ _ _ _ _ _ _
      | exact ih1 _ _ _ _ _ _ _ _ _ _ _
      | exact ih2 _ _ _ _ _ _
      | exact impl_FrameFrom.mono _ _
      | exact laws_eqByteS.mono _ _ _
      | exact laws_eqFrame.mono _ _ _ _ _ _ _ _ _
      | exact laws_heldFrame.mono _ _ _ _ _ _
      | exact laws_markByteS.mono _ _ _
      | exact laws_markFrame.mono _ _ _ _ _ _
      | exact laws_toByteS.mono _ _
      | exact spec_FrameFrom.mono _ _
      | exact LeO.none _
      | refine LeO.ite ?_ ?_
      | refine LeO.bind ?_ (fun _ => ?_)
    · intro y0 y1 y2 y3 y4 y5 y6 y7 y8 y9 y10
      unfold laws_FnExactFrameFrom.j1
      repeat' first
      | (with_reducible exact ih0 _ _ _ _ _ _ _ _ _ _ _ _ _)
      | (with_reducible exact ih1 _ _ _ _ _ _ _ _ _ _ _)
      | (with_reducible exact ih2 _ _ _ _ _ _)
      | (with_reducible exact impl_FrameFrom.mono _ _)
      | (with_reducible exact laws_eqByteS.mono _ _ _)
      | (with_reducible exact laws_eqFrame.mono _ _ _ _ _ _ _ _ _)
      | (with_reducible exact laws_heldFrame.mono _ _ _ _ _ _)
      | (with_reducible exact laws_markByteS.mono _ _ _)
      | (with_reducible exact laws_markFrame.mono _ _ _ _ _ _)
      | (with_reducible exact laws_toByteS.mono _ _)
      | (with_reducible exact spec_FrameFrom.mono _ _)
      | (with_reducible exact LeO.refl _)
      | (with_reducible exact LeO.none _)
      | (with_reducible refine LeO.ite ?_ ?_)
      | (with_reducible refine LeO.bind ?_ (fun _ => ?_))
      | exact ih0 _ _ _ _ _ _ _ _ _ _ _ _ _
      | exact ih1 _ _ _ _ _ _ _ _ _ _ _
      | exact ih2 _ _ _ _ _ _
      | exact impl_FrameFrom.mono _ _
      | exact laws_eqByteS.mono _ _ _
      | exact laws_eqFrame.mono _ _ _ _ _ _ _ _ _
      | exact laws_heldFrame.mono _ _ _ _ _ _
      | exact laws_markByteS.mono _ _ _
      | exact laws_markFrame.mono _ _ _ _ _ _
      | exact laws_toByteS.mono _ _
      | exact spec_FrameFrom.mono _ _
      | exact LeO.none _
      | refine LeO.ite ?_ ?_
      | refine LeO.bind ?_ (fun _ => ?_)
    · intro y0 y1 y2 y3 y4 y5
      unfold laws_FnExactFrameFrom.j2
      repeat' first
      | (with_reducible exact ih0 _ _ _ _ _ _ _ _ _ _ _ _ _)
      | (with_reducible exact ih1 _ _ _ _ _ _ _ _ _ _ _)
      | (with_reducible exact ih2 _ _ _ _ _ _)
      | (with_reducible exact impl_FrameFrom.mono _ _)
      | (with_reducible exact laws_eqByteS.mono _ _ _)
      | (with_reducible exact laws_eqFrame.mono _ _ _ _ _ _ _ _ _)
      | (with_reducible exact laws_heldFrame.mono _ _ _ _ _ _)
      | (with_reducible exact laws_markByteS.mono _ _ _)
      | (with_reducible exact laws_markFrame.mono _ _ _ _ _ _)
      | (with_reducible exact laws_toByteS.mono _ _)
      | (with_reducible exact spec_FrameFrom.mono _ _)
      | (with_reducible exact LeO.refl _)
      | (with_reducible exact LeO.none _)
      | (with_reducible refine LeO.ite ?_ ?_)
      | (with_reducible refine LeO.bind ?_ (fun _ => ?_))
      | exact ih0 _ _ _ _ _ _ _ _ _ _ _ _ _
      | exact ih1 _ _ _ _ _ _ _ _ _ _ _
      | exact ih2 _ _ _ _ _ _
      | exact impl_FrameFrom.mono _ _
      | exact laws_eqByteS.mono _ _ _
      | exact laws_eqFrame.mono _ _ _ _ _ _ _ _ _
      | exact laws_heldFrame.mono _ _ _ _ _ _
      | exact laws_markByteS.mono _ _ _
      | exact laws_markFrame.mono _ _ _ _ _ _
      | exact laws_toByteS.mono _ _
      | exact spec_FrameFrom.mono _ _
      | exact LeO.none _
      | refine LeO.ite ?_ ?_
      | refine LeO.bind ?_ (fun _ => ?_)
theorem laws_FnExactFrameFrom.mono : ∀ a0 k, LeO (laws_FnExactFrameFrom.f k a0) (laws_FnExactFrameFrom.f (k + 1) a0) := by
  intro a0 k
  obtain ⟨ih0, ih1, ih2⟩ := laws_FnExactFrameFrom.mono_l k
  unfold laws_FnExactFrameFrom.f
  repeat' first
      | (with_reducible exact ih0 _ _ _ _ _ _ _ _ _ _ _ _ _)
      | (with_reducible exact ih1 _ _ _ _ _ _ _ _ _ _ _)
      | (with_reducible exact ih2 _ _ _ _ _ _)
      | (with_reducible exact impl_FrameFrom.mono _ _)
      | (with_reducible exact laws_eqByteS.mono _ _ _)
      | (with_reducible exact laws_eqFrame.mono _ _ _ _ _ _ _ _ _)
      | (with_reducible exact laws_heldFrame.mono _ _ _ _ _ _)
      | (with_reducible exact laws_markByteS.mono _ _ _)
      | (with_reducible exact laws_markFrame.mono _ _ _ _ _ _)
      | (with_reducible exact laws_toByteS.mono _ _)
      | (with_reducible exact spec_FrameFrom.mono _ _)
      | (with_reducible exact LeO.refl _)
      | (with_reducible exact LeO.none _)
      | (with_reducible refine LeO.ite ?_ ?_)
      | (with_reducible refine LeO.bind ?_ (fun _ => ?_))
      | exact ih0 _ _ _ _ _ _ _ _ _ _ _ _ _
      | exact ih1 _ _ _ _ _ _ _ _ _ _ _
      | exact ih2 _ _ _ _ _ _
      | exact impl_FrameFrom.mono _ _
      | exact laws_eqByteS.mono _ _ _
      | exact laws_eqFrame.mono _ _ _ _ _ _ _ _ _
      | exact laws_heldFrame.mono _ _ _ _ _ _
      | exact laws_markByteS.mono _ _ _
      | exact laws_markFrame.mono _ _ _ _ _ _
      | exact laws_toByteS.mono _ _
      | exact spec_FrameFrom.mono _ _
      | exact LeO.none _
      | refine LeO.ite ?_ ?_
      | refine LeO.bind ?_ (fun _ => ?_)
set_option maxHeartbeats 8000000 in
set_option maxRecDepth 100000 in
theorem laws_FnExactFrameFrom.calls (k : Nat) (A0 : Option Addr) (c0 : Nat) (l0 : List Int) (r : Bool) (w : World) (hr0 : Kd.C (Kd.int .u8) w A0 l0.length l0) (hc0 : l0.length ≤ c0) (h : laws_FnExactFrameFrom.f k l0 = some r) :
    Calls Try.prog 3 #[.slice A0 l0.length c0] w fun e w' => e = .returned (.bool r) ∧ Below w.heap.size w w' := by
  have hu24 := Try.underlying24
  have HR0 := Aside0.mk hr0
  have HC0 := Aside0.mk hc0
  clear hr0 hc0
  have HB := Aside0.mk (Below.refl w.heap.size w)
  have H : (if (l0.length : Int) > 1048576 then (some true) else ((laws_toByteS.f k l0).bind fun t203 => ((spec_FrameFrom.f k t203).bind fun bt206 => ((laws_toByteS.f k l0).bind fun t214 => ((impl_FrameFrom.f k t214).bind fun bt217 => ((laws_eqFrame.f k bt217.1 bt217.2.1 bt217.2.2.1 bt217.2.2.2.1 bt206.1 bt206.2.1 bt206.2.2.1 bt206.2.2.2.1).bind fun t225 => (if t225 = true then (laws_FnExactFrameFrom.j0 k l0 bt206.2.2.2.2 t214 bt217.2.2.2.2 (bt217.2.2.2.2 != bt206.2.2.2.2) bt206.1 bt206.2.1 bt206.2.2.1 bt206.2.2.2.1 bt217.1 bt217.2.1 bt217.2.2.1 bt217.2.2.2.1) else (laws_FnExactFrameFrom.j0 k l0 bt206.2.2.2.2 t214 bt217.2.2.2.2 true bt206.1 bt206.2.1 bt206.2.2.1 bt206.2.2.2.1 bt217.1 bt217.2.1 bt217.2.2.1 bt217.2.2.2.1)))))))) = some r := h
  clear h
  by_cases c2 : (l0.length : Int) > 1048576
  · rw [if_pos c2] at H
    have c2b0 : decide (1048576 < (l0.length : Int)) = true := decide_eq_true c2
    have c2b1 : decide (1048576 < l0.length) = true := decide_eq_true (by omega)
    clear c2
    obtain rfl := Option.some.inj H
    go_enter Try.func3, Try.ntmps3
    go_wp2
    go_ret
    exact ⟨by first | rfl | (simp [errW_none, errW_some] <;> rfl) | (simp [*, errW_none, errW_some] <;> rfl), by repeat (first | (with_reducible first | exact HB.out | apply below_alloc | apply pw_below_drewN | apply below_drew1) | exact HB.out)⟩
  · rw [if_neg c2] at H
    have c2b0 : decide (1048576 < (l0.length : Int)) = false := decide_eq_false c2
    have c2b1 : decide (1048576 < l0.length) = false := decide_eq_false (by omega)
    clear c2
    replace H := Option.bind_eq_some_iff.mp H
    obtain ⟨t203, A30, H⟩ := H
    replace H : ((spec_FrameFrom.f k t203).bind fun bt206 => ((laws_toByteS.f k l0).bind fun t214 => ((impl_FrameFrom.f k t214).bind fun bt217 => ((laws_eqFrame.f k bt217.1 bt217.2.1 bt217.2.2.1 bt217.2.2.2.1 bt206.1 bt206.2.1 bt206.2.2.1 bt206.2.2.2.1).bind fun t225 => (if t225 = true then (laws_FnExactFrameFrom.j0 k l0 bt206.2.2.2.2 t214 bt217.2.2.2.2 (bt217.2.2.2.2 != bt206.2.2.2.2) bt206.1 bt206.2.1 bt206.2.2.1 bt206.2.2.2.1 bt217.1 bt217.2.1 bt217.2.2.1 bt217.2.2.2.1) else (laws_FnExactFrameFrom.j0 k l0 bt206.2.2.2.2 t214 bt217.2.2.2.2 true bt206.1 bt206.2.1 bt206.2.2.1 bt206.2.2.2.1 bt217.1 bt217.2.1 bt217.2.2.1 bt217.2.2.2.1)))))) = some r := H
    have A3 := Aside0.mk A30
    clear A30
    replace H := Option.bind_eq_some_iff.mp H
    obtain ⟨⟨t206, t207, t208, t209, t212⟩, A40, H⟩ := H
    replace H : ((laws_toByteS.f k l0).bind fun t214 => ((impl_FrameFrom.f k t214).bind fun bt217 => ((laws_eqFrame.f k bt217.1 bt217.2.1 bt217.2.2.1 bt217.2.2.2.1 t206 t207 t208 t209).bind fun t225 => (if t225 = true then (laws_FnExactFrameFrom.j0 k l0 t212 t214 bt217.2.2.2.2 (bt217.2.2.2.2 != t212) t206 t207 t208 t209 bt217.1 bt217.2.1 bt217.2.2.1 bt217.2.2.2.1) else (laws_FnExactFrameFrom.j0 k l0 t212 t214 bt217.2.2.2.2 true t206 t207 t208 t209 bt217.1 bt217.2.1 bt217.2.2.1 bt217.2.2.2.1))))) = some r := H
    have A4 := Aside0.mk A40
    clear A40
    replace H := Option.bind_eq_some_iff.mp H
    obtain ⟨t214, A50, H⟩ := H
    replace H : ((impl_FrameFrom.f k t214).bind fun bt217 => ((laws_eqFrame.f k bt217.1 bt217.2.1 bt217.2.2.1 bt217.2.2.2.1 t206 t207 t208 t209).bind fun t225 => (if t225 = true then (laws_FnExactFrameFrom.j0 k l0 t212 t214 bt217.2.2.2.2 (bt217.2.2.2.2 != t212) t206 t207 t208 t209 bt217.1 bt217.2.1 bt217.2.2.1 bt217.2.2.2.1) else (laws_FnExactFrameFrom.j0 k l0 t212 t214 bt217.2.2.2.2 true t206 t207 t208 t209 bt217.1 bt217.2.1 bt217.2.2.1 bt217.2.2.2.1)))) = some r := H
    have A5 := Aside0.mk A50
    clear A50
    replace H := Option.bind_eq_some_iff.mp H
    obtain ⟨⟨t217, t218, t219, t220, t223⟩, A60, H⟩ := H
    replace H : ((laws_eqFrame.f k t217 t218 t219 t220 t206 t207 t208 t209).bind fun t225 => (if t225 = true then (laws_FnExactFrameFrom.j0 k l0 t212 t214 t223 (t223 != t212) t206 t207 t208 t209 t217 t218 t219 t220) else (laws_FnExactFrameFrom.j0 k l0 t212 t214 t223 true t206 t207 t208 t209 t217 t218 t219 t220))) = some r := H
    have A6 := Aside0.mk A60
    clear A60
    have HC7 := Aside0.mk H
    clear H
    go_enter Try.func3, Try.ntmps3
    go_upto_region 6 with (first | ((with_reducible refine gate_callee (f := 14) rfl ?_); refine goesL_ (some 18) rfl rfl Try.func14 (by kernel_rfl) rfl #[.slice A0 l0.length c0] rfl (by (try simp only [List.map_toArray, List.map_cons, List.map_nil]); first | done | rfl | (simp only [List.length_drop, List.length_take]; rfl)) ?_; (with_reducible refine (laws_toByteS.calls k _ _ l0 t203 _ ?side1 ?side2 A3.out).mono ?_); (case side1 => repeat (first | exact HR0.out | (with_reducible refine Kd.C_alloc ?_ _) | (with_reducible refine Kd.C_drewN ?_ _) | (with_reducible refine Kd.C_drew ?_))); (case side2 => exact HC0.out); rintro e w8 ⟨v204, rfl, ho0, hb⟩; refine ⟨_, rfl, ?_⟩; have n0_ := Aside0.mk (Kd.R_lower ho0 (below_size (by repeat (first | (with_reducible first | exact HB.out | apply below_alloc | apply pw_below_drewN | apply below_drew1) | exact HB.out)))); have n1_ := Aside0.mk (below_step (by repeat (first | (with_reducible first | exact HB.out | apply below_alloc | apply pw_below_drewN | apply below_drew1) | exact HB.out)) hb); clear HB; have HO205 := n0_; have HB := n1_; clear n0_ n1_; (try clear hb); (try clear hb2); (try clear hk); (try clear hi); (try clear ho0); obtain ⟨Ao9, co9, eo9⟩ := Kd.R_slice HO205.out; subst eo9) | ((with_reducible refine gate_callee (f := 13) rfl ?_); refine goesL_ (some 19) rfl rfl Try.func13 (by kernel_rfl) rfl #[.slice Ao9 t203.length co9] rfl (by (try simp only [List.map_toArray, List.map_cons, List.map_nil]); first | done | rfl | (simp only [List.length_drop, List.length_take]; rfl)) ?_; (with_reducible refine (spec_FrameFrom.calls k _ _ t203 t206 t207 t208 t209 t212 _ ?side1 ?side2 A4.out).mono ?_); (case side1 => repeat (first | exact (Kd.R_reads' HO205.out).2.2 | (with_reducible refine Kd.C_alloc ?_ _) | (with_reducible refine Kd.C_drewN ?_ _) | (with_reducible refine Kd.C_drew ?_))); (case side2 => exact (Kd.R_reads' HO205.out).2.1); rintro e w10 ⟨v210, rfl, ho0, hb⟩; refine ⟨_, rfl, ?_⟩; have n0_ := Aside0.mk (Kd.R_elder' (by (with_reducible repeat (first | apply Kd.R_alloc | apply Kd.R_drewN | apply Kd.R_drew)); exact HO205.out) (Kd.R_base ho0) hb); have n1_ := Aside0.mk (Kd.R_lower (Kd.R_new' ho0 (Kd.R_lt (by (with_reducible repeat (first | apply Kd.R_alloc | apply Kd.R_drewN | apply Kd.R_drew)); exact HO205.out))) (below_size (by repeat (first | (with_reducible first | exact HB.out | apply below_alloc | apply pw_below_drewN | apply below_drew1) | exact HB.out)))); have n2_ := Aside0.mk (below_step (by repeat (first | (with_reducible first | exact HB.out | apply below_alloc | apply pw_below_drewN | apply below_drew1) | exact HB.out)) hb); clear HO205; clear HB; have HO205 := n0_; have HO211 := n1_; have HB := n2_; clear n0_ n1_ n2_; (try clear hb); (try clear hb2); (try clear hk); (try clear hi); (try clear ho0)) | ((with_reducible refine gate_dst (N := 3) rfl ?_); refine box_event ?hg (N := 3) ?hd (cs := #[.int .i64 0, .int .i64 0, .int .i64 0, .slice none 0 0]) (t := 24) ?hr ?_; (case hd => rfl); (case hg => rfl); (case hr => first | (go_simp; done) | (go_simp; rfl)); intro gb213 hg w11 hbox hb; have n0_ := Aside0.mk (Kd.R_below (by (with_reducible repeat (first | apply Kd.R_alloc | apply Kd.R_drewN | apply Kd.R_drew)); exact HO205.out) hb); have n1_ := Aside0.mk (Kd.R_below (by (with_reducible repeat (first | apply Kd.R_alloc | apply Kd.R_drewN | apply Kd.R_drew)); exact HO211.out) hb); have n2_ := Aside0.mk (below_step (by repeat (first | (with_reducible first | exact HB.out | apply below_alloc | apply pw_below_drewN | apply below_drew1) | exact HB.out)) hb); have n3_ := Aside0.mk (hbox); have n4_ := Aside0.mk ((by rw [hg]; exact (below_size (by repeat (first | (with_reducible first | exact HB.out | apply below_alloc | apply pw_below_drewN | apply below_drew1) | exact HB.out))) : w.heap.size ≤ gb213)); have n5_ := Aside0.mk ((by rw [hg]; exact (below_size (by repeat (first | (with_reducible first | exact HB.out | apply below_alloc | apply pw_below_drewN | apply below_drew1) | exact HB.out))) : w.heap.size ≤ gb213)); clear HO205; clear HO211; clear HB; have HO205 := n0_; have HO211 := n1_; have HB := n2_; have BK213 := n3_; have GW213 := n4_; have GE213 := n5_; clear n0_ n1_ n2_ n3_ n4_ n5_; clear hb hbox hg; have hcz12_0 : w11.cell? ⟨gb213, 0, none⟩ = some (.int .i64 0) := (blk_cell BK213.out 0).trans rfl; have hcz12_1 : w11.cell? ⟨gb213, 1, none⟩ = some (.int .i64 0) := (blk_cell BK213.out 1).trans rfl; have hcz12_2 : w11.cell? ⟨gb213, 2, none⟩ = some (.int .i64 0) := (blk_cell BK213.out 2).trans rfl; have hcz12_3 : w11.cell? ⟨gb213, 3, none⟩ = some (.slice none 0 0) := (blk_cell BK213.out 3).trans rfl; have hfz12_0 := blk_frozen BK213.out 0; have hfz12_1 := blk_frozen BK213.out 1; have hfz12_2 := blk_frozen BK213.out 2; have hfz12_3 := blk_frozen BK213.out 3; obtain ⟨Ao13, co13, eo13⟩ := Kd.R_slice HO211.out; subst eo13) | ((with_reducible refine gate_callee (f := 14) rfl ?_); refine goesL_ (some 23) rfl rfl Try.func14 (by kernel_rfl) rfl #[.slice A0 l0.length c0] rfl (by (try simp only [List.map_toArray, List.map_cons, List.map_nil]); first | done | rfl | (simp only [List.length_drop, List.length_take]; rfl)) ?_; (with_reducible refine (laws_toByteS.calls k _ _ l0 t214 _ ?side1 ?side2 A5.out).mono ?_); (case side1 => exact Kd.C_below HR0.out (by repeat (first | (with_reducible first | exact HB.out | apply below_alloc | apply pw_below_drewN | apply below_drew1 | refine below_set ?_ GE213.out) | exact HB.out))); (case side2 => exact HC0.out); rintro e w14 ⟨v215, rfl, ho0, hb⟩; refine ⟨_, rfl, ?_⟩; have n0_ := Aside0.mk (Kd.R_elder' (by (with_reducible repeat (first | apply Kd.R_alloc | apply Kd.R_drewN | apply Kd.R_drew)); exact (Kd.R_mono (Kd.R_far (p := ⟨gb213, 3, none⟩) (Kd.R_far (p := ⟨gb213, 2, none⟩) (Kd.R_far (p := ⟨gb213, 1, none⟩) (Kd.R_far (p := ⟨gb213, 0, none⟩) (Kd.R_types HO205.out BK213.out (by decide)) (fun _ hk => hk.2) (.int .i64 t206)) (fun _ hk => hk.2) (.int .i64 t207)) (fun _ hk => hk.2) (.int .i64 t208)) (fun _ hk => hk.2) (.slice Ao13 t209.length co13)) (fun _ h_ => h_.1))) (Kd.R_base ho0) hb); have n1_ := Aside0.mk (Kd.R_elder' (by (with_reducible repeat (first | apply Kd.R_alloc | apply Kd.R_drewN | apply Kd.R_drew)); exact (Kd.R_mono (Kd.R_far (p := ⟨gb213, 3, none⟩) (Kd.R_far (p := ⟨gb213, 2, none⟩) (Kd.R_far (p := ⟨gb213, 1, none⟩) (Kd.R_far (p := ⟨gb213, 0, none⟩) (Kd.R_types HO211.out BK213.out (by decide)) (fun _ hk => hk.2) (.int .i64 t206)) (fun _ hk => hk.2) (.int .i64 t207)) (fun _ hk => hk.2) (.int .i64 t208)) (fun _ hk => hk.2) (.slice Ao13 t209.length co13)) (fun _ h_ => h_.1))) (Kd.R_base ho0) hb); have n2_ := Aside0.mk (Kd.R_lower (Kd.R_new' (Kd.R_new' ho0 (Kd.R_lt (by (with_reducible repeat (first | apply Kd.R_alloc | apply Kd.R_drewN | apply Kd.R_drew)); exact (Kd.R_mono (Kd.R_far (p := ⟨gb213, 3, none⟩) (Kd.R_far (p := ⟨gb213, 2, none⟩) (Kd.R_far (p := ⟨gb213, 1, none⟩) (Kd.R_far (p := ⟨gb213, 0, none⟩) (Kd.R_types HO205.out BK213.out (by decide)) (fun _ hk => hk.2) (.int .i64 t206)) (fun _ hk => hk.2) (.int .i64 t207)) (fun _ hk => hk.2) (.int .i64 t208)) (fun _ hk => hk.2) (.slice Ao13 t209.length co13)) (fun _ h_ => h_.1))))) (Kd.R_lt (by (with_reducible repeat (first | apply Kd.R_alloc | apply Kd.R_drewN | apply Kd.R_drew)); exact (Kd.R_mono (Kd.R_far (p := ⟨gb213, 3, none⟩) (Kd.R_far (p := ⟨gb213, 2, none⟩) (Kd.R_far (p := ⟨gb213, 1, none⟩) (Kd.R_far (p := ⟨gb213, 0, none⟩) (Kd.R_types HO211.out BK213.out (by decide)) (fun _ hk => hk.2) (.int .i64 t206)) (fun _ hk => hk.2) (.int .i64 t207)) (fun _ hk => hk.2) (.int .i64 t208)) (fun _ hk => hk.2) (.slice Ao13 t209.length co13)) (fun _ h_ => h_.1))))) (below_size (by repeat (first | (with_reducible first | exact HB.out | apply below_alloc | apply pw_below_drewN | apply below_drew1 | refine below_set ?_ GE213.out) | exact HB.out)))); have n3_ := Aside0.mk (blk_below (g := gb213) (o := .cells #[.int .i64 t206, .int .i64 t207, .int .i64 t208, .slice Ao13 t209.length co13] 24 (0, 0)) (by (with_reducible repeat (first | refine blk_drewN ?_ _ | refine blk_drew ?_ | refine blk_alloc ?_ _)); refine blk_put (cs := #[.int .i64 t206, .int .i64 t207, .int .i64 t208, .slice none 0 0]) ?_ 3 _ rfl; (with_reducible repeat (first | refine blk_drewN ?_ _ | refine blk_drew ?_ | refine blk_alloc ?_ _)); refine blk_put (cs := #[.int .i64 t206, .int .i64 t207, .int .i64 0, .slice none 0 0]) ?_ 2 _ rfl; (with_reducible repeat (first | refine blk_drewN ?_ _ | refine blk_drew ?_ | refine blk_alloc ?_ _)); refine blk_put (cs := #[.int .i64 t206, .int .i64 0, .int .i64 0, .slice none 0 0]) ?_ 1 _ rfl; (with_reducible repeat (first | refine blk_drewN ?_ _ | refine blk_drew ?_ | refine blk_alloc ?_ _)); refine blk_put (cs := #[.int .i64 0, .int .i64 0, .int .i64 0, .slice none 0 0]) ?_ 0 _ rfl; (with_reducible repeat (first | refine blk_drewN ?_ _ | refine blk_drew ?_ | refine blk_alloc ?_ _)); exact BK213.out) hb); have n4_ := Aside0.mk (below_step (by repeat (first | (with_reducible first | exact HB.out | apply below_alloc | apply pw_below_drewN | apply below_drew1 | refine below_set ?_ GE213.out) | exact HB.out)) hb); clear HO205; clear HO211; clear BK213; clear HB; have HO205 := n0_; have HO211 := n1_; have HO216 := n2_; have BK213 := n3_; have HB := n4_; clear n0_ n1_ n2_ n3_ n4_; (try clear hb); (try clear hb2); (try clear hk); (try clear hi); (try clear ho0); obtain ⟨Ao15, co15, eo15⟩ := Kd.R_slice HO216.out; subst eo15) | ((with_reducible refine gate_callee (f := 15) rfl ?_); refine goesL_ (some 26) rfl rfl Try.func15 (by kernel_rfl) rfl #[.slice Ao15 t214.length co15] rfl (by (try simp only [List.map_toArray, List.map_cons, List.map_nil]); first | done | rfl | (simp only [List.length_drop, List.length_take]; rfl)) ?_; (with_reducible refine (impl_FrameFrom.calls k _ _ t214 t217 t218 t219 t220 t223 _ ?side1 ?side2 A6.out).mono ?_); (case side1 => repeat (first | exact (Kd.R_reads' HO216.out).2.2 | (with_reducible refine Kd.C_alloc ?_ _) | (with_reducible refine Kd.C_drewN ?_ _) | (with_reducible refine Kd.C_drew ?_))); (case side2 => exact (Kd.R_reads' HO216.out).2.1); rintro e w16 ⟨v221, rfl, ho0, hb⟩; refine ⟨_, rfl, ?_⟩; have n0_ := Aside0.mk (Kd.R_elder' (by (with_reducible repeat (first | apply Kd.R_alloc | apply Kd.R_drewN | apply Kd.R_drew)); exact HO205.out) (Kd.R_base ho0) hb); have n1_ := Aside0.mk (Kd.R_elder' (by (with_reducible repeat (first | apply Kd.R_alloc | apply Kd.R_drewN | apply Kd.R_drew)); exact HO211.out) (Kd.R_base ho0) hb); have n2_ := Aside0.mk (Kd.R_elder' (by (with_reducible repeat (first | apply Kd.R_alloc | apply Kd.R_drewN | apply Kd.R_drew)); exact HO216.out) (Kd.R_base ho0) hb); have n3_ := Aside0.mk (Kd.R_lower (Kd.R_new' (Kd.R_new' (Kd.R_new' ho0 (Kd.R_lt (by (with_reducible repeat (first | apply Kd.R_alloc | apply Kd.R_drewN | apply Kd.R_drew)); exact HO205.out))) (Kd.R_lt (by (with_reducible repeat (first | apply Kd.R_alloc | apply Kd.R_drewN | apply Kd.R_drew)); exact HO211.out))) (Kd.R_lt (by (with_reducible repeat (first | apply Kd.R_alloc | apply Kd.R_drewN | apply Kd.R_drew)); exact HO216.out))) (below_size (by repeat (first | (with_reducible first | exact HB.out | apply below_alloc | apply pw_below_drewN | apply below_drew1 | refine below_set ?_ GE213.out) | exact HB.out)))); have n4_ := Aside0.mk (blk_below (g := gb213) (o := .cells #[.int .i64 t206, .int .i64 t207, .int .i64 t208, .slice Ao13 t209.length co13] 24 (0, 0)) (by (with_reducible repeat (first | refine blk_drewN ?_ _ | refine blk_drew ?_ | refine blk_alloc ?_ _)); exact BK213.out) hb); have n5_ := Aside0.mk (below_step (by repeat (first | (with_reducible first | exact HB.out | apply below_alloc | apply pw_below_drewN | apply below_drew1 | refine below_set ?_ GE213.out) | exact HB.out)) hb); clear HO205; clear HO211; clear HO216; clear BK213; clear HB; have HO205 := n0_; have HO211 := n1_; have HO216 := n2_; have HO222 := n3_; have BK213 := n4_; have HB := n5_; clear n0_ n1_ n2_ n3_ n4_ n5_; (try clear hb); (try clear hb2); (try clear hk); (try clear hi); (try clear ho0)) | ((with_reducible refine gate_dst (N := 6) rfl ?_); refine box_event ?hg (N := 6) ?hd (cs := #[.int .i64 0, .int .i64 0, .int .i64 0, .slice none 0 0]) (t := 24) ?hr ?_; (case hd => rfl); (case hg => rfl); (case hr => first | (go_simp; done) | (go_simp; rfl)); intro gb224 hg w17 hbox hb; have n0_ := Aside0.mk (Kd.R_below (by (with_reducible repeat (first | apply Kd.R_alloc | apply Kd.R_drewN | apply Kd.R_drew)); exact HO205.out) hb); have n1_ := Aside0.mk (Kd.R_below (by (with_reducible repeat (first | apply Kd.R_alloc | apply Kd.R_drewN | apply Kd.R_drew)); exact HO211.out) hb); have n2_ := Aside0.mk (Kd.R_below (by (with_reducible repeat (first | apply Kd.R_alloc | apply Kd.R_drewN | apply Kd.R_drew)); exact HO216.out) hb); have n3_ := Aside0.mk (Kd.R_below (by (with_reducible repeat (first | apply Kd.R_alloc | apply Kd.R_drewN | apply Kd.R_drew)); exact HO222.out) hb); have n4_ := Aside0.mk (blk_below (g := gb213) (o := .cells #[.int .i64 t206, .int .i64 t207, .int .i64 t208, .slice Ao13 t209.length co13] 24 (0, 0)) (by (with_reducible repeat (first | refine blk_drewN ?_ _ | refine blk_drew ?_ | refine blk_alloc ?_ _)); exact BK213.out) hb); have n5_ := Aside0.mk (below_step (by repeat (first | (with_reducible first | exact HB.out | apply below_alloc | apply pw_below_drewN | apply below_drew1 | refine below_set ?_ GE213.out) | exact HB.out)) hb); have n6_ := Aside0.mk (hbox); have n7_ := Aside0.mk ((by rw [hg]; exact (below_size (by repeat (first | (with_reducible first | exact HB.out | apply below_alloc | apply pw_below_drewN | apply below_drew1 | refine below_set ?_ GE213.out) | exact HB.out))) : w.heap.size ≤ gb224)); have n8_ := Aside0.mk ((by rw [hg]; exact (below_size (by repeat (first | (with_reducible first | exact HB.out | apply below_alloc | apply pw_below_drewN | apply below_drew1 | refine below_set ?_ GE213.out) | exact HB.out))) : w.heap.size ≤ gb224)); have n9_ := Aside0.mk ((by rw [hg]; exact Nat.ne_of_lt (blk_lt (g := gb213) (o := .cells #[.int .i64 t206, .int .i64 t207, .int .i64 t208, .slice Ao13 t209.length co13] 24 (0, 0)) (by (with_reducible repeat (first | refine blk_drewN ?_ _ | refine blk_drew ?_ | refine blk_alloc ?_ _)); exact BK213.out)) : gb213 ≠ gb224)); have n10_ := Aside0.mk ((by rw [hg]; exact Nat.ne_of_gt (blk_lt (g := gb213) (o := .cells #[.int .i64 t206, .int .i64 t207, .int .i64 t208, .slice Ao13 t209.length co13] 24 (0, 0)) (by (with_reducible repeat (first | refine blk_drewN ?_ _ | refine blk_drew ?_ | refine blk_alloc ?_ _)); exact BK213.out)) : gb224 ≠ gb213)); clear HO205; clear HO211; clear HO216; clear HO222; clear BK213; clear HB; have HO205 := n0_; have HO211 := n1_; have HO216 := n2_; have HO222 := n3_; have BK213 := n4_; have HB := n5_; have BK224 := n6_; have GW224 := n7_; have GE224 := n8_; have NB213_224 := n9_; have NB224_213 := n10_; clear n0_ n1_ n2_ n3_ n4_ n5_ n6_ n7_ n8_ n9_ n10_; clear hb hbox hg; have hnb18 := NB224_213.out; have hnc18 := NB213_224.out; have hcz19_0 : w17.cell? ⟨gb224, 0, none⟩ = some (.int .i64 0) := (blk_cell BK224.out 0).trans rfl; have hcz19_1 : w17.cell? ⟨gb224, 1, none⟩ = some (.int .i64 0) := (blk_cell BK224.out 1).trans rfl; have hcz19_2 : w17.cell? ⟨gb224, 2, none⟩ = some (.int .i64 0) := (blk_cell BK224.out 2).trans rfl; have hcz19_3 : w17.cell? ⟨gb224, 3, none⟩ = some (.slice none 0 0) := (blk_cell BK224.out 3).trans rfl; have hfz19_0 := blk_frozen BK224.out 0; have hfz19_1 := blk_frozen BK224.out 1; have hfz19_2 := blk_frozen BK224.out 2; have hfz19_3 := blk_frozen BK224.out 3; obtain ⟨Ao20, co20, eo20⟩ := Kd.R_slice HO222.out; subst eo20))
    (try simp only [Act.put, List.setIfInBounds_toArray, List.set_cons_zero, List.set_cons_succ])
    go_cut [37] (fun v37 wc => ∃ (kq : Nat) (x37_6 : Bool), v37 = .bool x37_6 ∧ Aside0 (laws_FnExactFrameFrom.j0 kq l0 t212 t214 t223 x37_6 t206 t207 t208 t209 t217 t218 t219 t220 = some r) ∧ Aside0 (kq ≤ k) ∧ Aside0 (Kd.R (Kd.int .u8) 5 wc w.heap.size (fun k_ => some k_ ≠ ((.slice Ao13 t209.length co13) : Value).ownBlock ∧ some k_ ≠ ((.slice Ao20 t220.length co20) : Value).ownBlock) (.slice Ao15 t214.length co15) t214) ∧ Aside0 (Kd.R (Kd.int .u8) 5 wc w.heap.size (fun k_ => some k_ ≠ ((.slice Ao15 t214.length co15) : Value).ownBlock ∧ some k_ ≠ ((.slice Ao20 t220.length co20) : Value).ownBlock) (.slice Ao13 t209.length co13) t209) ∧ Aside0 (Kd.R (Kd.int .u8) 5 wc w.heap.size (fun k_ => some k_ ≠ ((.slice Ao15 t214.length co15) : Value).ownBlock ∧ some k_ ≠ ((.slice Ao13 t209.length co13) : Value).ownBlock) (.slice Ao20 t220.length co20) t220) ∧ Aside0 (wc.heap[gb213]? = some (.cells #[.int .i64 t206, .int .i64 t207, .int .i64 t208, (.slice Ao13 t209.length co13)] 24 (0, 0))) ∧ Aside0 (wc.heap[gb224]? = some (.cells #[.int .i64 t217, .int .i64 t218, .int .i64 t219, (.slice Ao20 t220.length co20)] 24 (0, 0))) ∧ Aside0 (Below w.heap.size w wc))
    case first =>
      have H := HC7.out
      clear HC7
      replace H := Option.bind_eq_some_iff.mp H
      obtain ⟨t225, A210, H⟩ := H
      replace H : (if t225 = true then (laws_FnExactFrameFrom.j0 k l0 t212 t214 t223 (t223 != t212) t206 t207 t208 t209 t217 t218 t219 t220) else (laws_FnExactFrameFrom.j0 k l0 t212 t214 t223 true t206 t207 t208 t209 t217 t218 t219 t220)) = some r := H
      have A21 := Aside0.mk A210
      clear A210
      by_cases c22 : t225 = true
      · subst c22
        have H1 : (laws_FnExactFrameFrom.j0 k l0 t212 t214 t223 (t223 != t212) t206 t207 t208 t209 t217 t218 t219 t220) = some r := by rw [if_pos rfl] at H; exact H
        clear H
        have H := H1
        clear H1
        have H' := Aside0.mk H
        clear H
        have hnb23 := NB224_213.out
        have hnc23 := NB213_224.out
        have hcz24_0 : w17.cell? ⟨gb224, 0, none⟩ = some (.int .i64 0) := (blk_cell BK224.out 0).trans rfl
        have hcz24_1 : w17.cell? ⟨gb224, 1, none⟩ = some (.int .i64 0) := (blk_cell BK224.out 1).trans rfl
        have hcz24_2 : w17.cell? ⟨gb224, 2, none⟩ = some (.int .i64 0) := (blk_cell BK224.out 2).trans rfl
        have hcz24_3 : w17.cell? ⟨gb224, 3, none⟩ = some (.slice none 0 0) := (blk_cell BK224.out 3).trans rfl
        have hfz24_0 := blk_frozen BK224.out 0
        have hfz24_1 := blk_frozen BK224.out 1
        have hfz24_2 := blk_frozen BK224.out 2
        have hfz24_3 := blk_frozen BK224.out 3
        have hcz25_0 : w17.cell? ⟨gb213, 0, none⟩ = some (.int .i64 t206) := (blk_cell BK213.out 0).trans rfl
        have hcz25_1 : w17.cell? ⟨gb213, 1, none⟩ = some (.int .i64 t207) := (blk_cell BK213.out 1).trans rfl
        have hcz25_2 : w17.cell? ⟨gb213, 2, none⟩ = some (.int .i64 t208) := (blk_cell BK213.out 2).trans rfl
        have hcz25_3 : w17.cell? ⟨gb213, 3, none⟩ = some (.slice Ao13 t209.length co13) := (blk_cell BK213.out 3).trans rfl
        have hfz25_0 := blk_frozen BK213.out 0
        have hfz25_1 := blk_frozen BK213.out 1
        have hfz25_2 := blk_frozen BK213.out 2
        have hfz25_3 := blk_frozen BK213.out 3
        go_wp2_with (first | ((with_reducible refine gate_callee (f := 16) rfl ?_); refine goesL_ (some 31) rfl rfl Try.func16 (by kernel_rfl) rfl #[.agg #[.int .i64 t217, .int .i64 t218, .int .i64 t219, .slice Ao20 t220.length co20], .agg #[.int .i64 t206, .int .i64 t207, .int .i64 t208, .slice Ao13 t209.length co13]] rfl (by (try simp only [List.map_toArray, List.map_cons, List.map_nil]); first | done | rfl | (simp only [List.length_drop, List.length_take]; rfl)) ?_; (with_reducible refine (laws_eqFrame.calls k t217 t218 t219 _ _ t220 t206 t207 t208 _ _ t209 true _ ?side1 ?side2 ?side3 ?side4 A21.out).mono ?_); (case side1 => refine (Kd.R_reads' (e := 5) (base := w.heap.size) (ok := fun k_ => (((True ∧ some k_ ≠ (.slice Ao9 t203.length co9 : Value).ownBlock) ∧ some k_ ≠ (.slice Ao13 t209.length co13 : Value).ownBlock) ∧ some k_ ≠ (.slice Ao15 t214.length co15 : Value).ownBlock)) (n := t220.length) (c := co20) ?_).2.2; exact (by (with_reducible repeat (first | apply Kd.R_alloc | apply Kd.R_drewN | apply Kd.R_drew)); exact (Kd.R_mono (Kd.R_far (p := ⟨gb224, 3, none⟩) (Kd.R_far (p := ⟨gb224, 2, none⟩) (Kd.R_far (p := ⟨gb224, 1, none⟩) (Kd.R_far (p := ⟨gb224, 0, none⟩) (Kd.R_types HO222.out BK224.out (by decide)) (fun _ hk => hk.2) (.int .i64 t217)) (fun _ hk => hk.2) (.int .i64 t218)) (fun _ hk => hk.2) (.int .i64 t219)) (fun _ hk => hk.2) (.slice Ao20 t220.length co20)) (fun _ h_ => h_.1)))); (case side2 => exact (Kd.R_reads' HO222.out).2.1); (case side3 => refine (Kd.R_reads' (e := 5) (base := w.heap.size) (ok := fun k_ => (((True ∧ some k_ ≠ (.slice Ao9 t203.length co9 : Value).ownBlock) ∧ some k_ ≠ (.slice Ao15 t214.length co15 : Value).ownBlock) ∧ some k_ ≠ (.slice Ao20 t220.length co20 : Value).ownBlock)) (n := t209.length) (c := co13) ?_).2.2; exact (by (with_reducible repeat (first | apply Kd.R_alloc | apply Kd.R_drewN | apply Kd.R_drew)); exact (Kd.R_mono (Kd.R_far (p := ⟨gb224, 3, none⟩) (Kd.R_far (p := ⟨gb224, 2, none⟩) (Kd.R_far (p := ⟨gb224, 1, none⟩) (Kd.R_far (p := ⟨gb224, 0, none⟩) (Kd.R_types HO211.out BK224.out (by decide)) (fun _ hk => hk.2) (.int .i64 t217)) (fun _ hk => hk.2) (.int .i64 t218)) (fun _ hk => hk.2) (.int .i64 t219)) (fun _ hk => hk.2) (.slice Ao20 t220.length co20)) (fun _ h_ => h_.1)))); (case side4 => exact (Kd.R_reads' HO211.out).2.1); rintro e w26 ⟨rfl, hb⟩; refine ⟨_, rfl, ?_⟩; have n0_ := Aside0.mk (Kd.R_below (by (with_reducible repeat (first | apply Kd.R_alloc | apply Kd.R_drewN | apply Kd.R_drew)); exact (Kd.R_mono (Kd.R_far (p := ⟨gb224, 3, none⟩) (Kd.R_far (p := ⟨gb224, 2, none⟩) (Kd.R_far (p := ⟨gb224, 1, none⟩) (Kd.R_far (p := ⟨gb224, 0, none⟩) (Kd.R_types HO205.out BK224.out (by decide)) (fun _ hk => hk.2) (.int .i64 t217)) (fun _ hk => hk.2) (.int .i64 t218)) (fun _ hk => hk.2) (.int .i64 t219)) (fun _ hk => hk.2) (.slice Ao20 t220.length co20)) (fun _ h_ => h_.1))) hb); have n1_ := Aside0.mk (Kd.R_below (by (with_reducible repeat (first | apply Kd.R_alloc | apply Kd.R_drewN | apply Kd.R_drew)); exact (Kd.R_mono (Kd.R_far (p := ⟨gb224, 3, none⟩) (Kd.R_far (p := ⟨gb224, 2, none⟩) (Kd.R_far (p := ⟨gb224, 1, none⟩) (Kd.R_far (p := ⟨gb224, 0, none⟩) (Kd.R_types HO211.out BK224.out (by decide)) (fun _ hk => hk.2) (.int .i64 t217)) (fun _ hk => hk.2) (.int .i64 t218)) (fun _ hk => hk.2) (.int .i64 t219)) (fun _ hk => hk.2) (.slice Ao20 t220.length co20)) (fun _ h_ => h_.1))) hb); have n2_ := Aside0.mk (Kd.R_below (by (with_reducible repeat (first | apply Kd.R_alloc | apply Kd.R_drewN | apply Kd.R_drew)); exact (Kd.R_mono (Kd.R_far (p := ⟨gb224, 3, none⟩) (Kd.R_far (p := ⟨gb224, 2, none⟩) (Kd.R_far (p := ⟨gb224, 1, none⟩) (Kd.R_far (p := ⟨gb224, 0, none⟩) (Kd.R_types HO216.out BK224.out (by decide)) (fun _ hk => hk.2) (.int .i64 t217)) (fun _ hk => hk.2) (.int .i64 t218)) (fun _ hk => hk.2) (.int .i64 t219)) (fun _ hk => hk.2) (.slice Ao20 t220.length co20)) (fun _ h_ => h_.1))) hb); have n3_ := Aside0.mk (Kd.R_below (by (with_reducible repeat (first | apply Kd.R_alloc | apply Kd.R_drewN | apply Kd.R_drew)); exact (Kd.R_mono (Kd.R_far (p := ⟨gb224, 3, none⟩) (Kd.R_far (p := ⟨gb224, 2, none⟩) (Kd.R_far (p := ⟨gb224, 1, none⟩) (Kd.R_far (p := ⟨gb224, 0, none⟩) (Kd.R_types HO222.out BK224.out (by decide)) (fun _ hk => hk.2) (.int .i64 t217)) (fun _ hk => hk.2) (.int .i64 t218)) (fun _ hk => hk.2) (.int .i64 t219)) (fun _ hk => hk.2) (.slice Ao20 t220.length co20)) (fun _ h_ => h_.1))) hb); have n4_ := Aside0.mk (blk_below (g := gb213) (o := .cells #[.int .i64 t206, .int .i64 t207, .int .i64 t208, .slice Ao13 t209.length co13] 24 (0, 0)) (by (with_reducible repeat (first | refine blk_drewN ?_ _ | refine blk_drew ?_ | refine blk_alloc ?_ _)); refine blk_far ?_ NB213_224.out _; (with_reducible repeat (first | refine blk_drewN ?_ _ | refine blk_drew ?_ | refine blk_alloc ?_ _)); refine blk_far ?_ NB213_224.out _; (with_reducible repeat (first | refine blk_drewN ?_ _ | refine blk_drew ?_ | refine blk_alloc ?_ _)); refine blk_far ?_ NB213_224.out _; (with_reducible repeat (first | refine blk_drewN ?_ _ | refine blk_drew ?_ | refine blk_alloc ?_ _)); refine blk_far ?_ NB213_224.out _; (with_reducible repeat (first | refine blk_drewN ?_ _ | refine blk_drew ?_ | refine blk_alloc ?_ _)); exact BK213.out) hb); have n5_ := Aside0.mk (blk_below (g := gb224) (o := .cells #[.int .i64 t217, .int .i64 t218, .int .i64 t219, .slice Ao20 t220.length co20] 24 (0, 0)) (by (with_reducible repeat (first | refine blk_drewN ?_ _ | refine blk_drew ?_ | refine blk_alloc ?_ _)); refine blk_put (cs := #[.int .i64 t217, .int .i64 t218, .int .i64 t219, .slice none 0 0]) ?_ 3 _ rfl; (with_reducible repeat (first | refine blk_drewN ?_ _ | refine blk_drew ?_ | refine blk_alloc ?_ _)); refine blk_put (cs := #[.int .i64 t217, .int .i64 t218, .int .i64 0, .slice none 0 0]) ?_ 2 _ rfl; (with_reducible repeat (first | refine blk_drewN ?_ _ | refine blk_drew ?_ | refine blk_alloc ?_ _)); refine blk_put (cs := #[.int .i64 t217, .int .i64 0, .int .i64 0, .slice none 0 0]) ?_ 1 _ rfl; (with_reducible repeat (first | refine blk_drewN ?_ _ | refine blk_drew ?_ | refine blk_alloc ?_ _)); refine blk_put (cs := #[.int .i64 0, .int .i64 0, .int .i64 0, .slice none 0 0]) ?_ 0 _ rfl; (with_reducible repeat (first | refine blk_drewN ?_ _ | refine blk_drew ?_ | refine blk_alloc ?_ _)); exact BK224.out) hb); have n6_ := Aside0.mk (below_step (by repeat (first | (with_reducible first | exact HB.out | apply below_alloc | apply pw_below_drewN | apply below_drew1 | refine below_set ?_ GE213.out | refine below_set ?_ GE224.out) | exact HB.out)) hb); clear HO205; clear HO211; clear HO216; clear HO222; clear BK213; clear BK224; clear HB; have HO205 := n0_; have HO211 := n1_; have HO216 := n2_; have HO222 := n3_; have BK213 := n4_; have BK224 := n5_; have HB := n6_; clear n0_ n1_ n2_ n3_ n4_ n5_ n6_; (try clear hb); (try clear hb2); (try clear hk); (try clear hi)))
        go_meet
        case rel => exact ⟨_, ((t223 != t212)), (by first | rfl | (simp; done) | (simp [*]; done)), H', ⟨by first | omega | exact Nat.le_refl _⟩, ⟨by (with_reducible repeat (first | apply Kd.R_alloc | apply Kd.R_drewN | apply Kd.R_drew)); exact Kd.R_mono HO216.out (fun _ hk => ⟨hk.1.2, hk.2⟩)⟩, ⟨by (with_reducible repeat (first | apply Kd.R_alloc | apply Kd.R_drewN | apply Kd.R_drew)); exact Kd.R_mono HO211.out (fun _ hk => ⟨hk.1.2, hk.2⟩)⟩, ⟨by (with_reducible repeat (first | apply Kd.R_alloc | apply Kd.R_drewN | apply Kd.R_drew)); exact Kd.R_mono HO222.out (fun _ hk => ⟨hk.2, hk.1.2⟩)⟩, ⟨by (with_reducible repeat (first | refine blk_drewN ?_ _ | refine blk_drew ?_ | refine blk_alloc ?_ _)); exact BK213.out⟩, ⟨by (with_reducible repeat (first | refine blk_drewN ?_ _ | refine blk_drew ?_ | refine blk_alloc ?_ _)); exact BK224.out⟩, ⟨by repeat (first | (with_reducible first | exact HB.out | apply below_alloc | apply pw_below_drewN | apply below_drew1 | refine below_set ?_ GE213.out | refine below_set ?_ GE224.out) | exact HB.out)⟩⟩
      · replace c22 := Bool.eq_false_iff.mpr c22
        subst c22
        have H1 : (laws_FnExactFrameFrom.j0 k l0 t212 t214 t223 true t206 t207 t208 t209 t217 t218 t219 t220) = some r := by rw [if_neg (show ¬ (false = true) by decide)] at H; exact H
        clear H
        have H := H1
        clear H1
        have H' := Aside0.mk H
        clear H
        have hnb27 := NB224_213.out
        have hnc27 := NB213_224.out
        have hcz28_0 : w17.cell? ⟨gb224, 0, none⟩ = some (.int .i64 0) := (blk_cell BK224.out 0).trans rfl
        have hcz28_1 : w17.cell? ⟨gb224, 1, none⟩ = some (.int .i64 0) := (blk_cell BK224.out 1).trans rfl
        have hcz28_2 : w17.cell? ⟨gb224, 2, none⟩ = some (.int .i64 0) := (blk_cell BK224.out 2).trans rfl
        have hcz28_3 : w17.cell? ⟨gb224, 3, none⟩ = some (.slice none 0 0) := (blk_cell BK224.out 3).trans rfl
        have hfz28_0 := blk_frozen BK224.out 0
        have hfz28_1 := blk_frozen BK224.out 1
        have hfz28_2 := blk_frozen BK224.out 2
        have hfz28_3 := blk_frozen BK224.out 3
        have hcz29_0 : w17.cell? ⟨gb213, 0, none⟩ = some (.int .i64 t206) := (blk_cell BK213.out 0).trans rfl
        have hcz29_1 : w17.cell? ⟨gb213, 1, none⟩ = some (.int .i64 t207) := (blk_cell BK213.out 1).trans rfl
        have hcz29_2 : w17.cell? ⟨gb213, 2, none⟩ = some (.int .i64 t208) := (blk_cell BK213.out 2).trans rfl
        have hcz29_3 : w17.cell? ⟨gb213, 3, none⟩ = some (.slice Ao13 t209.length co13) := (blk_cell BK213.out 3).trans rfl
        have hfz29_0 := blk_frozen BK213.out 0
        have hfz29_1 := blk_frozen BK213.out 1
        have hfz29_2 := blk_frozen BK213.out 2
        have hfz29_3 := blk_frozen BK213.out 3
        go_wp2_with (first | ((with_reducible refine gate_callee (f := 16) rfl ?_); refine goesL_ (some 31) rfl rfl Try.func16 (by kernel_rfl) rfl #[.agg #[.int .i64 t217, .int .i64 t218, .int .i64 t219, .slice Ao20 t220.length co20], .agg #[.int .i64 t206, .int .i64 t207, .int .i64 t208, .slice Ao13 t209.length co13]] rfl (by (try simp only [List.map_toArray, List.map_cons, List.map_nil]); first | done | rfl | (simp only [List.length_drop, List.length_take]; rfl)) ?_; (with_reducible refine (laws_eqFrame.calls k t217 t218 t219 _ _ t220 t206 t207 t208 _ _ t209 false _ ?side1 ?side2 ?side3 ?side4 A21.out).mono ?_); (case side1 => refine (Kd.R_reads' (e := 5) (base := w.heap.size) (ok := fun k_ => (((True ∧ some k_ ≠ (.slice Ao9 t203.length co9 : Value).ownBlock) ∧ some k_ ≠ (.slice Ao13 t209.length co13 : Value).ownBlock) ∧ some k_ ≠ (.slice Ao15 t214.length co15 : Value).ownBlock)) (n := t220.length) (c := co20) ?_).2.2; exact (by (with_reducible repeat (first | apply Kd.R_alloc | apply Kd.R_drewN | apply Kd.R_drew)); exact (Kd.R_mono (Kd.R_far (p := ⟨gb224, 3, none⟩) (Kd.R_far (p := ⟨gb224, 2, none⟩) (Kd.R_far (p := ⟨gb224, 1, none⟩) (Kd.R_far (p := ⟨gb224, 0, none⟩) (Kd.R_types HO222.out BK224.out (by decide)) (fun _ hk => hk.2) (.int .i64 t217)) (fun _ hk => hk.2) (.int .i64 t218)) (fun _ hk => hk.2) (.int .i64 t219)) (fun _ hk => hk.2) (.slice Ao20 t220.length co20)) (fun _ h_ => h_.1)))); (case side2 => exact (Kd.R_reads' HO222.out).2.1); (case side3 => refine (Kd.R_reads' (e := 5) (base := w.heap.size) (ok := fun k_ => (((True ∧ some k_ ≠ (.slice Ao9 t203.length co9 : Value).ownBlock) ∧ some k_ ≠ (.slice Ao15 t214.length co15 : Value).ownBlock) ∧ some k_ ≠ (.slice Ao20 t220.length co20 : Value).ownBlock)) (n := t209.length) (c := co13) ?_).2.2; exact (by (with_reducible repeat (first | apply Kd.R_alloc | apply Kd.R_drewN | apply Kd.R_drew)); exact (Kd.R_mono (Kd.R_far (p := ⟨gb224, 3, none⟩) (Kd.R_far (p := ⟨gb224, 2, none⟩) (Kd.R_far (p := ⟨gb224, 1, none⟩) (Kd.R_far (p := ⟨gb224, 0, none⟩) (Kd.R_types HO211.out BK224.out (by decide)) (fun _ hk => hk.2) (.int .i64 t217)) (fun _ hk => hk.2) (.int .i64 t218)) (fun _ hk => hk.2) (.int .i64 t219)) (fun _ hk => hk.2) (.slice Ao20 t220.length co20)) (fun _ h_ => h_.1)))); (case side4 => exact (Kd.R_reads' HO211.out).2.1); rintro e w30 ⟨rfl, hb⟩; refine ⟨_, rfl, ?_⟩; have n0_ := Aside0.mk (Kd.R_below (by (with_reducible repeat (first | apply Kd.R_alloc | apply Kd.R_drewN | apply Kd.R_drew)); exact (Kd.R_mono (Kd.R_far (p := ⟨gb224, 3, none⟩) (Kd.R_far (p := ⟨gb224, 2, none⟩) (Kd.R_far (p := ⟨gb224, 1, none⟩) (Kd.R_far (p := ⟨gb224, 0, none⟩) (Kd.R_types HO205.out BK224.out (by decide)) (fun _ hk => hk.2) (.int .i64 t217)) (fun _ hk => hk.2) (.int .i64 t218)) (fun _ hk => hk.2) (.int .i64 t219)) (fun _ hk => hk.2) (.slice Ao20 t220.length co20)) (fun _ h_ => h_.1))) hb); have n1_ := Aside0.mk (Kd.R_below (by (with_reducible repeat (first | apply Kd.R_alloc | apply Kd.R_drewN | apply Kd.R_drew)); exact (Kd.R_mono (Kd.R_far (p := ⟨gb224, 3, none⟩) (Kd.R_far (p := ⟨gb224, 2, none⟩) (Kd.R_far (p := ⟨gb224, 1, none⟩) (Kd.R_far (p := ⟨gb224, 0, none⟩) (Kd.R_types HO211.out BK224.out (by decide)) (fun _ hk => hk.2) (.int .i64 t217)) (fun _ hk => hk.2) (.int .i64 t218)) (fun _ hk => hk.2) (.int .i64 t219)) (fun _ hk => hk.2) (.slice Ao20 t220.length co20)) (fun _ h_ => h_.1))) hb); have n2_ := Aside0.mk (Kd.R_below (by (with_reducible repeat (first | apply Kd.R_alloc | apply Kd.R_drewN | apply Kd.R_drew)); exact (Kd.R_mono (Kd.R_far (p := ⟨gb224, 3, none⟩) (Kd.R_far (p := ⟨gb224, 2, none⟩) (Kd.R_far (p := ⟨gb224, 1, none⟩) (Kd.R_far (p := ⟨gb224, 0, none⟩) (Kd.R_types HO216.out BK224.out (by decide)) (fun _ hk => hk.2) (.int .i64 t217)) (fun _ hk => hk.2) (.int .i64 t218)) (fun _ hk => hk.2) (.int .i64 t219)) (fun _ hk => hk.2) (.slice Ao20 t220.length co20)) (fun _ h_ => h_.1))) hb); have n3_ := Aside0.mk (Kd.R_below (by (with_reducible repeat (first | apply Kd.R_alloc | apply Kd.R_drewN | apply Kd.R_drew)); exact (Kd.R_mono (Kd.R_far (p := ⟨gb224, 3, none⟩) (Kd.R_far (p := ⟨gb224, 2, none⟩) (Kd.R_far (p := ⟨gb224, 1, none⟩) (Kd.R_far (p := ⟨gb224, 0, none⟩) (Kd.R_types HO222.out BK224.out (by decide)) (fun _ hk => hk.2) (.int .i64 t217)) (fun _ hk => hk.2) (.int .i64 t218)) (fun _ hk => hk.2) (.int .i64 t219)) (fun _ hk => hk.2) (.slice Ao20 t220.length co20)) (fun _ h_ => h_.1))) hb); have n4_ := Aside0.mk (blk_below (g := gb213) (o := .cells #[.int .i64 t206, .int .i64 t207, .int .i64 t208, .slice Ao13 t209.length co13] 24 (0, 0)) (by (with_reducible repeat (first | refine blk_drewN ?_ _ | refine blk_drew ?_ | refine blk_alloc ?_ _)); refine blk_far ?_ NB213_224.out _; (with_reducible repeat (first | refine blk_drewN ?_ _ | refine blk_drew ?_ | refine blk_alloc ?_ _)); refine blk_far ?_ NB213_224.out _; (with_reducible repeat (first | refine blk_drewN ?_ _ | refine blk_drew ?_ | refine blk_alloc ?_ _)); refine blk_far ?_ NB213_224.out _; (with_reducible repeat (first | refine blk_drewN ?_ _ | refine blk_drew ?_ | refine blk_alloc ?_ _)); refine blk_far ?_ NB213_224.out _; (with_reducible repeat (first | refine blk_drewN ?_ _ | refine blk_drew ?_ | refine blk_alloc ?_ _)); exact BK213.out) hb); have n5_ := Aside0.mk (blk_below (g := gb224) (o := .cells #[.int .i64 t217, .int .i64 t218, .int .i64 t219, .slice Ao20 t220.length co20] 24 (0, 0)) (by (with_reducible repeat (first | refine blk_drewN ?_ _ | refine blk_drew ?_ | refine blk_alloc ?_ _)); refine blk_put (cs := #[.int .i64 t217, .int .i64 t218, .int .i64 t219, .slice none 0 0]) ?_ 3 _ rfl; (with_reducible repeat (first | refine blk_drewN ?_ _ | refine blk_drew ?_ | refine blk_alloc ?_ _)); refine blk_put (cs := #[.int .i64 t217, .int .i64 t218, .int .i64 0, .slice none 0 0]) ?_ 2 _ rfl; (with_reducible repeat (first | refine blk_drewN ?_ _ | refine blk_drew ?_ | refine blk_alloc ?_ _)); refine blk_put (cs := #[.int .i64 t217, .int .i64 0, .int .i64 0, .slice none 0 0]) ?_ 1 _ rfl; (with_reducible repeat (first | refine blk_drewN ?_ _ | refine blk_drew ?_ | refine blk_alloc ?_ _)); refine blk_put (cs := #[.int .i64 0, .int .i64 0, .int .i64 0, .slice none 0 0]) ?_ 0 _ rfl; (with_reducible repeat (first | refine blk_drewN ?_ _ | refine blk_drew ?_ | refine blk_alloc ?_ _)); exact BK224.out) hb); have n6_ := Aside0.mk (below_step (by repeat (first | (with_reducible first | exact HB.out | apply below_alloc | apply pw_below_drewN | apply below_drew1 | refine below_set ?_ GE213.out | refine below_set ?_ GE224.out) | exact HB.out)) hb); clear HO205; clear HO211; clear HO216; clear HO222; clear BK213; clear BK224; clear HB; have HO205 := n0_; have HO211 := n1_; have HO216 := n2_; have HO222 := n3_; have BK213 := n4_; have BK224 := n5_; have HB := n6_; clear n0_ n1_ n2_ n3_ n4_ n5_ n6_; (try clear hb); (try clear hb2); (try clear hk); (try clear hi)))
        go_meet
        case rel => exact ⟨_, (true), (by first | rfl | (simp; done) | (simp [*]; done)), H', ⟨by first | omega | exact Nat.le_refl _⟩, ⟨by (with_reducible repeat (first | apply Kd.R_alloc | apply Kd.R_drewN | apply Kd.R_drew)); exact Kd.R_mono HO216.out (fun _ hk => ⟨hk.1.2, hk.2⟩)⟩, ⟨by (with_reducible repeat (first | apply Kd.R_alloc | apply Kd.R_drewN | apply Kd.R_drew)); exact Kd.R_mono HO211.out (fun _ hk => ⟨hk.1.2, hk.2⟩)⟩, ⟨by (with_reducible repeat (first | apply Kd.R_alloc | apply Kd.R_drewN | apply Kd.R_drew)); exact Kd.R_mono HO222.out (fun _ hk => ⟨hk.2, hk.1.2⟩)⟩, ⟨by (with_reducible repeat (first | refine blk_drewN ?_ _ | refine blk_drew ?_ | refine blk_alloc ?_ _)); exact BK213.out⟩, ⟨by (with_reducible repeat (first | refine blk_drewN ?_ _ | refine blk_drew ?_ | refine blk_alloc ?_ _)); exact BK224.out⟩, ⟨by repeat (first | (with_reducible first | exact HB.out | apply below_alloc | apply pw_below_drewN | apply below_drew1 | refine below_set ?_ GE213.out | refine below_set ?_ GE224.out) | exact HB.out)⟩⟩
    case rest =>
      clear HC7
      try clear c1
      try clear c2
      try clear c2b0
      try clear c2b1
      try clear p2
      try clear c3
      try clear c13
      try clear c14
      try clear c15
      try clear c16
      try clear c18
      try clear c22
      try clear c23
      try clear c27
      try clear hcz12_0
      try clear hcz12_1
      try clear hcz12_2
      try clear hcz12_3
      try clear hcz19_0
      try clear hcz19_1
      try clear hcz19_2
      try clear hcz19_3
      try clear hcz24_0
      try clear hcz24_1
      try clear hcz24_2
      try clear hcz24_3
      try clear hcz25_0
      try clear hcz25_1
      try clear hcz25_2
      try clear hcz25_3
      try clear hcz28_0
      try clear hcz28_1
      try clear hcz28_2
      try clear hcz28_3
      try clear hcz29_0
      try clear hcz29_1
      try clear hcz29_2
      try clear hcz29_3
      try clear hfz12_0
      try clear hfz12_1
      try clear hfz12_2
      try clear hfz12_3
      try clear hfz19_0
      try clear hfz19_1
      try clear hfz19_2
      try clear hfz19_3
      try clear hfz24_0
      try clear hfz24_1
      try clear hfz24_2
      try clear hfz24_3
      try clear hfz25_0
      try clear hfz25_1
      try clear hfz25_2
      try clear hfz25_3
      try clear hfz28_0
      try clear hfz28_1
      try clear hfz28_2
      try clear hfz28_3
      try clear hfz29_0
      try clear hfz29_1
      try clear hfz29_2
      try clear hfz29_3
      obtain ⟨kq, x37_6, rfl, HA, HJ6, HO_5, HO_214003, HO_225003, BK213, BK224, HB⟩ := hcut
      cases kq with
      | zero => exact absurd HA.out (by simp [laws_FnExactFrameFrom.j0])
      | succ kj6 =>
        have H := HA.out
        clear HA
        simp only [laws_FnExactFrameFrom.j0] at H
        by_cases c31 : x37_6 = true
        · subst c31
          have H1 : (some false) = some r := by rw [if_pos rfl] at H; exact H
          clear H
          have H := H1
          clear H1
          obtain rfl := Option.some.inj H
          go_wp2
          go_ret
          exact ⟨by first | rfl | (simp [errW_none, errW_some] <;> rfl) | (simp [*, errW_none, errW_some] <;> rfl), by repeat (first | (with_reducible first | exact HB.out | apply below_alloc | apply pw_below_drewN | apply below_drew1 | refine below_set ?_ GE213.out | refine below_set ?_ GE224.out) | exact HB.out)⟩
        · replace c31 := Bool.eq_false_iff.mpr c31
          subst c31
          have H1 : ((laws_toByteS.f kj6 l0).bind fun t226 => ((laws_eqByteS.f kj6 t214 t226).bind fun t229 => (if t229 = true then ((laws_markByteS.f kj6 t214 1).bind fun bt230 => (if bt230.1 < 0 then (laws_FnExactFrameFrom.j1 kj6 l0 t212 true t206 t207 t208 t209 t217 t218 t219 t220) else ((laws_eqFrame.f kj6 t217 t218 t219 t220 t206 t207 t208 t209).bind fun t232 => (if t232 = true then (laws_FnExactFrameFrom.j1 kj6 l0 t212 (t223 != t212) t206 t207 t208 t209 t217 t218 t219 t220) else (laws_FnExactFrameFrom.j1 kj6 l0 t212 true t206 t207 t208 t209 t217 t218 t219 t220))))) else (some false)))) = some r := by rw [if_neg (show ¬ (false = true) by decide)] at H; exact H
          clear H
          have H := H1
          clear H1
          replace H := Option.bind_eq_some_iff.mp H
          obtain ⟨t226, A320, H⟩ := H
          replace H : ((laws_eqByteS.f kj6 t214 t226).bind fun t229 => (if t229 = true then ((laws_markByteS.f kj6 t214 1).bind fun bt230 => (if bt230.1 < 0 then (laws_FnExactFrameFrom.j1 kj6 l0 t212 true t206 t207 t208 t209 t217 t218 t219 t220) else ((laws_eqFrame.f kj6 t217 t218 t219 t220 t206 t207 t208 t209).bind fun t232 => (if t232 = true then (laws_FnExactFrameFrom.j1 kj6 l0 t212 (t223 != t212) t206 t207 t208 t209 t217 t218 t219 t220) else (laws_FnExactFrameFrom.j1 kj6 l0 t212 true t206 t207 t208 t209 t217 t218 t219 t220))))) else (some false))) = some r := H
          have A32 := Aside0.mk A320
          clear A320
          replace H := Option.bind_eq_some_iff.mp H
          obtain ⟨t229, A330, H⟩ := H
          replace H : (if t229 = true then ((laws_markByteS.f kj6 t214 1).bind fun bt230 => (if bt230.1 < 0 then (laws_FnExactFrameFrom.j1 kj6 l0 t212 true t206 t207 t208 t209 t217 t218 t219 t220) else ((laws_eqFrame.f kj6 t217 t218 t219 t220 t206 t207 t208 t209).bind fun t232 => (if t232 = true then (laws_FnExactFrameFrom.j1 kj6 l0 t212 (t223 != t212) t206 t207 t208 t209 t217 t218 t219 t220) else (laws_FnExactFrameFrom.j1 kj6 l0 t212 true t206 t207 t208 t209 t217 t218 t219 t220))))) else (some false)) = some r := H
          have A33 := Aside0.mk A330
          clear A330
          by_cases c34 : t229 = true
          · subst c34
            have H1 : ((laws_markByteS.f kj6 t214 1).bind fun bt230 => (if bt230.1 < 0 then (laws_FnExactFrameFrom.j1 kj6 l0 t212 true t206 t207 t208 t209 t217 t218 t219 t220) else ((laws_eqFrame.f kj6 t217 t218 t219 t220 t206 t207 t208 t209).bind fun t232 => (if t232 = true then (laws_FnExactFrameFrom.j1 kj6 l0 t212 (t223 != t212) t206 t207 t208 t209 t217 t218 t219 t220) else (laws_FnExactFrameFrom.j1 kj6 l0 t212 true t206 t207 t208 t209 t217 t218 t219 t220))))) = some r := by rw [if_pos rfl] at H; exact H
            clear H
            have H := H1
            clear H1
            replace H := Option.bind_eq_some_iff.mp H
            obtain ⟨⟨t230, t231⟩, A350, H⟩ := H
            replace H : (if t230 < 0 then (laws_FnExactFrameFrom.j1 kj6 l0 t212 true t206 t207 t208 t209 t217 t218 t219 t220) else ((laws_eqFrame.f kj6 t217 t218 t219 t220 t206 t207 t208 t209).bind fun t232 => (if t232 = true then (laws_FnExactFrameFrom.j1 kj6 l0 t212 (t223 != t212) t206 t207 t208 t209 t217 t218 t219 t220) else (laws_FnExactFrameFrom.j1 kj6 l0 t212 true t206 t207 t208 t209 t217 t218 t219 t220)))) = some r := H
            have A35 := Aside0.mk A350
            clear A350
            have HC36 := Aside0.mk H
            clear H
            go_upto_region 12 with (first | ((with_reducible refine gate_callee (f := 14) rfl ?_); refine goesL_ (some 40) rfl rfl Try.func14 (by kernel_rfl) rfl #[.slice A0 l0.length c0] rfl (by (try simp only [List.map_toArray, List.map_cons, List.map_nil]); first | done | rfl | (simp only [List.length_drop, List.length_take]; rfl)) ?_; (with_reducible refine (laws_toByteS.calls kj6 _ _ l0 t226 _ ?side1 ?side2 A32.out).mono ?_); (case side1 => repeat (first | exact (Kd.C_below HR0.out HB.out) | (with_reducible refine Kd.C_alloc ?_ _) | (with_reducible refine Kd.C_drewN ?_ _) | (with_reducible refine Kd.C_drew ?_))); (case side2 => exact HC0.out); rintro e w37 ⟨v227, rfl, ho0, hb⟩; refine ⟨_, rfl, ?_⟩; have n0_ := Aside0.mk (Kd.R_elder' (by (with_reducible repeat (first | apply Kd.R_alloc | apply Kd.R_drewN | apply Kd.R_drew)); exact HO_5.out) (Kd.R_base ho0) hb); have n1_ := Aside0.mk (Kd.R_elder' (by (with_reducible repeat (first | apply Kd.R_alloc | apply Kd.R_drewN | apply Kd.R_drew)); exact HO_214003.out) (Kd.R_base ho0) hb); have n2_ := Aside0.mk (Kd.R_elder' (by (with_reducible repeat (first | apply Kd.R_alloc | apply Kd.R_drewN | apply Kd.R_drew)); exact HO_225003.out) (Kd.R_base ho0) hb); have n3_ := Aside0.mk (Kd.R_lower (Kd.R_new' (Kd.R_new' (Kd.R_new' ho0 (Kd.R_lt (by (with_reducible repeat (first | apply Kd.R_alloc | apply Kd.R_drewN | apply Kd.R_drew)); exact HO_5.out))) (Kd.R_lt (by (with_reducible repeat (first | apply Kd.R_alloc | apply Kd.R_drewN | apply Kd.R_drew)); exact HO_214003.out))) (Kd.R_lt (by (with_reducible repeat (first | apply Kd.R_alloc | apply Kd.R_drewN | apply Kd.R_drew)); exact HO_225003.out))) (below_size (by repeat (first | (with_reducible first | exact HB.out | apply below_alloc | apply pw_below_drewN | apply below_drew1 | refine below_set ?_ GE213.out | refine below_set ?_ GE224.out) | exact HB.out)))); have n4_ := Aside0.mk (blk_below (g := gb213) (o := .cells #[.int .i64 t206, .int .i64 t207, .int .i64 t208, .slice Ao13 t209.length co13] 24 (0, 0)) (by (with_reducible repeat (first | refine blk_drewN ?_ _ | refine blk_drew ?_ | refine blk_alloc ?_ _)); exact BK213.out) hb); have n5_ := Aside0.mk (blk_below (g := gb224) (o := .cells #[.int .i64 t217, .int .i64 t218, .int .i64 t219, .slice Ao20 t220.length co20] 24 (0, 0)) (by (with_reducible repeat (first | refine blk_drewN ?_ _ | refine blk_drew ?_ | refine blk_alloc ?_ _)); exact BK224.out) hb); have n6_ := Aside0.mk (below_step (by repeat (first | (with_reducible first | exact HB.out | apply below_alloc | apply pw_below_drewN | apply below_drew1 | refine below_set ?_ GE213.out | refine below_set ?_ GE224.out) | exact HB.out)) hb); clear HO_5; clear HO_214003; clear HO_225003; clear BK213; clear BK224; clear HB; have HO_5 := n0_; have HO_214003 := n1_; have HO_225003 := n2_; have HO228 := n3_; have BK213 := n4_; have BK224 := n5_; have HB := n6_; clear n0_ n1_ n2_ n3_ n4_ n5_ n6_; (try clear hb); (try clear hb2); (try clear hk); (try clear hi); (try clear ho0); obtain ⟨Ao38, co38, eo38⟩ := Kd.R_slice HO228.out; subst eo38) | ((with_reducible refine gate_callee (f := 17) rfl ?_); refine goesL_ (some 41) rfl rfl Try.func17 (by kernel_rfl) rfl #[.slice Ao15 t214.length co15, .slice Ao38 t226.length co38] rfl (by (try simp only [List.map_toArray, List.map_cons, List.map_nil]); first | done | rfl | (simp only [List.length_drop, List.length_take]; rfl)) ?_; (with_reducible refine (laws_eqByteS.calls kj6 _ _ t214 _ _ t226 true _ ?side1 ?side2 ?side3 ?side4 A33.out).mono ?_); (case side1 => repeat (first | exact (Kd.R_reads' HO_5.out).2.2 | (with_reducible refine Kd.C_alloc ?_ _) | (with_reducible refine Kd.C_drewN ?_ _) | (with_reducible refine Kd.C_drew ?_))); (case side2 => exact (Kd.R_reads' HO_5.out).2.1); (case side3 => repeat (first | exact (Kd.R_reads' HO228.out).2.2 | (with_reducible refine Kd.C_alloc ?_ _) | (with_reducible refine Kd.C_drewN ?_ _) | (with_reducible refine Kd.C_drew ?_))); (case side4 => exact (Kd.R_reads' HO228.out).2.1); rintro e w' ⟨rfl, ⟨nd, rfl⟩⟩; refine ⟨_, rfl, ?_⟩) | ((with_reducible refine gate_callee (f := 18) rfl ?_); refine goesL_ (some 45) rfl rfl Try.func18 (by kernel_rfl) rfl #[.slice Ao15 t214.length co15, .int .i64 1] rfl (by (try simp only [List.map_toArray, List.map_cons, List.map_nil]); first | done | rfl | (simp only [List.length_drop, List.length_take]; rfl)) ?_; (with_reducible refine (laws_markByteS.calls kj6 (fun k_ => some k_ = (.slice Ao15 t214.length co15 : Value).ownBlock) (.slice Ao15 t214.length co15) t214 1 t230 t231 w _ ?side1 ?side2 A35.out).mono ?_); (case side1 => repeat (first | (with_reducible first | exact HB.out | apply below_alloc | apply pw_below_drewN | apply below_drew1 | refine below_set ?_ GE213.out | refine below_set ?_ GE224.out) | exact HB.out)); (case side2 => exact Kd.R_tight rfl HO_5.out); rintro e w39 ⟨rfl, hy0, hb, hkp⟩; refine ⟨_, rfl, ?_⟩; have n0_ := Aside0.mk (Kd.R_reok rfl hy0 (fun k_ e_ => HO_5.out.1 k_ e_)); have n1_ := Aside0.mk (Kd.R_mono (ok' := fun k_ => some k_ ≠ (.slice Ao15 t214.length co15 : Value).ownBlock ∧ some k_ ≠ (.slice Ao20 t220.length co20 : Value).ownBlock ∧ some k_ ≠ (.slice Ao38 t226.length co38 : Value).ownBlock) (Kd.R_keptB (HO_214003.out) hkp (fun k_ hk_ hs_ => (hk_.1.1) hs_)) (fun k_ hk_ => ⟨hk_.1.1.1, hk_.1.1.2, hk_.1.2⟩)); have n2_ := Aside0.mk (Kd.R_mono (ok' := fun k_ => some k_ ≠ (.slice Ao15 t214.length co15 : Value).ownBlock ∧ some k_ ≠ (.slice Ao13 t209.length co13 : Value).ownBlock ∧ some k_ ≠ (.slice Ao38 t226.length co38 : Value).ownBlock) (Kd.R_keptB (HO_225003.out) hkp (fun k_ hk_ hs_ => (hk_.1.1) hs_)) (fun k_ hk_ => ⟨hk_.1.1.1, hk_.1.1.2, hk_.1.2⟩)); have n3_ := Aside0.mk (blk_kept (by (with_reducible repeat (first | refine blk_drewN ?_ _ | refine blk_drew ?_ | refine blk_alloc ?_ _)); exact BK213.out) hkp (fun hs_ => (fun e_ => (Kd.R_ne HO_5.out BK213.out (by decide)) e_) hs_)); have n4_ := Aside0.mk (blk_kept (by (with_reducible repeat (first | refine blk_drewN ?_ _ | refine blk_drew ?_ | refine blk_alloc ?_ _)); exact BK224.out) hkp (fun hs_ => (fun e_ => (Kd.R_ne HO_5.out BK224.out (by decide)) e_) hs_)); have n5_ := Aside0.mk (Kd.R_mono (ok' := fun k_ => some k_ ≠ (.slice Ao15 t214.length co15 : Value).ownBlock ∧ some k_ ≠ (.slice Ao13 t209.length co13 : Value).ownBlock ∧ some k_ ≠ (.slice Ao20 t220.length co20 : Value).ownBlock) (Kd.R_keptB (HO228.out) hkp (fun k_ hk_ hs_ => (hk_.1.1.2) hs_)) (fun k_ hk_ => ⟨hk_.1.1.1.2, hk_.1.1.2, hk_.1.2⟩)); have n6_ := Aside0.mk (hb); clear HO_5; clear HO_214003; clear HO_225003; clear BK213; clear BK224; clear HO228; clear HB; have HO_5 := n0_; have HO_214003 := n1_; have HO_225003 := n2_; have BK213 := n3_; have BK224 := n4_; have HO228 := n5_; have HB := n6_; clear n0_ n1_ n2_ n3_ n4_ n5_ n6_; (try clear hb); (try clear hkp); (try clear hy0)))
            (try simp only [Act.put, List.setIfInBounds_toArray, List.set_cons_zero, List.set_cons_succ])
            go_cut [58] (fun v58 wc => ∃ (kq : Nat) (x58_35 : Bool), v58 = .bool x58_35 ∧ Aside0 (laws_FnExactFrameFrom.j1 kq l0 t212 x58_35 t206 t207 t208 t209 t217 t218 t219 t220 = some r) ∧ Aside0 (kq ≤ kj6) ∧ Aside0 (Kd.R (Kd.int .u8) 5 wc w.heap.size (fun k_ => some k_ ≠ ((.slice Ao20 t220.length co20) : Value).ownBlock) (.slice Ao13 t209.length co13) t209) ∧ Aside0 (Kd.R (Kd.int .u8) 5 wc w.heap.size (fun k_ => some k_ ≠ ((.slice Ao13 t209.length co13) : Value).ownBlock) (.slice Ao20 t220.length co20) t220) ∧ Aside0 (wc.heap[gb213]? = some (.cells #[.int .i64 t206, .int .i64 t207, .int .i64 t208, (.slice Ao13 t209.length co13)] 24 (0, 0))) ∧ Aside0 (wc.heap[gb224]? = some (.cells #[.int .i64 t217, .int .i64 t218, .int .i64 t219, (.slice Ao20 t220.length co20)] 24 (0, 0))) ∧ Aside0 (Below w.heap.size w wc))
            case first =>
              have H := HC36.out
              clear HC36
              by_cases c40 : t230 < 0
              · rw [if_pos c40] at H
                have c40b0 : decide (t230 < 0) = true := decide_eq_true c40
                clear c40
                (first | rw [c40b0] | (simp only [i64_w, i32_w]; rw [c40b0]) | skip)
                have H' := Aside0.mk H
                clear H
                go_wp2
                go_meet
                case rel => exact ⟨_, (true), (by first | rfl | (simp; done) | (simp [*]; done)), H', ⟨by have := HJ6.out; first | omega | exact Nat.le_refl _⟩, ⟨by (with_reducible repeat (first | apply Kd.R_alloc | apply Kd.R_drewN | apply Kd.R_drew)); exact Kd.R_mono HO_214003.out (fun _ hk => hk.2.1)⟩, ⟨by (with_reducible repeat (first | apply Kd.R_alloc | apply Kd.R_drewN | apply Kd.R_drew)); exact Kd.R_mono HO_225003.out (fun _ hk => hk.2.1)⟩, ⟨by (with_reducible repeat (first | refine blk_drewN ?_ _ | refine blk_drew ?_ | refine blk_alloc ?_ _)); exact BK213.out⟩, ⟨by (with_reducible repeat (first | refine blk_drewN ?_ _ | refine blk_drew ?_ | refine blk_alloc ?_ _)); exact BK224.out⟩, ⟨by repeat (first | (with_reducible first | exact HB.out | apply below_alloc | apply pw_below_drewN | apply below_drew1 | refine below_set ?_ GE213.out | refine below_set ?_ GE224.out) | exact HB.out)⟩⟩
              · rw [if_neg c40] at H
                have c40b0 : decide (t230 < 0) = false := decide_eq_false c40
                clear c40
                (first | rw [c40b0] | (simp only [i64_w, i32_w]; rw [c40b0]) | skip)
                replace H := Option.bind_eq_some_iff.mp H
                obtain ⟨t232, A410, H⟩ := H
                replace H : (if t232 = true then (laws_FnExactFrameFrom.j1 kj6 l0 t212 (t223 != t212) t206 t207 t208 t209 t217 t218 t219 t220) else (laws_FnExactFrameFrom.j1 kj6 l0 t212 true t206 t207 t208 t209 t217 t218 t219 t220)) = some r := H
                have A41 := Aside0.mk A410
                clear A410
                by_cases c42 : t232 = true
                · subst c42
                  have H1 : (laws_FnExactFrameFrom.j1 kj6 l0 t212 (t223 != t212) t206 t207 t208 t209 t217 t218 t219 t220) = some r := by rw [if_pos rfl] at H; exact H
                  clear H
                  have H := H1
                  clear H1
                  have H' := Aside0.mk H
                  clear H
                  have hnb43 := NB224_213.out
                  have hnc43 := NB213_224.out
                  have hcz44_0 : w39.cell? ⟨gb224, 0, none⟩ = some (.int .i64 t217) := (blk_cell BK224.out 0).trans rfl
                  have hcz44_1 : w39.cell? ⟨gb224, 1, none⟩ = some (.int .i64 t218) := (blk_cell BK224.out 1).trans rfl
                  have hcz44_2 : w39.cell? ⟨gb224, 2, none⟩ = some (.int .i64 t219) := (blk_cell BK224.out 2).trans rfl
                  have hcz44_3 : w39.cell? ⟨gb224, 3, none⟩ = some (.slice Ao20 t220.length co20) := (blk_cell BK224.out 3).trans rfl
                  have hfz44_0 := blk_frozen BK224.out 0
                  have hfz44_1 := blk_frozen BK224.out 1
                  have hfz44_2 := blk_frozen BK224.out 2
                  have hfz44_3 := blk_frozen BK224.out 3
                  have hcz45_0 : w39.cell? ⟨gb213, 0, none⟩ = some (.int .i64 t206) := (blk_cell BK213.out 0).trans rfl
                  have hcz45_1 : w39.cell? ⟨gb213, 1, none⟩ = some (.int .i64 t207) := (blk_cell BK213.out 1).trans rfl
                  have hcz45_2 : w39.cell? ⟨gb213, 2, none⟩ = some (.int .i64 t208) := (blk_cell BK213.out 2).trans rfl
                  have hcz45_3 : w39.cell? ⟨gb213, 3, none⟩ = some (.slice Ao13 t209.length co13) := (blk_cell BK213.out 3).trans rfl
                  have hfz45_0 := blk_frozen BK213.out 0
                  have hfz45_1 := blk_frozen BK213.out 1
                  have hfz45_2 := blk_frozen BK213.out 2
                  have hfz45_3 := blk_frozen BK213.out 3
                  go_wp2_with (first | (go_at_call 16; (with_reducible refine (laws_eqFrame.calls kj6 t217 t218 t219 _ _ t220 t206 t207 t208 _ _ t209 true _ ?side1 ?side2 ?side3 ?side4 A41.out).mono ?_); (case side1 => repeat (first | exact (Kd.R_reads' HO_225003.out).2.2 | (with_reducible refine Kd.C_alloc ?_ _) | (with_reducible refine Kd.C_drewN ?_ _) | (with_reducible refine Kd.C_drew ?_))); (case side2 => exact (Kd.R_reads' HO_225003.out).2.1); (case side3 => repeat (first | exact (Kd.R_reads' HO_214003.out).2.2 | (with_reducible refine Kd.C_alloc ?_ _) | (with_reducible refine Kd.C_drewN ?_ _) | (with_reducible refine Kd.C_drew ?_))); (case side4 => exact (Kd.R_reads' HO_214003.out).2.1); rintro e w46 ⟨rfl, hb⟩; have n0_ := Aside0.mk (Kd.R_below (by (with_reducible repeat (first | apply Kd.R_alloc | apply Kd.R_drewN | apply Kd.R_drew)); exact HO_5.out) hb); have n1_ := Aside0.mk (Kd.R_below (by (with_reducible repeat (first | apply Kd.R_alloc | apply Kd.R_drewN | apply Kd.R_drew)); exact HO_214003.out) hb); have n2_ := Aside0.mk (Kd.R_below (by (with_reducible repeat (first | apply Kd.R_alloc | apply Kd.R_drewN | apply Kd.R_drew)); exact HO_225003.out) hb); have n3_ := Aside0.mk (Kd.R_below (by (with_reducible repeat (first | apply Kd.R_alloc | apply Kd.R_drewN | apply Kd.R_drew)); exact HO228.out) hb); have n4_ := Aside0.mk (blk_below (g := gb213) (o := .cells #[.int .i64 t206, .int .i64 t207, .int .i64 t208, .slice Ao13 t209.length co13] 24 (0, 0)) (by (with_reducible repeat (first | refine blk_drewN ?_ _ | refine blk_drew ?_ | refine blk_alloc ?_ _)); exact BK213.out) hb); have n5_ := Aside0.mk (blk_below (g := gb224) (o := .cells #[.int .i64 t217, .int .i64 t218, .int .i64 t219, .slice Ao20 t220.length co20] 24 (0, 0)) (by (with_reducible repeat (first | refine blk_drewN ?_ _ | refine blk_drew ?_ | refine blk_alloc ?_ _)); exact BK224.out) hb); have n6_ := Aside0.mk (below_step (by repeat (first | (with_reducible first | exact HB.out | apply below_alloc | apply pw_below_drewN | apply below_drew1 | refine below_set ?_ GE213.out | refine below_set ?_ GE224.out) | exact HB.out)) hb); clear HO_5; clear HO_214003; clear HO_225003; clear HO228; clear BK213; clear BK224; clear HB; have HO_5 := n0_; have HO_214003 := n1_; have HO_225003 := n2_; have HO228 := n3_; have BK213 := n4_; have BK224 := n5_; have HB := n6_; clear n0_ n1_ n2_ n3_ n4_ n5_ n6_; (try clear hb); (try clear hb2); (try clear hk); (try clear hi)))
                  go_meet
                  case rel => exact ⟨_, ((t223 != t212)), (by first | rfl | (simp; done) | (simp [*]; done)), H', ⟨by have := HJ6.out; first | omega | exact Nat.le_refl _⟩, ⟨by (with_reducible repeat (first | apply Kd.R_alloc | apply Kd.R_drewN | apply Kd.R_drew)); exact Kd.R_mono HO_214003.out (fun _ hk => hk.2.1)⟩, ⟨by (with_reducible repeat (first | apply Kd.R_alloc | apply Kd.R_drewN | apply Kd.R_drew)); exact Kd.R_mono HO_225003.out (fun _ hk => hk.2.1)⟩, ⟨by (with_reducible repeat (first | refine blk_drewN ?_ _ | refine blk_drew ?_ | refine blk_alloc ?_ _)); exact BK213.out⟩, ⟨by (with_reducible repeat (first | refine blk_drewN ?_ _ | refine blk_drew ?_ | refine blk_alloc ?_ _)); exact BK224.out⟩, ⟨by repeat (first | (with_reducible first | exact HB.out | apply below_alloc | apply pw_below_drewN | apply below_drew1 | refine below_set ?_ GE213.out | refine below_set ?_ GE224.out) | exact HB.out)⟩⟩
                · replace c42 := Bool.eq_false_iff.mpr c42
                  subst c42
                  have H1 : (laws_FnExactFrameFrom.j1 kj6 l0 t212 true t206 t207 t208 t209 t217 t218 t219 t220) = some r := by rw [if_neg (show ¬ (false = true) by decide)] at H; exact H
                  clear H
                  have H := H1
                  clear H1
                  have H' := Aside0.mk H
                  clear H
                  have hnb47 := NB224_213.out
                  have hnc47 := NB213_224.out
                  have hcz48_0 : w39.cell? ⟨gb224, 0, none⟩ = some (.int .i64 t217) := (blk_cell BK224.out 0).trans rfl
                  have hcz48_1 : w39.cell? ⟨gb224, 1, none⟩ = some (.int .i64 t218) := (blk_cell BK224.out 1).trans rfl
                  have hcz48_2 : w39.cell? ⟨gb224, 2, none⟩ = some (.int .i64 t219) := (blk_cell BK224.out 2).trans rfl
                  have hcz48_3 : w39.cell? ⟨gb224, 3, none⟩ = some (.slice Ao20 t220.length co20) := (blk_cell BK224.out 3).trans rfl
                  have hfz48_0 := blk_frozen BK224.out 0
                  have hfz48_1 := blk_frozen BK224.out 1
                  have hfz48_2 := blk_frozen BK224.out 2
                  have hfz48_3 := blk_frozen BK224.out 3
                  have hcz49_0 : w39.cell? ⟨gb213, 0, none⟩ = some (.int .i64 t206) := (blk_cell BK213.out 0).trans rfl
                  have hcz49_1 : w39.cell? ⟨gb213, 1, none⟩ = some (.int .i64 t207) := (blk_cell BK213.out 1).trans rfl
                  have hcz49_2 : w39.cell? ⟨gb213, 2, none⟩ = some (.int .i64 t208) := (blk_cell BK213.out 2).trans rfl
                  have hcz49_3 : w39.cell? ⟨gb213, 3, none⟩ = some (.slice Ao13 t209.length co13) := (blk_cell BK213.out 3).trans rfl
                  have hfz49_0 := blk_frozen BK213.out 0
                  have hfz49_1 := blk_frozen BK213.out 1
                  have hfz49_2 := blk_frozen BK213.out 2
                  have hfz49_3 := blk_frozen BK213.out 3
                  go_wp2_with (first | (go_at_call 16; (with_reducible refine (laws_eqFrame.calls kj6 t217 t218 t219 _ _ t220 t206 t207 t208 _ _ t209 false _ ?side1 ?side2 ?side3 ?side4 A41.out).mono ?_); (case side1 => repeat (first | exact (Kd.R_reads' HO_225003.out).2.2 | (with_reducible refine Kd.C_alloc ?_ _) | (with_reducible refine Kd.C_drewN ?_ _) | (with_reducible refine Kd.C_drew ?_))); (case side2 => exact (Kd.R_reads' HO_225003.out).2.1); (case side3 => repeat (first | exact (Kd.R_reads' HO_214003.out).2.2 | (with_reducible refine Kd.C_alloc ?_ _) | (with_reducible refine Kd.C_drewN ?_ _) | (with_reducible refine Kd.C_drew ?_))); (case side4 => exact (Kd.R_reads' HO_214003.out).2.1); rintro e w50 ⟨rfl, hb⟩; have n0_ := Aside0.mk (Kd.R_below (by (with_reducible repeat (first | apply Kd.R_alloc | apply Kd.R_drewN | apply Kd.R_drew)); exact HO_5.out) hb); have n1_ := Aside0.mk (Kd.R_below (by (with_reducible repeat (first | apply Kd.R_alloc | apply Kd.R_drewN | apply Kd.R_drew)); exact HO_214003.out) hb); have n2_ := Aside0.mk (Kd.R_below (by (with_reducible repeat (first | apply Kd.R_alloc | apply Kd.R_drewN | apply Kd.R_drew)); exact HO_225003.out) hb); have n3_ := Aside0.mk (Kd.R_below (by (with_reducible repeat (first | apply Kd.R_alloc | apply Kd.R_drewN | apply Kd.R_drew)); exact HO228.out) hb); have n4_ := Aside0.mk (blk_below (g := gb213) (o := .cells #[.int .i64 t206, .int .i64 t207, .int .i64 t208, .slice Ao13 t209.length co13] 24 (0, 0)) (by (with_reducible repeat (first | refine blk_drewN ?_ _ | refine blk_drew ?_ | refine blk_alloc ?_ _)); exact BK213.out) hb); have n5_ := Aside0.mk (blk_below (g := gb224) (o := .cells #[.int .i64 t217, .int .i64 t218, .int .i64 t219, .slice Ao20 t220.length co20] 24 (0, 0)) (by (with_reducible repeat (first | refine blk_drewN ?_ _ | refine blk_drew ?_ | refine blk_alloc ?_ _)); exact BK224.out) hb); have n6_ := Aside0.mk (below_step (by repeat (first | (with_reducible first | exact HB.out | apply below_alloc | apply pw_below_drewN | apply below_drew1 | refine below_set ?_ GE213.out | refine below_set ?_ GE224.out) | exact HB.out)) hb); clear HO_5; clear HO_214003; clear HO_225003; clear HO228; clear BK213; clear BK224; clear HB; have HO_5 := n0_; have HO_214003 := n1_; have HO_225003 := n2_; have HO228 := n3_; have BK213 := n4_; have BK224 := n5_; have HB := n6_; clear n0_ n1_ n2_ n3_ n4_ n5_ n6_; (try clear hb); (try clear hb2); (try clear hk); (try clear hi)))
                  go_meet
                  case rel => exact ⟨_, (true), (by first | rfl | (simp; done) | (simp [*]; done)), H', ⟨by have := HJ6.out; first | omega | exact Nat.le_refl _⟩, ⟨by (with_reducible repeat (first | apply Kd.R_alloc | apply Kd.R_drewN | apply Kd.R_drew)); exact Kd.R_mono HO_214003.out (fun _ hk => hk.2.1)⟩, ⟨by (with_reducible repeat (first | apply Kd.R_alloc | apply Kd.R_drewN | apply Kd.R_drew)); exact Kd.R_mono HO_225003.out (fun _ hk => hk.2.1)⟩, ⟨by (with_reducible repeat (first | refine blk_drewN ?_ _ | refine blk_drew ?_ | refine blk_alloc ?_ _)); exact BK213.out⟩, ⟨by (with_reducible repeat (first | refine blk_drewN ?_ _ | refine blk_drew ?_ | refine blk_alloc ?_ _)); exact BK224.out⟩, ⟨by repeat (first | (with_reducible first | exact HB.out | apply below_alloc | apply pw_below_drewN | apply below_drew1 | refine below_set ?_ GE213.out | refine below_set ?_ GE224.out) | exact HB.out)⟩⟩
            case rest =>
              clear HC36
              try clear c1
              try clear c2
              try clear c2b0
              try clear c2b1
              try clear p2
              try clear c3
              try clear c4
              try clear c13
              try clear c14
              try clear c15
              try clear c16
              try clear c17
              try clear c18
              try clear c22
              try clear c23
              try clear c27
              try clear c31
              try clear c34
              try clear c40
              try clear c40b0
              try clear c42
              try clear c43
              try clear c47
              try clear hcz12_0
              try clear hcz12_1
              try clear hcz12_2
              try clear hcz12_3
              try clear hcz19_0
              try clear hcz19_1
              try clear hcz19_2
              try clear hcz19_3
              try clear hcz24_0
              try clear hcz24_1
              try clear hcz24_2
              try clear hcz24_3
              try clear hcz25_0
              try clear hcz25_1
              try clear hcz25_2
              try clear hcz25_3
              try clear hcz28_0
              try clear hcz28_1
              try clear hcz28_2
              try clear hcz28_3
              try clear hcz29_0
              try clear hcz29_1
              try clear hcz29_2
              try clear hcz29_3
              try clear hcz44_0
              try clear hcz44_1
              try clear hcz44_2
              try clear hcz44_3
              try clear hcz45_0
              try clear hcz45_1
              try clear hcz45_2
              try clear hcz45_3
              try clear hcz48_0
              try clear hcz48_1
              try clear hcz48_2
              try clear hcz48_3
              try clear hcz49_0
              try clear hcz49_1
              try clear hcz49_2
              try clear hcz49_3
              try clear hfz12_0
              try clear hfz12_1
              try clear hfz12_2
              try clear hfz12_3
              try clear hfz19_0
              try clear hfz19_1
              try clear hfz19_2
              try clear hfz19_3
              try clear hfz24_0
              try clear hfz24_1
              try clear hfz24_2
              try clear hfz24_3
              try clear hfz25_0
              try clear hfz25_1
              try clear hfz25_2
              try clear hfz25_3
              try clear hfz28_0
              try clear hfz28_1
              try clear hfz28_2
              try clear hfz28_3
              try clear hfz29_0
              try clear hfz29_1
              try clear hfz29_2
              try clear hfz29_3
              try clear hfz44_0
              try clear hfz44_1
              try clear hfz44_2
              try clear hfz44_3
              try clear hfz45_0
              try clear hfz45_1
              try clear hfz45_2
              try clear hfz45_3
              try clear hfz48_0
              try clear hfz48_1
              try clear hfz48_2
              try clear hfz48_3
              try clear hfz49_0
              try clear hfz49_1
              try clear hfz49_2
              try clear hfz49_3
              try clear p2
              obtain ⟨kq, x58_35, rfl, HA, HJ35, HO_214003, HO_225003, BK213, BK224, HB⟩ := hcut
              cases kq with
              | zero => exact absurd HA.out (by simp [laws_FnExactFrameFrom.j1])
              | succ kj35 =>
                have H := HA.out
                clear HA
                simp only [laws_FnExactFrameFrom.j1] at H
                by_cases c51 : x58_35 = true
                · subst c51
                  have H1 : (some false) = some r := by rw [if_pos rfl] at H; exact H
                  clear H
                  have H := H1
                  clear H1
                  obtain rfl := Option.some.inj H
                  go_wp2
                  go_ret
                  exact ⟨by first | rfl | (simp [errW_none, errW_some] <;> rfl) | (simp [*, errW_none, errW_some] <;> rfl), by repeat (first | (with_reducible first | exact HB.out | apply below_alloc | apply pw_below_drewN | apply below_drew1 | refine below_set ?_ GE213.out | refine below_set ?_ GE224.out) | exact HB.out)⟩
                · replace c51 := Bool.eq_false_iff.mpr c51
                  subst c51
                  have H1 : ((laws_markFrame.f kj35 t217 t218 t219 t220 1).bind fun bt233 => ((laws_heldFrame.f kj35 t217 t218 t219 bt233.2 1).bind fun t235 => (if t235 < 0 then (some false) else (if t235 = bt233.1 then ((laws_toByteS.f kj35 l0).bind fun t236 => ((impl_FrameFrom.f kj35 t236).bind fun bt239 => ((laws_eqFrame.f kj35 bt239.1 bt239.2.1 bt239.2.2.1 bt239.2.2.2.1 t206 t207 t208 t209).bind fun t247 => (if t247 = true then (laws_FnExactFrameFrom.j2 kj35 bt233.1 (bt239.2.2.2.2 != t212) t217 t218 t219 bt233.2) else (laws_FnExactFrameFrom.j2 kj35 bt233.1 true t217 t218 t219 bt233.2))))) else (some false))))) = some r := by rw [if_neg (show ¬ (false = true) by decide)] at H; exact H
                  clear H
                  have H := H1
                  clear H1
                  replace H := Option.bind_eq_some_iff.mp H
                  obtain ⟨⟨t233, t234⟩, A520, H⟩ := H
                  replace H : ((laws_heldFrame.f kj35 t217 t218 t219 t234 1).bind fun t235 => (if t235 < 0 then (some false) else (if t235 = t233 then ((laws_toByteS.f kj35 l0).bind fun t236 => ((impl_FrameFrom.f kj35 t236).bind fun bt239 => ((laws_eqFrame.f kj35 bt239.1 bt239.2.1 bt239.2.2.1 bt239.2.2.2.1 t206 t207 t208 t209).bind fun t247 => (if t247 = true then (laws_FnExactFrameFrom.j2 kj35 t233 (bt239.2.2.2.2 != t212) t217 t218 t219 t234) else (laws_FnExactFrameFrom.j2 kj35 t233 true t217 t218 t219 t234))))) else (some false)))) = some r := H
                  have A52 := Aside0.mk A520
                  clear A520
                  replace H := Option.bind_eq_some_iff.mp H
                  obtain ⟨t235, A530, H⟩ := H
                  replace H : (if t235 < 0 then (some false) else (if t235 = t233 then ((laws_toByteS.f kj35 l0).bind fun t236 => ((impl_FrameFrom.f kj35 t236).bind fun bt239 => ((laws_eqFrame.f kj35 bt239.1 bt239.2.1 bt239.2.2.1 bt239.2.2.2.1 t206 t207 t208 t209).bind fun t247 => (if t247 = true then (laws_FnExactFrameFrom.j2 kj35 t233 (bt239.2.2.2.2 != t212) t217 t218 t219 t234) else (laws_FnExactFrameFrom.j2 kj35 t233 true t217 t218 t219 t234))))) else (some false))) = some r := H
                  have A53 := Aside0.mk A530
                  clear A530
                  by_cases c54 : t235 < 0
                  · rw [if_pos c54] at H
                    have c54b0 : decide (t235 < 0) = true := decide_eq_true c54
                    clear c54
                    obtain rfl := Option.some.inj H
                    have hnb55 := NB224_213.out
                    have hnc55 := NB213_224.out
                    have hcz56_0 : wc.cell? ⟨gb224, 0, none⟩ = some (.int .i64 t217) := (blk_cell BK224.out 0).trans rfl
                    have hcz56_1 : wc.cell? ⟨gb224, 1, none⟩ = some (.int .i64 t218) := (blk_cell BK224.out 1).trans rfl
                    have hcz56_2 : wc.cell? ⟨gb224, 2, none⟩ = some (.int .i64 t219) := (blk_cell BK224.out 2).trans rfl
                    have hcz56_3 : wc.cell? ⟨gb224, 3, none⟩ = some (.slice Ao20 t220.length co20) := (blk_cell BK224.out 3).trans rfl
                    have hfz56_0 := blk_frozen BK224.out 0
                    have hfz56_1 := blk_frozen BK224.out 1
                    have hfz56_2 := blk_frozen BK224.out 2
                    have hfz56_3 := blk_frozen BK224.out 3
                    go_wp2_with (first | ((with_reducible refine gate_callee (f := 19) rfl ?_); refine goesL_ (some 61) rfl rfl Try.func19 (by kernel_rfl) rfl #[.agg #[.int .i64 t217, .int .i64 t218, .int .i64 t219, .slice Ao20 t220.length co20], .int .i64 1] rfl (by (try simp only [List.map_toArray, List.map_cons, List.map_nil]); first | done | rfl | (simp only [List.length_drop, List.length_take]; rfl)) ?_; (with_reducible refine (laws_markFrame.calls kj35 t217 t218 t219 (fun k_ => some k_ = (.slice Ao20 t220.length co20 : Value).ownBlock) (.slice Ao20 t220.length co20) t220 1 t233 t234 w _ ?side1 ?side2 A52.out).mono ?_); (case side1 => repeat (first | (with_reducible first | exact HB.out | apply below_alloc | apply pw_below_drewN | apply below_drew1 | refine below_set ?_ GE213.out | refine below_set ?_ GE224.out) | exact HB.out)); (case side2 => exact Kd.R_tight rfl HO_225003.out); rintro e w57 ⟨rfl, hy0, hb, hkp⟩; refine ⟨_, rfl, ?_⟩; have n0_ := Aside0.mk (Kd.R_mono (ok' := fun k_ => some k_ ≠ (.slice Ao20 t220.length co20 : Value).ownBlock) (Kd.R_keptB (HO_214003.out) hkp (fun k_ hk_ hs_ => (hk_) hs_)) (fun k_ hk_ => hk_.1)); have n1_ := Aside0.mk (Kd.R_reok rfl hy0 (fun k_ e_ => HO_225003.out.1 k_ e_)); have n2_ := Aside0.mk (blk_kept (by (with_reducible repeat (first | refine blk_drewN ?_ _ | refine blk_drew ?_ | refine blk_alloc ?_ _)); exact BK213.out) hkp (fun hs_ => (fun e_ => (Kd.R_ne HO_225003.out BK213.out (by decide)) e_) hs_)); have n3_ := Aside0.mk (blk_kept (by (with_reducible repeat (first | refine blk_drewN ?_ _ | refine blk_drew ?_ | refine blk_alloc ?_ _)); exact BK224.out) hkp (fun hs_ => (fun e_ => (Kd.R_ne HO_225003.out BK224.out (by decide)) e_) hs_)); have n4_ := Aside0.mk (hb); clear HO_214003; clear HO_225003; clear BK213; clear BK224; clear HB; have HO_214003 := n0_; have HO_225003 := n1_; have BK213 := n2_; have BK224 := n3_; have HB := n4_; clear n0_ n1_ n2_ n3_ n4_; (try clear hb); (try clear hkp); (try clear hy0); have hcz58_0 : w57.cell? ⟨gb224, 0, none⟩ = some (.int .i64 t217) := (blk_cell BK224.out 0).trans rfl; have hcz58_1 : w57.cell? ⟨gb224, 1, none⟩ = some (.int .i64 t218) := (blk_cell BK224.out 1).trans rfl; have hcz58_2 : w57.cell? ⟨gb224, 2, none⟩ = some (.int .i64 t219) := (blk_cell BK224.out 2).trans rfl; have hcz58_3 : w57.cell? ⟨gb224, 3, none⟩ = some (.slice Ao20 t220.length co20) := (blk_cell BK224.out 3).trans rfl; have hfz58_0 := blk_frozen BK224.out 0; have hfz58_1 := blk_frozen BK224.out 1; have hfz58_2 := blk_frozen BK224.out 2; have hfz58_3 := blk_frozen BK224.out 3) | ((with_reducible refine gate_callee (f := 20) rfl ?_); refine goesL_ (some 64) rfl rfl Try.func20 (by kernel_rfl) rfl #[.agg #[.int .i64 t217, .int .i64 t218, .int .i64 t219, .slice Ao20 t234.length co20], .int .i64 1] rfl (by (try simp only [List.map_toArray, List.map_cons, List.map_nil]); first | done | (rw [show t234.length = t220.length from (Kd.R_reads' HO_225003.out).1.symm] <;> rfl) | rfl | (simp only [List.length_drop, List.length_take]; rfl)) ?_; (with_reducible refine (laws_heldFrame.calls kj35 t217 t218 t219 _ _ t234 1 t235 _ ?side1 ?side2 A53.out).mono ?_); (case side1 => repeat (first | exact (Kd.R_reads' HO_225003.out).2.2 | (with_reducible refine Kd.C_alloc ?_ _) | (with_reducible refine Kd.C_drewN ?_ _) | (with_reducible refine Kd.C_drew ?_))); (case side2 => rw [show t234.length = t220.length from (Kd.R_reads' HO_225003.out).1.symm]; exact (Kd.R_reads' HO_225003.out).2.1); rintro e w59 ⟨rfl, hb⟩; refine ⟨_, rfl, ?_⟩; have n0_ := Aside0.mk (Kd.R_below (by (with_reducible repeat (first | apply Kd.R_alloc | apply Kd.R_drewN | apply Kd.R_drew)); exact HO_214003.out) hb); have n1_ := Aside0.mk (Kd.R_below (by (with_reducible repeat (first | apply Kd.R_alloc | apply Kd.R_drewN | apply Kd.R_drew)); exact HO_225003.out) hb); have n2_ := Aside0.mk (blk_below (g := gb213) (o := .cells #[.int .i64 t206, .int .i64 t207, .int .i64 t208, .slice Ao13 t209.length co13] 24 (0, 0)) (by (with_reducible repeat (first | refine blk_drewN ?_ _ | refine blk_drew ?_ | refine blk_alloc ?_ _)); exact BK213.out) hb); have n3_ := Aside0.mk (blk_below (g := gb224) (o := .cells #[.int .i64 t217, .int .i64 t218, .int .i64 t219, .slice Ao20 t220.length co20] 24 (0, 0)) (by (with_reducible repeat (first | refine blk_drewN ?_ _ | refine blk_drew ?_ | refine blk_alloc ?_ _)); exact BK224.out) hb); have n4_ := Aside0.mk (below_step (by repeat (first | (with_reducible first | exact HB.out | apply below_alloc | apply pw_below_drewN | apply below_drew1 | refine below_set ?_ GE213.out | refine below_set ?_ GE224.out) | exact HB.out)) hb); clear HO_214003; clear HO_225003; clear BK213; clear BK224; clear HB; have HO_214003 := n0_; have HO_225003 := n1_; have BK213 := n2_; have BK224 := n3_; have HB := n4_; clear n0_ n1_ n2_ n3_ n4_; (try clear hb); (try clear hb2); (try clear hk); (try clear hi)))
                    go_ret
                    exact ⟨by first | rfl | (simp [errW_none, errW_some] <;> rfl) | (simp [*, errW_none, errW_some] <;> rfl), by repeat (first | (with_reducible first | exact HB.out | apply below_alloc | apply pw_below_drewN | apply below_drew1 | refine below_set ?_ GE213.out | refine below_set ?_ GE224.out) | exact HB.out)⟩
                  · rw [if_neg c54] at H
                    have c54b0 : decide (t235 < 0) = false := decide_eq_false c54
                    clear c54
                    by_cases c60 : t235 = t233
                    · rw [if_pos c60] at H
                      have c60b0 : (t235 == t233) = true := beq_iff_eq.mpr c60
                      have c60b1 : (t235 != t233) = false := bne_eq_false_iff_eq.mpr c60
                      clear c60
                      replace H := Option.bind_eq_some_iff.mp H
                      obtain ⟨t236, A610, H⟩ := H
                      replace H : ((impl_FrameFrom.f kj35 t236).bind fun bt239 => ((laws_eqFrame.f kj35 bt239.1 bt239.2.1 bt239.2.2.1 bt239.2.2.2.1 t206 t207 t208 t209).bind fun t247 => (if t247 = true then (laws_FnExactFrameFrom.j2 kj35 t233 (bt239.2.2.2.2 != t212) t217 t218 t219 t234) else (laws_FnExactFrameFrom.j2 kj35 t233 true t217 t218 t219 t234)))) = some r := H
                      have A61 := Aside0.mk A610
                      clear A610
                      replace H := Option.bind_eq_some_iff.mp H
                      obtain ⟨⟨t239, t240, t241, t242, t245⟩, A620, H⟩ := H
                      replace H : ((laws_eqFrame.f kj35 t239 t240 t241 t242 t206 t207 t208 t209).bind fun t247 => (if t247 = true then (laws_FnExactFrameFrom.j2 kj35 t233 (t245 != t212) t217 t218 t219 t234) else (laws_FnExactFrameFrom.j2 kj35 t233 true t217 t218 t219 t234))) = some r := H
                      have A62 := Aside0.mk A620
                      clear A620
                      have HC63 := Aside0.mk H
                      clear H
                      have hnb64 := NB224_213.out
                      have hnc64 := NB213_224.out
                      have hcz65_0 : wc.cell? ⟨gb224, 0, none⟩ = some (.int .i64 t217) := (blk_cell BK224.out 0).trans rfl
                      have hcz65_1 : wc.cell? ⟨gb224, 1, none⟩ = some (.int .i64 t218) := (blk_cell BK224.out 1).trans rfl
                      have hcz65_2 : wc.cell? ⟨gb224, 2, none⟩ = some (.int .i64 t219) := (blk_cell BK224.out 2).trans rfl
                      have hcz65_3 : wc.cell? ⟨gb224, 3, none⟩ = some (.slice Ao20 t220.length co20) := (blk_cell BK224.out 3).trans rfl
                      have hfz65_0 := blk_frozen BK224.out 0
                      have hfz65_1 := blk_frozen BK224.out 1
                      have hfz65_2 := blk_frozen BK224.out 2
                      have hfz65_3 := blk_frozen BK224.out 3
                      go_upto_region 23 with (first | ((with_reducible refine gate_callee (f := 19) rfl ?_); refine goesL_ (some 61) rfl rfl Try.func19 (by kernel_rfl) rfl #[.agg #[.int .i64 t217, .int .i64 t218, .int .i64 t219, .slice Ao20 t220.length co20], .int .i64 1] rfl (by (try simp only [List.map_toArray, List.map_cons, List.map_nil]); first | done | rfl | (simp only [List.length_drop, List.length_take]; rfl)) ?_; (with_reducible refine (laws_markFrame.calls kj35 t217 t218 t219 (fun k_ => some k_ = (.slice Ao20 t220.length co20 : Value).ownBlock) (.slice Ao20 t220.length co20) t220 1 t233 t234 w _ ?side1 ?side2 A52.out).mono ?_); (case side1 => repeat (first | (with_reducible first | exact HB.out | apply below_alloc | apply pw_below_drewN | apply below_drew1 | refine below_set ?_ GE213.out | refine below_set ?_ GE224.out) | exact HB.out)); (case side2 => exact Kd.R_tight rfl HO_225003.out); rintro e w66 ⟨rfl, hy0, hb, hkp⟩; refine ⟨_, rfl, ?_⟩; have n0_ := Aside0.mk (Kd.R_mono (ok' := fun k_ => some k_ ≠ (.slice Ao20 t220.length co20 : Value).ownBlock) (Kd.R_keptB (HO_214003.out) hkp (fun k_ hk_ hs_ => (hk_) hs_)) (fun k_ hk_ => hk_.1)); have n1_ := Aside0.mk (Kd.R_reok rfl hy0 (fun k_ e_ => HO_225003.out.1 k_ e_)); have n2_ := Aside0.mk (blk_kept (by (with_reducible repeat (first | refine blk_drewN ?_ _ | refine blk_drew ?_ | refine blk_alloc ?_ _)); exact BK213.out) hkp (fun hs_ => (fun e_ => (Kd.R_ne HO_225003.out BK213.out (by decide)) e_) hs_)); have n3_ := Aside0.mk (blk_kept (by (with_reducible repeat (first | refine blk_drewN ?_ _ | refine blk_drew ?_ | refine blk_alloc ?_ _)); exact BK224.out) hkp (fun hs_ => (fun e_ => (Kd.R_ne HO_225003.out BK224.out (by decide)) e_) hs_)); have n4_ := Aside0.mk (hb); clear HO_214003; clear HO_225003; clear BK213; clear BK224; clear HB; have HO_214003 := n0_; have HO_225003 := n1_; have BK213 := n2_; have BK224 := n3_; have HB := n4_; clear n0_ n1_ n2_ n3_ n4_; (try clear hb); (try clear hkp); (try clear hy0); have hcz67_0 : w66.cell? ⟨gb224, 0, none⟩ = some (.int .i64 t217) := (blk_cell BK224.out 0).trans rfl; have hcz67_1 : w66.cell? ⟨gb224, 1, none⟩ = some (.int .i64 t218) := (blk_cell BK224.out 1).trans rfl; have hcz67_2 : w66.cell? ⟨gb224, 2, none⟩ = some (.int .i64 t219) := (blk_cell BK224.out 2).trans rfl; have hcz67_3 : w66.cell? ⟨gb224, 3, none⟩ = some (.slice Ao20 t220.length co20) := (blk_cell BK224.out 3).trans rfl; have hfz67_0 := blk_frozen BK224.out 0; have hfz67_1 := blk_frozen BK224.out 1; have hfz67_2 := blk_frozen BK224.out 2; have hfz67_3 := blk_frozen BK224.out 3) | ((with_reducible refine gate_callee (f := 20) rfl ?_); refine goesL_ (some 64) rfl rfl Try.func20 (by kernel_rfl) rfl #[.agg #[.int .i64 t217, .int .i64 t218, .int .i64 t219, .slice Ao20 t234.length co20], .int .i64 1] rfl (by (try simp only [List.map_toArray, List.map_cons, List.map_nil]); first | done | (rw [show t234.length = t220.length from (Kd.R_reads' HO_225003.out).1.symm] <;> rfl) | rfl | (simp only [List.length_drop, List.length_take]; rfl)) ?_; (with_reducible refine (laws_heldFrame.calls kj35 t217 t218 t219 _ _ t234 1 t235 _ ?side1 ?side2 A53.out).mono ?_); (case side1 => repeat (first | exact (Kd.R_reads' HO_225003.out).2.2 | (with_reducible refine Kd.C_alloc ?_ _) | (with_reducible refine Kd.C_drewN ?_ _) | (with_reducible refine Kd.C_drew ?_))); (case side2 => rw [show t234.length = t220.length from (Kd.R_reads' HO_225003.out).1.symm]; exact (Kd.R_reads' HO_225003.out).2.1); rintro e w68 ⟨rfl, hb⟩; refine ⟨_, rfl, ?_⟩; have n0_ := Aside0.mk (Kd.R_below (by (with_reducible repeat (first | apply Kd.R_alloc | apply Kd.R_drewN | apply Kd.R_drew)); exact HO_214003.out) hb); have n1_ := Aside0.mk (Kd.R_below (by (with_reducible repeat (first | apply Kd.R_alloc | apply Kd.R_drewN | apply Kd.R_drew)); exact HO_225003.out) hb); have n2_ := Aside0.mk (blk_below (g := gb213) (o := .cells #[.int .i64 t206, .int .i64 t207, .int .i64 t208, .slice Ao13 t209.length co13] 24 (0, 0)) (by (with_reducible repeat (first | refine blk_drewN ?_ _ | refine blk_drew ?_ | refine blk_alloc ?_ _)); exact BK213.out) hb); have n3_ := Aside0.mk (blk_below (g := gb224) (o := .cells #[.int .i64 t217, .int .i64 t218, .int .i64 t219, .slice Ao20 t220.length co20] 24 (0, 0)) (by (with_reducible repeat (first | refine blk_drewN ?_ _ | refine blk_drew ?_ | refine blk_alloc ?_ _)); exact BK224.out) hb); have n4_ := Aside0.mk (below_step (by repeat (first | (with_reducible first | exact HB.out | apply below_alloc | apply pw_below_drewN | apply below_drew1 | refine below_set ?_ GE213.out | refine below_set ?_ GE224.out) | exact HB.out)) hb); clear HO_214003; clear HO_225003; clear BK213; clear BK224; clear HB; have HO_214003 := n0_; have HO_225003 := n1_; have BK213 := n2_; have BK224 := n3_; have HB := n4_; clear n0_ n1_ n2_ n3_ n4_; (try clear hb); (try clear hb2); (try clear hk); (try clear hi)) | ((with_reducible refine gate_callee (f := 14) rfl ?_); refine goesL_ (some 72) rfl rfl Try.func14 (by kernel_rfl) rfl #[.slice A0 l0.length c0] rfl (by (try simp only [List.map_toArray, List.map_cons, List.map_nil]); first | done | rfl | (simp only [List.length_drop, List.length_take]; rfl)) ?_; (with_reducible refine (laws_toByteS.calls kj35 _ _ l0 t236 _ ?side1 ?side2 A61.out).mono ?_); (case side1 => repeat (first | exact (Kd.C_below HR0.out HB.out) | (with_reducible refine Kd.C_alloc ?_ _) | (with_reducible refine Kd.C_drewN ?_ _) | (with_reducible refine Kd.C_drew ?_))); (case side2 => exact HC0.out); rintro e w69 ⟨v237, rfl, ho0, hb⟩; refine ⟨_, rfl, ?_⟩; have n0_ := Aside0.mk (Kd.R_elder' (by (with_reducible repeat (first | apply Kd.R_alloc | apply Kd.R_drewN | apply Kd.R_drew)); exact HO_214003.out) (Kd.R_base ho0) hb); have n1_ := Aside0.mk (Kd.R_elder' (by (with_reducible repeat (first | apply Kd.R_alloc | apply Kd.R_drewN | apply Kd.R_drew)); exact HO_225003.out) (Kd.R_base ho0) hb); have n2_ := Aside0.mk (Kd.R_lower (Kd.R_new' (Kd.R_new' ho0 (Kd.R_lt (by (with_reducible repeat (first | apply Kd.R_alloc | apply Kd.R_drewN | apply Kd.R_drew)); exact HO_214003.out))) (Kd.R_lt (by (with_reducible repeat (first | apply Kd.R_alloc | apply Kd.R_drewN | apply Kd.R_drew)); exact HO_225003.out))) (below_size (by repeat (first | (with_reducible first | exact HB.out | apply below_alloc | apply pw_below_drewN | apply below_drew1 | refine below_set ?_ GE213.out | refine below_set ?_ GE224.out) | exact HB.out)))); have n3_ := Aside0.mk (blk_below (g := gb213) (o := .cells #[.int .i64 t206, .int .i64 t207, .int .i64 t208, .slice Ao13 t209.length co13] 24 (0, 0)) (by (with_reducible repeat (first | refine blk_drewN ?_ _ | refine blk_drew ?_ | refine blk_alloc ?_ _)); exact BK213.out) hb); have n4_ := Aside0.mk (blk_below (g := gb224) (o := .cells #[.int .i64 t217, .int .i64 t218, .int .i64 t219, .slice Ao20 t220.length co20] 24 (0, 0)) (by (with_reducible repeat (first | refine blk_drewN ?_ _ | refine blk_drew ?_ | refine blk_alloc ?_ _)); exact BK224.out) hb); have n5_ := Aside0.mk (below_step (by repeat (first | (with_reducible first | exact HB.out | apply below_alloc | apply pw_below_drewN | apply below_drew1 | refine below_set ?_ GE213.out | refine below_set ?_ GE224.out) | exact HB.out)) hb); clear HO_214003; clear HO_225003; clear BK213; clear BK224; clear HB; have HO_214003 := n0_; have HO_225003 := n1_; have HO238 := n2_; have BK213 := n3_; have BK224 := n4_; have HB := n5_; clear n0_ n1_ n2_ n3_ n4_ n5_; (try clear hb); (try clear hb2); (try clear hk); (try clear hi); (try clear ho0); obtain ⟨Ao70, co70, eo70⟩ := Kd.R_slice HO238.out; subst eo70) | ((with_reducible refine gate_callee (f := 15) rfl ?_); refine goesL_ (some 73) rfl rfl Try.func15 (by kernel_rfl) rfl #[.slice Ao70 t236.length co70] rfl (by (try simp only [List.map_toArray, List.map_cons, List.map_nil]); first | done | rfl | (simp only [List.length_drop, List.length_take]; rfl)) ?_; (with_reducible refine (impl_FrameFrom.calls kj35 _ _ t236 t239 t240 t241 t242 t245 _ ?side1 ?side2 A62.out).mono ?_); (case side1 => repeat (first | exact (Kd.R_reads' HO238.out).2.2 | (with_reducible refine Kd.C_alloc ?_ _) | (with_reducible refine Kd.C_drewN ?_ _) | (with_reducible refine Kd.C_drew ?_))); (case side2 => exact (Kd.R_reads' HO238.out).2.1); rintro e w71 ⟨v243, rfl, ho0, hb⟩; refine ⟨_, rfl, ?_⟩; have n0_ := Aside0.mk (Kd.R_elder' (by (with_reducible repeat (first | apply Kd.R_alloc | apply Kd.R_drewN | apply Kd.R_drew)); exact HO_214003.out) (Kd.R_base ho0) hb); have n1_ := Aside0.mk (Kd.R_elder' (by (with_reducible repeat (first | apply Kd.R_alloc | apply Kd.R_drewN | apply Kd.R_drew)); exact HO_225003.out) (Kd.R_base ho0) hb); have n2_ := Aside0.mk (Kd.R_elder' (by (with_reducible repeat (first | apply Kd.R_alloc | apply Kd.R_drewN | apply Kd.R_drew)); exact HO238.out) (Kd.R_base ho0) hb); have n3_ := Aside0.mk (Kd.R_lower (Kd.R_new' (Kd.R_new' (Kd.R_new' ho0 (Kd.R_lt (by (with_reducible repeat (first | apply Kd.R_alloc | apply Kd.R_drewN | apply Kd.R_drew)); exact HO_214003.out))) (Kd.R_lt (by (with_reducible repeat (first | apply Kd.R_alloc | apply Kd.R_drewN | apply Kd.R_drew)); exact HO_225003.out))) (Kd.R_lt (by (with_reducible repeat (first | apply Kd.R_alloc | apply Kd.R_drewN | apply Kd.R_drew)); exact HO238.out))) (below_size (by repeat (first | (with_reducible first | exact HB.out | apply below_alloc | apply pw_below_drewN | apply below_drew1 | refine below_set ?_ GE213.out | refine below_set ?_ GE224.out) | exact HB.out)))); have n4_ := Aside0.mk (blk_below (g := gb213) (o := .cells #[.int .i64 t206, .int .i64 t207, .int .i64 t208, .slice Ao13 t209.length co13] 24 (0, 0)) (by (with_reducible repeat (first | refine blk_drewN ?_ _ | refine blk_drew ?_ | refine blk_alloc ?_ _)); exact BK213.out) hb); have n5_ := Aside0.mk (blk_below (g := gb224) (o := .cells #[.int .i64 t217, .int .i64 t218, .int .i64 t219, .slice Ao20 t220.length co20] 24 (0, 0)) (by (with_reducible repeat (first | refine blk_drewN ?_ _ | refine blk_drew ?_ | refine blk_alloc ?_ _)); exact BK224.out) hb); have n6_ := Aside0.mk (below_step (by repeat (first | (with_reducible first | exact HB.out | apply below_alloc | apply pw_below_drewN | apply below_drew1 | refine below_set ?_ GE213.out | refine below_set ?_ GE224.out) | exact HB.out)) hb); clear HO_214003; clear HO_225003; clear HO238; clear BK213; clear BK224; clear HB; have HO_214003 := n0_; have HO_225003 := n1_; have HO238 := n2_; have HO244 := n3_; have BK213 := n4_; have BK224 := n5_; have HB := n6_; clear n0_ n1_ n2_ n3_ n4_ n5_ n6_; (try clear hb); (try clear hb2); (try clear hk); (try clear hi); (try clear ho0)) | ((with_reducible refine gate_dst (N := 11) rfl ?_); refine box_event ?hg (N := 11) ?hd (cs := #[.int .i64 0, .int .i64 0, .int .i64 0, .slice none 0 0]) (t := 24) ?hr ?_; (case hd => rfl); (case hg => rfl); (case hr => first | (go_simp; done) | (go_simp; rfl)); intro gb246 hg w72 hbox hb; have n0_ := Aside0.mk (Kd.R_below (by (with_reducible repeat (first | apply Kd.R_alloc | apply Kd.R_drewN | apply Kd.R_drew)); exact HO_214003.out) hb); have n1_ := Aside0.mk (Kd.R_below (by (with_reducible repeat (first | apply Kd.R_alloc | apply Kd.R_drewN | apply Kd.R_drew)); exact HO_225003.out) hb); have n2_ := Aside0.mk (Kd.R_below (by (with_reducible repeat (first | apply Kd.R_alloc | apply Kd.R_drewN | apply Kd.R_drew)); exact HO238.out) hb); have n3_ := Aside0.mk (Kd.R_below (by (with_reducible repeat (first | apply Kd.R_alloc | apply Kd.R_drewN | apply Kd.R_drew)); exact HO244.out) hb); have n4_ := Aside0.mk (blk_below (g := gb213) (o := .cells #[.int .i64 t206, .int .i64 t207, .int .i64 t208, .slice Ao13 t209.length co13] 24 (0, 0)) (by (with_reducible repeat (first | refine blk_drewN ?_ _ | refine blk_drew ?_ | refine blk_alloc ?_ _)); exact BK213.out) hb); have n5_ := Aside0.mk (blk_below (g := gb224) (o := .cells #[.int .i64 t217, .int .i64 t218, .int .i64 t219, .slice Ao20 t220.length co20] 24 (0, 0)) (by (with_reducible repeat (first | refine blk_drewN ?_ _ | refine blk_drew ?_ | refine blk_alloc ?_ _)); exact BK224.out) hb); have n6_ := Aside0.mk (below_step (by repeat (first | (with_reducible first | exact HB.out | apply below_alloc | apply pw_below_drewN | apply below_drew1 | refine below_set ?_ GE213.out | refine below_set ?_ GE224.out) | exact HB.out)) hb); have n7_ := Aside0.mk (hbox); have n8_ := Aside0.mk ((by rw [hg]; exact (below_size (by repeat (first | (with_reducible first | exact HB.out | apply below_alloc | apply pw_below_drewN | apply below_drew1 | refine below_set ?_ GE213.out | refine below_set ?_ GE224.out) | exact HB.out))) : w.heap.size ≤ gb246)); have n9_ := Aside0.mk ((by rw [hg]; exact (below_size (by repeat (first | (with_reducible first | exact HB.out | apply below_alloc | apply pw_below_drewN | apply below_drew1 | refine below_set ?_ GE213.out | refine below_set ?_ GE224.out) | exact HB.out))) : w.heap.size ≤ gb246)); have n10_ := Aside0.mk ((by rw [hg]; exact Nat.ne_of_lt (blk_lt (g := gb213) (o := .cells #[.int .i64 t206, .int .i64 t207, .int .i64 t208, .slice Ao13 t209.length co13] 24 (0, 0)) (by (with_reducible repeat (first | refine blk_drewN ?_ _ | refine blk_drew ?_ | refine blk_alloc ?_ _)); exact BK213.out)) : gb213 ≠ gb246)); have n11_ := Aside0.mk ((by rw [hg]; exact Nat.ne_of_gt (blk_lt (g := gb213) (o := .cells #[.int .i64 t206, .int .i64 t207, .int .i64 t208, .slice Ao13 t209.length co13] 24 (0, 0)) (by (with_reducible repeat (first | refine blk_drewN ?_ _ | refine blk_drew ?_ | refine blk_alloc ?_ _)); exact BK213.out)) : gb246 ≠ gb213)); have n12_ := Aside0.mk ((by rw [hg]; exact Nat.ne_of_lt (blk_lt (g := gb224) (o := .cells #[.int .i64 t217, .int .i64 t218, .int .i64 t219, .slice Ao20 t220.length co20] 24 (0, 0)) (by (with_reducible repeat (first | refine blk_drewN ?_ _ | refine blk_drew ?_ | refine blk_alloc ?_ _)); exact BK224.out)) : gb224 ≠ gb246)); have n13_ := Aside0.mk ((by rw [hg]; exact Nat.ne_of_gt (blk_lt (g := gb224) (o := .cells #[.int .i64 t217, .int .i64 t218, .int .i64 t219, .slice Ao20 t220.length co20] 24 (0, 0)) (by (with_reducible repeat (first | refine blk_drewN ?_ _ | refine blk_drew ?_ | refine blk_alloc ?_ _)); exact BK224.out)) : gb246 ≠ gb224)); clear HO_214003; clear HO_225003; clear HO238; clear HO244; clear BK213; clear BK224; clear HB; have HO_214003 := n0_; have HO_225003 := n1_; have HO238 := n2_; have HO244 := n3_; have BK213 := n4_; have BK224 := n5_; have HB := n6_; have BK246 := n7_; have GW246 := n8_; have GE246 := n9_; have NB213_246 := n10_; have NB246_213 := n11_; have NB224_246 := n12_; have NB246_224 := n13_; clear n0_ n1_ n2_ n3_ n4_ n5_ n6_ n7_ n8_ n9_ n10_ n11_ n12_ n13_; clear hb hbox hg; have hnb73 := NB246_213.out; have hnc73 := NB213_246.out; have hnb74 := NB246_224.out; have hnc74 := NB224_246.out; have hcz75_0 : w72.cell? ⟨gb246, 0, none⟩ = some (.int .i64 0) := (blk_cell BK246.out 0).trans rfl; have hcz75_1 : w72.cell? ⟨gb246, 1, none⟩ = some (.int .i64 0) := (blk_cell BK246.out 1).trans rfl; have hcz75_2 : w72.cell? ⟨gb246, 2, none⟩ = some (.int .i64 0) := (blk_cell BK246.out 2).trans rfl; have hcz75_3 : w72.cell? ⟨gb246, 3, none⟩ = some (.slice none 0 0) := (blk_cell BK246.out 3).trans rfl; have hfz75_0 := blk_frozen BK246.out 0; have hfz75_1 := blk_frozen BK246.out 1; have hfz75_2 := blk_frozen BK246.out 2; have hfz75_3 := blk_frozen BK246.out 3; obtain ⟨Ao76, co76, eo76⟩ := Kd.R_slice HO244.out; subst eo76))
                      (try simp only [Act.put, List.setIfInBounds_toArray, List.set_cons_zero, List.set_cons_succ])
                      go_cut [84] (fun v84 wc => ∃ (kq : Nat) (x84_62 : Bool), v84 = .bool x84_62 ∧ Aside0 (laws_FnExactFrameFrom.j2 kq t233 x84_62 t217 t218 t219 t234 = some r) ∧ Aside0 (kq ≤ kj35) ∧ Aside0 (Kd.R (Kd.int .u8) 5 wc w.heap.size (fun k_ => some k_ ≠ ((.slice Ao20 t220.length co20) : Value).ownBlock ∧ some k_ ≠ ((.slice Ao76 t242.length co76) : Value).ownBlock) (.slice Ao13 t209.length co13) t209) ∧ Aside0 (Kd.R (Kd.int .u8) 5 wc w.heap.size (fun k_ => some k_ ≠ ((.slice Ao13 t209.length co13) : Value).ownBlock ∧ some k_ ≠ ((.slice Ao76 t242.length co76) : Value).ownBlock) (.slice Ao20 t220.length co20) t234) ∧ Aside0 (Kd.R (Kd.int .u8) 5 wc w.heap.size (fun k_ => some k_ ≠ ((.slice Ao13 t209.length co13) : Value).ownBlock ∧ some k_ ≠ ((.slice Ao20 t220.length co20) : Value).ownBlock) (.slice Ao76 t242.length co76) t242) ∧ Aside0 (wc.heap[gb213]? = some (.cells #[.int .i64 t206, .int .i64 t207, .int .i64 t208, (.slice Ao13 t209.length co13)] 24 (0, 0))) ∧ Aside0 (wc.heap[gb224]? = some (.cells #[.int .i64 t217, .int .i64 t218, .int .i64 t219, (.slice Ao20 t220.length co20)] 24 (0, 0))) ∧ Aside0 (wc.heap[gb246]? = some (.cells #[.int .i64 t239, .int .i64 t240, .int .i64 t241, (.slice Ao76 t242.length co76)] 24 (0, 0))) ∧ Aside0 (Below w.heap.size w wc))
                      case first =>
                        have H := HC63.out
                        clear HC63
                        replace H := Option.bind_eq_some_iff.mp H
                        obtain ⟨t247, A770, H⟩ := H
                        replace H : (if t247 = true then (laws_FnExactFrameFrom.j2 kj35 t233 (t245 != t212) t217 t218 t219 t234) else (laws_FnExactFrameFrom.j2 kj35 t233 true t217 t218 t219 t234)) = some r := H
                        have A77 := Aside0.mk A770
                        clear A770
                        by_cases c78 : t247 = true
                        · subst c78
                          have H1 : (laws_FnExactFrameFrom.j2 kj35 t233 (t245 != t212) t217 t218 t219 t234) = some r := by rw [if_pos rfl] at H; exact H
                          clear H
                          have H := H1
                          clear H1
                          have H' := Aside0.mk H
                          clear H
                          have hnb79 := NB246_213.out
                          have hnc79 := NB213_246.out
                          have hnb80 := NB246_224.out
                          have hnc80 := NB224_246.out
                          have hcz81_0 : w72.cell? ⟨gb246, 0, none⟩ = some (.int .i64 0) := (blk_cell BK246.out 0).trans rfl
                          have hcz81_1 : w72.cell? ⟨gb246, 1, none⟩ = some (.int .i64 0) := (blk_cell BK246.out 1).trans rfl
                          have hcz81_2 : w72.cell? ⟨gb246, 2, none⟩ = some (.int .i64 0) := (blk_cell BK246.out 2).trans rfl
                          have hcz81_3 : w72.cell? ⟨gb246, 3, none⟩ = some (.slice none 0 0) := (blk_cell BK246.out 3).trans rfl
                          have hfz81_0 := blk_frozen BK246.out 0
                          have hfz81_1 := blk_frozen BK246.out 1
                          have hfz81_2 := blk_frozen BK246.out 2
                          have hfz81_3 := blk_frozen BK246.out 3
                          have hnb82 := NB213_224.out
                          have hnc82 := NB224_213.out
                          have hcz83_0 : w72.cell? ⟨gb213, 0, none⟩ = some (.int .i64 t206) := (blk_cell BK213.out 0).trans rfl
                          have hcz83_1 : w72.cell? ⟨gb213, 1, none⟩ = some (.int .i64 t207) := (blk_cell BK213.out 1).trans rfl
                          have hcz83_2 : w72.cell? ⟨gb213, 2, none⟩ = some (.int .i64 t208) := (blk_cell BK213.out 2).trans rfl
                          have hcz83_3 : w72.cell? ⟨gb213, 3, none⟩ = some (.slice Ao13 t209.length co13) := (blk_cell BK213.out 3).trans rfl
                          have hfz83_0 := blk_frozen BK213.out 0
                          have hfz83_1 := blk_frozen BK213.out 1
                          have hfz83_2 := blk_frozen BK213.out 2
                          have hfz83_3 := blk_frozen BK213.out 3
                          go_wp2_with (first | ((with_reducible refine gate_callee (f := 16) rfl ?_); refine goesL_ (some 78) rfl rfl Try.func16 (by kernel_rfl) rfl #[.agg #[.int .i64 t239, .int .i64 t240, .int .i64 t241, .slice Ao76 t242.length co76], .agg #[.int .i64 t206, .int .i64 t207, .int .i64 t208, .slice Ao13 t209.length co13]] rfl (by (try simp only [List.map_toArray, List.map_cons, List.map_nil]); first | done | rfl | (simp only [List.length_drop, List.length_take]; rfl)) ?_; (with_reducible refine (laws_eqFrame.calls kj35 t239 t240 t241 _ _ t242 t206 t207 t208 _ _ t209 true _ ?side1 ?side2 ?side3 ?side4 A77.out).mono ?_); (case side1 => refine (Kd.R_reads' (e := 5) (base := w.heap.size) (ok := fun k_ => (((True ∧ some k_ ≠ (.slice Ao13 t209.length co13 : Value).ownBlock) ∧ some k_ ≠ (.slice Ao20 t220.length co20 : Value).ownBlock) ∧ some k_ ≠ (.slice Ao70 t236.length co70 : Value).ownBlock)) (n := t242.length) (c := co76) ?_).2.2; exact (by (with_reducible repeat (first | apply Kd.R_alloc | apply Kd.R_drewN | apply Kd.R_drew)); exact (Kd.R_mono (Kd.R_far (p := ⟨gb246, 3, none⟩) (Kd.R_far (p := ⟨gb246, 2, none⟩) (Kd.R_far (p := ⟨gb246, 1, none⟩) (Kd.R_far (p := ⟨gb246, 0, none⟩) (Kd.R_types HO244.out BK246.out (by decide)) (fun _ hk => hk.2) (.int .i64 t239)) (fun _ hk => hk.2) (.int .i64 t240)) (fun _ hk => hk.2) (.int .i64 t241)) (fun _ hk => hk.2) (.slice Ao76 t242.length co76)) (fun _ h_ => h_.1)))); (case side2 => exact (Kd.R_reads' HO244.out).2.1); (case side3 => refine (Kd.R_reads' (e := 5) (base := w.heap.size) (ok := fun k_ => ((some k_ ≠ (.slice Ao20 t220.length co20 : Value).ownBlock ∧ some k_ ≠ (.slice Ao70 t236.length co70 : Value).ownBlock) ∧ some k_ ≠ (.slice Ao76 t242.length co76 : Value).ownBlock)) (n := t209.length) (c := co13) ?_).2.2; exact (by (with_reducible repeat (first | apply Kd.R_alloc | apply Kd.R_drewN | apply Kd.R_drew)); exact (Kd.R_mono (Kd.R_far (p := ⟨gb246, 3, none⟩) (Kd.R_far (p := ⟨gb246, 2, none⟩) (Kd.R_far (p := ⟨gb246, 1, none⟩) (Kd.R_far (p := ⟨gb246, 0, none⟩) (Kd.R_types HO_214003.out BK246.out (by decide)) (fun _ hk => hk.2) (.int .i64 t239)) (fun _ hk => hk.2) (.int .i64 t240)) (fun _ hk => hk.2) (.int .i64 t241)) (fun _ hk => hk.2) (.slice Ao76 t242.length co76)) (fun _ h_ => h_.1)))); (case side4 => exact (Kd.R_reads' HO_214003.out).2.1); rintro e w84 ⟨rfl, hb⟩; refine ⟨_, rfl, ?_⟩; have n0_ := Aside0.mk (Kd.R_below (by (with_reducible repeat (first | apply Kd.R_alloc | apply Kd.R_drewN | apply Kd.R_drew)); exact (Kd.R_mono (Kd.R_far (p := ⟨gb246, 3, none⟩) (Kd.R_far (p := ⟨gb246, 2, none⟩) (Kd.R_far (p := ⟨gb246, 1, none⟩) (Kd.R_far (p := ⟨gb246, 0, none⟩) (Kd.R_types HO_214003.out BK246.out (by decide)) (fun _ hk => hk.2) (.int .i64 t239)) (fun _ hk => hk.2) (.int .i64 t240)) (fun _ hk => hk.2) (.int .i64 t241)) (fun _ hk => hk.2) (.slice Ao76 t242.length co76)) (fun _ h_ => h_.1))) hb); have n1_ := Aside0.mk (Kd.R_below (by (with_reducible repeat (first | apply Kd.R_alloc | apply Kd.R_drewN | apply Kd.R_drew)); exact (Kd.R_mono (Kd.R_far (p := ⟨gb246, 3, none⟩) (Kd.R_far (p := ⟨gb246, 2, none⟩) (Kd.R_far (p := ⟨gb246, 1, none⟩) (Kd.R_far (p := ⟨gb246, 0, none⟩) (Kd.R_types HO_225003.out BK246.out (by decide)) (fun _ hk => hk.2) (.int .i64 t239)) (fun _ hk => hk.2) (.int .i64 t240)) (fun _ hk => hk.2) (.int .i64 t241)) (fun _ hk => hk.2) (.slice Ao76 t242.length co76)) (fun _ h_ => h_.1))) hb); have n2_ := Aside0.mk (Kd.R_below (by (with_reducible repeat (first | apply Kd.R_alloc | apply Kd.R_drewN | apply Kd.R_drew)); exact (Kd.R_mono (Kd.R_far (p := ⟨gb246, 3, none⟩) (Kd.R_far (p := ⟨gb246, 2, none⟩) (Kd.R_far (p := ⟨gb246, 1, none⟩) (Kd.R_far (p := ⟨gb246, 0, none⟩) (Kd.R_types HO238.out BK246.out (by decide)) (fun _ hk => hk.2) (.int .i64 t239)) (fun _ hk => hk.2) (.int .i64 t240)) (fun _ hk => hk.2) (.int .i64 t241)) (fun _ hk => hk.2) (.slice Ao76 t242.length co76)) (fun _ h_ => h_.1))) hb); have n3_ := Aside0.mk (Kd.R_below (by (with_reducible repeat (first | apply Kd.R_alloc | apply Kd.R_drewN | apply Kd.R_drew)); exact (Kd.R_mono (Kd.R_far (p := ⟨gb246, 3, none⟩) (Kd.R_far (p := ⟨gb246, 2, none⟩) (Kd.R_far (p := ⟨gb246, 1, none⟩) (Kd.R_far (p := ⟨gb246, 0, none⟩) (Kd.R_types HO244.out BK246.out (by decide)) (fun _ hk => hk.2) (.int .i64 t239)) (fun _ hk => hk.2) (.int .i64 t240)) (fun _ hk => hk.2) (.int .i64 t241)) (fun _ hk => hk.2) (.slice Ao76 t242.length co76)) (fun _ h_ => h_.1))) hb); have n4_ := Aside0.mk (blk_below (g := gb213) (o := .cells #[.int .i64 t206, .int .i64 t207, .int .i64 t208, .slice Ao13 t209.length co13] 24 (0, 0)) (by (with_reducible repeat (first | refine blk_drewN ?_ _ | refine blk_drew ?_ | refine blk_alloc ?_ _)); refine blk_far ?_ NB213_246.out _; (with_reducible repeat (first | refine blk_drewN ?_ _ | refine blk_drew ?_ | refine blk_alloc ?_ _)); refine blk_far ?_ NB213_246.out _; (with_reducible repeat (first | refine blk_drewN ?_ _ | refine blk_drew ?_ | refine blk_alloc ?_ _)); refine blk_far ?_ NB213_246.out _; (with_reducible repeat (first | refine blk_drewN ?_ _ | refine blk_drew ?_ | refine blk_alloc ?_ _)); refine blk_far ?_ NB213_246.out _; (with_reducible repeat (first | refine blk_drewN ?_ _ | refine blk_drew ?_ | refine blk_alloc ?_ _)); exact BK213.out) hb); have n5_ := Aside0.mk (blk_below (g := gb224) (o := .cells #[.int .i64 t217, .int .i64 t218, .int .i64 t219, .slice Ao20 t220.length co20] 24 (0, 0)) (by (with_reducible repeat (first | refine blk_drewN ?_ _ | refine blk_drew ?_ | refine blk_alloc ?_ _)); refine blk_far ?_ NB224_246.out _; (with_reducible repeat (first | refine blk_drewN ?_ _ | refine blk_drew ?_ | refine blk_alloc ?_ _)); refine blk_far ?_ NB224_246.out _; (with_reducible repeat (first | refine blk_drewN ?_ _ | refine blk_drew ?_ | refine blk_alloc ?_ _)); refine blk_far ?_ NB224_246.out _; (with_reducible repeat (first | refine blk_drewN ?_ _ | refine blk_drew ?_ | refine blk_alloc ?_ _)); refine blk_far ?_ NB224_246.out _; (with_reducible repeat (first | refine blk_drewN ?_ _ | refine blk_drew ?_ | refine blk_alloc ?_ _)); exact BK224.out) hb); have n6_ := Aside0.mk (blk_below (g := gb246) (o := .cells #[.int .i64 t239, .int .i64 t240, .int .i64 t241, .slice Ao76 t242.length co76] 24 (0, 0)) (by (with_reducible repeat (first | refine blk_drewN ?_ _ | refine blk_drew ?_ | refine blk_alloc ?_ _)); refine blk_put (cs := #[.int .i64 t239, .int .i64 t240, .int .i64 t241, .slice none 0 0]) ?_ 3 _ rfl; (with_reducible repeat (first | refine blk_drewN ?_ _ | refine blk_drew ?_ | refine blk_alloc ?_ _)); refine blk_put (cs := #[.int .i64 t239, .int .i64 t240, .int .i64 0, .slice none 0 0]) ?_ 2 _ rfl; (with_reducible repeat (first | refine blk_drewN ?_ _ | refine blk_drew ?_ | refine blk_alloc ?_ _)); refine blk_put (cs := #[.int .i64 t239, .int .i64 0, .int .i64 0, .slice none 0 0]) ?_ 1 _ rfl; (with_reducible repeat (first | refine blk_drewN ?_ _ | refine blk_drew ?_ | refine blk_alloc ?_ _)); refine blk_put (cs := #[.int .i64 0, .int .i64 0, .int .i64 0, .slice none 0 0]) ?_ 0 _ rfl; (with_reducible repeat (first | refine blk_drewN ?_ _ | refine blk_drew ?_ | refine blk_alloc ?_ _)); exact BK246.out) hb); have n7_ := Aside0.mk (below_step (by repeat (first | (with_reducible first | exact HB.out | apply below_alloc | apply pw_below_drewN | apply below_drew1 | refine below_set ?_ GE213.out | refine below_set ?_ GE224.out | refine below_set ?_ GE246.out) | exact HB.out)) hb); clear HO_214003; clear HO_225003; clear HO238; clear HO244; clear BK213; clear BK224; clear BK246; clear HB; have HO_214003 := n0_; have HO_225003 := n1_; have HO238 := n2_; have HO244 := n3_; have BK213 := n4_; have BK224 := n5_; have BK246 := n6_; have HB := n7_; clear n0_ n1_ n2_ n3_ n4_ n5_ n6_ n7_; (try clear hb); (try clear hb2); (try clear hk); (try clear hi)))
                          go_meet
                          case rel => exact ⟨_, ((t245 != t212)), (by first | rfl | (simp; done) | (simp [*]; done)), H', ⟨by have := HJ6.out; have := HJ35.out; first | omega | exact Nat.le_refl _⟩, ⟨by (with_reducible repeat (first | apply Kd.R_alloc | apply Kd.R_drewN | apply Kd.R_drew)); exact Kd.R_mono HO_214003.out (fun _ hk => ⟨hk.1.1, hk.2⟩)⟩, ⟨by (with_reducible repeat (first | apply Kd.R_alloc | apply Kd.R_drewN | apply Kd.R_drew)); exact Kd.R_mono HO_225003.out (fun _ hk => ⟨hk.1.1, hk.2⟩)⟩, ⟨by (with_reducible repeat (first | apply Kd.R_alloc | apply Kd.R_drewN | apply Kd.R_drew)); exact Kd.R_mono HO244.out (fun _ hk => ⟨hk.1.1.2, hk.1.2⟩)⟩, ⟨by (with_reducible repeat (first | refine blk_drewN ?_ _ | refine blk_drew ?_ | refine blk_alloc ?_ _)); exact BK213.out⟩, ⟨by (with_reducible repeat (first | refine blk_drewN ?_ _ | refine blk_drew ?_ | refine blk_alloc ?_ _)); exact BK224.out⟩, ⟨by (with_reducible repeat (first | refine blk_drewN ?_ _ | refine blk_drew ?_ | refine blk_alloc ?_ _)); exact BK246.out⟩, ⟨by repeat (first | (with_reducible first | exact HB.out | apply below_alloc | apply pw_below_drewN | apply below_drew1 | refine below_set ?_ GE213.out | refine below_set ?_ GE224.out | refine below_set ?_ GE246.out) | exact HB.out)⟩⟩
                        · replace c78 := Bool.eq_false_iff.mpr c78
                          subst c78
                          have H1 : (laws_FnExactFrameFrom.j2 kj35 t233 true t217 t218 t219 t234) = some r := by rw [if_neg (show ¬ (false = true) by decide)] at H; exact H
                          clear H
                          have H := H1
                          clear H1
                          have H' := Aside0.mk H
                          clear H
                          have hnb85 := NB246_213.out
                          have hnc85 := NB213_246.out
                          have hnb86 := NB246_224.out
                          have hnc86 := NB224_246.out
                          have hcz87_0 : w72.cell? ⟨gb246, 0, none⟩ = some (.int .i64 0) := (blk_cell BK246.out 0).trans rfl
                          have hcz87_1 : w72.cell? ⟨gb246, 1, none⟩ = some (.int .i64 0) := (blk_cell BK246.out 1).trans rfl
                          have hcz87_2 : w72.cell? ⟨gb246, 2, none⟩ = some (.int .i64 0) := (blk_cell BK246.out 2).trans rfl
                          have hcz87_3 : w72.cell? ⟨gb246, 3, none⟩ = some (.slice none 0 0) := (blk_cell BK246.out 3).trans rfl
                          have hfz87_0 := blk_frozen BK246.out 0
                          have hfz87_1 := blk_frozen BK246.out 1
                          have hfz87_2 := blk_frozen BK246.out 2
                          have hfz87_3 := blk_frozen BK246.out 3
                          have hnb88 := NB213_224.out
                          have hnc88 := NB224_213.out
                          have hcz89_0 : w72.cell? ⟨gb213, 0, none⟩ = some (.int .i64 t206) := (blk_cell BK213.out 0).trans rfl
                          have hcz89_1 : w72.cell? ⟨gb213, 1, none⟩ = some (.int .i64 t207) := (blk_cell BK213.out 1).trans rfl
                          have hcz89_2 : w72.cell? ⟨gb213, 2, none⟩ = some (.int .i64 t208) := (blk_cell BK213.out 2).trans rfl
                          have hcz89_3 : w72.cell? ⟨gb213, 3, none⟩ = some (.slice Ao13 t209.length co13) := (blk_cell BK213.out 3).trans rfl
                          have hfz89_0 := blk_frozen BK213.out 0
                          have hfz89_1 := blk_frozen BK213.out 1
                          have hfz89_2 := blk_frozen BK213.out 2
                          have hfz89_3 := blk_frozen BK213.out 3
                          go_wp2_with (first | ((with_reducible refine gate_callee (f := 16) rfl ?_); refine goesL_ (some 78) rfl rfl Try.func16 (by kernel_rfl) rfl #[.agg #[.int .i64 t239, .int .i64 t240, .int .i64 t241, .slice Ao76 t242.length co76], .agg #[.int .i64 t206, .int .i64 t207, .int .i64 t208, .slice Ao13 t209.length co13]] rfl (by (try simp only [List.map_toArray, List.map_cons, List.map_nil]); first | done | rfl | (simp only [List.length_drop, List.length_take]; rfl)) ?_; (with_reducible refine (laws_eqFrame.calls kj35 t239 t240 t241 _ _ t242 t206 t207 t208 _ _ t209 false _ ?side1 ?side2 ?side3 ?side4 A77.out).mono ?_); (case side1 => refine (Kd.R_reads' (e := 5) (base := w.heap.size) (ok := fun k_ => (((True ∧ some k_ ≠ (.slice Ao13 t209.length co13 : Value).ownBlock) ∧ some k_ ≠ (.slice Ao20 t220.length co20 : Value).ownBlock) ∧ some k_ ≠ (.slice Ao70 t236.length co70 : Value).ownBlock)) (n := t242.length) (c := co76) ?_).2.2; exact (by (with_reducible repeat (first | apply Kd.R_alloc | apply Kd.R_drewN | apply Kd.R_drew)); exact (Kd.R_mono (Kd.R_far (p := ⟨gb246, 3, none⟩) (Kd.R_far (p := ⟨gb246, 2, none⟩) (Kd.R_far (p := ⟨gb246, 1, none⟩) (Kd.R_far (p := ⟨gb246, 0, none⟩) (Kd.R_types HO244.out BK246.out (by decide)) (fun _ hk => hk.2) (.int .i64 t239)) (fun _ hk => hk.2) (.int .i64 t240)) (fun _ hk => hk.2) (.int .i64 t241)) (fun _ hk => hk.2) (.slice Ao76 t242.length co76)) (fun _ h_ => h_.1)))); (case side2 => exact (Kd.R_reads' HO244.out).2.1); (case side3 => refine (Kd.R_reads' (e := 5) (base := w.heap.size) (ok := fun k_ => ((some k_ ≠ (.slice Ao20 t220.length co20 : Value).ownBlock ∧ some k_ ≠ (.slice Ao70 t236.length co70 : Value).ownBlock) ∧ some k_ ≠ (.slice Ao76 t242.length co76 : Value).ownBlock)) (n := t209.length) (c := co13) ?_).2.2; exact (by (with_reducible repeat (first | apply Kd.R_alloc | apply Kd.R_drewN | apply Kd.R_drew)); exact (Kd.R_mono (Kd.R_far (p := ⟨gb246, 3, none⟩) (Kd.R_far (p := ⟨gb246, 2, none⟩) (Kd.R_far (p := ⟨gb246, 1, none⟩) (Kd.R_far (p := ⟨gb246, 0, none⟩) (Kd.R_types HO_214003.out BK246.out (by decide)) (fun _ hk => hk.2) (.int .i64 t239)) (fun _ hk => hk.2) (.int .i64 t240)) (fun _ hk => hk.2) (.int .i64 t241)) (fun _ hk => hk.2) (.slice Ao76 t242.length co76)) (fun _ h_ => h_.1)))); (case side4 => exact (Kd.R_reads' HO_214003.out).2.1); rintro e w90 ⟨rfl, hb⟩; refine ⟨_, rfl, ?_⟩; have n0_ := Aside0.mk (Kd.R_below (by (with_reducible repeat (first | apply Kd.R_alloc | apply Kd.R_drewN | apply Kd.R_drew)); exact (Kd.R_mono (Kd.R_far (p := ⟨gb246, 3, none⟩) (Kd.R_far (p := ⟨gb246, 2, none⟩) (Kd.R_far (p := ⟨gb246, 1, none⟩) (Kd.R_far (p := ⟨gb246, 0, none⟩) (Kd.R_types HO_214003.out BK246.out (by decide)) (fun _ hk => hk.2) (.int .i64 t239)) (fun _ hk => hk.2) (.int .i64 t240)) (fun _ hk => hk.2) (.int .i64 t241)) (fun _ hk => hk.2) (.slice Ao76 t242.length co76)) (fun _ h_ => h_.1))) hb); have n1_ := Aside0.mk (Kd.R_below (by (with_reducible repeat (first | apply Kd.R_alloc | apply Kd.R_drewN | apply Kd.R_drew)); exact (Kd.R_mono (Kd.R_far (p := ⟨gb246, 3, none⟩) (Kd.R_far (p := ⟨gb246, 2, none⟩) (Kd.R_far (p := ⟨gb246, 1, none⟩) (Kd.R_far (p := ⟨gb246, 0, none⟩) (Kd.R_types HO_225003.out BK246.out (by decide)) (fun _ hk => hk.2) (.int .i64 t239)) (fun _ hk => hk.2) (.int .i64 t240)) (fun _ hk => hk.2) (.int .i64 t241)) (fun _ hk => hk.2) (.slice Ao76 t242.length co76)) (fun _ h_ => h_.1))) hb); have n2_ := Aside0.mk (Kd.R_below (by (with_reducible repeat (first | apply Kd.R_alloc | apply Kd.R_drewN | apply Kd.R_drew)); exact (Kd.R_mono (Kd.R_far (p := ⟨gb246, 3, none⟩) (Kd.R_far (p := ⟨gb246, 2, none⟩) (Kd.R_far (p := ⟨gb246, 1, none⟩) (Kd.R_far (p := ⟨gb246, 0, none⟩) (Kd.R_types HO238.out BK246.out (by decide)) (fun _ hk => hk.2) (.int .i64 t239)) (fun _ hk => hk.2) (.int .i64 t240)) (fun _ hk => hk.2) (.int .i64 t241)) (fun _ hk => hk.2) (.slice Ao76 t242.length co76)) (fun _ h_ => h_.1))) hb); have n3_ := Aside0.mk (Kd.R_below (by (with_reducible repeat (first | apply Kd.R_alloc | apply Kd.R_drewN | apply Kd.R_drew)); exact (Kd.R_mono (Kd.R_far (p := ⟨gb246, 3, none⟩) (Kd.R_far (p := ⟨gb246, 2, none⟩) (Kd.R_far (p := ⟨gb246, 1, none⟩) (Kd.R_far (p := ⟨gb246, 0, none⟩) (Kd.R_types HO244.out BK246.out (by decide)) (fun _ hk => hk.2) (.int .i64 t239)) (fun _ hk => hk.2) (.int .i64 t240)) (fun _ hk => hk.2) (.int .i64 t241)) (fun _ hk => hk.2) (.slice Ao76 t242.length co76)) (fun _ h_ => h_.1))) hb); have n4_ := Aside0.mk (blk_below (g := gb213) (o := .cells #[.int .i64 t206, .int .i64 t207, .int .i64 t208, .slice Ao13 t209.length co13] 24 (0, 0)) (by (with_reducible repeat (first | refine blk_drewN ?_ _ | refine blk_drew ?_ | refine blk_alloc ?_ _)); refine blk_far ?_ NB213_246.out _; (with_reducible repeat (first | refine blk_drewN ?_ _ | refine blk_drew ?_ | refine blk_alloc ?_ _)); refine blk_far ?_ NB213_246.out _; (with_reducible repeat (first | refine blk_drewN ?_ _ | refine blk_drew ?_ | refine blk_alloc ?_ _)); refine blk_far ?_ NB213_246.out _; (with_reducible repeat (first | refine blk_drewN ?_ _ | refine blk_drew ?_ | refine blk_alloc ?_ _)); refine blk_far ?_ NB213_246.out _; (with_reducible repeat (first | refine blk_drewN ?_ _ | refine blk_drew ?_ | refine blk_alloc ?_ _)); exact BK213.out) hb); have n5_ := Aside0.mk (blk_below (g := gb224) (o := .cells #[.int .i64 t217, .int .i64 t218, .int .i64 t219, .slice Ao20 t220.length co20] 24 (0, 0)) (by (with_reducible repeat (first | refine blk_drewN ?_ _ | refine blk_drew ?_ | refine blk_alloc ?_ _)); refine blk_far ?_ NB224_246.out _; (with_reducible repeat (first | refine blk_drewN ?_ _ | refine blk_drew ?_ | refine blk_alloc ?_ _)); refine blk_far ?_ NB224_246.out _; (with_reducible repeat (first | refine blk_drewN ?_ _ | refine blk_drew ?_ | refine blk_alloc ?_ _)); refine blk_far ?_ NB224_246.out _; (with_reducible repeat (first | refine blk_drewN ?_ _ | refine blk_drew ?_ | refine blk_alloc ?_ _)); refine blk_far ?_ NB224_246.out _; (with_reducible repeat (first | refine blk_drewN ?_ _ | refine blk_drew ?_ | refine blk_alloc ?_ _)); exact BK224.out) hb); have n6_ := Aside0.mk (blk_below (g := gb246) (o := .cells #[.int .i64 t239, .int .i64 t240, .int .i64 t241, .slice Ao76 t242.length co76] 24 (0, 0)) (by (with_reducible repeat (first | refine blk_drewN ?_ _ | refine blk_drew ?_ | refine blk_alloc ?_ _)); refine blk_put (cs := #[.int .i64 t239, .int .i64 t240, .int .i64 t241, .slice none 0 0]) ?_ 3 _ rfl; (with_reducible repeat (first | refine blk_drewN ?_ _ | refine blk_drew ?_ | refine blk_alloc ?_ _)); refine blk_put (cs := #[.int .i64 t239, .int .i64 t240, .int .i64 0, .slice none 0 0]) ?_ 2 _ rfl; (with_reducible repeat (first | refine blk_drewN ?_ _ | refine blk_drew ?_ | refine blk_alloc ?_ _)); refine blk_put (cs := #[.int .i64 t239, .int .i64 0, .int .i64 0, .slice none 0 0]) ?_ 1 _ rfl; (with_reducible repeat (first | refine blk_drewN ?_ _ | refine blk_drew ?_ | refine blk_alloc ?_ _)); refine blk_put (cs := #[.int .i64 0, .int .i64 0, .int .i64 0, .slice none 0 0]) ?_ 0 _ rfl; (with_reducible repeat (first | refine blk_drewN ?_ _ | refine blk_drew ?_ | refine blk_alloc ?_ _)); exact BK246.out) hb); have n7_ := Aside0.mk (below_step (by repeat (first | (with_reducible first | exact HB.out | apply below_alloc | apply pw_below_drewN | apply below_drew1 | refine below_set ?_ GE213.out | refine below_set ?_ GE224.out | refine below_set ?_ GE246.out) | exact HB.out)) hb); clear HO_214003; clear HO_225003; clear HO238; clear HO244; clear BK213; clear BK224; clear BK246; clear HB; have HO_214003 := n0_; have HO_225003 := n1_; have HO238 := n2_; have HO244 := n3_; have BK213 := n4_; have BK224 := n5_; have BK246 := n6_; have HB := n7_; clear n0_ n1_ n2_ n3_ n4_ n5_ n6_ n7_; (try clear hb); (try clear hb2); (try clear hk); (try clear hi)))
                          go_meet
                          case rel => exact ⟨_, (true), (by first | rfl | (simp; done) | (simp [*]; done)), H', ⟨by have := HJ6.out; have := HJ35.out; first | omega | exact Nat.le_refl _⟩, ⟨by (with_reducible repeat (first | apply Kd.R_alloc | apply Kd.R_drewN | apply Kd.R_drew)); exact Kd.R_mono HO_214003.out (fun _ hk => ⟨hk.1.1, hk.2⟩)⟩, ⟨by (with_reducible repeat (first | apply Kd.R_alloc | apply Kd.R_drewN | apply Kd.R_drew)); exact Kd.R_mono HO_225003.out (fun _ hk => ⟨hk.1.1, hk.2⟩)⟩, ⟨by (with_reducible repeat (first | apply Kd.R_alloc | apply Kd.R_drewN | apply Kd.R_drew)); exact Kd.R_mono HO244.out (fun _ hk => ⟨hk.1.1.2, hk.1.2⟩)⟩, ⟨by (with_reducible repeat (first | refine blk_drewN ?_ _ | refine blk_drew ?_ | refine blk_alloc ?_ _)); exact BK213.out⟩, ⟨by (with_reducible repeat (first | refine blk_drewN ?_ _ | refine blk_drew ?_ | refine blk_alloc ?_ _)); exact BK224.out⟩, ⟨by (with_reducible repeat (first | refine blk_drewN ?_ _ | refine blk_drew ?_ | refine blk_alloc ?_ _)); exact BK246.out⟩, ⟨by repeat (first | (with_reducible first | exact HB.out | apply below_alloc | apply pw_below_drewN | apply below_drew1 | refine below_set ?_ GE213.out | refine below_set ?_ GE224.out | refine below_set ?_ GE246.out) | exact HB.out)⟩⟩
                      case rest =>
                        clear HC63
                        try clear c1
                        try clear c2
                        try clear c2b0
                        try clear c2b1
                        try clear p2
                        try clear c3
                        try clear c4
                        try clear c5
                        try clear c6
                        try clear c7
                        try clear c8
                        try clear c13
                        try clear c14
                        try clear c15
                        try clear c16
                        try clear c17
                        try clear c18
                        try clear c19
                        try clear c20
                        try clear c22
                        try clear c23
                        try clear c27
                        try clear c31
                        try clear c34
                        try clear c40
                        try clear c40b0
                        try clear c42
                        try clear c43
                        try clear c47
                        try clear c51
                        try clear c54
                        try clear c54b0
                        try clear c55
                        try clear c60
                        try clear c60b0
                        try clear c60b1
                        try clear c64
                        try clear c73
                        try clear c74
                        try clear c78
                        try clear c79
                        try clear c80
                        try clear c82
                        try clear c85
                        try clear c86
                        try clear c88
                        try clear hcz12_0
                        try clear hcz12_1
                        try clear hcz12_2
                        try clear hcz12_3
                        try clear hcz19_0
                        try clear hcz19_1
                        try clear hcz19_2
                        try clear hcz19_3
                        try clear hcz24_0
                        try clear hcz24_1
                        try clear hcz24_2
                        try clear hcz24_3
                        try clear hcz25_0
                        try clear hcz25_1
                        try clear hcz25_2
                        try clear hcz25_3
                        try clear hcz28_0
                        try clear hcz28_1
                        try clear hcz28_2
                        try clear hcz28_3
                        try clear hcz29_0
                        try clear hcz29_1
                        try clear hcz29_2
                        try clear hcz29_3
                        try clear hcz44_0
                        try clear hcz44_1
                        try clear hcz44_2
                        try clear hcz44_3
                        try clear hcz45_0
                        try clear hcz45_1
                        try clear hcz45_2
                        try clear hcz45_3
                        try clear hcz48_0
                        try clear hcz48_1
                        try clear hcz48_2
                        try clear hcz48_3
                        try clear hcz49_0
                        try clear hcz49_1
                        try clear hcz49_2
                        try clear hcz49_3
                        try clear hcz56_0
                        try clear hcz56_1
                        try clear hcz56_2
                        try clear hcz56_3
                        try clear hcz58_0
                        try clear hcz58_1
                        try clear hcz58_2
                        try clear hcz58_3
                        try clear hcz65_0
                        try clear hcz65_1
                        try clear hcz65_2
                        try clear hcz65_3
                        try clear hcz67_0
                        try clear hcz67_1
                        try clear hcz67_2
                        try clear hcz67_3
                        try clear hcz75_0
                        try clear hcz75_1
                        try clear hcz75_2
                        try clear hcz75_3
                        try clear hcz81_0
                        try clear hcz81_1
                        try clear hcz81_2
                        try clear hcz81_3
                        try clear hcz83_0
                        try clear hcz83_1
                        try clear hcz83_2
                        try clear hcz83_3
                        try clear hcz87_0
                        try clear hcz87_1
                        try clear hcz87_2
                        try clear hcz87_3
                        try clear hcz89_0
                        try clear hcz89_1
                        try clear hcz89_2
                        try clear hcz89_3
                        try clear hfz12_0
                        try clear hfz12_1
                        try clear hfz12_2
                        try clear hfz12_3
                        try clear hfz19_0
                        try clear hfz19_1
                        try clear hfz19_2
                        try clear hfz19_3
                        try clear hfz24_0
                        try clear hfz24_1
                        try clear hfz24_2
                        try clear hfz24_3
                        try clear hfz25_0
                        try clear hfz25_1
                        try clear hfz25_2
                        try clear hfz25_3
                        try clear hfz28_0
                        try clear hfz28_1
                        try clear hfz28_2
                        try clear hfz28_3
                        try clear hfz29_0
                        try clear hfz29_1
                        try clear hfz29_2
                        try clear hfz29_3
                        try clear hfz44_0
                        try clear hfz44_1
                        try clear hfz44_2
                        try clear hfz44_3
                        try clear hfz45_0
                        try clear hfz45_1
                        try clear hfz45_2
                        try clear hfz45_3
                        try clear hfz48_0
                        try clear hfz48_1
                        try clear hfz48_2
                        try clear hfz48_3
                        try clear hfz49_0
                        try clear hfz49_1
                        try clear hfz49_2
                        try clear hfz49_3
                        try clear hfz56_0
                        try clear hfz56_1
                        try clear hfz56_2
                        try clear hfz56_3
                        try clear hfz58_0
                        try clear hfz58_1
                        try clear hfz58_2
                        try clear hfz58_3
                        try clear hfz65_0
                        try clear hfz65_1
                        try clear hfz65_2
                        try clear hfz65_3
                        try clear hfz67_0
                        try clear hfz67_1
                        try clear hfz67_2
                        try clear hfz67_3
                        try clear hfz75_0
                        try clear hfz75_1
                        try clear hfz75_2
                        try clear hfz75_3
                        try clear hfz81_0
                        try clear hfz81_1
                        try clear hfz81_2
                        try clear hfz81_3
                        try clear hfz83_0
                        try clear hfz83_1
                        try clear hfz83_2
                        try clear hfz83_3
                        try clear hfz87_0
                        try clear hfz87_1
                        try clear hfz87_2
                        try clear hfz87_3
                        try clear hfz89_0
                        try clear hfz89_1
                        try clear hfz89_2
                        try clear hfz89_3
                        try clear p2
                        obtain ⟨kq, x84_62, rfl, HA, HJ62, HO_214003, HO_225003, HO_247003, BK213, BK224, BK246, HB⟩ := hcut
                        have hl225003_62 := (Kd.R_reads' HO_225003.out).1
                        rw [hl225003_62] at HO_225003
                        (try simp only [hl225003_62])
                        (try simp only [hl225003_62] at BK213)
                        (try simp only [hl225003_62] at BK224)
                        (try simp only [hl225003_62] at BK246)
                        (try simp only [hl225003_62] at HO_214003)
                        (try simp only [hl225003_62] at HO_247003)
                        cases kq with
                        | zero => exact absurd HA.out (by simp [laws_FnExactFrameFrom.j2])
                        | succ kj62 =>
                          have H := HA.out
                          clear HA
                          simp only [laws_FnExactFrameFrom.j2] at H
                          by_cases c91 : x84_62 = true
                          · subst c91
                            have H1 : (some false) = some r := by rw [if_pos rfl] at H; exact H
                            clear H
                            have H := H1
                            clear H1
                            obtain rfl := Option.some.inj H
                            go_wp2
                            go_ret
                            exact ⟨by first | rfl | (simp [errW_none, errW_some] <;> rfl) | (simp [*, errW_none, errW_some] <;> rfl), by repeat (first | (with_reducible first | exact HB.out | apply below_alloc | apply pw_below_drewN | apply below_drew1 | refine below_set ?_ GE213.out | refine below_set ?_ GE224.out | refine below_set ?_ GE246.out) | exact HB.out)⟩
                          · replace c91 := Bool.eq_false_iff.mpr c91
                            subst c91
                            have H1 : ((laws_heldFrame.f kj62 t217 t218 t219 t234 1).bind fun t248 => (if t248 < 0 then (some false) else (if t248 = t233 then (some true) else (some false)))) = some r := by rw [if_neg (show ¬ (false = true) by decide)] at H; exact H
                            clear H
                            have H := H1
                            clear H1
                            replace H := Option.bind_eq_some_iff.mp H
                            obtain ⟨t248, A920, H⟩ := H
                            replace H : (if t248 < 0 then (some false) else (if t248 = t233 then (some true) else (some false))) = some r := H
                            have A92 := Aside0.mk A920
                            clear A920
                            by_cases c93 : t248 < 0
                            · rw [if_pos c93] at H
                              have c93b0 : decide (t248 < 0) = true := decide_eq_true c93
                              clear c93
                              obtain rfl := Option.some.inj H
                              have hnb94 := NB224_213.out
                              have hnc94 := NB213_224.out
                              have hnb95 := NB224_246.out
                              have hnc95 := NB246_224.out
                              have hcz96_0 : wc.cell? ⟨gb224, 0, none⟩ = some (.int .i64 t217) := (blk_cell BK224.out 0).trans rfl
                              have hcz96_1 : wc.cell? ⟨gb224, 1, none⟩ = some (.int .i64 t218) := (blk_cell BK224.out 1).trans rfl
                              have hcz96_2 : wc.cell? ⟨gb224, 2, none⟩ = some (.int .i64 t219) := (blk_cell BK224.out 2).trans rfl
                              have hcz96_3 : wc.cell? ⟨gb224, 3, none⟩ = some (.slice Ao20 t234.length co20) := (blk_cell BK224.out 3).trans rfl
                              have hfz96_0 := blk_frozen BK224.out 0
                              have hfz96_1 := blk_frozen BK224.out 1
                              have hfz96_2 := blk_frozen BK224.out 2
                              have hfz96_3 := blk_frozen BK224.out 3
                              go_wp2_with (first | ((with_reducible refine gate_callee (f := 20) rfl ?_); refine goesL_ (some 87) rfl rfl Try.func20 (by kernel_rfl) rfl #[.agg #[.int .i64 t217, .int .i64 t218, .int .i64 t219, .slice Ao20 t234.length co20], .int .i64 1] rfl (by (try simp only [List.map_toArray, List.map_cons, List.map_nil]); first | done | rfl | (simp only [List.length_drop, List.length_take]; rfl)) ?_; (with_reducible refine (laws_heldFrame.calls kj62 t217 t218 t219 _ _ t234 1 t248 _ ?side1 ?side2 A92.out).mono ?_); (case side1 => repeat (first | exact (Kd.R_reads' HO_225003.out).2.2 | (with_reducible refine Kd.C_alloc ?_ _) | (with_reducible refine Kd.C_drewN ?_ _) | (with_reducible refine Kd.C_drew ?_))); (case side2 => exact (Kd.R_reads' HO_225003.out).2.1); rintro e w97 ⟨rfl, hb⟩; refine ⟨_, rfl, ?_⟩; have n0_ := Aside0.mk (Kd.R_below (by (with_reducible repeat (first | apply Kd.R_alloc | apply Kd.R_drewN | apply Kd.R_drew)); exact HO_214003.out) hb); have n1_ := Aside0.mk (Kd.R_below (by (with_reducible repeat (first | apply Kd.R_alloc | apply Kd.R_drewN | apply Kd.R_drew)); exact HO_225003.out) hb); have n2_ := Aside0.mk (Kd.R_below (by (with_reducible repeat (first | apply Kd.R_alloc | apply Kd.R_drewN | apply Kd.R_drew)); exact HO_247003.out) hb); have n3_ := Aside0.mk (blk_below (g := gb213) (o := .cells #[.int .i64 t206, .int .i64 t207, .int .i64 t208, .slice Ao13 t209.length co13] 24 (0, 0)) (by (with_reducible repeat (first | refine blk_drewN ?_ _ | refine blk_drew ?_ | refine blk_alloc ?_ _)); exact BK213.out) hb); have n4_ := Aside0.mk (blk_below (g := gb224) (o := .cells #[.int .i64 t217, .int .i64 t218, .int .i64 t219, .slice Ao20 t234.length co20] 24 (0, 0)) (by (with_reducible repeat (first | refine blk_drewN ?_ _ | refine blk_drew ?_ | refine blk_alloc ?_ _)); exact BK224.out) hb); have n5_ := Aside0.mk (blk_below (g := gb246) (o := .cells #[.int .i64 t239, .int .i64 t240, .int .i64 t241, .slice Ao76 t242.length co76] 24 (0, 0)) (by (with_reducible repeat (first | refine blk_drewN ?_ _ | refine blk_drew ?_ | refine blk_alloc ?_ _)); exact BK246.out) hb); have n6_ := Aside0.mk (below_step (by repeat (first | (with_reducible first | exact HB.out | apply below_alloc | apply pw_below_drewN | apply below_drew1 | refine below_set ?_ GE213.out | refine below_set ?_ GE224.out | refine below_set ?_ GE246.out) | exact HB.out)) hb); clear HO_214003; clear HO_225003; clear HO_247003; clear BK213; clear BK224; clear BK246; clear HB; have HO_214003 := n0_; have HO_225003 := n1_; have HO_247003 := n2_; have BK213 := n3_; have BK224 := n4_; have BK246 := n5_; have HB := n6_; clear n0_ n1_ n2_ n3_ n4_ n5_ n6_; (try clear hb); (try clear hb2); (try clear hk); (try clear hi)))
                              go_ret
                              exact ⟨by first | rfl | (simp [errW_none, errW_some] <;> rfl) | (simp [*, errW_none, errW_some] <;> rfl), by repeat (first | (with_reducible first | exact HB.out | apply below_alloc | apply pw_below_drewN | apply below_drew1 | refine below_set ?_ GE213.out | refine below_set ?_ GE224.out | refine below_set ?_ GE246.out) | exact HB.out)⟩
                            · rw [if_neg c93] at H
                              have c93b0 : decide (t248 < 0) = false := decide_eq_false c93
                              clear c93
                              by_cases c98 : t248 = t233
                              · rw [if_pos c98] at H
                                have c98b0 : (t248 == t233) = true := beq_iff_eq.mpr c98
                                have c98b1 : (t248 != t233) = false := bne_eq_false_iff_eq.mpr c98
                                clear c98
                                obtain rfl := Option.some.inj H
                                have hnb99 := NB224_213.out
                                have hnc99 := NB213_224.out
                                have hnb100 := NB224_246.out
                                have hnc100 := NB246_224.out
                                have hcz101_0 : wc.cell? ⟨gb224, 0, none⟩ = some (.int .i64 t217) := (blk_cell BK224.out 0).trans rfl
                                have hcz101_1 : wc.cell? ⟨gb224, 1, none⟩ = some (.int .i64 t218) := (blk_cell BK224.out 1).trans rfl
                                have hcz101_2 : wc.cell? ⟨gb224, 2, none⟩ = some (.int .i64 t219) := (blk_cell BK224.out 2).trans rfl
                                have hcz101_3 : wc.cell? ⟨gb224, 3, none⟩ = some (.slice Ao20 t234.length co20) := (blk_cell BK224.out 3).trans rfl
                                have hfz101_0 := blk_frozen BK224.out 0
                                have hfz101_1 := blk_frozen BK224.out 1
                                have hfz101_2 := blk_frozen BK224.out 2
                                have hfz101_3 := blk_frozen BK224.out 3
                                go_wp2_with (first | ((with_reducible refine gate_callee (f := 20) rfl ?_); refine goesL_ (some 87) rfl rfl Try.func20 (by kernel_rfl) rfl #[.agg #[.int .i64 t217, .int .i64 t218, .int .i64 t219, .slice Ao20 t234.length co20], .int .i64 1] rfl (by (try simp only [List.map_toArray, List.map_cons, List.map_nil]); first | done | rfl | (simp only [List.length_drop, List.length_take]; rfl)) ?_; (with_reducible refine (laws_heldFrame.calls kj62 t217 t218 t219 _ _ t234 1 t248 _ ?side1 ?side2 A92.out).mono ?_); (case side1 => repeat (first | exact (Kd.R_reads' HO_225003.out).2.2 | (with_reducible refine Kd.C_alloc ?_ _) | (with_reducible refine Kd.C_drewN ?_ _) | (with_reducible refine Kd.C_drew ?_))); (case side2 => exact (Kd.R_reads' HO_225003.out).2.1); rintro e w102 ⟨rfl, hb⟩; refine ⟨_, rfl, ?_⟩; have n0_ := Aside0.mk (Kd.R_below (by (with_reducible repeat (first | apply Kd.R_alloc | apply Kd.R_drewN | apply Kd.R_drew)); exact HO_214003.out) hb); have n1_ := Aside0.mk (Kd.R_below (by (with_reducible repeat (first | apply Kd.R_alloc | apply Kd.R_drewN | apply Kd.R_drew)); exact HO_225003.out) hb); have n2_ := Aside0.mk (Kd.R_below (by (with_reducible repeat (first | apply Kd.R_alloc | apply Kd.R_drewN | apply Kd.R_drew)); exact HO_247003.out) hb); have n3_ := Aside0.mk (blk_below (g := gb213) (o := .cells #[.int .i64 t206, .int .i64 t207, .int .i64 t208, .slice Ao13 t209.length co13] 24 (0, 0)) (by (with_reducible repeat (first | refine blk_drewN ?_ _ | refine blk_drew ?_ | refine blk_alloc ?_ _)); exact BK213.out) hb); have n4_ := Aside0.mk (blk_below (g := gb224) (o := .cells #[.int .i64 t217, .int .i64 t218, .int .i64 t219, .slice Ao20 t234.length co20] 24 (0, 0)) (by (with_reducible repeat (first | refine blk_drewN ?_ _ | refine blk_drew ?_ | refine blk_alloc ?_ _)); exact BK224.out) hb); have n5_ := Aside0.mk (blk_below (g := gb246) (o := .cells #[.int .i64 t239, .int .i64 t240, .int .i64 t241, .slice Ao76 t242.length co76] 24 (0, 0)) (by (with_reducible repeat (first | refine blk_drewN ?_ _ | refine blk_drew ?_ | refine blk_alloc ?_ _)); exact BK246.out) hb); have n6_ := Aside0.mk (below_step (by repeat (first | (with_reducible first | exact HB.out | apply below_alloc | apply pw_below_drewN | apply below_drew1 | refine below_set ?_ GE213.out | refine below_set ?_ GE224.out | refine below_set ?_ GE246.out) | exact HB.out)) hb); clear HO_214003; clear HO_225003; clear HO_247003; clear BK213; clear BK224; clear BK246; clear HB; have HO_214003 := n0_; have HO_225003 := n1_; have HO_247003 := n2_; have BK213 := n3_; have BK224 := n4_; have BK246 := n5_; have HB := n6_; clear n0_ n1_ n2_ n3_ n4_ n5_ n6_; (try clear hb); (try clear hb2); (try clear hk); (try clear hi)))
                                go_ret
                                exact ⟨by first | rfl | (simp [errW_none, errW_some] <;> rfl) | (simp [*, errW_none, errW_some] <;> rfl), by repeat (first | (with_reducible first | exact HB.out | apply below_alloc | apply pw_below_drewN | apply below_drew1 | refine below_set ?_ GE213.out | refine below_set ?_ GE224.out | refine below_set ?_ GE246.out) | exact HB.out)⟩
                              · rw [if_neg c98] at H
                                have c98b0 : (t248 == t233) = false := beq_eq_false_iff_ne.mpr c98
                                have c98b1 : (t248 != t233) = true := bne_iff_ne.mpr c98
                                obtain rfl := Option.some.inj H
                                have hnb103 := NB224_213.out
                                have hnc103 := NB213_224.out
                                have hnb104 := NB224_246.out
                                have hnc104 := NB246_224.out
                                have hcz105_0 : wc.cell? ⟨gb224, 0, none⟩ = some (.int .i64 t217) := (blk_cell BK224.out 0).trans rfl
                                have hcz105_1 : wc.cell? ⟨gb224, 1, none⟩ = some (.int .i64 t218) := (blk_cell BK224.out 1).trans rfl
                                have hcz105_2 : wc.cell? ⟨gb224, 2, none⟩ = some (.int .i64 t219) := (blk_cell BK224.out 2).trans rfl
                                have hcz105_3 : wc.cell? ⟨gb224, 3, none⟩ = some (.slice Ao20 t234.length co20) := (blk_cell BK224.out 3).trans rfl
                                have hfz105_0 := blk_frozen BK224.out 0
                                have hfz105_1 := blk_frozen BK224.out 1
                                have hfz105_2 := blk_frozen BK224.out 2
                                have hfz105_3 := blk_frozen BK224.out 3
                                go_wp2_with (first | ((with_reducible refine gate_callee (f := 20) rfl ?_); refine goesL_ (some 87) rfl rfl Try.func20 (by kernel_rfl) rfl #[.agg #[.int .i64 t217, .int .i64 t218, .int .i64 t219, .slice Ao20 t234.length co20], .int .i64 1] rfl (by (try simp only [List.map_toArray, List.map_cons, List.map_nil]); first | done | rfl | (simp only [List.length_drop, List.length_take]; rfl)) ?_; (with_reducible refine (laws_heldFrame.calls kj62 t217 t218 t219 _ _ t234 1 t248 _ ?side1 ?side2 A92.out).mono ?_); (case side1 => repeat (first | exact (Kd.R_reads' HO_225003.out).2.2 | (with_reducible refine Kd.C_alloc ?_ _) | (with_reducible refine Kd.C_drewN ?_ _) | (with_reducible refine Kd.C_drew ?_))); (case side2 => exact (Kd.R_reads' HO_225003.out).2.1); rintro e w106 ⟨rfl, hb⟩; refine ⟨_, rfl, ?_⟩; have n0_ := Aside0.mk (Kd.R_below (by (with_reducible repeat (first | apply Kd.R_alloc | apply Kd.R_drewN | apply Kd.R_drew)); exact HO_214003.out) hb); have n1_ := Aside0.mk (Kd.R_below (by (with_reducible repeat (first | apply Kd.R_alloc | apply Kd.R_drewN | apply Kd.R_drew)); exact HO_225003.out) hb); have n2_ := Aside0.mk (Kd.R_below (by (with_reducible repeat (first | apply Kd.R_alloc | apply Kd.R_drewN | apply Kd.R_drew)); exact HO_247003.out) hb); have n3_ := Aside0.mk (blk_below (g := gb213) (o := .cells #[.int .i64 t206, .int .i64 t207, .int .i64 t208, .slice Ao13 t209.length co13] 24 (0, 0)) (by (with_reducible repeat (first | refine blk_drewN ?_ _ | refine blk_drew ?_ | refine blk_alloc ?_ _)); exact BK213.out) hb); have n4_ := Aside0.mk (blk_below (g := gb224) (o := .cells #[.int .i64 t217, .int .i64 t218, .int .i64 t219, .slice Ao20 t234.length co20] 24 (0, 0)) (by (with_reducible repeat (first | refine blk_drewN ?_ _ | refine blk_drew ?_ | refine blk_alloc ?_ _)); exact BK224.out) hb); have n5_ := Aside0.mk (blk_below (g := gb246) (o := .cells #[.int .i64 t239, .int .i64 t240, .int .i64 t241, .slice Ao76 t242.length co76] 24 (0, 0)) (by (with_reducible repeat (first | refine blk_drewN ?_ _ | refine blk_drew ?_ | refine blk_alloc ?_ _)); exact BK246.out) hb); have n6_ := Aside0.mk (below_step (by repeat (first | (with_reducible first | exact HB.out | apply below_alloc | apply pw_below_drewN | apply below_drew1 | refine below_set ?_ GE213.out | refine below_set ?_ GE224.out | refine below_set ?_ GE246.out) | exact HB.out)) hb); clear HO_214003; clear HO_225003; clear HO_247003; clear BK213; clear BK224; clear BK246; clear HB; have HO_214003 := n0_; have HO_225003 := n1_; have HO_247003 := n2_; have BK213 := n3_; have BK224 := n4_; have BK246 := n5_; have HB := n6_; clear n0_ n1_ n2_ n3_ n4_ n5_ n6_; (try clear hb); (try clear hb2); (try clear hk); (try clear hi)))
                                go_ret
                                exact ⟨by first | rfl | (simp [errW_none, errW_some] <;> rfl) | (simp [*, errW_none, errW_some] <;> rfl), by repeat (first | (with_reducible first | exact HB.out | apply below_alloc | apply pw_below_drewN | apply below_drew1 | refine below_set ?_ GE213.out | refine below_set ?_ GE224.out | refine below_set ?_ GE246.out) | exact HB.out)⟩
                    · rw [if_neg c60] at H
                      have c60b0 : (t235 == t233) = false := beq_eq_false_iff_ne.mpr c60
                      have c60b1 : (t235 != t233) = true := bne_iff_ne.mpr c60
                      obtain rfl := Option.some.inj H
                      have hnb107 := NB224_213.out
                      have hnc107 := NB213_224.out
                      have hcz108_0 : wc.cell? ⟨gb224, 0, none⟩ = some (.int .i64 t217) := (blk_cell BK224.out 0).trans rfl
                      have hcz108_1 : wc.cell? ⟨gb224, 1, none⟩ = some (.int .i64 t218) := (blk_cell BK224.out 1).trans rfl
                      have hcz108_2 : wc.cell? ⟨gb224, 2, none⟩ = some (.int .i64 t219) := (blk_cell BK224.out 2).trans rfl
                      have hcz108_3 : wc.cell? ⟨gb224, 3, none⟩ = some (.slice Ao20 t220.length co20) := (blk_cell BK224.out 3).trans rfl
                      have hfz108_0 := blk_frozen BK224.out 0
                      have hfz108_1 := blk_frozen BK224.out 1
                      have hfz108_2 := blk_frozen BK224.out 2
                      have hfz108_3 := blk_frozen BK224.out 3
                      go_wp2_with (first | ((with_reducible refine gate_callee (f := 19) rfl ?_); refine goesL_ (some 61) rfl rfl Try.func19 (by kernel_rfl) rfl #[.agg #[.int .i64 t217, .int .i64 t218, .int .i64 t219, .slice Ao20 t220.length co20], .int .i64 1] rfl (by (try simp only [List.map_toArray, List.map_cons, List.map_nil]); first | done | rfl | (simp only [List.length_drop, List.length_take]; rfl)) ?_; (with_reducible refine (laws_markFrame.calls kj35 t217 t218 t219 (fun k_ => some k_ = (.slice Ao20 t220.length co20 : Value).ownBlock) (.slice Ao20 t220.length co20) t220 1 t233 t234 w _ ?side1 ?side2 A52.out).mono ?_); (case side1 => repeat (first | (with_reducible first | exact HB.out | apply below_alloc | apply pw_below_drewN | apply below_drew1 | refine below_set ?_ GE213.out | refine below_set ?_ GE224.out) | exact HB.out)); (case side2 => exact Kd.R_tight rfl HO_225003.out); rintro e w109 ⟨rfl, hy0, hb, hkp⟩; refine ⟨_, rfl, ?_⟩; have n0_ := Aside0.mk (Kd.R_mono (ok' := fun k_ => some k_ ≠ (.slice Ao20 t220.length co20 : Value).ownBlock) (Kd.R_keptB (HO_214003.out) hkp (fun k_ hk_ hs_ => (hk_) hs_)) (fun k_ hk_ => hk_.1)); have n1_ := Aside0.mk (Kd.R_reok rfl hy0 (fun k_ e_ => HO_225003.out.1 k_ e_)); have n2_ := Aside0.mk (blk_kept (by (with_reducible repeat (first | refine blk_drewN ?_ _ | refine blk_drew ?_ | refine blk_alloc ?_ _)); exact BK213.out) hkp (fun hs_ => (fun e_ => (Kd.R_ne HO_225003.out BK213.out (by decide)) e_) hs_)); have n3_ := Aside0.mk (blk_kept (by (with_reducible repeat (first | refine blk_drewN ?_ _ | refine blk_drew ?_ | refine blk_alloc ?_ _)); exact BK224.out) hkp (fun hs_ => (fun e_ => (Kd.R_ne HO_225003.out BK224.out (by decide)) e_) hs_)); have n4_ := Aside0.mk (hb); clear HO_214003; clear HO_225003; clear BK213; clear BK224; clear HB; have HO_214003 := n0_; have HO_225003 := n1_; have BK213 := n2_; have BK224 := n3_; have HB := n4_; clear n0_ n1_ n2_ n3_ n4_; (try clear hb); (try clear hkp); (try clear hy0); have hcz110_0 : w109.cell? ⟨gb224, 0, none⟩ = some (.int .i64 t217) := (blk_cell BK224.out 0).trans rfl; have hcz110_1 : w109.cell? ⟨gb224, 1, none⟩ = some (.int .i64 t218) := (blk_cell BK224.out 1).trans rfl; have hcz110_2 : w109.cell? ⟨gb224, 2, none⟩ = some (.int .i64 t219) := (blk_cell BK224.out 2).trans rfl; have hcz110_3 : w109.cell? ⟨gb224, 3, none⟩ = some (.slice Ao20 t220.length co20) := (blk_cell BK224.out 3).trans rfl; have hfz110_0 := blk_frozen BK224.out 0; have hfz110_1 := blk_frozen BK224.out 1; have hfz110_2 := blk_frozen BK224.out 2; have hfz110_3 := blk_frozen BK224.out 3) | ((with_reducible refine gate_callee (f := 20) rfl ?_); refine goesL_ (some 64) rfl rfl Try.func20 (by kernel_rfl) rfl #[.agg #[.int .i64 t217, .int .i64 t218, .int .i64 t219, .slice Ao20 t234.length co20], .int .i64 1] rfl (by (try simp only [List.map_toArray, List.map_cons, List.map_nil]); first | done | (rw [show t234.length = t220.length from (Kd.R_reads' HO_225003.out).1.symm] <;> rfl) | rfl | (simp only [List.length_drop, List.length_take]; rfl)) ?_; (with_reducible refine (laws_heldFrame.calls kj35 t217 t218 t219 _ _ t234 1 t235 _ ?side1 ?side2 A53.out).mono ?_); (case side1 => repeat (first | exact (Kd.R_reads' HO_225003.out).2.2 | (with_reducible refine Kd.C_alloc ?_ _) | (with_reducible refine Kd.C_drewN ?_ _) | (with_reducible refine Kd.C_drew ?_))); (case side2 => rw [show t234.length = t220.length from (Kd.R_reads' HO_225003.out).1.symm]; exact (Kd.R_reads' HO_225003.out).2.1); rintro e w111 ⟨rfl, hb⟩; refine ⟨_, rfl, ?_⟩; have n0_ := Aside0.mk (Kd.R_below (by (with_reducible repeat (first | apply Kd.R_alloc | apply Kd.R_drewN | apply Kd.R_drew)); exact HO_214003.out) hb); have n1_ := Aside0.mk (Kd.R_below (by (with_reducible repeat (first | apply Kd.R_alloc | apply Kd.R_drewN | apply Kd.R_drew)); exact HO_225003.out) hb); have n2_ := Aside0.mk (blk_below (g := gb213) (o := .cells #[.int .i64 t206, .int .i64 t207, .int .i64 t208, .slice Ao13 t209.length co13] 24 (0, 0)) (by (with_reducible repeat (first | refine blk_drewN ?_ _ | refine blk_drew ?_ | refine blk_alloc ?_ _)); exact BK213.out) hb); have n3_ := Aside0.mk (blk_below (g := gb224) (o := .cells #[.int .i64 t217, .int .i64 t218, .int .i64 t219, .slice Ao20 t220.length co20] 24 (0, 0)) (by (with_reducible repeat (first | refine blk_drewN ?_ _ | refine blk_drew ?_ | refine blk_alloc ?_ _)); exact BK224.out) hb); have n4_ := Aside0.mk (below_step (by repeat (first | (with_reducible first | exact HB.out | apply below_alloc | apply pw_below_drewN | apply below_drew1 | refine below_set ?_ GE213.out | refine below_set ?_ GE224.out) | exact HB.out)) hb); clear HO_214003; clear HO_225003; clear BK213; clear BK224; clear HB; have HO_214003 := n0_; have HO_225003 := n1_; have BK213 := n2_; have BK224 := n3_; have HB := n4_; clear n0_ n1_ n2_ n3_ n4_; (try clear hb); (try clear hb2); (try clear hk); (try clear hi)))
                      go_ret
                      exact ⟨by first | rfl | (simp [errW_none, errW_some] <;> rfl) | (simp [*, errW_none, errW_some] <;> rfl), by repeat (first | (with_reducible first | exact HB.out | apply below_alloc | apply pw_below_drewN | apply below_drew1 | refine below_set ?_ GE213.out | refine below_set ?_ GE224.out) | exact HB.out)⟩
          · replace c34 := Bool.eq_false_iff.mpr c34
            subst c34
            have H1 : (some false) = some r := by rw [if_neg (show ¬ (false = true) by decide)] at H; exact H
            clear H
            have H := H1
            clear H1
            obtain rfl := Option.some.inj H
            go_wp2_with (first | ((with_reducible refine gate_callee (f := 14) rfl ?_); refine goesL_ (some 40) rfl rfl Try.func14 (by kernel_rfl) rfl #[.slice A0 l0.length c0] rfl (by (try simp only [List.map_toArray, List.map_cons, List.map_nil]); first | done | rfl | (simp only [List.length_drop, List.length_take]; rfl)) ?_; (with_reducible refine (laws_toByteS.calls kj6 _ _ l0 t226 _ ?side1 ?side2 A32.out).mono ?_); (case side1 => repeat (first | exact (Kd.C_below HR0.out HB.out) | (with_reducible refine Kd.C_alloc ?_ _) | (with_reducible refine Kd.C_drewN ?_ _) | (with_reducible refine Kd.C_drew ?_))); (case side2 => exact HC0.out); rintro e w112 ⟨v227, rfl, ho0, hb⟩; refine ⟨_, rfl, ?_⟩; have n0_ := Aside0.mk (Kd.R_elder' (by (with_reducible repeat (first | apply Kd.R_alloc | apply Kd.R_drewN | apply Kd.R_drew)); exact HO_5.out) (Kd.R_base ho0) hb); have n1_ := Aside0.mk (Kd.R_elder' (by (with_reducible repeat (first | apply Kd.R_alloc | apply Kd.R_drewN | apply Kd.R_drew)); exact HO_214003.out) (Kd.R_base ho0) hb); have n2_ := Aside0.mk (Kd.R_elder' (by (with_reducible repeat (first | apply Kd.R_alloc | apply Kd.R_drewN | apply Kd.R_drew)); exact HO_225003.out) (Kd.R_base ho0) hb); have n3_ := Aside0.mk (Kd.R_lower (Kd.R_new' (Kd.R_new' (Kd.R_new' ho0 (Kd.R_lt (by (with_reducible repeat (first | apply Kd.R_alloc | apply Kd.R_drewN | apply Kd.R_drew)); exact HO_5.out))) (Kd.R_lt (by (with_reducible repeat (first | apply Kd.R_alloc | apply Kd.R_drewN | apply Kd.R_drew)); exact HO_214003.out))) (Kd.R_lt (by (with_reducible repeat (first | apply Kd.R_alloc | apply Kd.R_drewN | apply Kd.R_drew)); exact HO_225003.out))) (below_size (by repeat (first | (with_reducible first | exact HB.out | apply below_alloc | apply pw_below_drewN | apply below_drew1 | refine below_set ?_ GE213.out | refine below_set ?_ GE224.out) | exact HB.out)))); have n4_ := Aside0.mk (blk_below (g := gb213) (o := .cells #[.int .i64 t206, .int .i64 t207, .int .i64 t208, .slice Ao13 t209.length co13] 24 (0, 0)) (by (with_reducible repeat (first | refine blk_drewN ?_ _ | refine blk_drew ?_ | refine blk_alloc ?_ _)); exact BK213.out) hb); have n5_ := Aside0.mk (blk_below (g := gb224) (o := .cells #[.int .i64 t217, .int .i64 t218, .int .i64 t219, .slice Ao20 t220.length co20] 24 (0, 0)) (by (with_reducible repeat (first | refine blk_drewN ?_ _ | refine blk_drew ?_ | refine blk_alloc ?_ _)); exact BK224.out) hb); have n6_ := Aside0.mk (below_step (by repeat (first | (with_reducible first | exact HB.out | apply below_alloc | apply pw_below_drewN | apply below_drew1 | refine below_set ?_ GE213.out | refine below_set ?_ GE224.out) | exact HB.out)) hb); clear HO_5; clear HO_214003; clear HO_225003; clear BK213; clear BK224; clear HB; have HO_5 := n0_; have HO_214003 := n1_; have HO_225003 := n2_; have HO228 := n3_; have BK213 := n4_; have BK224 := n5_; have HB := n6_; clear n0_ n1_ n2_ n3_ n4_ n5_ n6_; (try clear hb); (try clear hb2); (try clear hk); (try clear hi); (try clear ho0); obtain ⟨Ao113, co113, eo113⟩ := Kd.R_slice HO228.out; subst eo113) | ((with_reducible refine gate_callee (f := 17) rfl ?_); refine goesL_ (some 41) rfl rfl Try.func17 (by kernel_rfl) rfl #[.slice Ao15 t214.length co15, .slice Ao113 t226.length co113] rfl (by (try simp only [List.map_toArray, List.map_cons, List.map_nil]); first | done | rfl | (simp only [List.length_drop, List.length_take]; rfl)) ?_; (with_reducible refine (laws_eqByteS.calls kj6 _ _ t214 _ _ t226 false _ ?side1 ?side2 ?side3 ?side4 A33.out).mono ?_); (case side1 => repeat (first | exact (Kd.R_reads' HO_5.out).2.2 | (with_reducible refine Kd.C_alloc ?_ _) | (with_reducible refine Kd.C_drewN ?_ _) | (with_reducible refine Kd.C_drew ?_))); (case side2 => exact (Kd.R_reads' HO_5.out).2.1); (case side3 => repeat (first | exact (Kd.R_reads' HO228.out).2.2 | (with_reducible refine Kd.C_alloc ?_ _) | (with_reducible refine Kd.C_drewN ?_ _) | (with_reducible refine Kd.C_drew ?_))); (case side4 => exact (Kd.R_reads' HO228.out).2.1); rintro e w' ⟨rfl, ⟨nd, rfl⟩⟩; refine ⟨_, rfl, ?_⟩))
            go_ret
            exact ⟨by first | rfl | (simp [errW_none, errW_some] <;> rfl) | (simp [*, errW_none, errW_some] <;> rfl), by repeat (first | (with_reducible first | exact HB.out | apply below_alloc | apply pw_below_drewN | apply below_drew1 | refine below_set ?_ GE213.out | refine below_set ?_ GE224.out) | exact HB.out)⟩

/-- THE ONE PURE STATEMENT of laws_FnExactFrameFrom: yours. -/
def laws_FnExactFrameFrom.Pure : Prop := ∀ (l0 : List Int), l0.length ≤ maxLen → l0.length * 1 ≤ 140737488351232 → (∀ x ∈ l0, (Lit.int .u8 x).wf = true) → ∃ k, laws_FnExactFrameFrom.f k l0 = some true
theorem laws_FnExactFrameFrom.walk (P : laws_FnExactFrameFrom.Pure) (a0 : Option Addr) (len0 cap0 : Nat) (z0 : List Int) (w : World) (w0 : (a0 = none ∧ len0 = 0 ∧ cap0 = 0 ∧ z0 = []) ∨ ∃ x, a0 = some x ∧ len0 ≤ cap0 ∧ cap0 ≤ maxLen ∧ z0.length = cap0 ∧ (∀ i, i < z0.length → w.cell? (x.add i) = some (.int .u8 (z0.getD i 0))) ∧ ∀ n ∈ z0, (Lit.int .u8 n).wf = true) (y0 : len0 * 1 ≤ 140737488351232) :
    Calls Try.prog 3 #[.slice a0 len0 cap0] w fun e w' => e = .returned (.bool true) ∧ Below w.heap.size w w' := by
  obtain ⟨l0, rfl, hr0, hm0, hw0, hc0⟩ := ReadsInt.ofRowC w0
  obtain ⟨k, h⟩ := P l0 hm0 y0 hw0
  refine (laws_FnExactFrameFrom.calls k _ _ l0 true w (Kd.C_of_reads (d := (0 : Int)) (h1 := fun _ => rfl) hr0) hc0 h).mono ?_
  rintro e w' ⟨rfl, hd⟩
  exact ⟨rfl, hd⟩

end Go.Proofs.Ytbjfnpjkldfeiaa.PFnExactFrameFrom

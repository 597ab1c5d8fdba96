/- The machine side of some functions: each comes to its pure answer (written by a program of this session with the kit's print). No condition. -/
import Derived.Test.YtpoedefohfonjaaPFnRouteOkx0
import Derived.Test.YtpoedefohfonjaaPFnRouteOkx1
namespace Go.Proofs.Ytpoedefohfonjaa.PFnRouteOk
set_option hygiene false
local macro "zq1" : tactic => `(tactic| (first | (with_reducible first | exact HI0.out | apply IsS98.alloc | apply IsS98.drewN | apply IsS98.drew | apply IsS98.set_1 | refine IsS98.far ?_ NB0_106.out _) | exact HI0.out))
local macro "zq2" : tactic => `(tactic| (first | (with_reducible first | exact HI0.out | apply IsS98.alloc | apply IsS98.drewN | apply IsS98.drew | apply IsS98.set_1 | refine IsS98.far ?_ NB0_106.out _ | refine IsS98.far ?_ NB0_127.out _) | exact HI0.out))
local macro "zq3" : term => `((by repeat (first | (with_reducible first | exact HK.out | apply KeepBut.set_ | apply keep_drewN | apply keep_drew | apply keep_alloc | refine keep_far ?_ GW106.out _) | exact HK.out)))
local macro "zq4" : tactic => `(tactic| (first | refine blk_drewN ?_ _ | refine blk_drew ?_ | refine blk_alloc ?_ _))
local macro "zq5" : tactic => `(tactic| (simp only [Act.put, List.setIfInBounds_toArray, List.set_cons_zero, List.set_cons_succ, i64_w, i32_w]))
local macro "zq6" : tactic => `(tactic| (first | (with_reducible first | exact HB.out | apply below_alloc | apply pw_below_drewN | apply below_drew1 | refine below_set ?_ (IsS98.ge HI0.out) | refine below_set ?_ GE106.out) | exact HB.out))
local macro "zq7" : tactic => `(tactic| (first | (with_reducible first | exact HB.out | apply below_alloc | apply pw_below_drewN | apply below_drew1 | refine below_set ?_ (IsS98.ge HI0.out) | refine below_set ?_ GE106.out | refine below_set ?_ GE127.out) | exact HB.out))
local macro "zq8" : tactic => `(tactic| (first | apply Kd.R_alloc | apply Kd.R_drewN | apply Kd.R_drew))
local macro "zq9" : tactic => `(tactic| (first | (with_reducible first | exact HK.out | apply KeepBut.set_ | apply keep_drewN | apply keep_drew | apply keep_alloc | refine keep_far ?_ GW106.out _ | refine keep_far ?_ GW127.out _) | exact HK.out))
local macro "zq10" : term => `((by (try simp only [List.map_toArray, List.map_cons, List.map_nil]); first | done | rfl | (simp only [List.length_drop, List.length_take]; rfl)))
local macro "zq11" : term => `(((rd y117 t120) - (Int.tmod (rd y117 t120) (ji13))))
local macro "zq12" : term => `((if 0 ≤ bt112.1 then (if bt112.1 < (y109.length : Int) then ((spec_l20Rd_pick.f k s0_0 bt112.2 512).bind fun bt115 => ((some (([0, 4096, 4352, 4353, wrap64 (4096 + bt115.1), 65535] : List Int) : List Int)).bind fun y117 => ((spec_l20Rd_pick.f k s0_0 bt115.2 6).bind fun bt120 => (if 0 ≤ bt120.1 then (if bt120.1 < (y117.length : Int) then (if 0 ≤ (wrap64 (16 - (rd y109 bt112.1))) then (if (shl .i64 1 (wrap64 (16 - (rd y109 bt112.1)))) = 0 then (none) else ((spec_l20Rd_pick.f k s0_0 bt120.2 3).bind fun bt123 => ((spec_l20Rd_pick.f k s0_0 bt123.2 3).bind fun bt125 => ((spec_l20Rd_odd.f k s0_0 bt125.2 a1).bind fun bt128 => (if bt128.1 = true then ((spec_l20Rd_pick.f k s0_0 bt128.2 3).bind fun bt130 => (if bt130.1 = 0 then ((spec_l20Rd_pick.f k s0_0 bt130.2 2).bind fun bt132 => (some (wrap64 ((rd y117 bt120.1) - (Int.tmod (rd y117 bt120.1) (shl .i64 1 (wrap64 (16 - (rd y109 bt112.1)))))), wrap64 (17 - (wrap64 (bt132.1 * 18))), bt123.1, wrap64 (4 + (wrap64 (bt125.1 * 6))), bt132.2))) else (if bt130.1 = 1 then ((spec_l20Rd_pick.f k s0_0 bt130.2 2).bind fun bt134 => (some (wrap64 ((rd y117 bt120.1) - (Int.tmod (rd y117 bt120.1) (shl .i64 1 (wrap64 (16 - (rd y109 bt112.1)))))), rd y109 bt112.1, bt123.1, wrap64 (bt134.1 * 49), bt134.2))) else (some (wrap64 ((wrap64 ((rd y117 bt120.1) - (Int.tmod (rd y117 bt120.1) (shl .i64 1 (wrap64 (16 - (rd y109 bt112.1))))))) + 1), rd y109 bt112.1, bt123.1, wrap64 (4 + (wrap64 (bt125.1 * 6))), bt130.2))))) else (some (wrap64 ((rd y117 bt120.1) - (Int.tmod (rd y117 bt120.1) (shl .i64 1 (wrap64 (16 - (rd y109 bt112.1)))))), rd y109 bt112.1, bt123.1, wrap64 (4 + (wrap64 (bt125.1 * 6))), bt128.2))))))) else (none)) else (none)) else (none))))) else (none)) else (none)))
local macro "zq13" : term => `((if 0 ≤ bt120.1 then (if bt120.1 < (y117.length : Int) then (if 0 ≤ (wrap64 (16 - (rd y109 t112))) then (if (shl .i64 1 (wrap64 (16 - (rd y109 t112)))) = 0 then (none) else ((spec_l20Rd_pick.f k s0_0 bt120.2 3).bind fun bt123 => ((spec_l20Rd_pick.f k s0_0 bt123.2 3).bind fun bt125 => ((spec_l20Rd_odd.f k s0_0 bt125.2 a1).bind fun bt128 => (if bt128.1 = true then ((spec_l20Rd_pick.f k s0_0 bt128.2 3).bind fun bt130 => (if bt130.1 = 0 then ((spec_l20Rd_pick.f k s0_0 bt130.2 2).bind fun bt132 => (some (wrap64 ((rd y117 bt120.1) - (Int.tmod (rd y117 bt120.1) (shl .i64 1 (wrap64 (16 - (rd y109 t112)))))), wrap64 (17 - (wrap64 (bt132.1 * 18))), bt123.1, wrap64 (4 + (wrap64 (bt125.1 * 6))), bt132.2))) else (if bt130.1 = 1 then ((spec_l20Rd_pick.f k s0_0 bt130.2 2).bind fun bt134 => (some (wrap64 ((rd y117 bt120.1) - (Int.tmod (rd y117 bt120.1) (shl .i64 1 (wrap64 (16 - (rd y109 t112)))))), rd y109 t112, bt123.1, wrap64 (bt134.1 * 49), bt134.2))) else (some (wrap64 ((wrap64 ((rd y117 bt120.1) - (Int.tmod (rd y117 bt120.1) (shl .i64 1 (wrap64 (16 - (rd y109 t112))))))) + 1), rd y109 t112, bt123.1, wrap64 (4 + (wrap64 (bt125.1 * 6))), bt130.2))))) else (some (wrap64 ((rd y117 bt120.1) - (Int.tmod (rd y117 bt120.1) (shl .i64 1 (wrap64 (16 - (rd y109 t112)))))), rd y109 t112, bt123.1, wrap64 (4 + (wrap64 (bt125.1 * 6))), bt128.2))))))) else (none)) else (none)) else (none)))
local macro "zq14" : tactic => `(tactic| (refine box_step ?hg (N := 7) ?hd (cs := #[.int .i64 0, .int .i64 0, .int .i64 0, .int .i64 0]) (t := 24) ?hr ?_; (case hd => rfl); (case hg => rfl); (case hr => first | (go_simp; done) | (go_simp; rfl))))
local macro "zq15" : term => `((any_of HT_.out (by kernel_rfl)))
local macro "zq16" : term => `((by rw [hg]; exact (keep_size (w := w) (g := g) (row := none) (by repeat (first | (with_reducible first | exact HK.out | apply KeepBut.set_ | apply keep_drewN | apply keep_drew | apply keep_alloc) | exact HK.out))) : w.heap.size ≤ gb106))
local macro "zq17" : tactic => `(tactic| (first | (with_reducible first | exact HI0.out | apply IsS98.alloc | apply IsS98.drewN | apply IsS98.drew | apply IsS98.set_1) | exact HI0.out))
local macro "zq18" : term => `((Reps.one (show Kd.M (Kd.int .i64) _ _ _ 0 [.int .i64 0] from rfl) (Reps.one (show Kd.M (Kd.int .i64) _ _ _ 4 [.int .i64 4] from rfl) (Reps.one (show Kd.M (Kd.int .i64) _ _ _ 8 [.int .i64 8] from rfl) (Reps.one (show Kd.M (Kd.int .i64) _ _ _ 8 [.int .i64 8] from rfl) (Reps.one (show Kd.M (Kd.int .i64) _ _ _ 12 [.int .i64 12] from rfl) (Reps.one (show Kd.M (Kd.int .i64) _ _ _ 16 [.int .i64 16] from rfl) (Reps.one (show Kd.M (Kd.int .i64) _ _ _ t107 [.int .i64 t107] from rfl) (Reps.none _ _)))))))))
local macro "zq19" : tactic => `(tactic| (refine one_ (i := 11) (N := some 34) #[true, true, true, true, true, true, true, true, true, true, true, true, false, false, false, true, false] rfl rfl (one_of HT_.out (by kernel_rfl)) (by decide) (fun K hK => ?_)))
local macro "zq20" : term => `((Reps.one (show Kd.M (Kd.int .i64) _ _ _ 0 [.int .i64 0] from rfl) (Reps.one (show Kd.M (Kd.int .i64) _ _ _ 4096 [.int .i64 4096] from rfl) (Reps.one (show Kd.M (Kd.int .i64) _ _ _ 4352 [.int .i64 4352] from rfl) (Reps.one (show Kd.M (Kd.int .i64) _ _ _ 4353 [.int .i64 4353] from rfl) (Reps.one (show Kd.M (Kd.int .i64) _ _ _ (wrap64 (4096 + t115)) [.int .i64 (wrap64 (4096 + t115))] from rfl) (Reps.one (show Kd.M (Kd.int .i64) _ _ _ 65535 [.int .i64 65535] from rfl) (Reps.none _ _))))))))
local macro "zq21" : tactic => `(tactic| (refine hK.out _ _ trivial (fun hHeld => ?_)))
local macro "zq22" : tactic => `(tactic| (refine two_ (i := 9) (j := 15) (Ni := some 32) (Nj := some 7) #[true, true, true, true, true, true, true, true, true, true, true, false, false, false, false, false, false] #[true, true, true, true, true, true, true, true, true, false, true, false, false, false, false, true, false] rfl rfl rfl rfl (two_of HT_.out (by kernel_rfl)) (by decide) (by decide) (fun K hK => ?_) (fun K hK => ?_)))
local macro "zq23" : tactic => `(tactic| (refine two_ (i := 11) (j := 15) (Ni := some 34) (Nj := some 7) #[true, true, true, true, true, true, true, true, true, true, true, true, false, false, false, false, false] #[true, true, true, true, true, true, true, true, true, true, true, false, false, false, false, true, false] rfl rfl rfl rfl (two_of HT_.out (by kernel_rfl)) (by decide) (by decide) (fun K hK => ?_) (fun K hK => ?_)))
local macro "zq24" : tactic => `(tactic| (with_reducible refine (spec_l20Rd_pick.calls k g s0_0 t124 3 t125 t126 w0 _ ?side1 ?side2 A16.out).mono ?_))
local macro "zq25" : term => `((by simp only [putAll, Act.put, List.setIfInBounds_toArray, List.set_cons_zero, List.set_cons_succ]))
local macro "zq26" : term => `((.cells #[.int .i64 0, .int .i64 0, .int .i64 0, .int .i64 0] 24 (0, 0)))
local macro "zq27" : term => `((wrap64 (4 + (wrap64 (t125 * 6)))))
local macro "zq28" : tactic => `(tactic| (refine start_ (n := 17) (S := fun w' => True) (ds := []) #[false, false, false, false, false, false, false, false, false, false, false, false, false, false, false, false, false] (by kernel_rfl) rfl rfl trivial (fun hHeld => ?_); refine with_tabW spec_l20Route.tab3 spec_l20Route.bits3 (fun HT_ HW_ => ?_)))
local macro "zq29" : tactic => `(tactic| (refine norm_ (a' := ?_) ?_ ?_))
local macro "zq30" : term => `((by first | (with_reducible assumption) | assumption))
local macro "zq31" : tactic => `(tactic| (with_reducible refine (spec_l20Rd_pick.calls k g s0_0 t121 3 t123 t124 w0 _ ?side1 ?side2 A15.out).mono ?_))
local macro "zq32" : tactic => `(tactic| (refine one_ (i := 9) (N := some 32) #[true, true, true, true, true, true, true, true, true, true, true, false, false, false, false, true, false] rfl rfl (one_of HT_.out (by kernel_rfl)) (by decide) (fun K hK => ?_)))
local macro "zq33" : tactic => `(tactic| (refine one_ (i := 15) (N := some 7) #[true, true, true, true, true, true, true, true, true, true, true, true, true, true, true, true, false] rfl rfl (one_of HT_.out (by kernel_rfl)) (by decide) (fun K hK => ?_)))
local macro "zq34" : term => `((KeepBut.trans (by repeat (first | (with_reducible first | exact HK.out | apply KeepBut.set_ | apply keep_drewN | apply keep_drew | apply keep_alloc) | exact HK.out)) (KeepBut.of_below hb g none) (.inl rfl)))
local macro "zq35" : tactic => `(tactic| (refine one_ (i := 16) (N := none) #[true, true, true, true, true, true, true, true, true, true, true, true, true, true, true, true, true] rfl rfl (one_of HT_.out (by kernel_rfl)) (by decide) (fun K hK => ?_)))
local macro "zq36" : term => `((below_step (by repeat (first | (with_reducible first | exact HB.out | apply below_alloc | apply pw_below_drewN | apply below_drew1 | refine below_set ?_ (IsS98.ge HI0.out)) | exact HB.out)) hb))
local macro "zq37" : tactic => `(tactic| (with_reducible refine (spec_l20Rd_pick.calls k g s0_0 t113 512 t115 t116 w0 _ ?side1 ?side2 A7.out).mono ?_))
local macro "zq38" : tactic => `(tactic| (with_reducible refine (spec_l20Rd_pick.calls k g s0_0 s0_1 17 t107 t108 w0 _ ?side1 ?side2 A3.out).mono ?_))
local macro "zq39" : tactic => `(tactic| (with_reducible refine (spec_l20Rd_pick.calls k g s0_0 t116 6 t120 t121 w0 _ ?side1 ?side2 A8.out).mono ?_))
local macro "zq40" : tactic => `(tactic| (with_reducible refine (spec_l20Rd_pick.calls k g s0_0 t108 7 t112 t113 w0 _ ?side1 ?side2 A4.out).mono ?_))
set_option hygiene true
open Go.RowKit Go.Proofs.YtpoedefohfonjaaW.PrintWords Go.Proofs.YtpoedefohfonjaaW.PrintLast Go.Proofs.YtpoedefohfonjaaW.PrintMore
attribute [local go_sem] max2_int min2_int max_two min_two max_three min_three max_four min_four   -- for this text's walks alone
set_option linter.unusedVariables false
set_option linter.unusedSimpArgs false

/-! ### spec_l20Route: function 61 -/
def spec_l20Route.f (k : Nat) (s0_0 : List Int) (s0_1 : Int) (a1 : Int) : Option (Int × Int × Int × Int × Int) := (spec_l20Rd_pick.f k s0_0 s0_1 17).bind fun bt107 => ((some (([0, 4, 8, 8, 12, 16, bt107.1] : List Int) : List Int)).bind fun y109 => ((spec_l20Rd_pick.f k s0_0 bt107.2 7).bind fun bt112 => (if 0 ≤ bt112.1 then (if bt112.1 < (y109.length : Int) then ((spec_l20Rd_pick.f k s0_0 bt112.2 512).bind fun bt115 => ((some (([0, 4096, 4352, 4353, wrap64 (4096 + bt115.1), 65535] : List Int) : List Int)).bind fun y117 => ((spec_l20Rd_pick.f k s0_0 bt115.2 6).bind fun bt120 => (if 0 ≤ bt120.1 then (if bt120.1 < (y117.length : Int) then (if 0 ≤ (wrap64 (16 - (rd y109 bt112.1))) then (if (shl .i64 1 (wrap64 (16 - (rd y109 bt112.1)))) = 0 then (none) else ((spec_l20Rd_pick.f k s0_0 bt120.2 3).bind fun bt123 => ((spec_l20Rd_pick.f k s0_0 bt123.2 3).bind fun bt125 => ((spec_l20Rd_odd.f k s0_0 bt125.2 a1).bind fun bt128 => (if bt128.1 = true then ((spec_l20Rd_pick.f k s0_0 bt128.2 3).bind fun bt130 => (if bt130.1 = 0 then ((spec_l20Rd_pick.f k s0_0 bt130.2 2).bind fun bt132 => (some (wrap64 ((rd y117 bt120.1) - (Int.tmod (rd y117 bt120.1) (shl .i64 1 (wrap64 (16 - (rd y109 bt112.1)))))), wrap64 (17 - (wrap64 (bt132.1 * 18))), bt123.1, wrap64 (4 + (wrap64 (bt125.1 * 6))), bt132.2))) else (if bt130.1 = 1 then ((spec_l20Rd_pick.f k s0_0 bt130.2 2).bind fun bt134 => (some (wrap64 ((rd y117 bt120.1) - (Int.tmod (rd y117 bt120.1) (shl .i64 1 (wrap64 (16 - (rd y109 bt112.1)))))), rd y109 bt112.1, bt123.1, wrap64 (bt134.1 * 49), bt134.2))) else (some (wrap64 ((wrap64 ((rd y117 bt120.1) - (Int.tmod (rd y117 bt120.1) (shl .i64 1 (wrap64 (16 - (rd y109 bt112.1))))))) + 1), rd y109 bt112.1, bt123.1, wrap64 (4 + (wrap64 (bt125.1 * 6))), bt130.2))))) else (some (wrap64 ((rd y117 bt120.1) - (Int.tmod (rd y117 bt120.1) (shl .i64 1 (wrap64 (16 - (rd y109 bt112.1)))))), rd y109 bt112.1, bt123.1, wrap64 (4 + (wrap64 (bt125.1 * 6))), bt128.2))))))) else (none)) else (none)) else (none))))) else (none)) else (none))))
theorem spec_l20Route.mono : ∀ a0 a1 a2 k, LeO (spec_l20Route.f k a0 a1 a2) (spec_l20Route.f (k + 1) a0 a1 a2) := by
 intro a0 a1 a2 k
 unfold spec_l20Route.f
 repeat' first
   | (with_reducible exact spec_l20Rd_odd.mono _ _ _ _)
   | (with_reducible exact spec_l20Rd_pick.mono _ _ _ _)
   | (with_reducible exact LeO.refl _)
   | (with_reducible exact LeO.none _)
   | (with_reducible refine LeO.ite ?_ ?_)
   | (with_reducible refine LeO.bind ?_ (fun _ => ?_))
   | exact spec_l20Rd_odd.mono _ _ _ _
   | exact spec_l20Rd_pick.mono _ _ _ _
   | exact LeO.none _
   | refine LeO.ite ?_ ?_
   | refine LeO.bind ?_ (fun _ => ?_)
def spec_l20Route.T3 : Bool × List (List Nat × List Nat) := (true, [([], []), ([], []), ([], []), ([2], [2]), ([3], [3]), ([1, 4], [1, 4]), ([0, 5], [0, 5]), ([], []), ([], []), ([8], [8]), ([], []), ([10, 9], [10]), ([11], [11]), ([12], [12]), ([6, 7, 9, 13], [6, 7, 9, 13]), ([], []), ([15, 14, 11, 0, 1, 2, 3, 4, 5, 6, 7, 8, 9, 10, 11, 12, 13, 14, 15], [14, 15])])
def spec_l20Route.B3 : List Nat := [0, 0, 0, 4, 12, 30, 63, 0, 0, 256, 0, 1792, 3840, 7936, 16383, 0, 65535]
theorem spec_l20Route.tab3 : rtab .any (opsOf Try.f61 3) = spec_l20Route.T3 := by kernel_rfl
theorem spec_l20Route.bits3 : waitsOk spec_l20Route.T3.2 spec_l20Route.B3 = true := by kernel_rfl
set_option maxHeartbeats 8000000 in
set_option maxRecDepth 100000 in
theorem spec_l20Route.calls (k : Nat) (g : Nat) (s0_0 : List Int) (s0_1 : Int) (a1 : Int) (r1 : Int) (r2 : Int) (r3 : Int) (r4 : Int) (r5 : Int) (w0 w : World) (hI : IsS98 w0 w g s0_0 s0_1) (hB : Below w0.heap.size w0 w) (h : spec_l20Route.f k s0_0 s0_1 a1 = some (r1, r2, r3, r4, r5)) :
  Calls Try.prog 61 #[.pointer (some ⟨g, 0, none⟩), .int .i64 a1] w fun e w' => e = .returned (.agg #[.int .i64 r1, .int .i64 r2, .int .i64 r3, .int .i64 r4]) ∧ IsS98 w0 w' g s0_0 r5 ∧ Below w0.heap.size w0 w' ∧ KeepBut w w' g none := by
 have hu24 := Try.underlying24
 have HI0 := Aside0.mk hI
 have HK := Aside0.mk (KeepBut.refl w g none)
 have HL := Aside0.mk hB.size
 clear hI
 have HW0 := Aside0.mk hB.size
 have HB := Aside0.mk hB
 clear hB
 have H : ((spec_l20Rd_pick.f k s0_0 s0_1 17).bind fun bt107 => ((some (([0, 4, 8, 8, 12, 16, bt107.1] : List Int) : List Int)).bind fun y109 => ((spec_l20Rd_pick.f k s0_0 bt107.2 7).bind fun bt112 => zq12))) = some (r1, r2, r3, r4, r5) := h
 clear h
 replace H := Option.bind_eq_some_iff.mp H
 obtain ⟨⟨t107, t108⟩, A30, H⟩ := H
 replace H : ((some (([0, 4, 8, 8, 12, 16, t107] : List Int) : List Int)).bind fun y109 => ((spec_l20Rd_pick.f k s0_0 t108 7).bind fun bt112 => zq12)) = some (r1, r2, r3, r4, r5) := H
 have A3 := Aside0.mk A30
 clear A30
 obtain ⟨y109, hy109⟩ : ∃ y_ : List Int, y_ = (([0, 4, 8, 8, 12, 16, t107] : List Int)) := ⟨_, rfl⟩
 replace H : ((spec_l20Rd_pick.f k s0_0 t108 7).bind fun bt112 => zq12) = some (r1, r2, r3, r4, r5) := by first | (rw [hy109]; with_reducible exact H) | (have H2_ := (Option.bind_some _ _).symm.trans H; rw [hy109]; with_reducible exact H2_) | (have H2_ := (Option.bind_some _ _).symm.trans H; with_reducible exact H2_) | with_reducible exact H | (rw [hy109]; exact H) | exact H
 have Ny109 := Aside0.mk hy109
 clear hy109
 replace H := Option.bind_eq_some_iff.mp H
 obtain ⟨⟨t112, t113⟩, A40, H⟩ := H
 replace H : (if 0 ≤ t112 then (if t112 < (y109.length : Int) then ((spec_l20Rd_pick.f k s0_0 t113 512).bind fun bt115 => ((some (([0, 4096, 4352, 4353, wrap64 (4096 + bt115.1), 65535] : List Int) : List Int)).bind fun y117 => ((spec_l20Rd_pick.f k s0_0 bt115.2 6).bind fun bt120 => zq13))) else (none)) else (none)) = some (r1, r2, r3, r4, r5) := H
 have A4 := Aside0.mk A40
 clear A40
 by_cases c5 : 0 ≤ t112
 ·rw [if_pos c5] at H
  have c5b0 : decide (0 ≤ t112) = true := decide_eq_true c5
  clear c5
  by_cases c6 : t112 < (y109.length : Int)
  ·rw [if_pos c6] at H
   have c6b0 : decide (t112 < (y109.length : Int)) = true := decide_eq_true c6
   clear c6
   replace H := Option.bind_eq_some_iff.mp H
   obtain ⟨⟨t115, t116⟩, A70, H⟩ := H
   replace H : ((some (([0, 4096, 4352, 4353, wrap64 (4096 + t115), 65535] : List Int) : List Int)).bind fun y117 => ((spec_l20Rd_pick.f k s0_0 t116 6).bind fun bt120 => zq13)) = some (r1, r2, r3, r4, r5) := H
   have A7 := Aside0.mk A70
   clear A70
   obtain ⟨y117, hy117⟩ : ∃ y_ : List Int, y_ = (([0, 4096, 4352, 4353, wrap64 (4096 + t115), 65535] : List Int)) := ⟨_, rfl⟩
   replace H : ((spec_l20Rd_pick.f k s0_0 t116 6).bind fun bt120 => zq13) = some (r1, r2, r3, r4, r5) := by first | (rw [hy117]; with_reducible exact H) | (have H2_ := (Option.bind_some _ _).symm.trans H; rw [hy117]; with_reducible exact H2_) | (have H2_ := (Option.bind_some _ _).symm.trans H; with_reducible exact H2_) | with_reducible exact H | (rw [hy117]; exact H) | exact H
   have Ny117 := Aside0.mk hy117
   clear hy117
   replace H := Option.bind_eq_some_iff.mp H
   obtain ⟨⟨t120, t121⟩, A80, H⟩ := H
   replace H : (if 0 ≤ t120 then (if t120 < (y117.length : Int) then (if 0 ≤ (wrap64 (16 - (rd y109 t112))) then (if (shl .i64 1 (wrap64 (16 - (rd y109 t112)))) = 0 then (none) else ((spec_l20Rd_pick.f k s0_0 t121 3).bind fun bt123 => ((spec_l20Rd_pick.f k s0_0 bt123.2 3).bind fun bt125 => ((spec_l20Rd_odd.f k s0_0 bt125.2 a1).bind fun bt128 => (if bt128.1 = true then ((spec_l20Rd_pick.f k s0_0 bt128.2 3).bind fun bt130 => (if bt130.1 = 0 then ((spec_l20Rd_pick.f k s0_0 bt130.2 2).bind fun bt132 => (some (wrap64 ((rd y117 t120) - (Int.tmod (rd y117 t120) (shl .i64 1 (wrap64 (16 - (rd y109 t112)))))), wrap64 (17 - (wrap64 (bt132.1 * 18))), bt123.1, wrap64 (4 + (wrap64 (bt125.1 * 6))), bt132.2))) else (if bt130.1 = 1 then ((spec_l20Rd_pick.f k s0_0 bt130.2 2).bind fun bt134 => (some (wrap64 ((rd y117 t120) - (Int.tmod (rd y117 t120) (shl .i64 1 (wrap64 (16 - (rd y109 t112)))))), rd y109 t112, bt123.1, wrap64 (bt134.1 * 49), bt134.2))) else (some (wrap64 ((wrap64 ((rd y117 t120) - (Int.tmod (rd y117 t120) (shl .i64 1 (wrap64 (16 - (rd y109 t112))))))) + 1), rd y109 t112, bt123.1, wrap64 (4 + (wrap64 (bt125.1 * 6))), bt130.2))))) else (some (wrap64 ((rd y117 t120) - (Int.tmod (rd y117 t120) (shl .i64 1 (wrap64 (16 - (rd y109 t112)))))), rd y109 t112, bt123.1, wrap64 (4 + (wrap64 (bt125.1 * 6))), bt128.2))))))) else (none)) else (none)) else (none)) = some (r1, r2, r3, r4, r5) := H
   have A8 := Aside0.mk A80
   clear A80
   by_cases c9 : 0 ≤ t120
   ·rw [if_pos c9] at H
    have c9b0 : decide (0 ≤ t120) = true := decide_eq_true c9
    clear c9
    by_cases c10 : t120 < (y117.length : Int)
    ·rw [if_pos c10] at H
     have c10b0 : decide (t120 < (y117.length : Int)) = true := decide_eq_true c10
     clear c10
     obtain ⟨ji11, hji11⟩ : ∃ j_ : Int, (wrap64 (16 - (rd y109 t112))) = j_ := ⟨_, rfl⟩
     replace H : (if 0 ≤ (ji11) then (if (shl .i64 1 (ji11)) = 0 then (none) else ((spec_l20Rd_pick.f k s0_0 t121 3).bind fun bt123 => ((spec_l20Rd_pick.f k s0_0 bt123.2 3).bind fun bt125 => ((spec_l20Rd_odd.f k s0_0 bt125.2 a1).bind fun bt128 => (if bt128.1 = true then ((spec_l20Rd_pick.f k s0_0 bt128.2 3).bind fun bt130 => (if bt130.1 = 0 then ((spec_l20Rd_pick.f k s0_0 bt130.2 2).bind fun bt132 => (some (wrap64 ((rd y117 t120) - (Int.tmod (rd y117 t120) (shl .i64 1 (ji11)))), wrap64 (17 - (wrap64 (bt132.1 * 18))), bt123.1, wrap64 (4 + (wrap64 (bt125.1 * 6))), bt132.2))) else (if bt130.1 = 1 then ((spec_l20Rd_pick.f k s0_0 bt130.2 2).bind fun bt134 => (some (wrap64 ((rd y117 t120) - (Int.tmod (rd y117 t120) (shl .i64 1 (ji11)))), rd y109 t112, bt123.1, wrap64 (bt134.1 * 49), bt134.2))) else (some (wrap64 ((wrap64 ((rd y117 t120) - (Int.tmod (rd y117 t120) (shl .i64 1 (ji11))))) + 1), rd y109 t112, bt123.1, wrap64 (4 + (wrap64 (bt125.1 * 6))), bt130.2))))) else (some (wrap64 ((rd y117 t120) - (Int.tmod (rd y117 t120) (shl .i64 1 (ji11)))), rd y109 t112, bt123.1, wrap64 (4 + (wrap64 (bt125.1 * 6))), bt128.2))))))) else (none)) = some (r1, r2, r3, r4, r5) := by first | (rw [hji11] at H; exact H) | (simp only [hji11] at H ⊢; exact H)
     (try rw [hji11] at A3)
     (try rw [hji11] at A4)
     (try rw [hji11] at A7)
     (try rw [hji11] at A8)
     have hji11w : (IntKind.i64.wrap (16 - (rd y109 t112))) = ji11 := (i64_w _).trans hji11
     by_cases c12 : 0 ≤ (ji11)
     ·rw [if_pos c12] at H
      have c12b0 := eq_true c12
      have c12b1 : decide (0 ≤ (ji11)) = true := decide_eq_true c12
      clear c12
      obtain ⟨ji13, hji13⟩ : ∃ j_ : Int, (shl .i64 1 (ji11)) = j_ := ⟨_, rfl⟩
      replace H : (if (ji13) = 0 then (none) else ((spec_l20Rd_pick.f k s0_0 t121 3).bind fun bt123 => ((spec_l20Rd_pick.f k s0_0 bt123.2 3).bind fun bt125 => ((spec_l20Rd_odd.f k s0_0 bt125.2 a1).bind fun bt128 => (if bt128.1 = true then ((spec_l20Rd_pick.f k s0_0 bt128.2 3).bind fun bt130 => (if bt130.1 = 0 then ((spec_l20Rd_pick.f k s0_0 bt130.2 2).bind fun bt132 => (some (wrap64 zq11, wrap64 (17 - (wrap64 (bt132.1 * 18))), bt123.1, wrap64 (4 + (wrap64 (bt125.1 * 6))), bt132.2))) else (if bt130.1 = 1 then ((spec_l20Rd_pick.f k s0_0 bt130.2 2).bind fun bt134 => (some (wrap64 zq11, rd y109 t112, bt123.1, wrap64 (bt134.1 * 49), bt134.2))) else (some (wrap64 ((wrap64 zq11) + 1), rd y109 t112, bt123.1, wrap64 (4 + (wrap64 (bt125.1 * 6))), bt130.2))))) else (some (wrap64 zq11, rd y109 t112, bt123.1, wrap64 (4 + (wrap64 (bt125.1 * 6))), bt128.2))))))) = some (r1, r2, r3, r4, r5) := by first | (rw [hji13] at H; exact H) | (simp only [hji13] at H ⊢; exact H)
      (try rw [hji13] at A3)
      (try rw [hji13] at A4)
      (try rw [hji13] at A7)
      (try rw [hji13] at A8)
      have hji13_ : (IntKind.i64.wrap (1 * 2 ^ min (ji11).toNat 64)) = ji13 := hji13
      have hji13z : (ji11) ≤ 64 → (IntKind.i64.wrap (1 * 2 ^ (ji11).toNat)) = ji13 := shl_small hji13
      have hji13u : (IntKind.i64.wrap (2 ^ min (ji11).toNat 64)) = ji13 := by have h_ := hji13_; rw [Int.one_mul] at h_; exact h_
      have hji13v : (ji11) ≤ 64 → (IntKind.i64.wrap (2 ^ (ji11).toNat)) = ji13 := fun hle_ => by have h_ := hji13z hle_; rw [Int.one_mul] at h_; exact h_
      have hji13y : (wrap64 (1 * 2 ^ min (ji11).toNat 64)) = ji13 := (i64_w _).symm.trans hji13_
      have hji13x : (ji11) ≤ 64 → (wrap64 (1 * 2 ^ (ji11).toNat)) = ji13 := fun h_ => (i64_w _).symm.trans (hji13z h_)
      by_cases c14 : (ji13) = 0
      ·rw [if_pos c14] at H
       exact absurd H (by simp)
      ·rw [if_neg c14] at H
       have c14b0 : ((ji13) == 0) = false := beq_eq_false_iff_ne.mpr c14
       have c14b1 : ((ji13) != 0) = true := bne_iff_ne.mpr c14
       replace H := Option.bind_eq_some_iff.mp H
       obtain ⟨⟨t123, t124⟩, A150, H⟩ := H
       replace H : ((spec_l20Rd_pick.f k s0_0 t124 3).bind fun bt125 => ((spec_l20Rd_odd.f k s0_0 bt125.2 a1).bind fun bt128 => (if bt128.1 = true then ((spec_l20Rd_pick.f k s0_0 bt128.2 3).bind fun bt130 => (if bt130.1 = 0 then ((spec_l20Rd_pick.f k s0_0 bt130.2 2).bind fun bt132 => (some (wrap64 zq11, wrap64 (17 - (wrap64 (bt132.1 * 18))), t123, wrap64 (4 + (wrap64 (bt125.1 * 6))), bt132.2))) else (if bt130.1 = 1 then ((spec_l20Rd_pick.f k s0_0 bt130.2 2).bind fun bt134 => (some (wrap64 zq11, rd y109 t112, t123, wrap64 (bt134.1 * 49), bt134.2))) else (some (wrap64 ((wrap64 zq11) + 1), rd y109 t112, t123, wrap64 (4 + (wrap64 (bt125.1 * 6))), bt130.2))))) else (some (wrap64 zq11, rd y109 t112, t123, wrap64 (4 + (wrap64 (bt125.1 * 6))), bt128.2))))) = some (r1, r2, r3, r4, r5) := H
       have A15 := Aside0.mk A150
       clear A150
       replace H := Option.bind_eq_some_iff.mp H
       obtain ⟨⟨t125, t126⟩, A160, H⟩ := H
       replace H : ((spec_l20Rd_odd.f k s0_0 t126 a1).bind fun bt128 => (if bt128.1 = true then ((spec_l20Rd_pick.f k s0_0 bt128.2 3).bind fun bt130 => (if bt130.1 = 0 then ((spec_l20Rd_pick.f k s0_0 bt130.2 2).bind fun bt132 => (some (wrap64 zq11, wrap64 (17 - (wrap64 (bt132.1 * 18))), t123, wrap64 (4 + (wrap64 (t125 * 6))), bt132.2))) else (if bt130.1 = 1 then ((spec_l20Rd_pick.f k s0_0 bt130.2 2).bind fun bt134 => (some (wrap64 zq11, rd y109 t112, t123, wrap64 (bt134.1 * 49), bt134.2))) else (some (wrap64 ((wrap64 zq11) + 1), rd y109 t112, t123, wrap64 (4 + (wrap64 (t125 * 6))), bt130.2))))) else (some (wrap64 zq11, rd y109 t112, t123, wrap64 (4 + (wrap64 (t125 * 6))), bt128.2)))) = some (r1, r2, r3, r4, r5) := H
       have A16 := Aside0.mk A160
       clear A160
       replace H := Option.bind_eq_some_iff.mp H
       obtain ⟨⟨t128, t129⟩, A170, H⟩ := H
       replace H : (if t128 = true then ((spec_l20Rd_pick.f k s0_0 t129 3).bind fun bt130 => (if bt130.1 = 0 then ((spec_l20Rd_pick.f k s0_0 bt130.2 2).bind fun bt132 => (some (wrap64 zq11, wrap64 (17 - (wrap64 (bt132.1 * 18))), t123, wrap64 (4 + (wrap64 (t125 * 6))), bt132.2))) else (if bt130.1 = 1 then ((spec_l20Rd_pick.f k s0_0 bt130.2 2).bind fun bt134 => (some (wrap64 zq11, rd y109 t112, t123, wrap64 (bt134.1 * 49), bt134.2))) else (some (wrap64 ((wrap64 zq11) + 1), rd y109 t112, t123, wrap64 (4 + (wrap64 (t125 * 6))), bt130.2))))) else (some (wrap64 zq11, rd y109 t112, t123, wrap64 (4 + (wrap64 (t125 * 6))), t129))) = some (r1, r2, r3, r4, r5) := H
       have A17 := Aside0.mk A170
       clear A170
       by_cases c18 : t128 = true
       ·subst c18
        have H1 : ((spec_l20Rd_pick.f k s0_0 t129 3).bind fun bt130 => (if bt130.1 = 0 then ((spec_l20Rd_pick.f k s0_0 bt130.2 2).bind fun bt132 => (some (wrap64 zq11, wrap64 (17 - (wrap64 (bt132.1 * 18))), t123, wrap64 (4 + (wrap64 (t125 * 6))), bt132.2))) else (if bt130.1 = 1 then ((spec_l20Rd_pick.f k s0_0 bt130.2 2).bind fun bt134 => (some (wrap64 zq11, rd y109 t112, t123, wrap64 (bt134.1 * 49), bt134.2))) else (some (wrap64 ((wrap64 zq11) + 1), rd y109 t112, t123, wrap64 (4 + (wrap64 (t125 * 6))), bt130.2))))) = some (r1, r2, r3, r4, r5) := by rw [if_pos rfl] at H; exact H
        clear H
        have H := H1
        clear H1
        replace H := Option.bind_eq_some_iff.mp H
        obtain ⟨⟨t130, t131⟩, A190, H⟩ := H
        replace H : (if t130 = 0 then ((spec_l20Rd_pick.f k s0_0 t131 2).bind fun bt132 => (some (wrap64 zq11, wrap64 (17 - (wrap64 (bt132.1 * 18))), t123, wrap64 (4 + (wrap64 (t125 * 6))), bt132.2))) else (if t130 = 1 then ((spec_l20Rd_pick.f k s0_0 t131 2).bind fun bt134 => (some (wrap64 zq11, rd y109 t112, t123, wrap64 (bt134.1 * 49), bt134.2))) else (some (wrap64 ((wrap64 zq11) + 1), rd y109 t112, t123, wrap64 (4 + (wrap64 (t125 * 6))), t131)))) = some (r1, r2, r3, r4, r5) := H
        have A19 := Aside0.mk A190
        clear A190
        by_cases c20 : t130 = 0
        ·rw [if_pos c20] at H
         have c20b0 : (t130 == 0) = true := beq_iff_eq.mpr c20
         have c20b1 : (t130 != 0) = false := bne_eq_false_iff_eq.mpr c20
         clear c20
         replace H := Option.bind_eq_some_iff.mp H
         obtain ⟨⟨t132, t133⟩, A210, H⟩ := H
         replace H : (some (wrap64 zq11, wrap64 (17 - (wrap64 (t132 * 18))), t123, wrap64 (4 + (wrap64 (t125 * 6))), t133)) = some (r1, r2, r3, r4, r5) := H
         have A21 := Aside0.mk A210
         clear A210
         simp only [Option.some.injEq, Prod.mk.injEq] at H
         obtain ⟨rfl, rfl, rfl, rfl, rfl⟩ := H
         go_enter Try.func61, Try.ntmps61
         try go_wp2_with (first | ((with_reducible refine gate_dst (N := 4) rfl ?_); refine box_event ?hg (N := 4) ?hd (cs := #[.int .i64 0, .int .i64 0, .int .i64 0, .int .i64 0]) (t := 24) ?hr ?_; (case hd => rfl); (case hg => rfl); (case hr => first | (go_simp; done) | (go_simp; rfl)); intro gb106 hg w22 hbox hb; have n0_ := Aside0.mk (IsS98.below (by repeat zq17) hb); have n1_ := Aside0.mk zq34; have n2_ := Aside0.mk zq36; have n3_ := Aside0.mk (hbox); have n4_ := Aside0.mk (zq16); have n5_ := Aside0.mk ((Nat.le_trans HW0.out zq16 : w0.heap.size ≤ gb106)); have n6_ := Aside0.mk ((by rw [hg]; exact Nat.ne_of_lt (IsS98.lt (show IsS98 w0 _ g s0_0 s0_1 from by repeat zq17)) : g ≠ gb106)); have n7_ := Aside0.mk ((by rw [hg]; exact Nat.ne_of_gt (IsS98.lt (show IsS98 w0 _ g s0_0 s0_1 from by repeat zq17)) : gb106 ≠ g)); clear HI0; clear HK; clear HB; have HI0 := n0_; have HK := n1_; have HB := n2_; have BK106 := n3_; have GW106 := n4_; have GE106 := n5_; have NB0_106 := n6_; have NB106_0 := n7_; clear n0_ n1_ n2_ n3_ n4_ n5_ n6_ n7_; clear hb hbox hg) | ((with_reducible refine gate_callee (f := 78) rfl ?_); refine goesL_ (some 9) rfl rfl Try.func78 (by kernel_rfl) rfl #[.pointer (some ⟨g, 0, none⟩), .int .i64 17] rfl zq10 ?_; zq38; (case side1 => repeat zq1); (case side2 => repeat zq6); rintro e w23 ⟨rfl, hi, hb, hk⟩; refine ⟨_, rfl, ?_⟩; have n0_ := Aside0.mk (KeepBut.blk hk (g' := gb106) (o := .cells #[.int .i64 0, .int .i64 0, .int .i64 0, .int .i64 0] 24 (0, 0)) (by (with_reducible repeat zq4); exact BK106.out) NB106_0.out (by simp)); have n1_ := Aside0.mk (KeepBut.trans zq3 hk (.inl rfl)); have n2_ := Aside0.mk (hb); have n3_ := Aside0.mk (hi); clear BK106; clear HK; clear HB; clear HI0; have BK106 := n0_; have HK := n1_; have HB := n2_; have HI0 := n3_; clear n0_ n1_ n2_ n3_; (try clear hb); (try clear hb2); (try clear hk); (try clear hi)) | ((with_reducible refine gate_dst (N := 10) rfl ?_); refine Kd.R_lit (Kd.int .i64) _ 3 ?hg (N := 10) ?hd (xs := ([0, 4, 8, 8, 12, 16, t107] : List Int)) (inner := [.int .i64 0, .int .i64 4, .int .i64 8, .int .i64 8, .int .i64 12, .int .i64 16, .int .i64 t107]) (ok := fun _ => True) (okp := fun _ => True) ?hr ?hp (fun _ hk => hk) trivial (Below.refl _ _) (Nat.le_refl _) (by simp) ?_; (case hd => rfl); (case hg => rfl); (case hr => first | (go_simp; done) | (go_simp; rfl)); (case hp => exact zq18); intro v110 w24 ho25 hb hg_ hnew_; clear hg_ hnew_; (first | rw [← Ny109.out] at ho25 | (simp only [Int.reduceToNat] at ho25; rw [← Ny109.out] at ho25)); have n0_ := Aside0.mk (Kd.R_lower ho25 (keep_size (w := w) (g := g) (row := none) zq3)); have n1_ := Aside0.mk (IsS98.below (by repeat zq1) hb); have n2_ := Aside0.mk (blk_below (g := gb106) (o := .cells #[.int .i64 0, .int .i64 0, .int .i64 0, .int .i64 0] 24 (0, 0)) (by (with_reducible repeat zq4); exact BK106.out) hb); have n3_ := Aside0.mk (KeepBut.trans zq3 (KeepBut.of_below hb g none) (.inl rfl)); have n4_ := Aside0.mk (below_step (by repeat zq6) hb); clear HI0; clear BK106; clear HK; clear HB; have HO111 := n0_; have HI0 := n1_; have BK106 := n2_; have HK := n3_; have HB := n4_; clear n0_ n1_ n2_ n3_ n4_; clear hb ho25) | ((with_reducible refine gate_callee (f := 78) rfl ?_); refine goesL_ (some 12) rfl rfl Try.func78 (by kernel_rfl) rfl #[.pointer (some ⟨g, 0, none⟩), .int .i64 7] rfl zq10 ?_; zq40; (case side1 => repeat zq1); (case side2 => repeat zq6); rintro e w26 ⟨rfl, hi, hb, hk⟩; refine ⟨_, rfl, ?_⟩; have n0_ := Aside0.mk (KeepBut.blk hk (g' := gb106) (o := .cells #[.int .i64 0, .int .i64 0, .int .i64 0, .int .i64 0] 24 (0, 0)) (by (with_reducible repeat zq4); exact BK106.out) NB106_0.out (by simp)); have n1_ := Aside0.mk (Kd.R_mono (Kd.R_keep (IsS98.apart (show IsS98 w0 _ g s0_0 t108 from by repeat zq1) (by (with_reducible repeat zq8); exact HO111.out) (by decide)) hk (fun _ h => h.2)) (fun _ h => h.1)); have n2_ := Aside0.mk (KeepBut.trans zq3 hk (.inl rfl)); have n3_ := Aside0.mk (hb); have n4_ := Aside0.mk (hi); clear BK106; clear HO111; clear HK; clear HB; clear HI0; have BK106 := n0_; have HO111 := n1_; have HK := n2_; have HB := n3_; have HI0 := n4_; clear n0_ n1_ n2_ n3_ n4_; (try clear hb); (try clear hb2); (try clear hk); (try clear hi); obtain ⟨Ao27, co27, eo27⟩ := Kd.R_slice HO111.out; subst eo27; have p114 : 0 ≤ (t112 : Int) := of_decide_eq_true zq30; have q114 : t112 < (y109.length : Int) := of_decide_eq_true zq30; obtain ⟨ad114, e114, hx114_0⟩ := Kd.at_int (Kd.R_reads' HO111.out).2.2 t112 p114 q114; cases e114; replace p114 := eq_true p114; replace q114 := eq_true q114) | ((with_reducible refine gate_callee (f := 78) rfl ?_); refine goesL_ (some 16) rfl rfl Try.func78 (by kernel_rfl) rfl #[.pointer (some ⟨g, 0, none⟩), .int .i64 512] rfl zq10 ?_; zq37; (case side1 => repeat zq1); (case side2 => repeat zq6); rintro e w28 ⟨rfl, hi, hb, hk⟩; refine ⟨_, rfl, ?_⟩; have n0_ := Aside0.mk (KeepBut.blk hk (g' := gb106) (o := .cells #[.int .i64 0, .int .i64 0, .int .i64 0, .int .i64 0] 24 (0, 0)) (by (with_reducible repeat zq4); exact BK106.out) NB106_0.out (by simp)); have n1_ := Aside0.mk (Kd.R_mono (Kd.R_keep (IsS98.apart (show IsS98 w0 _ g s0_0 t113 from by repeat zq1) (by (with_reducible repeat zq8); exact HO111.out) (by decide)) hk (fun _ h => h.2)) (fun _ h => h.1)); have n2_ := Aside0.mk (KeepBut.trans zq3 hk (.inl rfl)); have n3_ := Aside0.mk (hb); have n4_ := Aside0.mk (hi); clear BK106; clear HO111; clear HK; clear HB; clear HI0; have BK106 := n0_; have HO111 := n1_; have HK := n2_; have HB := n3_; have HI0 := n4_; clear n0_ n1_ n2_ n3_ n4_; (try clear hb); (try clear hb2); (try clear hk); (try clear hi)) | ((with_reducible refine gate_dst (N := 18) rfl ?_); refine Kd.R_lit (Kd.int .i64) _ 3 ?hg (N := 18) ?hd (xs := ([0, 4096, 4352, 4353, wrap64 (4096 + t115), 65535] : List Int)) (inner := [.int .i64 0, .int .i64 4096, .int .i64 4352, .int .i64 4353, .int .i64 (wrap64 (4096 + t115)), .int .i64 65535]) (ok := fun _ => True) (okp := fun _ => True) ?hr ?hp (fun _ hk => hk) trivial (Below.refl _ _) (Nat.le_refl _) (by simp) ?_; (case hd => rfl); (case hg => rfl); (case hr => first | (go_simp; done) | (go_simp; rfl)); (case hp => exact zq20); intro v118 w29 ho30 hb hg_ hnew_; clear hg_ hnew_; (first | rw [← Ny117.out] at ho30 | (simp only [Int.reduceToNat] at ho30; rw [← Ny117.out] at ho30)); have n0_ := Aside0.mk (Kd.R_elder' (by (with_reducible repeat zq8); exact HO111.out) (Kd.R_base ho30) hb); have n1_ := Aside0.mk (Kd.R_lower (Kd.R_new' ho30 (Kd.R_lt (by (with_reducible repeat zq8); exact HO111.out))) (keep_size (w := w) (g := g) (row := none) zq3)); have n2_ := Aside0.mk (IsS98.below (by repeat zq1) hb); have n3_ := Aside0.mk (blk_below (g := gb106) (o := .cells #[.int .i64 0, .int .i64 0, .int .i64 0, .int .i64 0] 24 (0, 0)) (by (with_reducible repeat zq4); exact BK106.out) hb); have n4_ := Aside0.mk (KeepBut.trans zq3 (KeepBut.of_below hb g none) (.inl rfl)); have n5_ := Aside0.mk (below_step (by repeat zq6) hb); clear HO111; clear HI0; clear BK106; clear HK; clear HB; have HO111 := n0_; have HO119 := n1_; have HI0 := n2_; have BK106 := n3_; have HK := n4_; have HB := n5_; clear n0_ n1_ n2_ n3_ n4_ n5_; clear hb ho30) | ((with_reducible refine gate_callee (f := 78) rfl ?_); refine goesL_ (some 20) rfl rfl Try.func78 (by kernel_rfl) rfl #[.pointer (some ⟨g, 0, none⟩), .int .i64 6] rfl zq10 ?_; zq39; (case side1 => repeat zq1); (case side2 => repeat zq6); rintro e w31 ⟨rfl, hi, hb, hk⟩; refine ⟨_, rfl, ?_⟩; have n0_ := Aside0.mk (KeepBut.blk hk (g' := gb106) (o := .cells #[.int .i64 0, .int .i64 0, .int .i64 0, .int .i64 0] 24 (0, 0)) (by (with_reducible repeat zq4); exact BK106.out) NB106_0.out (by simp)); have n1_ := Aside0.mk (Kd.R_mono (Kd.R_keep (IsS98.apart (show IsS98 w0 _ g s0_0 t116 from by repeat zq1) (by (with_reducible repeat zq8); exact HO111.out) (by decide)) hk (fun _ h => h.2)) (fun _ h => h.1)); have n2_ := Aside0.mk (Kd.R_mono (Kd.R_keep (IsS98.apart (show IsS98 w0 _ g s0_0 t116 from by repeat zq1) (by (with_reducible repeat zq8); exact HO119.out) (by decide)) hk (fun _ h => h.2)) (fun _ h => h.1)); have n3_ := Aside0.mk (KeepBut.trans zq3 hk (.inl rfl)); have n4_ := Aside0.mk (hb); have n5_ := Aside0.mk (hi); clear BK106; clear HO111; clear HO119; clear HK; clear HB; clear HI0; have BK106 := n0_; have HO111 := n1_; have HO119 := n2_; have HK := n3_; have HB := n4_; have HI0 := n5_; clear n0_ n1_ n2_ n3_ n4_ n5_; (try clear hb); (try clear hb2); (try clear hk); (try clear hi); obtain ⟨Ao32, co32, eo32⟩ := Kd.R_slice HO119.out; subst eo32; have p122 : 0 ≤ (t120 : Int) := of_decide_eq_true zq30; have q122 : t120 < (y117.length : Int) := of_decide_eq_true zq30; obtain ⟨ad122, e122, hx122_0⟩ := Kd.at_int (Kd.R_reads' HO119.out).2.2 t120 p122 q122; cases e122; replace p122 := eq_true p122; replace q122 := eq_true q122))
         have n0_ := Aside0.mk (Kd.R_drew HO111.out)
         have n1_ := Aside0.mk (Kd.R_drew HO119.out)
         have n2_ := Aside0.mk (blk_drew BK106.out)
         have n3_ := Aside0.mk (IsS98.drew HI0.out)
         have n4_ := Aside0.mk (keep_drew HK.out)
         have n5_ := Aside0.mk (below_drew1 HB.out)
         clear HO111
         clear HO119
         clear BK106
         clear HI0
         clear HK
         clear HB
         have HO111 := n0_
         have HO119 := n1_
         have BK106 := n2_
         have HI0 := n3_
         have HK := n4_
         have HB := n5_
         clear n0_ n1_ n2_ n3_ n4_ n5_
         zq28
         generalize w31.drew = w33 at HO111 HO119 BK106 HI0 HK HB hHeld ⊢
         refine pure_ (i := 0) (N := some 23) (v := ?_) (a' := ?_) #[true, false, false, false, false, false, false, false, false, false, false, false, false, false, false, false, false] rfl rfl zq15 (fun _ _ _ h => h) (Or.inl ⟨by rfl, ?_⟩) ?_ ?_
         rotate_left
         ·intro w'
          go_simp
          with_reducible rfl
         rotate_left
         ·zq5
          rfl
         refine pure_ (i := 1) (N := some 24) (v := ?_) (a' := ?_) #[true, true, false, false, false, false, false, false, false, false, false, false, false, false, false, false, false] rfl rfl zq15 (fun _ _ _ h => h) (Or.inl ⟨by rfl, ?_⟩) ?_ ?_
         rotate_left
         ·intro w'
          go_simp
          with_reducible rfl
         rotate_left
         ·zq5
          rfl
         refine pure_ (i := 2) (N := some 25) (v := ?_) (a' := ?_) #[true, true, true, false, false, false, false, false, false, false, false, false, false, false, false, false, false] rfl rfl zq15 (fun _ _ _ h => h) (Or.inl ⟨by rfl, ?_⟩) ?_ ?_
         rotate_left
         ·intro w'
          go_simp
          with_reducible rfl
         rotate_left
         ·zq5
          rfl
         refine pure_ (i := 3) (N := some 26) (v := ?_) (a' := ?_) #[true, true, true, true, false, false, false, false, false, false, false, false, false, false, false, false, false] rfl rfl zq15 (fun _ _ _ h => h) (Or.inl ⟨by rfl, ?_⟩) ?_ ?_
         rotate_left
         ·intro w'
          go_simp
          with_reducible rfl
         rotate_left
         ·zq5
          rfl
         refine pure_ (i := 4) (N := some 27) (v := ?_) (a' := ?_) #[true, true, true, true, true, false, false, false, false, false, false, false, false, false, false, false, false] rfl rfl zq15 (fun _ _ _ h => h) (Or.inl ⟨by rfl, ?_⟩) ?_ ?_
         rotate_left
         ·intro w'
          go_simp
          with_reducible rfl
         rotate_left
         ·zq5
          rfl
         refine pure_ (i := 5) (N := some 28) (v := ?_) (a' := ?_) #[true, true, true, true, true, true, false, false, false, false, false, false, false, false, false, false, false] rfl rfl zq15 (fun _ _ _ h => h) (Or.inl ⟨by rfl, ?_⟩) ?_ ?_
         rotate_left
         ·intro w'
          go_simp
          with_reducible rfl
         rotate_left
         ·zq5
          rfl
         refine pure_ (i := 6) (N := some 29) (v := ?_) (a' := ?_) #[true, true, true, true, true, true, true, false, false, false, false, false, false, false, false, false, false] rfl rfl zq15 (fun _ _ _ h => h) (Or.inl ⟨by rfl, ?_⟩) ?_ ?_
         rotate_left
         ·intro w'
          go_simp
          with_reducible rfl
         rotate_left
         ·zq5
          rfl
         refine pure_ (i := 7) (N := some 30) (v := ?_) (a' := ?_) #[true, true, true, true, true, true, true, true, false, false, false, false, false, false, false, false, false] rfl rfl zq15 (fun _ _ _ h => h) (Or.inl ⟨by rfl, ?_⟩) ?_ ?_
         rotate_left
         ·intro w'
          go_simp
          with_reducible rfl
         rotate_left
         ·zq5
          rfl
         refine pure_ (i := 8) (N := some 31) (v := ?_) (a' := ?_) #[true, true, true, true, true, true, true, true, true, false, false, false, false, false, false, false, false] rfl rfl zq15 (fun _ _ _ h => h) (Or.inl ⟨by rfl, ?_⟩) ?_ ?_
         rotate_left
         ·intro w'
          go_simp
          with_reducible rfl
         rotate_left
         ·zq5
          rfl
         refine pure_ (i := 10) (N := some 33) (v := ?_) (a' := ?_) #[true, true, true, true, true, true, true, true, true, false, true, false, false, false, false, false, false] rfl rfl zq15 (fun _ _ _ h => h) (Or.inl ⟨by rfl, ?_⟩) ?_ ?_
         rotate_left
         ·intro w'
          go_simp
          with_reducible rfl
         rotate_left
         ·zq5
          rfl
         refine join_ (σ := Nat) 1 #[true, true, true, true, true, true, true, true, true, true, true, true, true, true, true, true, false] (fun s_ => [(32, .int .i64 t123), (34, .int .i64 t125), (7, .pointer (some ⟨s_, 0, none⟩)), (35, .int .i64 (wrap64 (t125 * 6))), (36, .int .i64 zq27), (37, .agg #[.int .i64 (wrap64 zq11), .int .i64 (rd y109 t112), .int .i64 t123, .int .i64 zq27])]) (fun s_ w' => (Kd.R (Kd.int .i64) 3 w' w.heap.size (fun k_ => some k_ ≠ (.slice (some ad122) y117.length co32 : Value).ownBlock) (.slice (some ad114) y109.length co27) y109) ∧ (Kd.R (Kd.int .i64) 3 w' w.heap.size (fun k_ => some k_ ≠ (.slice (some ad114) y109.length co27 : Value).ownBlock) (.slice (some ad122) y117.length co32) y117) ∧ (w'.heap[gb106]? = some zq26) ∧ (w'.heap[s_]? = some zq26) ∧ (w.heap.size ≤ s_) ∧ (w0.heap.size ≤ s_) ∧ (g ≠ s_) ∧ (s_ ≠ g) ∧ (gb106 ≠ s_) ∧ (s_ ≠ gb106) ∧ (IsS98 w0 w' g s0_0 t126) ∧ (KeepBut w w' g none) ∧ (Below w0.heap.size w0 w')) ?_ ?_
         rotate_left
         ·intro hCont
          zq22
          ·skip
           refine goes_ Try.func78 (by kernel_rfl) rfl #[.pointer (some ⟨g, 0, none⟩), .int .i64 3] (by rfl) rfl rfl zq10 ?_
           zq31
           (case side1 => repeat zq1)
           (case side2 => repeat zq6)
           rintro e w34 ⟨rfl, hi, hb, hk⟩
           refine ⟨_, rfl, ?_⟩
           have n0_ := Aside0.mk (KeepBut.blk hk (g' := gb106) (o := .cells #[.int .i64 0, .int .i64 0, .int .i64 0, .int .i64 0] 24 (0, 0)) (by (with_reducible repeat zq4); exact BK106.out) NB106_0.out (by simp))
           have n1_ := Aside0.mk (Kd.R_mono (Kd.R_keep (IsS98.apart (show IsS98 w0 _ g s0_0 t121 from by repeat zq1) (by (with_reducible repeat zq8); exact HO111.out) (by decide)) hk (fun _ h => h.2)) (fun _ h => h.1))
           have n2_ := Aside0.mk (Kd.R_mono (Kd.R_keep (IsS98.apart (show IsS98 w0 _ g s0_0 t121 from by repeat zq1) (by (with_reducible repeat zq8); exact HO119.out) (by decide)) hk (fun _ h => h.2)) (fun _ h => h.1))
           have n3_ := Aside0.mk (KeepBut.trans zq3 hk (.inl rfl))
           have n4_ := Aside0.mk (hb)
           have n5_ := Aside0.mk (hi)
           clear BK106
           clear HO111
           clear HO119
           clear HK
           clear HB
           clear HI0
           have BK106 := n0_
           have HO111 := n1_
           have HO119 := n2_
           have HK := n3_
           have HB := n4_
           have HI0 := n5_
           clear n0_ n1_ n2_ n3_ n4_ n5_
           (try clear hb)
           (try clear hb2)
           (try clear hk)
           (try clear hi)
           zq21
           clear hK K
           zq29
           rotate_left
           ·show Act.put _ (some 32) _ = _
            zq5
            rfl
           zq23
           ·skip
            refine goes_ Try.func78 (by kernel_rfl) rfl #[.pointer (some ⟨g, 0, none⟩), .int .i64 3] (by rfl) rfl rfl zq10 ?_
            zq24
            (case side1 => repeat zq1)
            (case side2 => repeat zq6)
            rintro e w35 ⟨rfl, hi, hb, hk⟩
            refine ⟨_, rfl, ?_⟩
            have n0_ := Aside0.mk (KeepBut.blk hk (g' := gb106) (o := .cells #[.int .i64 0, .int .i64 0, .int .i64 0, .int .i64 0] 24 (0, 0)) (by (with_reducible repeat zq4); exact BK106.out) NB106_0.out (by simp))
            have n1_ := Aside0.mk (Kd.R_mono (Kd.R_keep (IsS98.apart (show IsS98 w0 _ g s0_0 t124 from by repeat zq1) (by (with_reducible repeat zq8); exact HO111.out) (by decide)) hk (fun _ h => h.2)) (fun _ h => h.1))
            have n2_ := Aside0.mk (Kd.R_mono (Kd.R_keep (IsS98.apart (show IsS98 w0 _ g s0_0 t124 from by repeat zq1) (by (with_reducible repeat zq8); exact HO119.out) (by decide)) hk (fun _ h => h.2)) (fun _ h => h.1))
            have n3_ := Aside0.mk (KeepBut.trans zq3 hk (.inl rfl))
            have n4_ := Aside0.mk (hb)
            have n5_ := Aside0.mk (hi)
            clear BK106
            clear HO111
            clear HO119
            clear HK
            clear HB
            clear HI0
            have BK106 := n0_
            have HO111 := n1_
            have HO119 := n2_
            have HK := n3_
            have HB := n4_
            have HI0 := n5_
            clear n0_ n1_ n2_ n3_ n4_ n5_
            (try clear hb)
            (try clear hb2)
            (try clear hk)
            (try clear hi)
            zq21
            clear hK K
            zq29
            rotate_left
            ·show Act.put _ (some 34) _ = _
             zq5
             rfl
            refine pure_ (i := 12) (N := some 35) (v := ?_) (a' := ?_) #[true, true, true, true, true, true, true, true, true, true, true, true, true, false, false, false, false] rfl rfl zq15 (fun _ _ _ h => h) (Or.inl ⟨by rfl, ?_⟩) ?_ ?_
            rotate_left
            ·intro w'
             go_simp
             with_reducible rfl
            rotate_left
            ·zq5
             rfl
            refine pure_ (i := 13) (N := some 36) (v := ?_) (a' := ?_) #[true, true, true, true, true, true, true, true, true, true, true, true, true, true, false, false, false] rfl rfl zq15 (fun _ _ _ h => h) (Or.inl ⟨by rfl, ?_⟩) ?_ ?_
            rotate_left
            ·intro w'
             go_simp
             with_reducible rfl
            rotate_left
            ·zq5
             rfl
            refine pure_ (i := 14) (N := some 37) (v := ?_) (a' := ?_) #[true, true, true, true, true, true, true, true, true, true, true, true, true, true, true, false, false] rfl rfl zq15 (fun _ _ _ h => h) (Or.inl ⟨by rfl, ?_⟩) ?_ ?_
            rotate_left
            ·intro w'
             go_simp
             with_reducible rfl
            rotate_left
            ·zq5
             rfl
            zq33
            zq14
            intro gb127 hg w36 hbox hb
            have n0_ := Aside0.mk (Kd.R_below (by (with_reducible repeat zq8); exact HO111.out) hb)
            have n1_ := Aside0.mk (Kd.R_below (by (with_reducible repeat zq8); exact HO119.out) hb)
            have n2_ := Aside0.mk (IsS98.below (by repeat zq1) hb)
            have n3_ := Aside0.mk (blk_below (g := gb106) (o := .cells #[.int .i64 0, .int .i64 0, .int .i64 0, .int .i64 0] 24 (0, 0)) (by (with_reducible repeat zq4); exact BK106.out) hb)
            have n4_ := Aside0.mk (KeepBut.trans zq3 (KeepBut.of_below hb g none) (.inl rfl))
            have n5_ := Aside0.mk (below_step (by repeat zq6) hb)
            have n6_ := Aside0.mk (hbox)
            have n7_ := Aside0.mk ((by rw [hg]; exact (keep_size (w := w) (g := g) (row := none) zq3) : w.heap.size ≤ gb127))
            have n8_ := Aside0.mk ((Nat.le_trans HW0.out (by rw [hg]; exact (keep_size (w := w) (g := g) (row := none) zq3) : w.heap.size ≤ gb127) : w0.heap.size ≤ gb127))
            have n9_ := Aside0.mk ((by rw [hg]; exact Nat.ne_of_lt (blk_lt (g := gb106) (o := .cells #[.int .i64 0, .int .i64 0, .int .i64 0, .int .i64 0] 24 (0, 0)) (by (with_reducible repeat zq4); exact BK106.out)) : gb106 ≠ gb127))
            have n10_ := Aside0.mk ((by rw [hg]; exact Nat.ne_of_gt (blk_lt (g := gb106) (o := .cells #[.int .i64 0, .int .i64 0, .int .i64 0, .int .i64 0] 24 (0, 0)) (by (with_reducible repeat zq4); exact BK106.out)) : gb127 ≠ gb106))
            have n11_ := Aside0.mk ((by rw [hg]; exact Nat.ne_of_lt (IsS98.lt (show IsS98 w0 _ g s0_0 t126 from by repeat zq1)) : g ≠ gb127))
            have n12_ := Aside0.mk ((by rw [hg]; exact Nat.ne_of_gt (IsS98.lt (show IsS98 w0 _ g s0_0 t126 from by repeat zq1)) : gb127 ≠ g))
            clear HO111
            clear HO119
            clear HI0
            clear BK106
            clear HK
            clear HB
            have HO111 := n0_
            have HO119 := n1_
            have HI0 := n2_
            have BK106 := n3_
            have HK := n4_
            have HB := n5_
            have BK127 := n6_
            have GW127 := n7_
            have GE127 := n8_
            have NB106_127 := n9_
            have NB127_106 := n10_
            have NB0_127 := n11_
            have NB127_0 := n12_
            clear n0_ n1_ n2_ n3_ n4_ n5_ n6_ n7_ n8_ n9_ n10_ n11_ n12_
            clear hb hbox hg
            zq21
            clear hK K
            zq29
            rotate_left
            ·show Act.put _ (some 7) _ = _
             zq5
             rfl
            exact norm_ zq25 (hCont (gb127) _ ⟨(by (with_reducible repeat zq8); exact Kd.R_mono HO111.out (fun _ hk => hk.2)), (by (with_reducible repeat zq8); exact Kd.R_mono HO119.out (fun _ hk => hk.2)), (by (with_reducible repeat zq4); exact BK106.out), (by (with_reducible repeat zq4); exact BK127.out), GW127.out, GE127.out, NB0_127.out, NB127_0.out, NB106_127.out, NB127_106.out, (by repeat zq2), (by repeat zq9), (by repeat zq7)⟩)
           ·skip
            zq14
            intro gb127 hg w35 hbox hb
            have n0_ := Aside0.mk (Kd.R_below (by (with_reducible repeat zq8); exact HO111.out) hb)
            have n1_ := Aside0.mk (Kd.R_below (by (with_reducible repeat zq8); exact HO119.out) hb)
            have n2_ := Aside0.mk (IsS98.below (by repeat zq1) hb)
            have n3_ := Aside0.mk (blk_below (g := gb106) (o := .cells #[.int .i64 0, .int .i64 0, .int .i64 0, .int .i64 0] 24 (0, 0)) (by (with_reducible repeat zq4); exact BK106.out) hb)
            have n4_ := Aside0.mk (KeepBut.trans zq3 (KeepBut.of_below hb g none) (.inl rfl))
            have n5_ := Aside0.mk (below_step (by repeat zq6) hb)
            have n6_ := Aside0.mk (hbox)
            have n7_ := Aside0.mk ((by rw [hg]; exact (keep_size (w := w) (g := g) (row := none) zq3) : w.heap.size ≤ gb127))
            have n8_ := Aside0.mk ((Nat.le_trans HW0.out (by rw [hg]; exact (keep_size (w := w) (g := g) (row := none) zq3) : w.heap.size ≤ gb127) : w0.heap.size ≤ gb127))
            have n9_ := Aside0.mk ((by rw [hg]; exact Nat.ne_of_lt (blk_lt (g := gb106) (o := .cells #[.int .i64 0, .int .i64 0, .int .i64 0, .int .i64 0] 24 (0, 0)) (by (with_reducible repeat zq4); exact BK106.out)) : gb106 ≠ gb127))
            have n10_ := Aside0.mk ((by rw [hg]; exact Nat.ne_of_gt (blk_lt (g := gb106) (o := .cells #[.int .i64 0, .int .i64 0, .int .i64 0, .int .i64 0] 24 (0, 0)) (by (with_reducible repeat zq4); exact BK106.out)) : gb127 ≠ gb106))
            have n11_ := Aside0.mk ((by rw [hg]; exact Nat.ne_of_lt (IsS98.lt (show IsS98 w0 _ g s0_0 t124 from by repeat zq1)) : g ≠ gb127))
            have n12_ := Aside0.mk ((by rw [hg]; exact Nat.ne_of_gt (IsS98.lt (show IsS98 w0 _ g s0_0 t124 from by repeat zq1)) : gb127 ≠ g))
            clear HO111
            clear HO119
            clear HI0
            clear BK106
            clear HK
            clear HB
            have HO111 := n0_
            have HO119 := n1_
            have HI0 := n2_
            have BK106 := n3_
            have HK := n4_
            have HB := n5_
            have BK127 := n6_
            have GW127 := n7_
            have GE127 := n8_
            have NB106_127 := n9_
            have NB127_106 := n10_
            have NB0_127 := n11_
            have NB127_0 := n12_
            clear n0_ n1_ n2_ n3_ n4_ n5_ n6_ n7_ n8_ n9_ n10_ n11_ n12_
            clear hb hbox hg
            zq21
            clear hK K
            zq29
            rotate_left
            ·show Act.put _ (some 7) _ = _
             zq5
             rfl
            zq19
            refine goes_ Try.func78 (by kernel_rfl) rfl #[.pointer (some ⟨g, 0, none⟩), .int .i64 3] (by rfl) rfl rfl zq10 ?_
            zq24
            (case side1 => repeat zq2)
            (case side2 => repeat zq7)
            rintro e w36 ⟨rfl, hi, hb, hk⟩
            refine ⟨_, rfl, ?_⟩
            have n0_ := Aside0.mk (KeepBut.blk hk (g' := gb106) (o := .cells #[.int .i64 0, .int .i64 0, .int .i64 0, .int .i64 0] 24 (0, 0)) (by (with_reducible repeat zq4); exact BK106.out) NB106_0.out (by simp))
            have n1_ := Aside0.mk (Kd.R_mono (Kd.R_keep (IsS98.apart (show IsS98 w0 _ g s0_0 t124 from by repeat zq2) (by (with_reducible repeat zq8); exact HO111.out) (by decide)) hk (fun _ h => h.2)) (fun _ h => h.1))
            have n2_ := Aside0.mk (Kd.R_mono (Kd.R_keep (IsS98.apart (show IsS98 w0 _ g s0_0 t124 from by repeat zq2) (by (with_reducible repeat zq8); exact HO119.out) (by decide)) hk (fun _ h => h.2)) (fun _ h => h.1))
            have n3_ := Aside0.mk (KeepBut.blk hk (g' := gb127) (o := .cells #[.int .i64 0, .int .i64 0, .int .i64 0, .int .i64 0] 24 (0, 0)) (by (with_reducible repeat zq4); exact BK127.out) NB127_0.out (by simp))
            have n4_ := Aside0.mk (KeepBut.trans (by repeat zq9) hk (.inl rfl))
            have n5_ := Aside0.mk (hb)
            have n6_ := Aside0.mk (hi)
            clear BK106
            clear HO111
            clear HO119
            clear BK127
            clear HK
            clear HB
            clear HI0
            have BK106 := n0_
            have HO111 := n1_
            have HO119 := n2_
            have BK127 := n3_
            have HK := n4_
            have HB := n5_
            have HI0 := n6_
            clear n0_ n1_ n2_ n3_ n4_ n5_ n6_
            (try clear hb)
            (try clear hb2)
            (try clear hk)
            (try clear hi)
            zq21
            clear hK K
            zq29
            rotate_left
            ·show Act.put _ (some 34) _ = _
             zq5
             rfl
            refine pure_ (i := 12) (N := some 35) (v := ?_) (a' := ?_) #[true, true, true, true, true, true, true, true, true, true, true, true, true, false, false, true, false] rfl rfl zq15 (fun _ _ _ h => h) (Or.inl ⟨by rfl, ?_⟩) ?_ ?_
            rotate_left
            ·intro w'
             go_simp
             with_reducible rfl
            rotate_left
            ·zq5
             rfl
            refine pure_ (i := 13) (N := some 36) (v := ?_) (a' := ?_) #[true, true, true, true, true, true, true, true, true, true, true, true, true, true, false, true, false] rfl rfl zq15 (fun _ _ _ h => h) (Or.inl ⟨by rfl, ?_⟩) ?_ ?_
            rotate_left
            ·intro w'
             go_simp
             with_reducible rfl
            rotate_left
            ·zq5
             rfl
            refine pure_ (i := 14) (N := some 37) (v := ?_) (a' := ?_) #[true, true, true, true, true, true, true, true, true, true, true, true, true, true, true, true, false] rfl rfl zq15 (fun _ _ _ h => h) (Or.inl ⟨by rfl, ?_⟩) ?_ ?_
            rotate_left
            ·intro w'
             go_simp
             with_reducible rfl
            rotate_left
            ·zq5
             rfl
            exact norm_ zq25 (hCont (gb127) _ ⟨(by (with_reducible repeat zq8); exact Kd.R_mono HO111.out (fun _ hk => hk.2)), (by (with_reducible repeat zq8); exact Kd.R_mono HO119.out (fun _ hk => hk.2)), (by (with_reducible repeat zq4); exact BK106.out), (by (with_reducible repeat zq4); exact BK127.out), GW127.out, GE127.out, NB0_127.out, NB127_0.out, NB106_127.out, NB127_106.out, (by repeat zq2), (by repeat zq9), (by repeat zq7)⟩)
          ·skip
           zq14
           intro gb127 hg w34 hbox hb
           have n0_ := Aside0.mk (Kd.R_below (by (with_reducible repeat zq8); exact HO111.out) hb)
           have n1_ := Aside0.mk (Kd.R_below (by (with_reducible repeat zq8); exact HO119.out) hb)
           have n2_ := Aside0.mk (IsS98.below (by repeat zq1) hb)
           have n3_ := Aside0.mk (blk_below (g := gb106) (o := .cells #[.int .i64 0, .int .i64 0, .int .i64 0, .int .i64 0] 24 (0, 0)) (by (with_reducible repeat zq4); exact BK106.out) hb)
           have n4_ := Aside0.mk (KeepBut.trans zq3 (KeepBut.of_below hb g none) (.inl rfl))
           have n5_ := Aside0.mk (below_step (by repeat zq6) hb)
           have n6_ := Aside0.mk (hbox)
           have n7_ := Aside0.mk ((by rw [hg]; exact (keep_size (w := w) (g := g) (row := none) zq3) : w.heap.size ≤ gb127))
           have n8_ := Aside0.mk ((Nat.le_trans HW0.out (by rw [hg]; exact (keep_size (w := w) (g := g) (row := none) zq3) : w.heap.size ≤ gb127) : w0.heap.size ≤ gb127))
           have n9_ := Aside0.mk ((by rw [hg]; exact Nat.ne_of_lt (blk_lt (g := gb106) (o := .cells #[.int .i64 0, .int .i64 0, .int .i64 0, .int .i64 0] 24 (0, 0)) (by (with_reducible repeat zq4); exact BK106.out)) : gb106 ≠ gb127))
           have n10_ := Aside0.mk ((by rw [hg]; exact Nat.ne_of_gt (blk_lt (g := gb106) (o := .cells #[.int .i64 0, .int .i64 0, .int .i64 0, .int .i64 0] 24 (0, 0)) (by (with_reducible repeat zq4); exact BK106.out)) : gb127 ≠ gb106))
           have n11_ := Aside0.mk ((by rw [hg]; exact Nat.ne_of_lt (IsS98.lt (show IsS98 w0 _ g s0_0 t121 from by repeat zq1)) : g ≠ gb127))
           have n12_ := Aside0.mk ((by rw [hg]; exact Nat.ne_of_gt (IsS98.lt (show IsS98 w0 _ g s0_0 t121 from by repeat zq1)) : gb127 ≠ g))
           clear HO111
           clear HO119
           clear HI0
           clear BK106
           clear HK
           clear HB
           have HO111 := n0_
           have HO119 := n1_
           have HI0 := n2_
           have BK106 := n3_
           have HK := n4_
           have HB := n5_
           have BK127 := n6_
           have GW127 := n7_
           have GE127 := n8_
           have NB106_127 := n9_
           have NB127_106 := n10_
           have NB0_127 := n11_
           have NB127_0 := n12_
           clear n0_ n1_ n2_ n3_ n4_ n5_ n6_ n7_ n8_ n9_ n10_ n11_ n12_
           clear hb hbox hg
           zq21
           clear hK K
           zq29
           rotate_left
           ·show Act.put _ (some 7) _ = _
            zq5
            rfl
           zq32
           refine goes_ Try.func78 (by kernel_rfl) rfl #[.pointer (some ⟨g, 0, none⟩), .int .i64 3] (by rfl) rfl rfl zq10 ?_
           zq31
           (case side1 => repeat zq2)
           (case side2 => repeat zq7)
           rintro e w35 ⟨rfl, hi, hb, hk⟩
           refine ⟨_, rfl, ?_⟩
           have n0_ := Aside0.mk (KeepBut.blk hk (g' := gb106) (o := .cells #[.int .i64 0, .int .i64 0, .int .i64 0, .int .i64 0] 24 (0, 0)) (by (with_reducible repeat zq4); exact BK106.out) NB106_0.out (by simp))
           have n1_ := Aside0.mk (Kd.R_mono (Kd.R_keep (IsS98.apart (show IsS98 w0 _ g s0_0 t121 from by repeat zq2) (by (with_reducible repeat zq8); exact HO111.out) (by decide)) hk (fun _ h => h.2)) (fun _ h => h.1))
           have n2_ := Aside0.mk (Kd.R_mono (Kd.R_keep (IsS98.apart (show IsS98 w0 _ g s0_0 t121 from by repeat zq2) (by (with_reducible repeat zq8); exact HO119.out) (by decide)) hk (fun _ h => h.2)) (fun _ h => h.1))
           have n3_ := Aside0.mk (KeepBut.blk hk (g' := gb127) (o := .cells #[.int .i64 0, .int .i64 0, .int .i64 0, .int .i64 0] 24 (0, 0)) (by (with_reducible repeat zq4); exact BK127.out) NB127_0.out (by simp))
           have n4_ := Aside0.mk (KeepBut.trans (by repeat zq9) hk (.inl rfl))
           have n5_ := Aside0.mk (hb)
           have n6_ := Aside0.mk (hi)
           clear BK106
           clear HO111
           clear HO119
           clear BK127
           clear HK
           clear HB
           clear HI0
           have BK106 := n0_
           have HO111 := n1_
           have HO119 := n2_
           have BK127 := n3_
           have HK := n4_
           have HB := n5_
           have HI0 := n6_
           clear n0_ n1_ n2_ n3_ n4_ n5_ n6_
           (try clear hb)
           (try clear hb2)
           (try clear hk)
           (try clear hi)
           zq21
           clear hK K
           zq29
           rotate_left
           ·show Act.put _ (some 32) _ = _
            zq5
            rfl
           zq19
           refine goes_ Try.func78 (by kernel_rfl) rfl #[.pointer (some ⟨g, 0, none⟩), .int .i64 3] (by rfl) rfl rfl zq10 ?_
           zq24
           (case side1 => repeat zq2)
           (case side2 => repeat zq7)
           rintro e w36 ⟨rfl, hi, hb, hk⟩
           refine ⟨_, rfl, ?_⟩
           have n0_ := Aside0.mk (KeepBut.blk hk (g' := gb106) (o := .cells #[.int .i64 0, .int .i64 0, .int .i64 0, .int .i64 0] 24 (0, 0)) (by (with_reducible repeat zq4); exact BK106.out) NB106_0.out (by simp))
           have n1_ := Aside0.mk (Kd.R_mono (Kd.R_keep (IsS98.apart (show IsS98 w0 _ g s0_0 t124 from by repeat zq2) (by (with_reducible repeat zq8); exact HO111.out) (by decide)) hk (fun _ h => h.2)) (fun _ h => h.1))
           have n2_ := Aside0.mk (Kd.R_mono (Kd.R_keep (IsS98.apart (show IsS98 w0 _ g s0_0 t124 from by repeat zq2) (by (with_reducible repeat zq8); exact HO119.out) (by decide)) hk (fun _ h => h.2)) (fun _ h => h.1))
           have n3_ := Aside0.mk (KeepBut.blk hk (g' := gb127) (o := .cells #[.int .i64 0, .int .i64 0, .int .i64 0, .int .i64 0] 24 (0, 0)) (by (with_reducible repeat zq4); exact BK127.out) NB127_0.out (by simp))
           have n4_ := Aside0.mk (KeepBut.trans (by repeat zq9) hk (.inl rfl))
           have n5_ := Aside0.mk (hb)
           have n6_ := Aside0.mk (hi)
           clear BK106
           clear HO111
           clear HO119
           clear BK127
           clear HK
           clear HB
           clear HI0
           have BK106 := n0_
           have HO111 := n1_
           have HO119 := n2_
           have BK127 := n3_
           have HK := n4_
           have HB := n5_
           have HI0 := n6_
           clear n0_ n1_ n2_ n3_ n4_ n5_ n6_
           (try clear hb)
           (try clear hb2)
           (try clear hk)
           (try clear hi)
           zq21
           clear hK K
           zq29
           rotate_left
           ·show Act.put _ (some 34) _ = _
            zq5
            rfl
           refine pure_ (i := 12) (N := some 35) (v := ?_) (a' := ?_) #[true, true, true, true, true, true, true, true, true, true, true, true, true, false, false, true, false] rfl rfl zq15 (fun _ _ _ h => h) (Or.inl ⟨by rfl, ?_⟩) ?_ ?_
           rotate_left
           ·intro w'
            go_simp
            with_reducible rfl
           rotate_left
           ·zq5
            rfl
           refine pure_ (i := 13) (N := some 36) (v := ?_) (a' := ?_) #[true, true, true, true, true, true, true, true, true, true, true, true, true, true, false, true, false] rfl rfl zq15 (fun _ _ _ h => h) (Or.inl ⟨by rfl, ?_⟩) ?_ ?_
           rotate_left
           ·intro w'
            go_simp
            with_reducible rfl
           rotate_left
           ·zq5
            rfl
           refine pure_ (i := 14) (N := some 37) (v := ?_) (a' := ?_) #[true, true, true, true, true, true, true, true, true, true, true, true, true, true, true, true, false] rfl rfl zq15 (fun _ _ _ h => h) (Or.inl ⟨by rfl, ?_⟩) ?_ ?_
           rotate_left
           ·intro w'
            go_simp
            with_reducible rfl
           rotate_left
           ·zq5
            rfl
           exact norm_ zq25 (hCont (gb127) _ ⟨(by (with_reducible repeat zq8); exact Kd.R_mono HO111.out (fun _ hk => hk.2)), (by (with_reducible repeat zq8); exact Kd.R_mono HO119.out (fun _ hk => hk.2)), (by (with_reducible repeat zq4); exact BK106.out), (by (with_reducible repeat zq4); exact BK127.out), GW127.out, GE127.out, NB0_127.out, NB127_0.out, NB106_127.out, NB127_106.out, (by repeat zq2), (by repeat zq9), (by repeat zq7)⟩)
         rintro gb127 w37 ⟨h0_, h1_, h2_, h3_, h4_, h5_, h6_, h7_, h8_, h9_, h10_, h11_, h12_⟩
         have n0_ : Aside0 (Kd.R (Kd.int .i64) 3 w37 w.heap.size (fun k_ => some k_ ≠ (.slice (some ad122) y117.length co32 : Value).ownBlock) (.slice (some ad114) y109.length co27) y109) := ⟨h0_⟩
         have n1_ : Aside0 (Kd.R (Kd.int .i64) 3 w37 w.heap.size (fun k_ => some k_ ≠ (.slice (some ad114) y109.length co27 : Value).ownBlock) (.slice (some ad122) y117.length co32) y117) := ⟨h1_⟩
         have n2_ : Aside0 (w37.heap[gb106]? = some zq26) := ⟨h2_⟩
         have n3_ : Aside0 (w37.heap[gb127]? = some zq26) := ⟨h3_⟩
         have n4_ : Aside0 (w.heap.size ≤ gb127) := ⟨h4_⟩
         have n5_ : Aside0 (w0.heap.size ≤ gb127) := ⟨h5_⟩
         have n6_ : Aside0 (g ≠ gb127) := ⟨h6_⟩
         have n7_ : Aside0 (gb127 ≠ g) := ⟨h7_⟩
         have n8_ : Aside0 (gb106 ≠ gb127) := ⟨h8_⟩
         have n9_ : Aside0 (gb127 ≠ gb106) := ⟨h9_⟩
         have n10_ : Aside0 (IsS98 w0 w37 g s0_0 t126) := ⟨h10_⟩
         have n11_ : Aside0 (KeepBut w w37 g none) := ⟨h11_⟩
         have n12_ : Aside0 (Below w0.heap.size w0 w37) := ⟨h12_⟩
         clear HO111
         clear HO119
         clear BK106
         clear HI0
         clear HK
         clear HB
         clear h0_ h1_ h2_ h3_ h4_ h5_ h6_ h7_ h8_ h9_ h10_ h11_ h12_
         have HO111 := n0_
         have HO119 := n1_
         have BK106 := n2_
         have BK127 := n3_
         have GW127 := n4_
         have GE127 := n5_
         have NB0_127 := n6_
         have NB127_0 := n7_
         have NB106_127 := n8_
         have NB127_106 := n9_
         have HI0 := n10_
         have HK := n11_
         have HB := n12_
         clear n0_ n1_ n2_ n3_ n4_ n5_ n6_ n7_ n8_ n9_ n10_ n11_ n12_
         have hHeld := trivial
         zq29
         rotate_left
         ·simp only [putAll, Act.put, List.setIfInBounds_toArray, List.set_cons_zero, List.set_cons_succ]
          rfl
         zq35
         have hs38 : w37.cell? ⟨gb127, 0, none⟩ = some (.int .i64 0) := (blk_cell BK127.out 0).trans rfl
         have hfs38 := blk_frozen BK127.out 0
         have hns38_0 := NB106_127.out
         have hms38_0 := NB127_106.out
         have hs39 : w37.cell? ⟨gb127, 1, none⟩ = some (.int .i64 0) := (blk_cell BK127.out 1).trans rfl
         have hfs39 := blk_frozen BK127.out 1
         have hns39_0 := NB106_127.out
         have hms39_0 := NB127_106.out
         have hs40 : w37.cell? ⟨gb127, 2, none⟩ = some (.int .i64 0) := (blk_cell BK127.out 2).trans rfl
         have hfs40 := blk_frozen BK127.out 2
         have hns40_0 := NB106_127.out
         have hms40_0 := NB127_106.out
         have hs41 : w37.cell? ⟨gb127, 3, none⟩ = some (.int .i64 0) := (blk_cell BK127.out 3).trans rfl
         have hfs41 := blk_frozen BK127.out 3
         have hns41_0 := NB106_127.out
         have hms41_0 := NB127_106.out
         refine skip_ (w1 := ?_) (by rfl) rfl ?_ ?_
         rotate_left
         ·go_simp
          rfl
         zq21
         clear hK K
         refine done_ (done_of HT_.out (by kernel_rfl)) ?_
         try go_wp2_with (first | ((with_reducible refine gate_callee (f := 87) rfl ?_); refine goesL_ (some 40) rfl rfl Try.func87 (by kernel_rfl) rfl #[.pointer (some ⟨g, 0, none⟩), .int .i64 a1] rfl zq10 ?_; (with_reducible refine (spec_l20Rd_odd.calls k g s0_0 t126 a1 true t129 w0 _ ?side1 ?side2 A17.out).mono ?_); (case side1 => repeat zq2); (case side2 => repeat zq7); rintro e w42 ⟨rfl, hi, hb, hk⟩; refine ⟨_, rfl, ?_⟩; have n0_ := Aside0.mk (KeepBut.blk hk (g' := gb106) (o := .cells #[.int .i64 0, .int .i64 0, .int .i64 0, .int .i64 0] 24 (0, 0)) (by (with_reducible repeat zq4); refine blk_far ?_ NB106_127.out _; (with_reducible repeat zq4); refine blk_far ?_ NB106_127.out _; (with_reducible repeat zq4); refine blk_far ?_ NB106_127.out _; (with_reducible repeat zq4); refine blk_far ?_ NB106_127.out _; (with_reducible repeat zq4); exact BK106.out) NB106_0.out (by simp)); have n1_ := Aside0.mk (Kd.R_mono (Kd.R_keep (IsS98.apart (show IsS98 w0 _ g s0_0 t126 from by repeat zq2) (by (with_reducible repeat zq8); exact (Kd.R_mono (Kd.R_far (p := ⟨gb127, 3, none⟩) (Kd.R_far (p := ⟨gb127, 2, none⟩) (Kd.R_far (p := ⟨gb127, 1, none⟩) (Kd.R_far (p := ⟨gb127, 0, none⟩) (Kd.R_types HO111.out BK127.out (by decide)) (fun _ hk => hk.2) (.int .i64 (wrap64 zq11))) (fun _ hk => hk.2) (.int .i64 (rd y109 t112))) (fun _ hk => hk.2) (.int .i64 t123)) (fun _ hk => hk.2) (.int .i64 zq27)) (fun _ h_ => h_.1))) (by decide)) hk (fun _ h => h.2)) (fun _ h => h.1)); have n2_ := Aside0.mk (Kd.R_mono (Kd.R_keep (IsS98.apart (show IsS98 w0 _ g s0_0 t126 from by repeat zq2) (by (with_reducible repeat zq8); exact (Kd.R_mono (Kd.R_far (p := ⟨gb127, 3, none⟩) (Kd.R_far (p := ⟨gb127, 2, none⟩) (Kd.R_far (p := ⟨gb127, 1, none⟩) (Kd.R_far (p := ⟨gb127, 0, none⟩) (Kd.R_types HO119.out BK127.out (by decide)) (fun _ hk => hk.2) (.int .i64 (wrap64 zq11))) (fun _ hk => hk.2) (.int .i64 (rd y109 t112))) (fun _ hk => hk.2) (.int .i64 t123)) (fun _ hk => hk.2) (.int .i64 zq27)) (fun _ h_ => h_.1))) (by decide)) hk (fun _ h => h.2)) (fun _ h => h.1)); have n3_ := Aside0.mk (KeepBut.blk hk (g' := gb127) (o := .cells #[.int .i64 (wrap64 zq11), .int .i64 (rd y109 t112), .int .i64 t123, .int .i64 zq27] 24 (0, 0)) (by (with_reducible repeat zq4); refine blk_put (cs := #[.int .i64 (wrap64 zq11), .int .i64 (rd y109 t112), .int .i64 t123, .int .i64 0]) ?_ 3 _ rfl; (with_reducible repeat zq4); refine blk_put (cs := #[.int .i64 (wrap64 zq11), .int .i64 (rd y109 t112), .int .i64 0, .int .i64 0]) ?_ 2 _ rfl; (with_reducible repeat zq4); refine blk_put (cs := #[.int .i64 (wrap64 zq11), .int .i64 0, .int .i64 0, .int .i64 0]) ?_ 1 _ rfl; (with_reducible repeat zq4); refine blk_put (cs := #[.int .i64 0, .int .i64 0, .int .i64 0, .int .i64 0]) ?_ 0 _ rfl; (with_reducible repeat zq4); exact BK127.out) NB127_0.out (by simp)); have n4_ := Aside0.mk (KeepBut.trans (by repeat zq9) hk (.inl rfl)); have n5_ := Aside0.mk (hb); have n6_ := Aside0.mk (hi); clear BK106; clear HO111; clear HO119; clear BK127; clear HK; clear HB; clear HI0; have BK106 := n0_; have HO111 := n1_; have HO119 := n2_; have BK127 := n3_; have HK := n4_; have HB := n5_; have HI0 := n6_; clear n0_ n1_ n2_ n3_ n4_ n5_ n6_; (try clear hb); (try clear hb2); (try clear hk); (try clear hi)) | ((with_reducible refine gate_callee (f := 78) rfl ?_); refine goesL_ (some 42) rfl rfl Try.func78 (by kernel_rfl) rfl #[.pointer (some ⟨g, 0, none⟩), .int .i64 3] rfl zq10 ?_; (with_reducible refine (spec_l20Rd_pick.calls k g s0_0 t129 3 t130 t131 w0 _ ?side1 ?side2 A19.out).mono ?_); (case side1 => repeat zq2); (case side2 => repeat zq7); rintro e w43 ⟨rfl, hi, hb, hk⟩; refine ⟨_, rfl, ?_⟩; have n0_ := Aside0.mk (KeepBut.blk hk (g' := gb106) (o := .cells #[.int .i64 0, .int .i64 0, .int .i64 0, .int .i64 0] 24 (0, 0)) (by (with_reducible repeat zq4); exact BK106.out) NB106_0.out (by simp)); have n1_ := Aside0.mk (Kd.R_mono (Kd.R_keep (IsS98.apart (show IsS98 w0 _ g s0_0 t129 from by repeat zq2) (by (with_reducible repeat zq8); exact HO111.out) (by decide)) hk (fun _ h => h.2)) (fun _ h => h.1)); have n2_ := Aside0.mk (Kd.R_mono (Kd.R_keep (IsS98.apart (show IsS98 w0 _ g s0_0 t129 from by repeat zq2) (by (with_reducible repeat zq8); exact HO119.out) (by decide)) hk (fun _ h => h.2)) (fun _ h => h.1)); have n3_ := Aside0.mk (KeepBut.blk hk (g' := gb127) (o := .cells #[.int .i64 (wrap64 zq11), .int .i64 (rd y109 t112), .int .i64 t123, .int .i64 zq27] 24 (0, 0)) (by (with_reducible repeat zq4); exact BK127.out) NB127_0.out (by simp)); have n4_ := Aside0.mk (KeepBut.trans (by repeat zq9) hk (.inl rfl)); have n5_ := Aside0.mk (hb); have n6_ := Aside0.mk (hi); clear BK106; clear HO111; clear HO119; clear BK127; clear HK; clear HB; clear HI0; have BK106 := n0_; have HO111 := n1_; have HO119 := n2_; have BK127 := n3_; have HK := n4_; have HB := n5_; have HI0 := n6_; clear n0_ n1_ n2_ n3_ n4_ n5_ n6_; (try clear hb); (try clear hb2); (try clear hk); (try clear hi)) | ((with_reducible refine gate_callee (f := 78) rfl ?_); refine goesL_ (some 50) rfl rfl Try.func78 (by kernel_rfl) rfl #[.pointer (some ⟨g, 0, none⟩), .int .i64 2] rfl zq10 ?_; (with_reducible refine (spec_l20Rd_pick.calls k g s0_0 t131 2 t132 t133 w0 _ ?side1 ?side2 A21.out).mono ?_); (case side1 => repeat zq2); (case side2 => repeat zq7); rintro e w44 ⟨rfl, hi, hb, hk⟩; refine ⟨_, rfl, ?_⟩; have n0_ := Aside0.mk (KeepBut.blk hk (g' := gb106) (o := .cells #[.int .i64 0, .int .i64 0, .int .i64 0, .int .i64 0] 24 (0, 0)) (by (with_reducible repeat zq4); exact BK106.out) NB106_0.out (by simp)); have n1_ := Aside0.mk (Kd.R_mono (Kd.R_keep (IsS98.apart (show IsS98 w0 _ g s0_0 t131 from by repeat zq2) (by (with_reducible repeat zq8); exact HO111.out) (by decide)) hk (fun _ h => h.2)) (fun _ h => h.1)); have n2_ := Aside0.mk (Kd.R_mono (Kd.R_keep (IsS98.apart (show IsS98 w0 _ g s0_0 t131 from by repeat zq2) (by (with_reducible repeat zq8); exact HO119.out) (by decide)) hk (fun _ h => h.2)) (fun _ h => h.1)); have n3_ := Aside0.mk (KeepBut.blk hk (g' := gb127) (o := .cells #[.int .i64 (wrap64 zq11), .int .i64 (rd y109 t112), .int .i64 t123, .int .i64 zq27] 24 (0, 0)) (by (with_reducible repeat zq4); exact BK127.out) NB127_0.out (by simp)); have n4_ := Aside0.mk (KeepBut.trans (by repeat zq9) hk (.inl rfl)); have n5_ := Aside0.mk (hb); have n6_ := Aside0.mk (hi); clear BK106; clear HO111; clear HO119; clear BK127; clear HK; clear HB; clear HI0; have BK106 := n0_; have HO111 := n1_; have HO119 := n2_; have BK127 := n3_; have HK := n4_; have HB := n5_; have HI0 := n6_; clear n0_ n1_ n2_ n3_ n4_ n5_ n6_; (try clear hb); (try clear hb2); (try clear hk); (try clear hi); have hnb45 := NB127_106.out; have hnc45 := NB106_127.out; have hnb46 := NB127_0.out; have hnc46 := NB0_127.out; have hcz47_0 : w44.cell? ⟨gb127, 0, none⟩ = some (.int .i64 (wrap64 zq11)) := (blk_cell BK127.out 0).trans rfl; have hcz47_1 : w44.cell? ⟨gb127, 1, none⟩ = some (.int .i64 (rd y109 t112)) := (blk_cell BK127.out 1).trans rfl; have hcz47_2 : w44.cell? ⟨gb127, 2, none⟩ = some (.int .i64 t123) := (blk_cell BK127.out 2).trans rfl; have hcz47_3 : w44.cell? ⟨gb127, 3, none⟩ = some (.int .i64 zq27) := (blk_cell BK127.out 3).trans rfl; have hfz47_0 := blk_frozen BK127.out 0; have hfz47_1 := blk_frozen BK127.out 1; have hfz47_2 := blk_frozen BK127.out 2; have hfz47_3 := blk_frozen BK127.out 3; have hnb48 := NB106_0.out; have hnc48 := NB0_106.out; have hcz49_0 : w44.cell? ⟨gb106, 0, none⟩ = some (.int .i64 0) := (blk_cell BK106.out 0).trans rfl; have hcz49_1 : w44.cell? ⟨gb106, 1, none⟩ = some (.int .i64 0) := (blk_cell BK106.out 1).trans rfl; have hcz49_2 : w44.cell? ⟨gb106, 2, none⟩ = some (.int .i64 0) := (blk_cell BK106.out 2).trans rfl; have hcz49_3 : w44.cell? ⟨gb106, 3, none⟩ = some (.int .i64 0) := (blk_cell BK106.out 3).trans rfl; have hfz49_0 := blk_frozen BK106.out 0; have hfz49_1 := blk_frozen BK106.out 1; have hfz49_2 := blk_frozen BK106.out 2; have hfz49_3 := blk_frozen BK106.out 3))
         refine bodyPost_ret (results_cell_row rfl _ _ gb106 24 #[.int .i64 (wrap64 zq11), .int .i64 (wrap64 (17 - (wrap64 (t132 * 18)))), .int .i64 t123, .int .i64 zq27] (0, 0) _ rfl (by (with_reducible repeat zq4); refine blk_put (cs := #[.int .i64 (wrap64 zq11), .int .i64 (wrap64 (17 - (wrap64 (t132 * 18)))), .int .i64 t123, .int .i64 0]) ?_ 3 _ rfl; (with_reducible repeat zq4); refine blk_put (cs := #[.int .i64 (wrap64 zq11), .int .i64 (wrap64 (17 - (wrap64 (t132 * 18)))), .int .i64 0, .int .i64 0]) ?_ 2 _ rfl; (with_reducible repeat zq4); refine blk_put (cs := #[.int .i64 (wrap64 zq11), .int .i64 0, .int .i64 0, .int .i64 0]) ?_ 1 _ rfl; (with_reducible repeat zq4); refine blk_put (cs := #[.int .i64 0, .int .i64 0, .int .i64 0, .int .i64 0]) ?_ 0 _ rfl; (with_reducible repeat zq4); refine blk_far ?_ NB106_127.out _; (with_reducible repeat zq4); exact BK106.out) Try.underlying24 rfl (by kernel_rfl)) rfl ?_
         exact ⟨by first | rfl | (simp [errW_none, errW_some] <;> rfl) | (simp only [← hji11, ← hji13]; first | rfl | (simp [errW_none, errW_some] <;> rfl)) | (simp [*, errW_none, errW_some] <;> rfl), by repeat zq2, by repeat zq7, by repeat zq9⟩
        ·rw [if_neg c20] at H
         have c20b0 : (t130 == 0) = false := beq_eq_false_iff_ne.mpr c20
         have c20b1 : (t130 != 0) = true := bne_iff_ne.mpr c20
         by_cases c50 : t130 = 1
         ·rw [if_pos c50] at H
          have c50b0 : (t130 == 1) = true := beq_iff_eq.mpr c50
          have c50b1 : (t130 != 1) = false := bne_eq_false_iff_eq.mpr c50
          clear c50
          replace H := Option.bind_eq_some_iff.mp H
          obtain ⟨⟨t134, t135⟩, A510, H⟩ := H
          replace H : (some (wrap64 zq11, rd y109 t112, t123, wrap64 (t134 * 49), t135)) = some (r1, r2, r3, r4, r5) := H
          have A51 := Aside0.mk A510
          clear A510
          simp only [Option.some.injEq, Prod.mk.injEq] at H
          obtain ⟨rfl, rfl, rfl, rfl, rfl⟩ := H
          go_enter Try.func61, Try.ntmps61
          try go_wp2_with (first | ((with_reducible refine gate_dst (N := 4) rfl ?_); refine box_event ?hg (N := 4) ?hd (cs := #[.int .i64 0, .int .i64 0, .int .i64 0, .int .i64 0]) (t := 24) ?hr ?_; (case hd => rfl); (case hg => rfl); (case hr => first | (go_simp; done) | (go_simp; rfl)); intro gb106 hg w52 hbox hb; have n0_ := Aside0.mk (IsS98.below (by repeat zq17) hb); have n1_ := Aside0.mk zq34; have n2_ := Aside0.mk zq36; have n3_ := Aside0.mk (hbox); have n4_ := Aside0.mk (zq16); have n5_ := Aside0.mk ((Nat.le_trans HW0.out zq16 : w0.heap.size ≤ gb106)); have n6_ := Aside0.mk ((by rw [hg]; exact Nat.ne_of_lt (IsS98.lt (show IsS98 w0 _ g s0_0 s0_1 from by repeat zq17)) : g ≠ gb106)); have n7_ := Aside0.mk ((by rw [hg]; exact Nat.ne_of_gt (IsS98.lt (show IsS98 w0 _ g s0_0 s0_1 from by repeat zq17)) : gb106 ≠ g)); clear HI0; clear HK; clear HB; have HI0 := n0_; have HK := n1_; have HB := n2_; have BK106 := n3_; have GW106 := n4_; have GE106 := n5_; have NB0_106 := n6_; have NB106_0 := n7_; clear n0_ n1_ n2_ n3_ n4_ n5_ n6_ n7_; clear hb hbox hg) | ((with_reducible refine gate_callee (f := 78) rfl ?_); refine goesL_ (some 9) rfl rfl Try.func78 (by kernel_rfl) rfl #[.pointer (some ⟨g, 0, none⟩), .int .i64 17] rfl zq10 ?_; zq38; (case side1 => repeat zq1); (case side2 => repeat zq6); rintro e w53 ⟨rfl, hi, hb, hk⟩; refine ⟨_, rfl, ?_⟩; have n0_ := Aside0.mk (KeepBut.blk hk (g' := gb106) (o := .cells #[.int .i64 0, .int .i64 0, .int .i64 0, .int .i64 0] 24 (0, 0)) (by (with_reducible repeat zq4); exact BK106.out) NB106_0.out (by simp)); have n1_ := Aside0.mk (KeepBut.trans zq3 hk (.inl rfl)); have n2_ := Aside0.mk (hb); have n3_ := Aside0.mk (hi); clear BK106; clear HK; clear HB; clear HI0; have BK106 := n0_; have HK := n1_; have HB := n2_; have HI0 := n3_; clear n0_ n1_ n2_ n3_; (try clear hb); (try clear hb2); (try clear hk); (try clear hi)) | ((with_reducible refine gate_dst (N := 10) rfl ?_); refine Kd.R_lit (Kd.int .i64) _ 3 ?hg (N := 10) ?hd (xs := ([0, 4, 8, 8, 12, 16, t107] : List Int)) (inner := [.int .i64 0, .int .i64 4, .int .i64 8, .int .i64 8, .int .i64 12, .int .i64 16, .int .i64 t107]) (ok := fun _ => True) (okp := fun _ => True) ?hr ?hp (fun _ hk => hk) trivial (Below.refl _ _) (Nat.le_refl _) (by simp) ?_; (case hd => rfl); (case hg => rfl); (case hr => first | (go_simp; done) | (go_simp; rfl)); (case hp => exact zq18); intro v110 w54 ho55 hb hg_ hnew_; clear hg_ hnew_; (first | rw [← Ny109.out] at ho55 | (simp only [Int.reduceToNat] at ho55; rw [← Ny109.out] at ho55)); have n0_ := Aside0.mk (Kd.R_lower ho55 (keep_size (w := w) (g := g) (row := none) zq3)); have n1_ := Aside0.mk (IsS98.below (by repeat zq1) hb); have n2_ := Aside0.mk (blk_below (g := gb106) (o := .cells #[.int .i64 0, .int .i64 0, .int .i64 0, .int .i64 0] 24 (0, 0)) (by (with_reducible repeat zq4); exact BK106.out) hb); have n3_ := Aside0.mk (KeepBut.trans zq3 (KeepBut.of_below hb g none) (.inl rfl)); have n4_ := Aside0.mk (below_step (by repeat zq6) hb); clear HI0; clear BK106; clear HK; clear HB; have HO111 := n0_; have HI0 := n1_; have BK106 := n2_; have HK := n3_; have HB := n4_; clear n0_ n1_ n2_ n3_ n4_; clear hb ho55) | ((with_reducible refine gate_callee (f := 78) rfl ?_); refine goesL_ (some 12) rfl rfl Try.func78 (by kernel_rfl) rfl #[.pointer (some ⟨g, 0, none⟩), .int .i64 7] rfl zq10 ?_; zq40; (case side1 => repeat zq1); (case side2 => repeat zq6); rintro e w56 ⟨rfl, hi, hb, hk⟩; refine ⟨_, rfl, ?_⟩; have n0_ := Aside0.mk (KeepBut.blk hk (g' := gb106) (o := .cells #[.int .i64 0, .int .i64 0, .int .i64 0, .int .i64 0] 24 (0, 0)) (by (with_reducible repeat zq4); exact BK106.out) NB106_0.out (by simp)); have n1_ := Aside0.mk (Kd.R_mono (Kd.R_keep (IsS98.apart (show IsS98 w0 _ g s0_0 t108 from by repeat zq1) (by (with_reducible repeat zq8); exact HO111.out) (by decide)) hk (fun _ h => h.2)) (fun _ h => h.1)); have n2_ := Aside0.mk (KeepBut.trans zq3 hk (.inl rfl)); have n3_ := Aside0.mk (hb); have n4_ := Aside0.mk (hi); clear BK106; clear HO111; clear HK; clear HB; clear HI0; have BK106 := n0_; have HO111 := n1_; have HK := n2_; have HB := n3_; have HI0 := n4_; clear n0_ n1_ n2_ n3_ n4_; (try clear hb); (try clear hb2); (try clear hk); (try clear hi); obtain ⟨Ao57, co57, eo57⟩ := Kd.R_slice HO111.out; subst eo57; have p114 : 0 ≤ (t112 : Int) := of_decide_eq_true zq30; have q114 : t112 < (y109.length : Int) := of_decide_eq_true zq30; obtain ⟨ad114, e114, hx114_0⟩ := Kd.at_int (Kd.R_reads' HO111.out).2.2 t112 p114 q114; cases e114; replace p114 := eq_true p114; replace q114 := eq_true q114) | ((with_reducible refine gate_callee (f := 78) rfl ?_); refine goesL_ (some 16) rfl rfl Try.func78 (by kernel_rfl) rfl #[.pointer (some ⟨g, 0, none⟩), .int .i64 512] rfl zq10 ?_; zq37; (case side1 => repeat zq1); (case side2 => repeat zq6); rintro e w58 ⟨rfl, hi, hb, hk⟩; refine ⟨_, rfl, ?_⟩; have n0_ := Aside0.mk (KeepBut.blk hk (g' := gb106) (o := .cells #[.int .i64 0, .int .i64 0, .int .i64 0, .int .i64 0] 24 (0, 0)) (by (with_reducible repeat zq4); exact BK106.out) NB106_0.out (by simp)); have n1_ := Aside0.mk (Kd.R_mono (Kd.R_keep (IsS98.apart (show IsS98 w0 _ g s0_0 t113 from by repeat zq1) (by (with_reducible repeat zq8); exact HO111.out) (by decide)) hk (fun _ h => h.2)) (fun _ h => h.1)); have n2_ := Aside0.mk (KeepBut.trans zq3 hk (.inl rfl)); have n3_ := Aside0.mk (hb); have n4_ := Aside0.mk (hi); clear BK106; clear HO111; clear HK; clear HB; clear HI0; have BK106 := n0_; have HO111 := n1_; have HK := n2_; have HB := n3_; have HI0 := n4_; clear n0_ n1_ n2_ n3_ n4_; (try clear hb); (try clear hb2); (try clear hk); (try clear hi)) | ((with_reducible refine gate_dst (N := 18) rfl ?_); refine Kd.R_lit (Kd.int .i64) _ 3 ?hg (N := 18) ?hd (xs := ([0, 4096, 4352, 4353, wrap64 (4096 + t115), 65535] : List Int)) (inner := [.int .i64 0, .int .i64 4096, .int .i64 4352, .int .i64 4353, .int .i64 (wrap64 (4096 + t115)), .int .i64 65535]) (ok := fun _ => True) (okp := fun _ => True) ?hr ?hp (fun _ hk => hk) trivial (Below.refl _ _) (Nat.le_refl _) (by simp) ?_; (case hd => rfl); (case hg => rfl); (case hr => first | (go_simp; done) | (go_simp; rfl)); (case hp => exact zq20); intro v118 w59 ho60 hb hg_ hnew_; clear hg_ hnew_; (first | rw [← Ny117.out] at ho60 | (simp only [Int.reduceToNat] at ho60; rw [← Ny117.out] at ho60)); have n0_ := Aside0.mk (Kd.R_elder' (by (with_reducible repeat zq8); exact HO111.out) (Kd.R_base ho60) hb); have n1_ := Aside0.mk (Kd.R_lower (Kd.R_new' ho60 (Kd.R_lt (by (with_reducible repeat zq8); exact HO111.out))) (keep_size (w := w) (g := g) (row := none) zq3)); have n2_ := Aside0.mk (IsS98.below (by repeat zq1) hb); have n3_ := Aside0.mk (blk_below (g := gb106) (o := .cells #[.int .i64 0, .int .i64 0, .int .i64 0, .int .i64 0] 24 (0, 0)) (by (with_reducible repeat zq4); exact BK106.out) hb); have n4_ := Aside0.mk (KeepBut.trans zq3 (KeepBut.of_below hb g none) (.inl rfl)); have n5_ := Aside0.mk (below_step (by repeat zq6) hb); clear HO111; clear HI0; clear BK106; clear HK; clear HB; have HO111 := n0_; have HO119 := n1_; have HI0 := n2_; have BK106 := n3_; have HK := n4_; have HB := n5_; clear n0_ n1_ n2_ n3_ n4_ n5_; clear hb ho60) | ((with_reducible refine gate_callee (f := 78) rfl ?_); refine goesL_ (some 20) rfl rfl Try.func78 (by kernel_rfl) rfl #[.pointer (some ⟨g, 0, none⟩), .int .i64 6] rfl zq10 ?_; zq39; (case side1 => repeat zq1); (case side2 => repeat zq6); rintro e w61 ⟨rfl, hi, hb, hk⟩; refine ⟨_, rfl, ?_⟩; have n0_ := Aside0.mk (KeepBut.blk hk (g' := gb106) (o := .cells #[.int .i64 0, .int .i64 0, .int .i64 0, .int .i64 0] 24 (0, 0)) (by (with_reducible repeat zq4); exact BK106.out) NB106_0.out (by simp)); have n1_ := Aside0.mk (Kd.R_mono (Kd.R_keep (IsS98.apart (show IsS98 w0 _ g s0_0 t116 from by repeat zq1) (by (with_reducible repeat zq8); exact HO111.out) (by decide)) hk (fun _ h => h.2)) (fun _ h => h.1)); have n2_ := Aside0.mk (Kd.R_mono (Kd.R_keep (IsS98.apart (show IsS98 w0 _ g s0_0 t116 from by repeat zq1) (by (with_reducible repeat zq8); exact HO119.out) (by decide)) hk (fun _ h => h.2)) (fun _ h => h.1)); have n3_ := Aside0.mk (KeepBut.trans zq3 hk (.inl rfl)); have n4_ := Aside0.mk (hb); have n5_ := Aside0.mk (hi); clear BK106; clear HO111; clear HO119; clear HK; clear HB; clear HI0; have BK106 := n0_; have HO111 := n1_; have HO119 := n2_; have HK := n3_; have HB := n4_; have HI0 := n5_; clear n0_ n1_ n2_ n3_ n4_ n5_; (try clear hb); (try clear hb2); (try clear hk); (try clear hi); obtain ⟨Ao62, co62, eo62⟩ := Kd.R_slice HO119.out; subst eo62; have p122 : 0 ≤ (t120 : Int) := of_decide_eq_true zq30; have q122 : t120 < (y117.length : Int) := of_decide_eq_true zq30; obtain ⟨ad122, e122, hx122_0⟩ := Kd.at_int (Kd.R_reads' HO119.out).2.2 t120 p122 q122; cases e122; replace p122 := eq_true p122; replace q122 := eq_true q122))
          have n0_ := Aside0.mk (Kd.R_drew HO111.out)
          have n1_ := Aside0.mk (Kd.R_drew HO119.out)
          have n2_ := Aside0.mk (blk_drew BK106.out)
          have n3_ := Aside0.mk (IsS98.drew HI0.out)
          have n4_ := Aside0.mk (keep_drew HK.out)
          have n5_ := Aside0.mk (below_drew1 HB.out)
          clear HO111
          clear HO119
          clear BK106
          clear HI0
          clear HK
          clear HB
          have HO111 := n0_
          have HO119 := n1_
          have BK106 := n2_
          have HI0 := n3_
          have HK := n4_
          have HB := n5_
          clear n0_ n1_ n2_ n3_ n4_ n5_
          zq28
          generalize w61.drew = w63 at HO111 HO119 BK106 HI0 HK HB hHeld ⊢
          refine pure_ (i := 0) (N := some 23) (v := ?_) (a' := ?_) #[true, false, false, false, false, false, false, false, false, false, false, false, false, false, false, false, false] rfl rfl zq15 (fun _ _ _ h => h) (Or.inl ⟨by rfl, ?_⟩) ?_ ?_
          rotate_left
          ·intro w'
           go_simp
           with_reducible rfl
          rotate_left
          ·zq5
           rfl
          refine pure_ (i := 1) (N := some 24) (v := ?_) (a' := ?_) #[true, true, false, false, false, false, false, false, false, false, false, false, false, false, false, false, false] rfl rfl zq15 (fun _ _ _ h => h) (Or.inl ⟨by rfl, ?_⟩) ?_ ?_
          rotate_left
          ·intro w'
           go_simp
           with_reducible rfl
          rotate_left
          ·zq5
           rfl
          refine pure_ (i := 2) (N := some 25) (v := ?_) (a' := ?_) #[true, true, true, false, false, false, false, false, false, false, false, false, false, false, false, false, false] rfl rfl zq15 (fun _ _ _ h => h) (Or.inl ⟨by rfl, ?_⟩) ?_ ?_
          rotate_left
          ·intro w'
           go_simp
           with_reducible rfl
          rotate_left
          ·zq5
           rfl
          refine pure_ (i := 3) (N := some 26) (v := ?_) (a' := ?_) #[true, true, true, true, false, false, false, false, false, false, false, false, false, false, false, false, false] rfl rfl zq15 (fun _ _ _ h => h) (Or.inl ⟨by rfl, ?_⟩) ?_ ?_
          rotate_left
          ·intro w'
           go_simp
           with_reducible rfl
          rotate_left
          ·zq5
           rfl
          refine pure_ (i := 4) (N := some 27) (v := ?_) (a' := ?_) #[true, true, true, true, true, false, false, false, false, false, false, false, false, false, false, false, false] rfl rfl zq15 (fun _ _ _ h => h) (Or.inl ⟨by rfl, ?_⟩) ?_ ?_
          rotate_left
          ·intro w'
           go_simp
           with_reducible rfl
          rotate_left
          ·zq5
           rfl
          refine pure_ (i := 5) (N := some 28) (v := ?_) (a' := ?_) #[true, true, true, true, true, true, false, false, false, false, false, false, false, false, false, false, false] rfl rfl zq15 (fun _ _ _ h => h) (Or.inl ⟨by rfl, ?_⟩) ?_ ?_
          rotate_left
          ·intro w'
           go_simp
           with_reducible rfl
          rotate_left
          ·zq5
           rfl
          refine pure_ (i := 6) (N := some 29) (v := ?_) (a' := ?_) #[true, true, true, true, true, true, true, false, false, false, false, false, false, false, false, false, false] rfl rfl zq15 (fun _ _ _ h => h) (Or.inl ⟨by rfl, ?_⟩) ?_ ?_
          rotate_left
          ·intro w'
           go_simp
           with_reducible rfl
          rotate_left
          ·zq5
           rfl
          refine pure_ (i := 7) (N := some 30) (v := ?_) (a' := ?_) #[true, true, true, true, true, true, true, true, false, false, false, false, false, false, false, false, false] rfl rfl zq15 (fun _ _ _ h => h) (Or.inl ⟨by rfl, ?_⟩) ?_ ?_
          rotate_left
          ·intro w'
           go_simp
           with_reducible rfl
          rotate_left
          ·zq5
           rfl
          refine pure_ (i := 8) (N := some 31) (v := ?_) (a' := ?_) #[true, true, true, true, true, true, true, true, true, false, false, false, false, false, false, false, false] rfl rfl zq15 (fun _ _ _ h => h) (Or.inl ⟨by rfl, ?_⟩) ?_ ?_
          rotate_left
          ·intro w'
           go_simp
           with_reducible rfl
          rotate_left
          ·zq5
           rfl
          refine pure_ (i := 10) (N := some 33) (v := ?_) (a' := ?_) #[true, true, true, true, true, true, true, true, true, false, true, false, false, false, false, false, false] rfl rfl zq15 (fun _ _ _ h => h) (Or.inl ⟨by rfl, ?_⟩) ?_ ?_
          rotate_left
          ·intro w'
           go_simp
           with_reducible rfl
          rotate_left
          ·zq5
           rfl
          refine join_ (σ := Nat) 1 #[true, true, true, true, true, true, true, true, true, true, true, true, true, true, true, true, false] (fun s_ => [(32, .int .i64 t123), (34, .int .i64 t125), (7, .pointer (some ⟨s_, 0, none⟩)), (35, .int .i64 (wrap64 (t125 * 6))), (36, .int .i64 zq27), (37, .agg #[.int .i64 (wrap64 zq11), .int .i64 (rd y109 t112), .int .i64 t123, .int .i64 zq27])]) (fun s_ w' => (Kd.R (Kd.int .i64) 3 w' w.heap.size (fun k_ => some k_ ≠ (.slice (some ad122) y117.length co62 : Value).ownBlock) (.slice (some ad114) y109.length co57) y109) ∧ (Kd.R (Kd.int .i64) 3 w' w.heap.size (fun k_ => some k_ ≠ (.slice (some ad114) y109.length co57 : Value).ownBlock) (.slice (some ad122) y117.length co62) y117) ∧ (w'.heap[gb106]? = some zq26) ∧ (w'.heap[s_]? = some zq26) ∧ (w.heap.size ≤ s_) ∧ (w0.heap.size ≤ s_) ∧ (g ≠ s_) ∧ (s_ ≠ g) ∧ (gb106 ≠ s_) ∧ (s_ ≠ gb106) ∧ (IsS98 w0 w' g s0_0 t126) ∧ (KeepBut w w' g none) ∧ (Below w0.heap.size w0 w')) ?_ ?_
          rotate_left
          ·intro hCont
           zq22
           ·skip
            refine goes_ Try.func78 (by kernel_rfl) rfl #[.pointer (some ⟨g, 0, none⟩), .int .i64 3] (by rfl) rfl rfl zq10 ?_
            zq31
            (case side1 => repeat zq1)
            (case side2 => repeat zq6)
            rintro e w64 ⟨rfl, hi, hb, hk⟩
            refine ⟨_, rfl, ?_⟩
            have n0_ := Aside0.mk (KeepBut.blk hk (g' := gb106) (o := .cells #[.int .i64 0, .int .i64 0, .int .i64 0, .int .i64 0] 24 (0, 0)) (by (with_reducible repeat zq4); exact BK106.out) NB106_0.out (by simp))
            have n1_ := Aside0.mk (Kd.R_mono (Kd.R_keep (IsS98.apart (show IsS98 w0 _ g s0_0 t121 from by repeat zq1) (by (with_reducible repeat zq8); exact HO111.out) (by decide)) hk (fun _ h => h.2)) (fun _ h => h.1))
            have n2_ := Aside0.mk (Kd.R_mono (Kd.R_keep (IsS98.apart (show IsS98 w0 _ g s0_0 t121 from by repeat zq1) (by (with_reducible repeat zq8); exact HO119.out) (by decide)) hk (fun _ h => h.2)) (fun _ h => h.1))
            have n3_ := Aside0.mk (KeepBut.trans zq3 hk (.inl rfl))
            have n4_ := Aside0.mk (hb)
            have n5_ := Aside0.mk (hi)
            clear BK106
            clear HO111
            clear HO119
            clear HK
            clear HB
            clear HI0
            have BK106 := n0_
            have HO111 := n1_
            have HO119 := n2_
            have HK := n3_
            have HB := n4_
            have HI0 := n5_
            clear n0_ n1_ n2_ n3_ n4_ n5_
            (try clear hb)
            (try clear hb2)
            (try clear hk)
            (try clear hi)
            zq21
            clear hK K
            zq29
            rotate_left
            ·show Act.put _ (some 32) _ = _
             zq5
             rfl
            zq23
            ·skip
             refine goes_ Try.func78 (by kernel_rfl) rfl #[.pointer (some ⟨g, 0, none⟩), .int .i64 3] (by rfl) rfl rfl zq10 ?_
             zq24
             (case side1 => repeat zq1)
             (case side2 => repeat zq6)
             rintro e w65 ⟨rfl, hi, hb, hk⟩
             refine ⟨_, rfl, ?_⟩
             have n0_ := Aside0.mk (KeepBut.blk hk (g' := gb106) (o := .cells #[.int .i64 0, .int .i64 0, .int .i64 0, .int .i64 0] 24 (0, 0)) (by (with_reducible repeat zq4); exact BK106.out) NB106_0.out (by simp))
             have n1_ := Aside0.mk (Kd.R_mono (Kd.R_keep (IsS98.apart (show IsS98 w0 _ g s0_0 t124 from by repeat zq1) (by (with_reducible repeat zq8); exact HO111.out) (by decide)) hk (fun _ h => h.2)) (fun _ h => h.1))
             have n2_ := Aside0.mk (Kd.R_mono (Kd.R_keep (IsS98.apart (show IsS98 w0 _ g s0_0 t124 from by repeat zq1) (by (with_reducible repeat zq8); exact HO119.out) (by decide)) hk (fun _ h => h.2)) (fun _ h => h.1))
             have n3_ := Aside0.mk (KeepBut.trans zq3 hk (.inl rfl))
             have n4_ := Aside0.mk (hb)
             have n5_ := Aside0.mk (hi)
             clear BK106
             clear HO111
             clear HO119
             clear HK
             clear HB
             clear HI0
             have BK106 := n0_
             have HO111 := n1_
             have HO119 := n2_
             have HK := n3_
             have HB := n4_
             have HI0 := n5_
             clear n0_ n1_ n2_ n3_ n4_ n5_
             (try clear hb)
             (try clear hb2)
             (try clear hk)
             (try clear hi)
             zq21
             clear hK K
             zq29
             rotate_left
             ·show Act.put _ (some 34) _ = _
              zq5
              rfl
             refine pure_ (i := 12) (N := some 35) (v := ?_) (a' := ?_) #[true, true, true, true, true, true, true, true, true, true, true, true, true, false, false, false, false] rfl rfl zq15 (fun _ _ _ h => h) (Or.inl ⟨by rfl, ?_⟩) ?_ ?_
             rotate_left
             ·intro w'
              go_simp
              with_reducible rfl
             rotate_left
             ·zq5
              rfl
             refine pure_ (i := 13) (N := some 36) (v := ?_) (a' := ?_) #[true, true, true, true, true, true, true, true, true, true, true, true, true, true, false, false, false] rfl rfl zq15 (fun _ _ _ h => h) (Or.inl ⟨by rfl, ?_⟩) ?_ ?_
             rotate_left
             ·intro w'
              go_simp
              with_reducible rfl
             rotate_left
             ·zq5
              rfl
             refine pure_ (i := 14) (N := some 37) (v := ?_) (a' := ?_) #[true, true, true, true, true, true, true, true, true, true, true, true, true, true, true, false, false] rfl rfl zq15 (fun _ _ _ h => h) (Or.inl ⟨by rfl, ?_⟩) ?_ ?_
             rotate_left
             ·intro w'
              go_simp
              with_reducible rfl
             rotate_left
             ·zq5
              rfl
             zq33
             zq14
             intro gb127 hg w66 hbox hb
             have n0_ := Aside0.mk (Kd.R_below (by (with_reducible repeat zq8); exact HO111.out) hb)
             have n1_ := Aside0.mk (Kd.R_below (by (with_reducible repeat zq8); exact HO119.out) hb)
             have n2_ := Aside0.mk (IsS98.below (by repeat zq1) hb)
             have n3_ := Aside0.mk (blk_below (g := gb106) (o := .cells #[.int .i64 0, .int .i64 0, .int .i64 0, .int .i64 0] 24 (0, 0)) (by (with_reducible repeat zq4); exact BK106.out) hb)
             have n4_ := Aside0.mk (KeepBut.trans zq3 (KeepBut.of_below hb g none) (.inl rfl))
             have n5_ := Aside0.mk (below_step (by repeat zq6) hb)
             have n6_ := Aside0.mk (hbox)
             have n7_ := Aside0.mk ((by rw [hg]; exact (keep_size (w := w) (g := g) (row := none) zq3) : w.heap.size ≤ gb127))
             have n8_ := Aside0.mk ((Nat.le_trans HW0.out (by rw [hg]; exact (keep_size (w := w) (g := g) (row := none) zq3) : w.heap.size ≤ gb127) : w0.heap.size ≤ gb127))
             have n9_ := Aside0.mk ((by rw [hg]; exact Nat.ne_of_lt (blk_lt (g := gb106) (o := .cells #[.int .i64 0, .int .i64 0, .int .i64 0, .int .i64 0] 24 (0, 0)) (by (with_reducible repeat zq4); exact BK106.out)) : gb106 ≠ gb127))
             have n10_ := Aside0.mk ((by rw [hg]; exact Nat.ne_of_gt (blk_lt (g := gb106) (o := .cells #[.int .i64 0, .int .i64 0, .int .i64 0, .int .i64 0] 24 (0, 0)) (by (with_reducible repeat zq4); exact BK106.out)) : gb127 ≠ gb106))
             have n11_ := Aside0.mk ((by rw [hg]; exact Nat.ne_of_lt (IsS98.lt (show IsS98 w0 _ g s0_0 t126 from by repeat zq1)) : g ≠ gb127))
             have n12_ := Aside0.mk ((by rw [hg]; exact Nat.ne_of_gt (IsS98.lt (show IsS98 w0 _ g s0_0 t126 from by repeat zq1)) : gb127 ≠ g))
             clear HO111
             clear HO119
             clear HI0
             clear BK106
             clear HK
             clear HB
             have HO111 := n0_
             have HO119 := n1_
             have HI0 := n2_
             have BK106 := n3_
             have HK := n4_
             have HB := n5_
             have BK127 := n6_
             have GW127 := n7_
             have GE127 := n8_
             have NB106_127 := n9_
             have NB127_106 := n10_
             have NB0_127 := n11_
             have NB127_0 := n12_
             clear n0_ n1_ n2_ n3_ n4_ n5_ n6_ n7_ n8_ n9_ n10_ n11_ n12_
             clear hb hbox hg
             zq21
             clear hK K
             zq29
             rotate_left
             ·show Act.put _ (some 7) _ = _
              zq5
              rfl
             exact norm_ zq25 (hCont (gb127) _ ⟨(by (with_reducible repeat zq8); exact Kd.R_mono HO111.out (fun _ hk => hk.2)), (by (with_reducible repeat zq8); exact Kd.R_mono HO119.out (fun _ hk => hk.2)), (by (with_reducible repeat zq4); exact BK106.out), (by (with_reducible repeat zq4); exact BK127.out), GW127.out, GE127.out, NB0_127.out, NB127_0.out, NB106_127.out, NB127_106.out, (by repeat zq2), (by repeat zq9), (by repeat zq7)⟩)
            ·skip
             zq14
             intro gb127 hg w65 hbox hb
             have n0_ := Aside0.mk (Kd.R_below (by (with_reducible repeat zq8); exact HO111.out) hb)
             have n1_ := Aside0.mk (Kd.R_below (by (with_reducible repeat zq8); exact HO119.out) hb)
             have n2_ := Aside0.mk (IsS98.below (by repeat zq1) hb)
             have n3_ := Aside0.mk (blk_below (g := gb106) (o := .cells #[.int .i64 0, .int .i64 0, .int .i64 0, .int .i64 0] 24 (0, 0)) (by (with_reducible repeat zq4); exact BK106.out) hb)
             have n4_ := Aside0.mk (KeepBut.trans zq3 (KeepBut.of_below hb g none) (.inl rfl))
             have n5_ := Aside0.mk (below_step (by repeat zq6) hb)
             have n6_ := Aside0.mk (hbox)
             have n7_ := Aside0.mk ((by rw [hg]; exact (keep_size (w := w) (g := g) (row := none) zq3) : w.heap.size ≤ gb127))
             have n8_ := Aside0.mk ((Nat.le_trans HW0.out (by rw [hg]; exact (keep_size (w := w) (g := g) (row := none) zq3) : w.heap.size ≤ gb127) : w0.heap.size ≤ gb127))
             have n9_ := Aside0.mk ((by rw [hg]; exact Nat.ne_of_lt (blk_lt (g := gb106) (o := .cells #[.int .i64 0, .int .i64 0, .int .i64 0, .int .i64 0] 24 (0, 0)) (by (with_reducible repeat zq4); exact BK106.out)) : gb106 ≠ gb127))
             have n10_ := Aside0.mk ((by rw [hg]; exact Nat.ne_of_gt (blk_lt (g := gb106) (o := .cells #[.int .i64 0, .int .i64 0, .int .i64 0, .int .i64 0] 24 (0, 0)) (by (with_reducible repeat zq4); exact BK106.out)) : gb127 ≠ gb106))
             have n11_ := Aside0.mk ((by rw [hg]; exact Nat.ne_of_lt (IsS98.lt (show IsS98 w0 _ g s0_0 t124 from by repeat zq1)) : g ≠ gb127))
             have n12_ := Aside0.mk ((by rw [hg]; exact Nat.ne_of_gt (IsS98.lt (show IsS98 w0 _ g s0_0 t124 from by repeat zq1)) : gb127 ≠ g))
             clear HO111
             clear HO119
             clear HI0
             clear BK106
             clear HK
             clear HB
             have HO111 := n0_
             have HO119 := n1_
             have HI0 := n2_
             have BK106 := n3_
             have HK := n4_
             have HB := n5_
             have BK127 := n6_
             have GW127 := n7_
             have GE127 := n8_
             have NB106_127 := n9_
             have NB127_106 := n10_
             have NB0_127 := n11_
             have NB127_0 := n12_
             clear n0_ n1_ n2_ n3_ n4_ n5_ n6_ n7_ n8_ n9_ n10_ n11_ n12_
             clear hb hbox hg
             zq21
             clear hK K
             zq29
             rotate_left
             ·show Act.put _ (some 7) _ = _
              zq5
              rfl
             zq19
             refine goes_ Try.func78 (by kernel_rfl) rfl #[.pointer (some ⟨g, 0, none⟩), .int .i64 3] (by rfl) rfl rfl zq10 ?_
             zq24
             (case side1 => repeat zq2)
             (case side2 => repeat zq7)
             rintro e w66 ⟨rfl, hi, hb, hk⟩
             refine ⟨_, rfl, ?_⟩
             have n0_ := Aside0.mk (KeepBut.blk hk (g' := gb106) (o := .cells #[.int .i64 0, .int .i64 0, .int .i64 0, .int .i64 0] 24 (0, 0)) (by (with_reducible repeat zq4); exact BK106.out) NB106_0.out (by simp))
             have n1_ := Aside0.mk (Kd.R_mono (Kd.R_keep (IsS98.apart (show IsS98 w0 _ g s0_0 t124 from by repeat zq2) (by (with_reducible repeat zq8); exact HO111.out) (by decide)) hk (fun _ h => h.2)) (fun _ h => h.1))
             have n2_ := Aside0.mk (Kd.R_mono (Kd.R_keep (IsS98.apart (show IsS98 w0 _ g s0_0 t124 from by repeat zq2) (by (with_reducible repeat zq8); exact HO119.out) (by decide)) hk (fun _ h => h.2)) (fun _ h => h.1))
             have n3_ := Aside0.mk (KeepBut.blk hk (g' := gb127) (o := .cells #[.int .i64 0, .int .i64 0, .int .i64 0, .int .i64 0] 24 (0, 0)) (by (with_reducible repeat zq4); exact BK127.out) NB127_0.out (by simp))
             have n4_ := Aside0.mk (KeepBut.trans (by repeat zq9) hk (.inl rfl))
             have n5_ := Aside0.mk (hb)
             have n6_ := Aside0.mk (hi)
             clear BK106
             clear HO111
             clear HO119
             clear BK127
             clear HK
             clear HB
             clear HI0
             have BK106 := n0_
             have HO111 := n1_
             have HO119 := n2_
             have BK127 := n3_
             have HK := n4_
             have HB := n5_
             have HI0 := n6_
             clear n0_ n1_ n2_ n3_ n4_ n5_ n6_
             (try clear hb)
             (try clear hb2)
             (try clear hk)
             (try clear hi)
             zq21
             clear hK K
             zq29
             rotate_left
             ·show Act.put _ (some 34) _ = _
              zq5
              rfl
             refine pure_ (i := 12) (N := some 35) (v := ?_) (a' := ?_) #[true, true, true, true, true, true, true, true, true, true, true, true, true, false, false, true, false] rfl rfl zq15 (fun _ _ _ h => h) (Or.inl ⟨by rfl, ?_⟩) ?_ ?_
             rotate_left
             ·intro w'
              go_simp
              with_reducible rfl
             rotate_left
             ·zq5
              rfl
             refine pure_ (i := 13) (N := some 36) (v := ?_) (a' := ?_) #[true, true, true, true, true, true, true, true, true, true, true, true, true, true, false, true, false] rfl rfl zq15 (fun _ _ _ h => h) (Or.inl ⟨by rfl, ?_⟩) ?_ ?_
             rotate_left
             ·intro w'
              go_simp
              with_reducible rfl
             rotate_left
             ·zq5
              rfl
             refine pure_ (i := 14) (N := some 37) (v := ?_) (a' := ?_) #[true, true, true, true, true, true, true, true, true, true, true, true, true, true, true, true, false] rfl rfl zq15 (fun _ _ _ h => h) (Or.inl ⟨by rfl, ?_⟩) ?_ ?_
             rotate_left
             ·intro w'
              go_simp
              with_reducible rfl
             rotate_left
             ·zq5
              rfl
             exact norm_ zq25 (hCont (gb127) _ ⟨(by (with_reducible repeat zq8); exact Kd.R_mono HO111.out (fun _ hk => hk.2)), (by (with_reducible repeat zq8); exact Kd.R_mono HO119.out (fun _ hk => hk.2)), (by (with_reducible repeat zq4); exact BK106.out), (by (with_reducible repeat zq4); exact BK127.out), GW127.out, GE127.out, NB0_127.out, NB127_0.out, NB106_127.out, NB127_106.out, (by repeat zq2), (by repeat zq9), (by repeat zq7)⟩)
           ·skip
            zq14
            intro gb127 hg w64 hbox hb
            have n0_ := Aside0.mk (Kd.R_below (by (with_reducible repeat zq8); exact HO111.out) hb)
            have n1_ := Aside0.mk (Kd.R_below (by (with_reducible repeat zq8); exact HO119.out) hb)
            have n2_ := Aside0.mk (IsS98.below (by repeat zq1) hb)
            have n3_ := Aside0.mk (blk_below (g := gb106) (o := .cells #[.int .i64 0, .int .i64 0, .int .i64 0, .int .i64 0] 24 (0, 0)) (by (with_reducible repeat zq4); exact BK106.out) hb)
            have n4_ := Aside0.mk (KeepBut.trans zq3 (KeepBut.of_below hb g none) (.inl rfl))
            have n5_ := Aside0.mk (below_step (by repeat zq6) hb)
            have n6_ := Aside0.mk (hbox)
            have n7_ := Aside0.mk ((by rw [hg]; exact (keep_size (w := w) (g := g) (row := none) zq3) : w.heap.size ≤ gb127))
            have n8_ := Aside0.mk ((Nat.le_trans HW0.out (by rw [hg]; exact (keep_size (w := w) (g := g) (row := none) zq3) : w.heap.size ≤ gb127) : w0.heap.size ≤ gb127))
            have n9_ := Aside0.mk ((by rw [hg]; exact Nat.ne_of_lt (blk_lt (g := gb106) (o := .cells #[.int .i64 0, .int .i64 0, .int .i64 0, .int .i64 0] 24 (0, 0)) (by (with_reducible repeat zq4); exact BK106.out)) : gb106 ≠ gb127))
            have n10_ := Aside0.mk ((by rw [hg]; exact Nat.ne_of_gt (blk_lt (g := gb106) (o := .cells #[.int .i64 0, .int .i64 0, .int .i64 0, .int .i64 0] 24 (0, 0)) (by (with_reducible repeat zq4); exact BK106.out)) : gb127 ≠ gb106))
            have n11_ := Aside0.mk ((by rw [hg]; exact Nat.ne_of_lt (IsS98.lt (show IsS98 w0 _ g s0_0 t121 from by repeat zq1)) : g ≠ gb127))
            have n12_ := Aside0.mk ((by rw [hg]; exact Nat.ne_of_gt (IsS98.lt (show IsS98 w0 _ g s0_0 t121 from by repeat zq1)) : gb127 ≠ g))
            clear HO111
            clear HO119
            clear HI0
            clear BK106
            clear HK
            clear HB
            have HO111 := n0_
            have HO119 := n1_
            have HI0 := n2_
            have BK106 := n3_
            have HK := n4_
            have HB := n5_
            have BK127 := n6_
            have GW127 := n7_
            have GE127 := n8_
            have NB106_127 := n9_
            have NB127_106 := n10_
            have NB0_127 := n11_
            have NB127_0 := n12_
            clear n0_ n1_ n2_ n3_ n4_ n5_ n6_ n7_ n8_ n9_ n10_ n11_ n12_
            clear hb hbox hg
            zq21
            clear hK K
            zq29
            rotate_left
            ·show Act.put _ (some 7) _ = _
             zq5
             rfl
            zq32
            refine goes_ Try.func78 (by kernel_rfl) rfl #[.pointer (some ⟨g, 0, none⟩), .int .i64 3] (by rfl) rfl rfl zq10 ?_
            zq31
            (case side1 => repeat zq2)
            (case side2 => repeat zq7)
            rintro e w65 ⟨rfl, hi, hb, hk⟩
            refine ⟨_, rfl, ?_⟩
            have n0_ := Aside0.mk (KeepBut.blk hk (g' := gb106) (o := .cells #[.int .i64 0, .int .i64 0, .int .i64 0, .int .i64 0] 24 (0, 0)) (by (with_reducible repeat zq4); exact BK106.out) NB106_0.out (by simp))
            have n1_ := Aside0.mk (Kd.R_mono (Kd.R_keep (IsS98.apart (show IsS98 w0 _ g s0_0 t121 from by repeat zq2) (by (with_reducible repeat zq8); exact HO111.out) (by decide)) hk (fun _ h => h.2)) (fun _ h => h.1))
            have n2_ := Aside0.mk (Kd.R_mono (Kd.R_keep (IsS98.apart (show IsS98 w0 _ g s0_0 t121 from by repeat zq2) (by (with_reducible repeat zq8); exact HO119.out) (by decide)) hk (fun _ h => h.2)) (fun _ h => h.1))
            have n3_ := Aside0.mk (KeepBut.blk hk (g' := gb127) (o := .cells #[.int .i64 0, .int .i64 0, .int .i64 0, .int .i64 0] 24 (0, 0)) (by (with_reducible repeat zq4); exact BK127.out) NB127_0.out (by simp))
            have n4_ := Aside0.mk (KeepBut.trans (by repeat zq9) hk (.inl rfl))
            have n5_ := Aside0.mk (hb)
            have n6_ := Aside0.mk (hi)
            clear BK106
            clear HO111
            clear HO119
            clear BK127
            clear HK
            clear HB
            clear HI0
            have BK106 := n0_
            have HO111 := n1_
            have HO119 := n2_
            have BK127 := n3_
            have HK := n4_
            have HB := n5_
            have HI0 := n6_
            clear n0_ n1_ n2_ n3_ n4_ n5_ n6_
            (try clear hb)
            (try clear hb2)
            (try clear hk)
            (try clear hi)
            zq21
            clear hK K
            zq29
            rotate_left
            ·show Act.put _ (some 32) _ = _
             zq5
             rfl
            zq19
            refine goes_ Try.func78 (by kernel_rfl) rfl #[.pointer (some ⟨g, 0, none⟩), .int .i64 3] (by rfl) rfl rfl zq10 ?_
            zq24
            (case side1 => repeat zq2)
            (case side2 => repeat zq7)
            rintro e w66 ⟨rfl, hi, hb, hk⟩
            refine ⟨_, rfl, ?_⟩
            have n0_ := Aside0.mk (KeepBut.blk hk (g' := gb106) (o := .cells #[.int .i64 0, .int .i64 0, .int .i64 0, .int .i64 0] 24 (0, 0)) (by (with_reducible repeat zq4); exact BK106.out) NB106_0.out (by simp))
            have n1_ := Aside0.mk (Kd.R_mono (Kd.R_keep (IsS98.apart (show IsS98 w0 _ g s0_0 t124 from by repeat zq2) (by (with_reducible repeat zq8); exact HO111.out) (by decide)) hk (fun _ h => h.2)) (fun _ h => h.1))
            have n2_ := Aside0.mk (Kd.R_mono (Kd.R_keep (IsS98.apart (show IsS98 w0 _ g s0_0 t124 from by repeat zq2) (by (with_reducible repeat zq8); exact HO119.out) (by decide)) hk (fun _ h => h.2)) (fun _ h => h.1))
            have n3_ := Aside0.mk (KeepBut.blk hk (g' := gb127) (o := .cells #[.int .i64 0, .int .i64 0, .int .i64 0, .int .i64 0] 24 (0, 0)) (by (with_reducible repeat zq4); exact BK127.out) NB127_0.out (by simp))
            have n4_ := Aside0.mk (KeepBut.trans (by repeat zq9) hk (.inl rfl))
            have n5_ := Aside0.mk (hb)
            have n6_ := Aside0.mk (hi)
            clear BK106
            clear HO111
            clear HO119
            clear BK127
            clear HK
            clear HB
            clear HI0
            have BK106 := n0_
            have HO111 := n1_
            have HO119 := n2_
            have BK127 := n3_
            have HK := n4_
            have HB := n5_
            have HI0 := n6_
            clear n0_ n1_ n2_ n3_ n4_ n5_ n6_
            (try clear hb)
            (try clear hb2)
            (try clear hk)
            (try clear hi)
            zq21
            clear hK K
            zq29
            rotate_left
            ·show Act.put _ (some 34) _ = _
             zq5
             rfl
            refine pure_ (i := 12) (N := some 35) (v := ?_) (a' := ?_) #[true, true, true, true, true, true, true, true, true, true, true, true, true, false, false, true, false] rfl rfl zq15 (fun _ _ _ h => h) (Or.inl ⟨by rfl, ?_⟩) ?_ ?_
            rotate_left
            ·intro w'
             go_simp
             with_reducible rfl
            rotate_left
            ·zq5
             rfl
            refine pure_ (i := 13) (N := some 36) (v := ?_) (a' := ?_) #[true, true, true, true, true, true, true, true, true, true, true, true, true, true, false, true, false] rfl rfl zq15 (fun _ _ _ h => h) (Or.inl ⟨by rfl, ?_⟩) ?_ ?_
            rotate_left
            ·intro w'
             go_simp
             with_reducible rfl
            rotate_left
            ·zq5
             rfl
            refine pure_ (i := 14) (N := some 37) (v := ?_) (a' := ?_) #[true, true, true, true, true, true, true, true, true, true, true, true, true, true, true, true, false] rfl rfl zq15 (fun _ _ _ h => h) (Or.inl ⟨by rfl, ?_⟩) ?_ ?_
            rotate_left
            ·intro w'
             go_simp
             with_reducible rfl
            rotate_left
            ·zq5
             rfl
            exact norm_ zq25 (hCont (gb127) _ ⟨(by (with_reducible repeat zq8); exact Kd.R_mono HO111.out (fun _ hk => hk.2)), (by (with_reducible repeat zq8); exact Kd.R_mono HO119.out (fun _ hk => hk.2)), (by (with_reducible repeat zq4); exact BK106.out), (by (with_reducible repeat zq4); exact BK127.out), GW127.out, GE127.out, NB0_127.out, NB127_0.out, NB106_127.out, NB127_106.out, (by repeat zq2), (by repeat zq9), (by repeat zq7)⟩)
          rintro gb127 w67 ⟨h0_, h1_, h2_, h3_, h4_, h5_, h6_, h7_, h8_, h9_, h10_, h11_, h12_⟩
          have n0_ : Aside0 (Kd.R (Kd.int .i64) 3 w67 w.heap.size (fun k_ => some k_ ≠ (.slice (some ad122) y117.length co62 : Value).ownBlock) (.slice (some ad114) y109.length co57) y109) := ⟨h0_⟩
          have n1_ : Aside0 (Kd.R (Kd.int .i64) 3 w67 w.heap.size (fun k_ => some k_ ≠ (.slice (some ad114) y109.length co57 : Value).ownBlock) (.slice (some ad122) y117.length co62) y117) := ⟨h1_⟩
          have n2_ : Aside0 (w67.heap[gb106]? = some zq26) := ⟨h2_⟩
          have n3_ : Aside0 (w67.heap[gb127]? = some zq26) := ⟨h3_⟩
          have n4_ : Aside0 (w.heap.size ≤ gb127) := ⟨h4_⟩
          have n5_ : Aside0 (w0.heap.size ≤ gb127) := ⟨h5_⟩
          have n6_ : Aside0 (g ≠ gb127) := ⟨h6_⟩
          have n7_ : Aside0 (gb127 ≠ g) := ⟨h7_⟩
          have n8_ : Aside0 (gb106 ≠ gb127) := ⟨h8_⟩
          have n9_ : Aside0 (gb127 ≠ gb106) := ⟨h9_⟩
          have n10_ : Aside0 (IsS98 w0 w67 g s0_0 t126) := ⟨h10_⟩
          have n11_ : Aside0 (KeepBut w w67 g none) := ⟨h11_⟩
          have n12_ : Aside0 (Below w0.heap.size w0 w67) := ⟨h12_⟩
          clear HO111
          clear HO119
          clear BK106
          clear HI0
          clear HK
          clear HB
          clear h0_ h1_ h2_ h3_ h4_ h5_ h6_ h7_ h8_ h9_ h10_ h11_ h12_
          have HO111 := n0_
          have HO119 := n1_
          have BK106 := n2_
          have BK127 := n3_
          have GW127 := n4_
          have GE127 := n5_
          have NB0_127 := n6_
          have NB127_0 := n7_
          have NB106_127 := n8_
          have NB127_106 := n9_
          have HI0 := n10_
          have HK := n11_
          have HB := n12_
          clear n0_ n1_ n2_ n3_ n4_ n5_ n6_ n7_ n8_ n9_ n10_ n11_ n12_
          have hHeld := trivial
          zq29
          rotate_left
          ·simp only [putAll, Act.put, List.setIfInBounds_toArray, List.set_cons_zero, List.set_cons_succ]
           rfl
          zq35
          have hs68 : w67.cell? ⟨gb127, 0, none⟩ = some (.int .i64 0) := (blk_cell BK127.out 0).trans rfl
          have hfs68 := blk_frozen BK127.out 0
          have hns68_0 := NB106_127.out
          have hms68_0 := NB127_106.out
          have hs69 : w67.cell? ⟨gb127, 1, none⟩ = some (.int .i64 0) := (blk_cell BK127.out 1).trans rfl
          have hfs69 := blk_frozen BK127.out 1
          have hns69_0 := NB106_127.out
          have hms69_0 := NB127_106.out
          have hs70 : w67.cell? ⟨gb127, 2, none⟩ = some (.int .i64 0) := (blk_cell BK127.out 2).trans rfl
          have hfs70 := blk_frozen BK127.out 2
          have hns70_0 := NB106_127.out
          have hms70_0 := NB127_106.out
          have hs71 : w67.cell? ⟨gb127, 3, none⟩ = some (.int .i64 0) := (blk_cell BK127.out 3).trans rfl
          have hfs71 := blk_frozen BK127.out 3
          have hns71_0 := NB106_127.out
          have hms71_0 := NB127_106.out
          refine skip_ (w1 := ?_) (by rfl) rfl ?_ ?_
          rotate_left
          ·go_simp
           rfl
          zq21
          clear hK K
          refine done_ (done_of HT_.out (by kernel_rfl)) ?_
          try go_wp2_with (first | ((with_reducible refine gate_callee (f := 87) rfl ?_); refine goesL_ (some 40) rfl rfl Try.func87 (by kernel_rfl) rfl #[.pointer (some ⟨g, 0, none⟩), .int .i64 a1] rfl zq10 ?_; (with_reducible refine (spec_l20Rd_odd.calls k g s0_0 t126 a1 true t129 w0 _ ?side1 ?side2 A17.out).mono ?_); (case side1 => repeat zq2); (case side2 => repeat zq7); rintro e w72 ⟨rfl, hi, hb, hk⟩; refine ⟨_, rfl, ?_⟩; have n0_ := Aside0.mk (KeepBut.blk hk (g' := gb106) (o := .cells #[.int .i64 0, .int .i64 0, .int .i64 0, .int .i64 0] 24 (0, 0)) (by (with_reducible repeat zq4); refine blk_far ?_ NB106_127.out _; (with_reducible repeat zq4); refine blk_far ?_ NB106_127.out _; (with_reducible repeat zq4); refine blk_far ?_ NB106_127.out _; (with_reducible repeat zq4); refine blk_far ?_ NB106_127.out _; (with_reducible repeat zq4); exact BK106.out) NB106_0.out (by simp)); have n1_ := Aside0.mk (Kd.R_mono (Kd.R_keep (IsS98.apart (show IsS98 w0 _ g s0_0 t126 from by repeat zq2) (by (with_reducible repeat zq8); exact (Kd.R_mono (Kd.R_far (p := ⟨gb127, 3, none⟩) (Kd.R_far (p := ⟨gb127, 2, none⟩) (Kd.R_far (p := ⟨gb127, 1, none⟩) (Kd.R_far (p := ⟨gb127, 0, none⟩) (Kd.R_types HO111.out BK127.out (by decide)) (fun _ hk => hk.2) (.int .i64 (wrap64 zq11))) (fun _ hk => hk.2) (.int .i64 (rd y109 t112))) (fun _ hk => hk.2) (.int .i64 t123)) (fun _ hk => hk.2) (.int .i64 zq27)) (fun _ h_ => h_.1))) (by decide)) hk (fun _ h => h.2)) (fun _ h => h.1)); have n2_ := Aside0.mk (Kd.R_mono (Kd.R_keep (IsS98.apart (show IsS98 w0 _ g s0_0 t126 from by repeat zq2) (by (with_reducible repeat zq8); exact (Kd.R_mono (Kd.R_far (p := ⟨gb127, 3, none⟩) (Kd.R_far (p := ⟨gb127, 2, none⟩) (Kd.R_far (p := ⟨gb127, 1, none⟩) (Kd.R_far (p := ⟨gb127, 0, none⟩) (Kd.R_types HO119.out BK127.out (by decide)) (fun _ hk => hk.2) (.int .i64 (wrap64 zq11))) (fun _ hk => hk.2) (.int .i64 (rd y109 t112))) (fun _ hk => hk.2) (.int .i64 t123)) (fun _ hk => hk.2) (.int .i64 zq27)) (fun _ h_ => h_.1))) (by decide)) hk (fun _ h => h.2)) (fun _ h => h.1)); have n3_ := Aside0.mk (KeepBut.blk hk (g' := gb127) (o := .cells #[.int .i64 (wrap64 zq11), .int .i64 (rd y109 t112), .int .i64 t123, .int .i64 zq27] 24 (0, 0)) (by (with_reducible repeat zq4); refine blk_put (cs := #[.int .i64 (wrap64 zq11), .int .i64 (rd y109 t112), .int .i64 t123, .int .i64 0]) ?_ 3 _ rfl; (with_reducible repeat zq4); refine blk_put (cs := #[.int .i64 (wrap64 zq11), .int .i64 (rd y109 t112), .int .i64 0, .int .i64 0]) ?_ 2 _ rfl; (with_reducible repeat zq4); refine blk_put (cs := #[.int .i64 (wrap64 zq11), .int .i64 0, .int .i64 0, .int .i64 0]) ?_ 1 _ rfl; (with_reducible repeat zq4); refine blk_put (cs := #[.int .i64 0, .int .i64 0, .int .i64 0, .int .i64 0]) ?_ 0 _ rfl; (with_reducible repeat zq4); exact BK127.out) NB127_0.out (by simp)); have n4_ := Aside0.mk (KeepBut.trans (by repeat zq9) hk (.inl rfl)); have n5_ := Aside0.mk (hb); have n6_ := Aside0.mk (hi); clear BK106; clear HO111; clear HO119; clear BK127; clear HK; clear HB; clear HI0; have BK106 := n0_; have HO111 := n1_; have HO119 := n2_; have BK127 := n3_; have HK := n4_; have HB := n5_; have HI0 := n6_; clear n0_ n1_ n2_ n3_ n4_ n5_ n6_; (try clear hb); (try clear hb2); (try clear hk); (try clear hi)) | ((with_reducible refine gate_callee (f := 78) rfl ?_); refine goesL_ (some 42) rfl rfl Try.func78 (by kernel_rfl) rfl #[.pointer (some ⟨g, 0, none⟩), .int .i64 3] rfl zq10 ?_; (with_reducible refine (spec_l20Rd_pick.calls k g s0_0 t129 3 t130 t131 w0 _ ?side1 ?side2 A19.out).mono ?_); (case side1 => repeat zq2); (case side2 => repeat zq7); rintro e w73 ⟨rfl, hi, hb, hk⟩; refine ⟨_, rfl, ?_⟩; have n0_ := Aside0.mk (KeepBut.blk hk (g' := gb106) (o := .cells #[.int .i64 0, .int .i64 0, .int .i64 0, .int .i64 0] 24 (0, 0)) (by (with_reducible repeat zq4); exact BK106.out) NB106_0.out (by simp)); have n1_ := Aside0.mk (Kd.R_mono (Kd.R_keep (IsS98.apart (show IsS98 w0 _ g s0_0 t129 from by repeat zq2) (by (with_reducible repeat zq8); exact HO111.out) (by decide)) hk (fun _ h => h.2)) (fun _ h => h.1)); have n2_ := Aside0.mk (Kd.R_mono (Kd.R_keep (IsS98.apart (show IsS98 w0 _ g s0_0 t129 from by repeat zq2) (by (with_reducible repeat zq8); exact HO119.out) (by decide)) hk (fun _ h => h.2)) (fun _ h => h.1)); have n3_ := Aside0.mk (KeepBut.blk hk (g' := gb127) (o := .cells #[.int .i64 (wrap64 zq11), .int .i64 (rd y109 t112), .int .i64 t123, .int .i64 zq27] 24 (0, 0)) (by (with_reducible repeat zq4); exact BK127.out) NB127_0.out (by simp)); have n4_ := Aside0.mk (KeepBut.trans (by repeat zq9) hk (.inl rfl)); have n5_ := Aside0.mk (hb); have n6_ := Aside0.mk (hi); clear BK106; clear HO111; clear HO119; clear BK127; clear HK; clear HB; clear HI0; have BK106 := n0_; have HO111 := n1_; have HO119 := n2_; have BK127 := n3_; have HK := n4_; have HB := n5_; have HI0 := n6_; clear n0_ n1_ n2_ n3_ n4_ n5_ n6_; (try clear hb); (try clear hb2); (try clear hk); (try clear hi)) | ((with_reducible refine gate_callee (f := 78) rfl ?_); refine goesL_ (some 57) rfl rfl Try.func78 (by kernel_rfl) rfl #[.pointer (some ⟨g, 0, none⟩), .int .i64 2] rfl zq10 ?_; (with_reducible refine (spec_l20Rd_pick.calls k g s0_0 t131 2 t134 t135 w0 _ ?side1 ?side2 A51.out).mono ?_); (case side1 => repeat zq2); (case side2 => repeat zq7); rintro e w74 ⟨rfl, hi, hb, hk⟩; refine ⟨_, rfl, ?_⟩; have n0_ := Aside0.mk (KeepBut.blk hk (g' := gb106) (o := .cells #[.int .i64 0, .int .i64 0, .int .i64 0, .int .i64 0] 24 (0, 0)) (by (with_reducible repeat zq4); exact BK106.out) NB106_0.out (by simp)); have n1_ := Aside0.mk (Kd.R_mono (Kd.R_keep (IsS98.apart (show IsS98 w0 _ g s0_0 t131 from by repeat zq2) (by (with_reducible repeat zq8); exact HO111.out) (by decide)) hk (fun _ h => h.2)) (fun _ h => h.1)); have n2_ := Aside0.mk (Kd.R_mono (Kd.R_keep (IsS98.apart (show IsS98 w0 _ g s0_0 t131 from by repeat zq2) (by (with_reducible repeat zq8); exact HO119.out) (by decide)) hk (fun _ h => h.2)) (fun _ h => h.1)); have n3_ := Aside0.mk (KeepBut.blk hk (g' := gb127) (o := .cells #[.int .i64 (wrap64 zq11), .int .i64 (rd y109 t112), .int .i64 t123, .int .i64 zq27] 24 (0, 0)) (by (with_reducible repeat zq4); exact BK127.out) NB127_0.out (by simp)); have n4_ := Aside0.mk (KeepBut.trans (by repeat zq9) hk (.inl rfl)); have n5_ := Aside0.mk (hb); have n6_ := Aside0.mk (hi); clear BK106; clear HO111; clear HO119; clear BK127; clear HK; clear HB; clear HI0; have BK106 := n0_; have HO111 := n1_; have HO119 := n2_; have BK127 := n3_; have HK := n4_; have HB := n5_; have HI0 := n6_; clear n0_ n1_ n2_ n3_ n4_ n5_ n6_; (try clear hb); (try clear hb2); (try clear hk); (try clear hi); have hnb75 := NB127_106.out; have hnc75 := NB106_127.out; have hnb76 := NB127_0.out; have hnc76 := NB0_127.out; have hcz77_0 : w74.cell? ⟨gb127, 0, none⟩ = some (.int .i64 (wrap64 zq11)) := (blk_cell BK127.out 0).trans rfl; have hcz77_1 : w74.cell? ⟨gb127, 1, none⟩ = some (.int .i64 (rd y109 t112)) := (blk_cell BK127.out 1).trans rfl; have hcz77_2 : w74.cell? ⟨gb127, 2, none⟩ = some (.int .i64 t123) := (blk_cell BK127.out 2).trans rfl; have hcz77_3 : w74.cell? ⟨gb127, 3, none⟩ = some (.int .i64 zq27) := (blk_cell BK127.out 3).trans rfl; have hfz77_0 := blk_frozen BK127.out 0; have hfz77_1 := blk_frozen BK127.out 1; have hfz77_2 := blk_frozen BK127.out 2; have hfz77_3 := blk_frozen BK127.out 3; have hnb78 := NB106_0.out; have hnc78 := NB0_106.out; have hcz79_0 : w74.cell? ⟨gb106, 0, none⟩ = some (.int .i64 0) := (blk_cell BK106.out 0).trans rfl; have hcz79_1 : w74.cell? ⟨gb106, 1, none⟩ = some (.int .i64 0) := (blk_cell BK106.out 1).trans rfl; have hcz79_2 : w74.cell? ⟨gb106, 2, none⟩ = some (.int .i64 0) := (blk_cell BK106.out 2).trans rfl; have hcz79_3 : w74.cell? ⟨gb106, 3, none⟩ = some (.int .i64 0) := (blk_cell BK106.out 3).trans rfl; have hfz79_0 := blk_frozen BK106.out 0; have hfz79_1 := blk_frozen BK106.out 1; have hfz79_2 := blk_frozen BK106.out 2; have hfz79_3 := blk_frozen BK106.out 3))
          refine bodyPost_ret (results_cell_row rfl _ _ gb106 24 #[.int .i64 (wrap64 zq11), .int .i64 (rd y109 t112), .int .i64 t123, .int .i64 (wrap64 (t134 * 49))] (0, 0) _ rfl (by (with_reducible repeat zq4); refine blk_put (cs := #[.int .i64 (wrap64 zq11), .int .i64 (rd y109 t112), .int .i64 t123, .int .i64 0]) ?_ 3 _ rfl; (with_reducible repeat zq4); refine blk_put (cs := #[.int .i64 (wrap64 zq11), .int .i64 (rd y109 t112), .int .i64 0, .int .i64 0]) ?_ 2 _ rfl; (with_reducible repeat zq4); refine blk_put (cs := #[.int .i64 (wrap64 zq11), .int .i64 0, .int .i64 0, .int .i64 0]) ?_ 1 _ rfl; (with_reducible repeat zq4); refine blk_put (cs := #[.int .i64 0, .int .i64 0, .int .i64 0, .int .i64 0]) ?_ 0 _ rfl; (with_reducible repeat zq4); refine blk_far ?_ NB106_127.out _; (with_reducible repeat zq4); exact BK106.out) Try.underlying24 rfl (by kernel_rfl)) rfl ?_
          exact ⟨by first | rfl | (simp [errW_none, errW_some] <;> rfl) | (simp only [← hji11, ← hji13]; first | rfl | (simp [errW_none, errW_some] <;> rfl)) | (simp [*, errW_none, errW_some] <;> rfl), by repeat zq2, by repeat zq7, by repeat zq9⟩
         ·rw [if_neg c50] at H
          have c50b0 : (t130 == 1) = false := beq_eq_false_iff_ne.mpr c50
          have c50b1 : (t130 != 1) = true := bne_iff_ne.mpr c50
          simp only [Option.some.injEq, Prod.mk.injEq] at H
          obtain ⟨rfl, rfl, rfl, rfl, rfl⟩ := H
          go_enter Try.func61, Try.ntmps61
          try go_wp2_with (first | ((with_reducible refine gate_dst (N := 4) rfl ?_); refine box_event ?hg (N := 4) ?hd (cs := #[.int .i64 0, .int .i64 0, .int .i64 0, .int .i64 0]) (t := 24) ?hr ?_; (case hd => rfl); (case hg => rfl); (case hr => first | (go_simp; done) | (go_simp; rfl)); intro gb106 hg w80 hbox hb; have n0_ := Aside0.mk (IsS98.below (by repeat zq17) hb); have n1_ := Aside0.mk zq34; have n2_ := Aside0.mk zq36; have n3_ := Aside0.mk (hbox); have n4_ := Aside0.mk (zq16); have n5_ := Aside0.mk ((Nat.le_trans HW0.out zq16 : w0.heap.size ≤ gb106)); have n6_ := Aside0.mk ((by rw [hg]; exact Nat.ne_of_lt (IsS98.lt (show IsS98 w0 _ g s0_0 s0_1 from by repeat zq17)) : g ≠ gb106)); have n7_ := Aside0.mk ((by rw [hg]; exact Nat.ne_of_gt (IsS98.lt (show IsS98 w0 _ g s0_0 s0_1 from by repeat zq17)) : gb106 ≠ g)); clear HI0; clear HK; clear HB; have HI0 := n0_; have HK := n1_; have HB := n2_; have BK106 := n3_; have GW106 := n4_; have GE106 := n5_; have NB0_106 := n6_; have NB106_0 := n7_; clear n0_ n1_ n2_ n3_ n4_ n5_ n6_ n7_; clear hb hbox hg) | ((with_reducible refine gate_callee (f := 78) rfl ?_); refine goesL_ (some 9) rfl rfl Try.func78 (by kernel_rfl) rfl #[.pointer (some ⟨g, 0, none⟩), .int .i64 17] rfl zq10 ?_; zq38; (case side1 => repeat zq1); (case side2 => repeat zq6); rintro e w81 ⟨rfl, hi, hb, hk⟩; refine ⟨_, rfl, ?_⟩; have n0_ := Aside0.mk (KeepBut.blk hk (g' := gb106) (o := .cells #[.int .i64 0, .int .i64 0, .int .i64 0, .int .i64 0] 24 (0, 0)) (by (with_reducible repeat zq4); exact BK106.out) NB106_0.out (by simp)); have n1_ := Aside0.mk (KeepBut.trans zq3 hk (.inl rfl)); have n2_ := Aside0.mk (hb); have n3_ := Aside0.mk (hi); clear BK106; clear HK; clear HB; clear HI0; have BK106 := n0_; have HK := n1_; have HB := n2_; have HI0 := n3_; clear n0_ n1_ n2_ n3_; (try clear hb); (try clear hb2); (try clear hk); (try clear hi)) | ((with_reducible refine gate_dst (N := 10) rfl ?_); refine Kd.R_lit (Kd.int .i64) _ 3 ?hg (N := 10) ?hd (xs := ([0, 4, 8, 8, 12, 16, t107] : List Int)) (inner := [.int .i64 0, .int .i64 4, .int .i64 8, .int .i64 8, .int .i64 12, .int .i64 16, .int .i64 t107]) (ok := fun _ => True) (okp := fun _ => True) ?hr ?hp (fun _ hk => hk) trivial (Below.refl _ _) (Nat.le_refl _) (by simp) ?_; (case hd => rfl); (case hg => rfl); (case hr => first | (go_simp; done) | (go_simp; rfl)); (case hp => exact zq18); intro v110 w82 ho83 hb hg_ hnew_; clear hg_ hnew_; (first | rw [← Ny109.out] at ho83 | (simp only [Int.reduceToNat] at ho83; rw [← Ny109.out] at ho83)); have n0_ := Aside0.mk (Kd.R_lower ho83 (keep_size (w := w) (g := g) (row := none) zq3)); have n1_ := Aside0.mk (IsS98.below (by repeat zq1) hb); have n2_ := Aside0.mk (blk_below (g := gb106) (o := .cells #[.int .i64 0, .int .i64 0, .int .i64 0, .int .i64 0] 24 (0, 0)) (by (with_reducible repeat zq4); exact BK106.out) hb); have n3_ := Aside0.mk (KeepBut.trans zq3 (KeepBut.of_below hb g none) (.inl rfl)); have n4_ := Aside0.mk (below_step (by repeat zq6) hb); clear HI0; clear BK106; clear HK; clear HB; have HO111 := n0_; have HI0 := n1_; have BK106 := n2_; have HK := n3_; have HB := n4_; clear n0_ n1_ n2_ n3_ n4_; clear hb ho83) | ((with_reducible refine gate_callee (f := 78) rfl ?_); refine goesL_ (some 12) rfl rfl Try.func78 (by kernel_rfl) rfl #[.pointer (some ⟨g, 0, none⟩), .int .i64 7] rfl zq10 ?_; zq40; (case side1 => repeat zq1); (case side2 => repeat zq6); rintro e w84 ⟨rfl, hi, hb, hk⟩; refine ⟨_, rfl, ?_⟩; have n0_ := Aside0.mk (KeepBut.blk hk (g' := gb106) (o := .cells #[.int .i64 0, .int .i64 0, .int .i64 0, .int .i64 0] 24 (0, 0)) (by (with_reducible repeat zq4); exact BK106.out) NB106_0.out (by simp)); have n1_ := Aside0.mk (Kd.R_mono (Kd.R_keep (IsS98.apart (show IsS98 w0 _ g s0_0 t108 from by repeat zq1) (by (with_reducible repeat zq8); exact HO111.out) (by decide)) hk (fun _ h => h.2)) (fun _ h => h.1)); have n2_ := Aside0.mk (KeepBut.trans zq3 hk (.inl rfl)); have n3_ := Aside0.mk (hb); have n4_ := Aside0.mk (hi); clear BK106; clear HO111; clear HK; clear HB; clear HI0; have BK106 := n0_; have HO111 := n1_; have HK := n2_; have HB := n3_; have HI0 := n4_; clear n0_ n1_ n2_ n3_ n4_; (try clear hb); (try clear hb2); (try clear hk); (try clear hi); obtain ⟨Ao85, co85, eo85⟩ := Kd.R_slice HO111.out; subst eo85; have p114 : 0 ≤ (t112 : Int) := of_decide_eq_true zq30; have q114 : t112 < (y109.length : Int) := of_decide_eq_true zq30; obtain ⟨ad114, e114, hx114_0⟩ := Kd.at_int (Kd.R_reads' HO111.out).2.2 t112 p114 q114; cases e114; replace p114 := eq_true p114; replace q114 := eq_true q114) | ((with_reducible refine gate_callee (f := 78) rfl ?_); refine goesL_ (some 16) rfl rfl Try.func78 (by kernel_rfl) rfl #[.pointer (some ⟨g, 0, none⟩), .int .i64 512] rfl zq10 ?_; zq37; (case side1 => repeat zq1); (case side2 => repeat zq6); rintro e w86 ⟨rfl, hi, hb, hk⟩; refine ⟨_, rfl, ?_⟩; have n0_ := Aside0.mk (KeepBut.blk hk (g' := gb106) (o := .cells #[.int .i64 0, .int .i64 0, .int .i64 0, .int .i64 0] 24 (0, 0)) (by (with_reducible repeat zq4); exact BK106.out) NB106_0.out (by simp)); have n1_ := Aside0.mk (Kd.R_mono (Kd.R_keep (IsS98.apart (show IsS98 w0 _ g s0_0 t113 from by repeat zq1) (by (with_reducible repeat zq8); exact HO111.out) (by decide)) hk (fun _ h => h.2)) (fun _ h => h.1)); have n2_ := Aside0.mk (KeepBut.trans zq3 hk (.inl rfl)); have n3_ := Aside0.mk (hb); have n4_ := Aside0.mk (hi); clear BK106; clear HO111; clear HK; clear HB; clear HI0; have BK106 := n0_; have HO111 := n1_; have HK := n2_; have HB := n3_; have HI0 := n4_; clear n0_ n1_ n2_ n3_ n4_; (try clear hb); (try clear hb2); (try clear hk); (try clear hi)) | ((with_reducible refine gate_dst (N := 18) rfl ?_); refine Kd.R_lit (Kd.int .i64) _ 3 ?hg (N := 18) ?hd (xs := ([0, 4096, 4352, 4353, wrap64 (4096 + t115), 65535] : List Int)) (inner := [.int .i64 0, .int .i64 4096, .int .i64 4352, .int .i64 4353, .int .i64 (wrap64 (4096 + t115)), .int .i64 65535]) (ok := fun _ => True) (okp := fun _ => True) ?hr ?hp (fun _ hk => hk) trivial (Below.refl _ _) (Nat.le_refl _) (by simp) ?_; (case hd => rfl); (case hg => rfl); (case hr => first | (go_simp; done) | (go_simp; rfl)); (case hp => exact zq20); intro v118 w87 ho88 hb hg_ hnew_; clear hg_ hnew_; (first | rw [← Ny117.out] at ho88 | (simp only [Int.reduceToNat] at ho88; rw [← Ny117.out] at ho88)); have n0_ := Aside0.mk (Kd.R_elder' (by (with_reducible repeat zq8); exact HO111.out) (Kd.R_base ho88) hb); have n1_ := Aside0.mk (Kd.R_lower (Kd.R_new' ho88 (Kd.R_lt (by (with_reducible repeat zq8); exact HO111.out))) (keep_size (w := w) (g := g) (row := none) zq3)); have n2_ := Aside0.mk (IsS98.below (by repeat zq1) hb); have n3_ := Aside0.mk (blk_below (g := gb106) (o := .cells #[.int .i64 0, .int .i64 0, .int .i64 0, .int .i64 0] 24 (0, 0)) (by (with_reducible repeat zq4); exact BK106.out) hb); have n4_ := Aside0.mk (KeepBut.trans zq3 (KeepBut.of_below hb g none) (.inl rfl)); have n5_ := Aside0.mk (below_step (by repeat zq6) hb); clear HO111; clear HI0; clear BK106; clear HK; clear HB; have HO111 := n0_; have HO119 := n1_; have HI0 := n2_; have BK106 := n3_; have HK := n4_; have HB := n5_; clear n0_ n1_ n2_ n3_ n4_ n5_; clear hb ho88) | ((with_reducible refine gate_callee (f := 78) rfl ?_); refine goesL_ (some 20) rfl rfl Try.func78 (by kernel_rfl) rfl #[.pointer (some ⟨g, 0, none⟩), .int .i64 6] rfl zq10 ?_; zq39; (case side1 => repeat zq1); (case side2 => repeat zq6); rintro e w89 ⟨rfl, hi, hb, hk⟩; refine ⟨_, rfl, ?_⟩; have n0_ := Aside0.mk (KeepBut.blk hk (g' := gb106) (o := .cells #[.int .i64 0, .int .i64 0, .int .i64 0, .int .i64 0] 24 (0, 0)) (by (with_reducible repeat zq4); exact BK106.out) NB106_0.out (by simp)); have n1_ := Aside0.mk (Kd.R_mono (Kd.R_keep (IsS98.apart (show IsS98 w0 _ g s0_0 t116 from by repeat zq1) (by (with_reducible repeat zq8); exact HO111.out) (by decide)) hk (fun _ h => h.2)) (fun _ h => h.1)); have n2_ := Aside0.mk (Kd.R_mono (Kd.R_keep (IsS98.apart (show IsS98 w0 _ g s0_0 t116 from by repeat zq1) (by (with_reducible repeat zq8); exact HO119.out) (by decide)) hk (fun _ h => h.2)) (fun _ h => h.1)); have n3_ := Aside0.mk (KeepBut.trans zq3 hk (.inl rfl)); have n4_ := Aside0.mk (hb); have n5_ := Aside0.mk (hi); clear BK106; clear HO111; clear HO119; clear HK; clear HB; clear HI0; have BK106 := n0_; have HO111 := n1_; have HO119 := n2_; have HK := n3_; have HB := n4_; have HI0 := n5_; clear n0_ n1_ n2_ n3_ n4_ n5_; (try clear hb); (try clear hb2); (try clear hk); (try clear hi); obtain ⟨Ao90, co90, eo90⟩ := Kd.R_slice HO119.out; subst eo90; have p122 : 0 ≤ (t120 : Int) := of_decide_eq_true zq30; have q122 : t120 < (y117.length : Int) := of_decide_eq_true zq30; obtain ⟨ad122, e122, hx122_0⟩ := Kd.at_int (Kd.R_reads' HO119.out).2.2 t120 p122 q122; cases e122; replace p122 := eq_true p122; replace q122 := eq_true q122))
          have n0_ := Aside0.mk (Kd.R_drew HO111.out)
          have n1_ := Aside0.mk (Kd.R_drew HO119.out)
          have n2_ := Aside0.mk (blk_drew BK106.out)
          have n3_ := Aside0.mk (IsS98.drew HI0.out)
          have n4_ := Aside0.mk (keep_drew HK.out)
          have n5_ := Aside0.mk (below_drew1 HB.out)
          clear HO111
          clear HO119
          clear BK106
          clear HI0
          clear HK
          clear HB
          have HO111 := n0_
          have HO119 := n1_
          have BK106 := n2_
          have HI0 := n3_
          have HK := n4_
          have HB := n5_
          clear n0_ n1_ n2_ n3_ n4_ n5_
          zq28
          generalize w89.drew = w91 at HO111 HO119 BK106 HI0 HK HB hHeld ⊢
          refine pure_ (i := 0) (N := some 23) (v := ?_) (a' := ?_) #[true, false, false, false, false, false, false, false, false, false, false, false, false, false, false, false, false] rfl rfl zq15 (fun _ _ _ h => h) (Or.inl ⟨by rfl, ?_⟩) ?_ ?_
          rotate_left
          ·intro w'
           go_simp
           with_reducible rfl
          rotate_left
          ·zq5
           rfl
          refine pure_ (i := 1) (N := some 24) (v := ?_) (a' := ?_) #[true, true, false, false, false, false, false, false, false, false, false, false, false, false, false, false, false] rfl rfl zq15 (fun _ _ _ h => h) (Or.inl ⟨by rfl, ?_⟩) ?_ ?_
          rotate_left
          ·intro w'
           go_simp
           with_reducible rfl
          rotate_left
          ·zq5
           rfl
          refine pure_ (i := 2) (N := some 25) (v := ?_) (a' := ?_) #[true, true, true, false, false, false, false, false, false, false, false, false, false, false, false, false, false] rfl rfl zq15 (fun _ _ _ h => h) (Or.inl ⟨by rfl, ?_⟩) ?_ ?_
          rotate_left
          ·intro w'
           go_simp
           with_reducible rfl
          rotate_left
          ·zq5
           rfl
          refine pure_ (i := 3) (N := some 26) (v := ?_) (a' := ?_) #[true, true, true, true, false, false, false, false, false, false, false, false, false, false, false, false, false] rfl rfl zq15 (fun _ _ _ h => h) (Or.inl ⟨by rfl, ?_⟩) ?_ ?_
          rotate_left
          ·intro w'
           go_simp
           with_reducible rfl
          rotate_left
          ·zq5
           rfl
          refine pure_ (i := 4) (N := some 27) (v := ?_) (a' := ?_) #[true, true, true, true, true, false, false, false, false, false, false, false, false, false, false, false, false] rfl rfl zq15 (fun _ _ _ h => h) (Or.inl ⟨by rfl, ?_⟩) ?_ ?_
          rotate_left
          ·intro w'
           go_simp
           with_reducible rfl
          rotate_left
          ·zq5
           rfl
          refine pure_ (i := 5) (N := some 28) (v := ?_) (a' := ?_) #[true, true, true, true, true, true, false, false, false, false, false, false, false, false, false, false, false] rfl rfl zq15 (fun _ _ _ h => h) (Or.inl ⟨by rfl, ?_⟩) ?_ ?_
          rotate_left
          ·intro w'
           go_simp
           with_reducible rfl
          rotate_left
          ·zq5
           rfl
          refine pure_ (i := 6) (N := some 29) (v := ?_) (a' := ?_) #[true, true, true, true, true, true, true, false, false, false, false, false, false, false, false, false, false] rfl rfl zq15 (fun _ _ _ h => h) (Or.inl ⟨by rfl, ?_⟩) ?_ ?_
          rotate_left
          ·intro w'
           go_simp
           with_reducible rfl
          rotate_left
          ·zq5
           rfl
          refine pure_ (i := 7) (N := some 30) (v := ?_) (a' := ?_) #[true, true, true, true, true, true, true, true, false, false, false, false, false, false, false, false, false] rfl rfl zq15 (fun _ _ _ h => h) (Or.inl ⟨by rfl, ?_⟩) ?_ ?_
          rotate_left
          ·intro w'
           go_simp
           with_reducible rfl
          rotate_left
          ·zq5
           rfl
          refine pure_ (i := 8) (N := some 31) (v := ?_) (a' := ?_) #[true, true, true, true, true, true, true, true, true, false, false, false, false, false, false, false, false] rfl rfl zq15 (fun _ _ _ h => h) (Or.inl ⟨by rfl, ?_⟩) ?_ ?_
          rotate_left
          ·intro w'
           go_simp
           with_reducible rfl
          rotate_left
          ·zq5
           rfl
          refine pure_ (i := 10) (N := some 33) (v := ?_) (a' := ?_) #[true, true, true, true, true, true, true, true, true, false, true, false, false, false, false, false, false] rfl rfl zq15 (fun _ _ _ h => h) (Or.inl ⟨by rfl, ?_⟩) ?_ ?_
          rotate_left
          ·intro w'
           go_simp
           with_reducible rfl
          rotate_left
          ·zq5
           rfl
          refine join_ (σ := Nat) 1 #[true, true, true, true, true, true, true, true, true, true, true, true, true, true, true, true, false] (fun s_ => [(32, .int .i64 t123), (34, .int .i64 t125), (7, .pointer (some ⟨s_, 0, none⟩)), (35, .int .i64 (wrap64 (t125 * 6))), (36, .int .i64 zq27), (37, .agg #[.int .i64 (wrap64 zq11), .int .i64 (rd y109 t112), .int .i64 t123, .int .i64 zq27])]) (fun s_ w' => (Kd.R (Kd.int .i64) 3 w' w.heap.size (fun k_ => some k_ ≠ (.slice (some ad122) y117.length co90 : Value).ownBlock) (.slice (some ad114) y109.length co85) y109) ∧ (Kd.R (Kd.int .i64) 3 w' w.heap.size (fun k_ => some k_ ≠ (.slice (some ad114) y109.length co85 : Value).ownBlock) (.slice (some ad122) y117.length co90) y117) ∧ (w'.heap[gb106]? = some zq26) ∧ (w'.heap[s_]? = some zq26) ∧ (w.heap.size ≤ s_) ∧ (w0.heap.size ≤ s_) ∧ (g ≠ s_) ∧ (s_ ≠ g) ∧ (gb106 ≠ s_) ∧ (s_ ≠ gb106) ∧ (IsS98 w0 w' g s0_0 t126) ∧ (KeepBut w w' g none) ∧ (Below w0.heap.size w0 w')) ?_ ?_
          rotate_left
          ·intro hCont
           zq22
           ·skip
            refine goes_ Try.func78 (by kernel_rfl) rfl #[.pointer (some ⟨g, 0, none⟩), .int .i64 3] (by rfl) rfl rfl zq10 ?_
            zq31
            (case side1 => repeat zq1)
            (case side2 => repeat zq6)
            rintro e w92 ⟨rfl, hi, hb, hk⟩
            refine ⟨_, rfl, ?_⟩
            have n0_ := Aside0.mk (KeepBut.blk hk (g' := gb106) (o := .cells #[.int .i64 0, .int .i64 0, .int .i64 0, .int .i64 0] 24 (0, 0)) (by (with_reducible repeat zq4); exact BK106.out) NB106_0.out (by simp))
            have n1_ := Aside0.mk (Kd.R_mono (Kd.R_keep (IsS98.apart (show IsS98 w0 _ g s0_0 t121 from by repeat zq1) (by (with_reducible repeat zq8); exact HO111.out) (by decide)) hk (fun _ h => h.2)) (fun _ h => h.1))
            have n2_ := Aside0.mk (Kd.R_mono (Kd.R_keep (IsS98.apart (show IsS98 w0 _ g s0_0 t121 from by repeat zq1) (by (with_reducible repeat zq8); exact HO119.out) (by decide)) hk (fun _ h => h.2)) (fun _ h => h.1))
            have n3_ := Aside0.mk (KeepBut.trans zq3 hk (.inl rfl))
            have n4_ := Aside0.mk (hb)
            have n5_ := Aside0.mk (hi)
            clear BK106
            clear HO111
            clear HO119
            clear HK
            clear HB
            clear HI0
            have BK106 := n0_
            have HO111 := n1_
            have HO119 := n2_
            have HK := n3_
            have HB := n4_
            have HI0 := n5_
            clear n0_ n1_ n2_ n3_ n4_ n5_
            (try clear hb)
            (try clear hb2)
            (try clear hk)
            (try clear hi)
            zq21
            clear hK K
            zq29
            rotate_left
            ·show Act.put _ (some 32) _ = _
             zq5
             rfl
            zq23
            ·skip
             refine goes_ Try.func78 (by kernel_rfl) rfl #[.pointer (some ⟨g, 0, none⟩), .int .i64 3] (by rfl) rfl rfl zq10 ?_
             zq24
             (case side1 => repeat zq1)
             (case side2 => repeat zq6)
             rintro e w93 ⟨rfl, hi, hb, hk⟩
             refine ⟨_, rfl, ?_⟩
             have n0_ := Aside0.mk (KeepBut.blk hk (g' := gb106) (o := .cells #[.int .i64 0, .int .i64 0, .int .i64 0, .int .i64 0] 24 (0, 0)) (by (with_reducible repeat zq4); exact BK106.out) NB106_0.out (by simp))
             have n1_ := Aside0.mk (Kd.R_mono (Kd.R_keep (IsS98.apart (show IsS98 w0 _ g s0_0 t124 from by repeat zq1) (by (with_reducible repeat zq8); exact HO111.out) (by decide)) hk (fun _ h => h.2)) (fun _ h => h.1))
             have n2_ := Aside0.mk (Kd.R_mono (Kd.R_keep (IsS98.apart (show IsS98 w0 _ g s0_0 t124 from by repeat zq1) (by (with_reducible repeat zq8); exact HO119.out) (by decide)) hk (fun _ h => h.2)) (fun _ h => h.1))
             have n3_ := Aside0.mk (KeepBut.trans zq3 hk (.inl rfl))
             have n4_ := Aside0.mk (hb)
             have n5_ := Aside0.mk (hi)
             clear BK106
             clear HO111
             clear HO119
             clear HK
             clear HB
             clear HI0
             have BK106 := n0_
             have HO111 := n1_
             have HO119 := n2_
             have HK := n3_
             have HB := n4_
             have HI0 := n5_
             clear n0_ n1_ n2_ n3_ n4_ n5_
             (try clear hb)
             (try clear hb2)
             (try clear hk)
             (try clear hi)
             zq21
             clear hK K
             zq29
             rotate_left
             ·show Act.put _ (some 34) _ = _
              zq5
              rfl
             refine pure_ (i := 12) (N := some 35) (v := ?_) (a' := ?_) #[true, true, true, true, true, true, true, true, true, true, true, true, true, false, false, false, false] rfl rfl zq15 (fun _ _ _ h => h) (Or.inl ⟨by rfl, ?_⟩) ?_ ?_
             rotate_left
             ·intro w'
              go_simp
              with_reducible rfl
             rotate_left
             ·zq5
              rfl
             refine pure_ (i := 13) (N := some 36) (v := ?_) (a' := ?_) #[true, true, true, true, true, true, true, true, true, true, true, true, true, true, false, false, false] rfl rfl zq15 (fun _ _ _ h => h) (Or.inl ⟨by rfl, ?_⟩) ?_ ?_
             rotate_left
             ·intro w'
              go_simp
              with_reducible rfl
             rotate_left
             ·zq5
              rfl
             refine pure_ (i := 14) (N := some 37) (v := ?_) (a' := ?_) #[true, true, true, true, true, true, true, true, true, true, true, true, true, true, true, false, false] rfl rfl zq15 (fun _ _ _ h => h) (Or.inl ⟨by rfl, ?_⟩) ?_ ?_
             rotate_left
             ·intro w'
              go_simp
              with_reducible rfl
             rotate_left
             ·zq5
              rfl
             zq33
             zq14
             intro gb127 hg w94 hbox hb
             have n0_ := Aside0.mk (Kd.R_below (by (with_reducible repeat zq8); exact HO111.out) hb)
             have n1_ := Aside0.mk (Kd.R_below (by (with_reducible repeat zq8); exact HO119.out) hb)
             have n2_ := Aside0.mk (IsS98.below (by repeat zq1) hb)
             have n3_ := Aside0.mk (blk_below (g := gb106) (o := .cells #[.int .i64 0, .int .i64 0, .int .i64 0, .int .i64 0] 24 (0, 0)) (by (with_reducible repeat zq4); exact BK106.out) hb)
             have n4_ := Aside0.mk (KeepBut.trans zq3 (KeepBut.of_below hb g none) (.inl rfl))
             have n5_ := Aside0.mk (below_step (by repeat zq6) hb)
             have n6_ := Aside0.mk (hbox)
             have n7_ := Aside0.mk ((by rw [hg]; exact (keep_size (w := w) (g := g) (row := none) zq3) : w.heap.size ≤ gb127))
             have n8_ := Aside0.mk ((Nat.le_trans HW0.out (by rw [hg]; exact (keep_size (w := w) (g := g) (row := none) zq3) : w.heap.size ≤ gb127) : w0.heap.size ≤ gb127))
             have n9_ := Aside0.mk ((by rw [hg]; exact Nat.ne_of_lt (blk_lt (g := gb106) (o := .cells #[.int .i64 0, .int .i64 0, .int .i64 0, .int .i64 0] 24 (0, 0)) (by (with_reducible repeat zq4); exact BK106.out)) : gb106 ≠ gb127))
             have n10_ := Aside0.mk ((by rw [hg]; exact Nat.ne_of_gt (blk_lt (g := gb106) (o := .cells #[.int .i64 0, .int .i64 0, .int .i64 0, .int .i64 0] 24 (0, 0)) (by (with_reducible repeat zq4); exact BK106.out)) : gb127 ≠ gb106))
             have n11_ := Aside0.mk ((by rw [hg]; exact Nat.ne_of_lt (IsS98.lt (show IsS98 w0 _ g s0_0 t126 from by repeat zq1)) : g ≠ gb127))
             have n12_ := Aside0.mk ((by rw [hg]; exact Nat.ne_of_gt (IsS98.lt (show IsS98 w0 _ g s0_0 t126 from by repeat zq1)) : gb127 ≠ g))
             clear HO111
             clear HO119
             clear HI0
             clear BK106
             clear HK
             clear HB
             have HO111 := n0_
             have HO119 := n1_
             have HI0 := n2_
             have BK106 := n3_
             have HK := n4_
             have HB := n5_
             have BK127 := n6_
             have GW127 := n7_
             have GE127 := n8_
             have NB106_127 := n9_
             have NB127_106 := n10_
             have NB0_127 := n11_
             have NB127_0 := n12_
             clear n0_ n1_ n2_ n3_ n4_ n5_ n6_ n7_ n8_ n9_ n10_ n11_ n12_
             clear hb hbox hg
             zq21
             clear hK K
             zq29
             rotate_left
             ·show Act.put _ (some 7) _ = _
              zq5
              rfl
             exact norm_ zq25 (hCont (gb127) _ ⟨(by (with_reducible repeat zq8); exact Kd.R_mono HO111.out (fun _ hk => hk.2)), (by (with_reducible repeat zq8); exact Kd.R_mono HO119.out (fun _ hk => hk.2)), (by (with_reducible repeat zq4); exact BK106.out), (by (with_reducible repeat zq4); exact BK127.out), GW127.out, GE127.out, NB0_127.out, NB127_0.out, NB106_127.out, NB127_106.out, (by repeat zq2), (by repeat zq9), (by repeat zq7)⟩)
            ·skip
             zq14
             intro gb127 hg w93 hbox hb
             have n0_ := Aside0.mk (Kd.R_below (by (with_reducible repeat zq8); exact HO111.out) hb)
             have n1_ := Aside0.mk (Kd.R_below (by (with_reducible repeat zq8); exact HO119.out) hb)
             have n2_ := Aside0.mk (IsS98.below (by repeat zq1) hb)
             have n3_ := Aside0.mk (blk_below (g := gb106) (o := .cells #[.int .i64 0, .int .i64 0, .int .i64 0, .int .i64 0] 24 (0, 0)) (by (with_reducible repeat zq4); exact BK106.out) hb)
             have n4_ := Aside0.mk (KeepBut.trans zq3 (KeepBut.of_below hb g none) (.inl rfl))
             have n5_ := Aside0.mk (below_step (by repeat zq6) hb)
             have n6_ := Aside0.mk (hbox)
             have n7_ := Aside0.mk ((by rw [hg]; exact (keep_size (w := w) (g := g) (row := none) zq3) : w.heap.size ≤ gb127))
             have n8_ := Aside0.mk ((Nat.le_trans HW0.out (by rw [hg]; exact (keep_size (w := w) (g := g) (row := none) zq3) : w.heap.size ≤ gb127) : w0.heap.size ≤ gb127))
             have n9_ := Aside0.mk ((by rw [hg]; exact Nat.ne_of_lt (blk_lt (g := gb106) (o := .cells #[.int .i64 0, .int .i64 0, .int .i64 0, .int .i64 0] 24 (0, 0)) (by (with_reducible repeat zq4); exact BK106.out)) : gb106 ≠ gb127))
             have n10_ := Aside0.mk ((by rw [hg]; exact Nat.ne_of_gt (blk_lt (g := gb106) (o := .cells #[.int .i64 0, .int .i64 0, .int .i64 0, .int .i64 0] 24 (0, 0)) (by (with_reducible repeat zq4); exact BK106.out)) : gb127 ≠ gb106))
             have n11_ := Aside0.mk ((by rw [hg]; exact Nat.ne_of_lt (IsS98.lt (show IsS98 w0 _ g s0_0 t124 from by repeat zq1)) : g ≠ gb127))
             have n12_ := Aside0.mk ((by rw [hg]; exact Nat.ne_of_gt (IsS98.lt (show IsS98 w0 _ g s0_0 t124 from by repeat zq1)) : gb127 ≠ g))
             clear HO111
             clear HO119
             clear HI0
             clear BK106
             clear HK
             clear HB
             have HO111 := n0_
             have HO119 := n1_
             have HI0 := n2_
             have BK106 := n3_
             have HK := n4_
             have HB := n5_
             have BK127 := n6_
             have GW127 := n7_
             have GE127 := n8_
             have NB106_127 := n9_
             have NB127_106 := n10_
             have NB0_127 := n11_
             have NB127_0 := n12_
             clear n0_ n1_ n2_ n3_ n4_ n5_ n6_ n7_ n8_ n9_ n10_ n11_ n12_
             clear hb hbox hg
             zq21
             clear hK K
             zq29
             rotate_left
             ·show Act.put _ (some 7) _ = _
              zq5
              rfl
             zq19
             refine goes_ Try.func78 (by kernel_rfl) rfl #[.pointer (some ⟨g, 0, none⟩), .int .i64 3] (by rfl) rfl rfl zq10 ?_
             zq24
             (case side1 => repeat zq2)
             (case side2 => repeat zq7)
             rintro e w94 ⟨rfl, hi, hb, hk⟩
             refine ⟨_, rfl, ?_⟩
             have n0_ := Aside0.mk (KeepBut.blk hk (g' := gb106) (o := .cells #[.int .i64 0, .int .i64 0, .int .i64 0, .int .i64 0] 24 (0, 0)) (by (with_reducible repeat zq4); exact BK106.out) NB106_0.out (by simp))
             have n1_ := Aside0.mk (Kd.R_mono (Kd.R_keep (IsS98.apart (show IsS98 w0 _ g s0_0 t124 from by repeat zq2) (by (with_reducible repeat zq8); exact HO111.out) (by decide)) hk (fun _ h => h.2)) (fun _ h => h.1))
             have n2_ := Aside0.mk (Kd.R_mono (Kd.R_keep (IsS98.apart (show IsS98 w0 _ g s0_0 t124 from by repeat zq2) (by (with_reducible repeat zq8); exact HO119.out) (by decide)) hk (fun _ h => h.2)) (fun _ h => h.1))
             have n3_ := Aside0.mk (KeepBut.blk hk (g' := gb127) (o := .cells #[.int .i64 0, .int .i64 0, .int .i64 0, .int .i64 0] 24 (0, 0)) (by (with_reducible repeat zq4); exact BK127.out) NB127_0.out (by simp))
             have n4_ := Aside0.mk (KeepBut.trans (by repeat zq9) hk (.inl rfl))
             have n5_ := Aside0.mk (hb)
             have n6_ := Aside0.mk (hi)
             clear BK106
             clear HO111
             clear HO119
             clear BK127
             clear HK
             clear HB
             clear HI0
             have BK106 := n0_
             have HO111 := n1_
             have HO119 := n2_
             have BK127 := n3_
             have HK := n4_
             have HB := n5_
             have HI0 := n6_
             clear n0_ n1_ n2_ n3_ n4_ n5_ n6_
             (try clear hb)
             (try clear hb2)
             (try clear hk)
             (try clear hi)
             zq21
             clear hK K
             zq29
             rotate_left
             ·show Act.put _ (some 34) _ = _
              zq5
              rfl
             refine pure_ (i := 12) (N := some 35) (v := ?_) (a' := ?_) #[true, true, true, true, true, true, true, true, true, true, true, true, true, false, false, true, false] rfl rfl zq15 (fun _ _ _ h => h) (Or.inl ⟨by rfl, ?_⟩) ?_ ?_
             rotate_left
             ·intro w'
              go_simp
              with_reducible rfl
             rotate_left
             ·zq5
              rfl
             refine pure_ (i := 13) (N := some 36) (v := ?_) (a' := ?_) #[true, true, true, true, true, true, true, true, true, true, true, true, true, true, false, true, false] rfl rfl zq15 (fun _ _ _ h => h) (Or.inl ⟨by rfl, ?_⟩) ?_ ?_
             rotate_left
             ·intro w'
              go_simp
              with_reducible rfl
             rotate_left
             ·zq5
              rfl
             refine pure_ (i := 14) (N := some 37) (v := ?_) (a' := ?_) #[true, true, true, true, true, true, true, true, true, true, true, true, true, true, true, true, false] rfl rfl zq15 (fun _ _ _ h => h) (Or.inl ⟨by rfl, ?_⟩) ?_ ?_
             rotate_left
             ·intro w'
              go_simp
              with_reducible rfl
             rotate_left
             ·zq5
              rfl
             exact norm_ zq25 (hCont (gb127) _ ⟨(by (with_reducible repeat zq8); exact Kd.R_mono HO111.out (fun _ hk => hk.2)), (by (with_reducible repeat zq8); exact Kd.R_mono HO119.out (fun _ hk => hk.2)), (by (with_reducible repeat zq4); exact BK106.out), (by (with_reducible repeat zq4); exact BK127.out), GW127.out, GE127.out, NB0_127.out, NB127_0.out, NB106_127.out, NB127_106.out, (by repeat zq2), (by repeat zq9), (by repeat zq7)⟩)
           ·skip
            zq14
            intro gb127 hg w92 hbox hb
            have n0_ := Aside0.mk (Kd.R_below (by (with_reducible repeat zq8); exact HO111.out) hb)
            have n1_ := Aside0.mk (Kd.R_below (by (with_reducible repeat zq8); exact HO119.out) hb)
            have n2_ := Aside0.mk (IsS98.below (by repeat zq1) hb)
            have n3_ := Aside0.mk (blk_below (g := gb106) (o := .cells #[.int .i64 0, .int .i64 0, .int .i64 0, .int .i64 0] 24 (0, 0)) (by (with_reducible repeat zq4); exact BK106.out) hb)
            have n4_ := Aside0.mk (KeepBut.trans zq3 (KeepBut.of_below hb g none) (.inl rfl))
            have n5_ := Aside0.mk (below_step (by repeat zq6) hb)
            have n6_ := Aside0.mk (hbox)
            have n7_ := Aside0.mk ((by rw [hg]; exact (keep_size (w := w) (g := g) (row := none) zq3) : w.heap.size ≤ gb127))
            have n8_ := Aside0.mk ((Nat.le_trans HW0.out (by rw [hg]; exact (keep_size (w := w) (g := g) (row := none) zq3) : w.heap.size ≤ gb127) : w0.heap.size ≤ gb127))
            have n9_ := Aside0.mk ((by rw [hg]; exact Nat.ne_of_lt (blk_lt (g := gb106) (o := .cells #[.int .i64 0, .int .i64 0, .int .i64 0, .int .i64 0] 24 (0, 0)) (by (with_reducible repeat zq4); exact BK106.out)) : gb106 ≠ gb127))
            have n10_ := Aside0.mk ((by rw [hg]; exact Nat.ne_of_gt (blk_lt (g := gb106) (o := .cells #[.int .i64 0, .int .i64 0, .int .i64 0, .int .i64 0] 24 (0, 0)) (by (with_reducible repeat zq4); exact BK106.out)) : gb127 ≠ gb106))
            have n11_ := Aside0.mk ((by rw [hg]; exact Nat.ne_of_lt (IsS98.lt (show IsS98 w0 _ g s0_0 t121 from by repeat zq1)) : g ≠ gb127))
            have n12_ := Aside0.mk ((by rw [hg]; exact Nat.ne_of_gt (IsS98.lt (show IsS98 w0 _ g s0_0 t121 from by repeat zq1)) : gb127 ≠ g))
            clear HO111
            clear HO119
            clear HI0
            clear BK106
            clear HK
            clear HB
            have HO111 := n0_
            have HO119 := n1_
            have HI0 := n2_
            have BK106 := n3_
            have HK := n4_
            have HB := n5_
            have BK127 := n6_
            have GW127 := n7_
            have GE127 := n8_
            have NB106_127 := n9_
            have NB127_106 := n10_
            have NB0_127 := n11_
            have NB127_0 := n12_
            clear n0_ n1_ n2_ n3_ n4_ n5_ n6_ n7_ n8_ n9_ n10_ n11_ n12_
            clear hb hbox hg
            zq21
            clear hK K
            zq29
            rotate_left
            ·show Act.put _ (some 7) _ = _
             zq5
             rfl
            zq32
            refine goes_ Try.func78 (by kernel_rfl) rfl #[.pointer (some ⟨g, 0, none⟩), .int .i64 3] (by rfl) rfl rfl zq10 ?_
            zq31
            (case side1 => repeat zq2)
            (case side2 => repeat zq7)
            rintro e w93 ⟨rfl, hi, hb, hk⟩
            refine ⟨_, rfl, ?_⟩
            have n0_ := Aside0.mk (KeepBut.blk hk (g' := gb106) (o := .cells #[.int .i64 0, .int .i64 0, .int .i64 0, .int .i64 0] 24 (0, 0)) (by (with_reducible repeat zq4); exact BK106.out) NB106_0.out (by simp))
            have n1_ := Aside0.mk (Kd.R_mono (Kd.R_keep (IsS98.apart (show IsS98 w0 _ g s0_0 t121 from by repeat zq2) (by (with_reducible repeat zq8); exact HO111.out) (by decide)) hk (fun _ h => h.2)) (fun _ h => h.1))
            have n2_ := Aside0.mk (Kd.R_mono (Kd.R_keep (IsS98.apart (show IsS98 w0 _ g s0_0 t121 from by repeat zq2) (by (with_reducible repeat zq8); exact HO119.out) (by decide)) hk (fun _ h => h.2)) (fun _ h => h.1))
            have n3_ := Aside0.mk (KeepBut.blk hk (g' := gb127) (o := .cells #[.int .i64 0, .int .i64 0, .int .i64 0, .int .i64 0] 24 (0, 0)) (by (with_reducible repeat zq4); exact BK127.out) NB127_0.out (by simp))
            have n4_ := Aside0.mk (KeepBut.trans (by repeat zq9) hk (.inl rfl))
            have n5_ := Aside0.mk (hb)
            have n6_ := Aside0.mk (hi)
            clear BK106
            clear HO111
            clear HO119
            clear BK127
            clear HK
            clear HB
            clear HI0
            have BK106 := n0_
            have HO111 := n1_
            have HO119 := n2_
            have BK127 := n3_
            have HK := n4_
            have HB := n5_
            have HI0 := n6_
            clear n0_ n1_ n2_ n3_ n4_ n5_ n6_
            (try clear hb)
            (try clear hb2)
            (try clear hk)
            (try clear hi)
            zq21
            clear hK K
            zq29
            rotate_left
            ·show Act.put _ (some 32) _ = _
             zq5
             rfl
            zq19
            refine goes_ Try.func78 (by kernel_rfl) rfl #[.pointer (some ⟨g, 0, none⟩), .int .i64 3] (by rfl) rfl rfl zq10 ?_
            zq24
            (case side1 => repeat zq2)
            (case side2 => repeat zq7)
            rintro e w94 ⟨rfl, hi, hb, hk⟩
            refine ⟨_, rfl, ?_⟩
            have n0_ := Aside0.mk (KeepBut.blk hk (g' := gb106) (o := .cells #[.int .i64 0, .int .i64 0, .int .i64 0, .int .i64 0] 24 (0, 0)) (by (with_reducible repeat zq4); exact BK106.out) NB106_0.out (by simp))
            have n1_ := Aside0.mk (Kd.R_mono (Kd.R_keep (IsS98.apart (show IsS98 w0 _ g s0_0 t124 from by repeat zq2) (by (with_reducible repeat zq8); exact HO111.out) (by decide)) hk (fun _ h => h.2)) (fun _ h => h.1))
            have n2_ := Aside0.mk (Kd.R_mono (Kd.R_keep (IsS98.apart (show IsS98 w0 _ g s0_0 t124 from by repeat zq2) (by (with_reducible repeat zq8); exact HO119.out) (by decide)) hk (fun _ h => h.2)) (fun _ h => h.1))
            have n3_ := Aside0.mk (KeepBut.blk hk (g' := gb127) (o := .cells #[.int .i64 0, .int .i64 0, .int .i64 0, .int .i64 0] 24 (0, 0)) (by (with_reducible repeat zq4); exact BK127.out) NB127_0.out (by simp))
            have n4_ := Aside0.mk (KeepBut.trans (by repeat zq9) hk (.inl rfl))
            have n5_ := Aside0.mk (hb)
            have n6_ := Aside0.mk (hi)
            clear BK106
            clear HO111
            clear HO119
            clear BK127
            clear HK
            clear HB
            clear HI0
            have BK106 := n0_
            have HO111 := n1_
            have HO119 := n2_
            have BK127 := n3_
            have HK := n4_
            have HB := n5_
            have HI0 := n6_
            clear n0_ n1_ n2_ n3_ n4_ n5_ n6_
            (try clear hb)
            (try clear hb2)
            (try clear hk)
            (try clear hi)
            zq21
            clear hK K
            zq29
            rotate_left
            ·show Act.put _ (some 34) _ = _
             zq5
             rfl
            refine pure_ (i := 12) (N := some 35) (v := ?_) (a' := ?_) #[true, true, true, true, true, true, true, true, true, true, true, true, true, false, false, true, false] rfl rfl zq15 (fun _ _ _ h => h) (Or.inl ⟨by rfl, ?_⟩) ?_ ?_
            rotate_left
            ·intro w'
             go_simp
             with_reducible rfl
            rotate_left
            ·zq5
             rfl
            refine pure_ (i := 13) (N := some 36) (v := ?_) (a' := ?_) #[true, true, true, true, true, true, true, true, true, true, true, true, true, true, false, true, false] rfl rfl zq15 (fun _ _ _ h => h) (Or.inl ⟨by rfl, ?_⟩) ?_ ?_
            rotate_left
            ·intro w'
             go_simp
             with_reducible rfl
            rotate_left
            ·zq5
             rfl
            refine pure_ (i := 14) (N := some 37) (v := ?_) (a' := ?_) #[true, true, true, true, true, true, true, true, true, true, true, true, true, true, true, true, false] rfl rfl zq15 (fun _ _ _ h => h) (Or.inl ⟨by rfl, ?_⟩) ?_ ?_
            rotate_left
            ·intro w'
             go_simp
             with_reducible rfl
            rotate_left
            ·zq5
             rfl
            exact norm_ zq25 (hCont (gb127) _ ⟨(by (with_reducible repeat zq8); exact Kd.R_mono HO111.out (fun _ hk => hk.2)), (by (with_reducible repeat zq8); exact Kd.R_mono HO119.out (fun _ hk => hk.2)), (by (with_reducible repeat zq4); exact BK106.out), (by (with_reducible repeat zq4); exact BK127.out), GW127.out, GE127.out, NB0_127.out, NB127_0.out, NB106_127.out, NB127_106.out, (by repeat zq2), (by repeat zq9), (by repeat zq7)⟩)
          rintro gb127 w95 ⟨h0_, h1_, h2_, h3_, h4_, h5_, h6_, h7_, h8_, h9_, h10_, h11_, h12_⟩
          have n0_ : Aside0 (Kd.R (Kd.int .i64) 3 w95 w.heap.size (fun k_ => some k_ ≠ (.slice (some ad122) y117.length co90 : Value).ownBlock) (.slice (some ad114) y109.length co85) y109) := ⟨h0_⟩
          have n1_ : Aside0 (Kd.R (Kd.int .i64) 3 w95 w.heap.size (fun k_ => some k_ ≠ (.slice (some ad114) y109.length co85 : Value).ownBlock) (.slice (some ad122) y117.length co90) y117) := ⟨h1_⟩
          have n2_ : Aside0 (w95.heap[gb106]? = some zq26) := ⟨h2_⟩
          have n3_ : Aside0 (w95.heap[gb127]? = some zq26) := ⟨h3_⟩
          have n4_ : Aside0 (w.heap.size ≤ gb127) := ⟨h4_⟩
          have n5_ : Aside0 (w0.heap.size ≤ gb127) := ⟨h5_⟩
          have n6_ : Aside0 (g ≠ gb127) := ⟨h6_⟩
          have n7_ : Aside0 (gb127 ≠ g) := ⟨h7_⟩
          have n8_ : Aside0 (gb106 ≠ gb127) := ⟨h8_⟩
          have n9_ : Aside0 (gb127 ≠ gb106) := ⟨h9_⟩
          have n10_ : Aside0 (IsS98 w0 w95 g s0_0 t126) := ⟨h10_⟩
          have n11_ : Aside0 (KeepBut w w95 g none) := ⟨h11_⟩
          have n12_ : Aside0 (Below w0.heap.size w0 w95) := ⟨h12_⟩
          clear HO111
          clear HO119
          clear BK106
          clear HI0
          clear HK
          clear HB
          clear h0_ h1_ h2_ h3_ h4_ h5_ h6_ h7_ h8_ h9_ h10_ h11_ h12_
          have HO111 := n0_
          have HO119 := n1_
          have BK106 := n2_
          have BK127 := n3_
          have GW127 := n4_
          have GE127 := n5_
          have NB0_127 := n6_
          have NB127_0 := n7_
          have NB106_127 := n8_
          have NB127_106 := n9_
          have HI0 := n10_
          have HK := n11_
          have HB := n12_
          clear n0_ n1_ n2_ n3_ n4_ n5_ n6_ n7_ n8_ n9_ n10_ n11_ n12_
          have hHeld := trivial
          zq29
          rotate_left
          ·simp only [putAll, Act.put, List.setIfInBounds_toArray, List.set_cons_zero, List.set_cons_succ]
           rfl
          zq35
          have hs96 : w95.cell? ⟨gb127, 0, none⟩ = some (.int .i64 0) := (blk_cell BK127.out 0).trans rfl
          have hfs96 := blk_frozen BK127.out 0
          have hns96_0 := NB106_127.out
          have hms96_0 := NB127_106.out
          have hs97 : w95.cell? ⟨gb127, 1, none⟩ = some (.int .i64 0) := (blk_cell BK127.out 1).trans rfl
          have hfs97 := blk_frozen BK127.out 1
          have hns97_0 := NB106_127.out
          have hms97_0 := NB127_106.out
          have hs98 : w95.cell? ⟨gb127, 2, none⟩ = some (.int .i64 0) := (blk_cell BK127.out 2).trans rfl
          have hfs98 := blk_frozen BK127.out 2
          have hns98_0 := NB106_127.out
          have hms98_0 := NB127_106.out
          have hs99 : w95.cell? ⟨gb127, 3, none⟩ = some (.int .i64 0) := (blk_cell BK127.out 3).trans rfl
          have hfs99 := blk_frozen BK127.out 3
          have hns99_0 := NB106_127.out
          have hms99_0 := NB127_106.out
          refine skip_ (w1 := ?_) (by rfl) rfl ?_ ?_
          rotate_left
          ·go_simp
           rfl
          zq21
          clear hK K
          refine done_ (done_of HT_.out (by kernel_rfl)) ?_
          try go_wp2_with (first | ((with_reducible refine gate_callee (f := 87) rfl ?_); refine goesL_ (some 40) rfl rfl Try.func87 (by kernel_rfl) rfl #[.pointer (some ⟨g, 0, none⟩), .int .i64 a1] rfl zq10 ?_; (with_reducible refine (spec_l20Rd_odd.calls k g s0_0 t126 a1 true t129 w0 _ ?side1 ?side2 A17.out).mono ?_); (case side1 => repeat zq2); (case side2 => repeat zq7); rintro e w100 ⟨rfl, hi, hb, hk⟩; refine ⟨_, rfl, ?_⟩; have n0_ := Aside0.mk (KeepBut.blk hk (g' := gb106) (o := .cells #[.int .i64 0, .int .i64 0, .int .i64 0, .int .i64 0] 24 (0, 0)) (by (with_reducible repeat zq4); refine blk_far ?_ NB106_127.out _; (with_reducible repeat zq4); refine blk_far ?_ NB106_127.out _; (with_reducible repeat zq4); refine blk_far ?_ NB106_127.out _; (with_reducible repeat zq4); refine blk_far ?_ NB106_127.out _; (with_reducible repeat zq4); exact BK106.out) NB106_0.out (by simp)); have n1_ := Aside0.mk (Kd.R_mono (Kd.R_keep (IsS98.apart (show IsS98 w0 _ g s0_0 t126 from by repeat zq2) (by (with_reducible repeat zq8); exact (Kd.R_mono (Kd.R_far (p := ⟨gb127, 3, none⟩) (Kd.R_far (p := ⟨gb127, 2, none⟩) (Kd.R_far (p := ⟨gb127, 1, none⟩) (Kd.R_far (p := ⟨gb127, 0, none⟩) (Kd.R_types HO111.out BK127.out (by decide)) (fun _ hk => hk.2) (.int .i64 (wrap64 zq11))) (fun _ hk => hk.2) (.int .i64 (rd y109 t112))) (fun _ hk => hk.2) (.int .i64 t123)) (fun _ hk => hk.2) (.int .i64 zq27)) (fun _ h_ => h_.1))) (by decide)) hk (fun _ h => h.2)) (fun _ h => h.1)); have n2_ := Aside0.mk (Kd.R_mono (Kd.R_keep (IsS98.apart (show IsS98 w0 _ g s0_0 t126 from by repeat zq2) (by (with_reducible repeat zq8); exact (Kd.R_mono (Kd.R_far (p := ⟨gb127, 3, none⟩) (Kd.R_far (p := ⟨gb127, 2, none⟩) (Kd.R_far (p := ⟨gb127, 1, none⟩) (Kd.R_far (p := ⟨gb127, 0, none⟩) (Kd.R_types HO119.out BK127.out (by decide)) (fun _ hk => hk.2) (.int .i64 (wrap64 zq11))) (fun _ hk => hk.2) (.int .i64 (rd y109 t112))) (fun _ hk => hk.2) (.int .i64 t123)) (fun _ hk => hk.2) (.int .i64 zq27)) (fun _ h_ => h_.1))) (by decide)) hk (fun _ h => h.2)) (fun _ h => h.1)); have n3_ := Aside0.mk (KeepBut.blk hk (g' := gb127) (o := .cells #[.int .i64 (wrap64 zq11), .int .i64 (rd y109 t112), .int .i64 t123, .int .i64 zq27] 24 (0, 0)) (by (with_reducible repeat zq4); refine blk_put (cs := #[.int .i64 (wrap64 zq11), .int .i64 (rd y109 t112), .int .i64 t123, .int .i64 0]) ?_ 3 _ rfl; (with_reducible repeat zq4); refine blk_put (cs := #[.int .i64 (wrap64 zq11), .int .i64 (rd y109 t112), .int .i64 0, .int .i64 0]) ?_ 2 _ rfl; (with_reducible repeat zq4); refine blk_put (cs := #[.int .i64 (wrap64 zq11), .int .i64 0, .int .i64 0, .int .i64 0]) ?_ 1 _ rfl; (with_reducible repeat zq4); refine blk_put (cs := #[.int .i64 0, .int .i64 0, .int .i64 0, .int .i64 0]) ?_ 0 _ rfl; (with_reducible repeat zq4); exact BK127.out) NB127_0.out (by simp)); have n4_ := Aside0.mk (KeepBut.trans (by repeat zq9) hk (.inl rfl)); have n5_ := Aside0.mk (hb); have n6_ := Aside0.mk (hi); clear BK106; clear HO111; clear HO119; clear BK127; clear HK; clear HB; clear HI0; have BK106 := n0_; have HO111 := n1_; have HO119 := n2_; have BK127 := n3_; have HK := n4_; have HB := n5_; have HI0 := n6_; clear n0_ n1_ n2_ n3_ n4_ n5_ n6_; (try clear hb); (try clear hb2); (try clear hk); (try clear hi)) | ((with_reducible refine gate_callee (f := 78) rfl ?_); refine goesL_ (some 42) rfl rfl Try.func78 (by kernel_rfl) rfl #[.pointer (some ⟨g, 0, none⟩), .int .i64 3] rfl zq10 ?_; (with_reducible refine (spec_l20Rd_pick.calls k g s0_0 t129 3 t130 t131 w0 _ ?side1 ?side2 A19.out).mono ?_); (case side1 => repeat zq2); (case side2 => repeat zq7); rintro e w101 ⟨rfl, hi, hb, hk⟩; refine ⟨_, rfl, ?_⟩; have n0_ := Aside0.mk (KeepBut.blk hk (g' := gb106) (o := .cells #[.int .i64 0, .int .i64 0, .int .i64 0, .int .i64 0] 24 (0, 0)) (by (with_reducible repeat zq4); exact BK106.out) NB106_0.out (by simp)); have n1_ := Aside0.mk (Kd.R_mono (Kd.R_keep (IsS98.apart (show IsS98 w0 _ g s0_0 t129 from by repeat zq2) (by (with_reducible repeat zq8); exact HO111.out) (by decide)) hk (fun _ h => h.2)) (fun _ h => h.1)); have n2_ := Aside0.mk (Kd.R_mono (Kd.R_keep (IsS98.apart (show IsS98 w0 _ g s0_0 t129 from by repeat zq2) (by (with_reducible repeat zq8); exact HO119.out) (by decide)) hk (fun _ h => h.2)) (fun _ h => h.1)); have n3_ := Aside0.mk (KeepBut.blk hk (g' := gb127) (o := .cells #[.int .i64 (wrap64 zq11), .int .i64 (rd y109 t112), .int .i64 t123, .int .i64 zq27] 24 (0, 0)) (by (with_reducible repeat zq4); exact BK127.out) NB127_0.out (by simp)); have n4_ := Aside0.mk (KeepBut.trans (by repeat zq9) hk (.inl rfl)); have n5_ := Aside0.mk (hb); have n6_ := Aside0.mk (hi); clear BK106; clear HO111; clear HO119; clear BK127; clear HK; clear HB; clear HI0; have BK106 := n0_; have HO111 := n1_; have HO119 := n2_; have BK127 := n3_; have HK := n4_; have HB := n5_; have HI0 := n6_; clear n0_ n1_ n2_ n3_ n4_ n5_ n6_; (try clear hb); (try clear hb2); (try clear hk); (try clear hi); have hnb102 := NB127_106.out; have hnc102 := NB106_127.out; have hnb103 := NB127_0.out; have hnc103 := NB0_127.out; have hcz104_0 : w101.cell? ⟨gb127, 0, none⟩ = some (.int .i64 (wrap64 zq11)) := (blk_cell BK127.out 0).trans rfl; have hcz104_1 : w101.cell? ⟨gb127, 1, none⟩ = some (.int .i64 (rd y109 t112)) := (blk_cell BK127.out 1).trans rfl; have hcz104_2 : w101.cell? ⟨gb127, 2, none⟩ = some (.int .i64 t123) := (blk_cell BK127.out 2).trans rfl; have hcz104_3 : w101.cell? ⟨gb127, 3, none⟩ = some (.int .i64 zq27) := (blk_cell BK127.out 3).trans rfl; have hfz104_0 := blk_frozen BK127.out 0; have hfz104_1 := blk_frozen BK127.out 1; have hfz104_2 := blk_frozen BK127.out 2; have hfz104_3 := blk_frozen BK127.out 3; have hnb105 := NB106_0.out; have hnc105 := NB0_106.out; have hcz106_0 : w101.cell? ⟨gb106, 0, none⟩ = some (.int .i64 0) := (blk_cell BK106.out 0).trans rfl; have hcz106_1 : w101.cell? ⟨gb106, 1, none⟩ = some (.int .i64 0) := (blk_cell BK106.out 1).trans rfl; have hcz106_2 : w101.cell? ⟨gb106, 2, none⟩ = some (.int .i64 0) := (blk_cell BK106.out 2).trans rfl; have hcz106_3 : w101.cell? ⟨gb106, 3, none⟩ = some (.int .i64 0) := (blk_cell BK106.out 3).trans rfl; have hfz106_0 := blk_frozen BK106.out 0; have hfz106_1 := blk_frozen BK106.out 1; have hfz106_2 := blk_frozen BK106.out 2; have hfz106_3 := blk_frozen BK106.out 3))
          refine bodyPost_ret (results_cell_row rfl _ _ gb106 24 #[.int .i64 (wrap64 ((wrap64 zq11) + 1)), .int .i64 (rd y109 t112), .int .i64 t123, .int .i64 zq27] (0, 0) _ rfl (by (with_reducible repeat zq4); refine blk_put (cs := #[.int .i64 (wrap64 ((wrap64 zq11) + 1)), .int .i64 (rd y109 t112), .int .i64 t123, .int .i64 0]) ?_ 3 _ rfl; (with_reducible repeat zq4); refine blk_put (cs := #[.int .i64 (wrap64 ((wrap64 zq11) + 1)), .int .i64 (rd y109 t112), .int .i64 0, .int .i64 0]) ?_ 2 _ rfl; (with_reducible repeat zq4); refine blk_put (cs := #[.int .i64 (wrap64 ((wrap64 zq11) + 1)), .int .i64 0, .int .i64 0, .int .i64 0]) ?_ 1 _ rfl; (with_reducible repeat zq4); refine blk_put (cs := #[.int .i64 0, .int .i64 0, .int .i64 0, .int .i64 0]) ?_ 0 _ rfl; (with_reducible repeat zq4); refine blk_far ?_ NB106_127.out _; (with_reducible repeat zq4); exact BK106.out) Try.underlying24 rfl (by kernel_rfl)) rfl ?_
          exact ⟨by first | rfl | (simp [errW_none, errW_some] <;> rfl) | (simp only [← hji11, ← hji13]; first | rfl | (simp [errW_none, errW_some] <;> rfl)) | (simp [*, errW_none, errW_some] <;> rfl), by repeat zq2, by repeat zq7, by repeat zq9⟩
       ·replace c18 := Bool.eq_false_iff.mpr c18
        subst c18
        have H1 : (some (wrap64 zq11, rd y109 t112, t123, wrap64 (4 + (wrap64 (t125 * 6))), t129)) = some (r1, r2, r3, r4, r5) := by rw [if_neg (show ¬ (false = true) by decide)] at H; exact H
        clear H
        have H := H1
        clear H1
        simp only [Option.some.injEq, Prod.mk.injEq] at H
        obtain ⟨rfl, rfl, rfl, rfl, rfl⟩ := H
        go_enter Try.func61, Try.ntmps61
        try go_wp2_with (first | ((with_reducible refine gate_dst (N := 4) rfl ?_); refine box_event ?hg (N := 4) ?hd (cs := #[.int .i64 0, .int .i64 0, .int .i64 0, .int .i64 0]) (t := 24) ?hr ?_; (case hd => rfl); (case hg => rfl); (case hr => first | (go_simp; done) | (go_simp; rfl)); intro gb106 hg w107 hbox hb; have n0_ := Aside0.mk (IsS98.below (by repeat zq17) hb); have n1_ := Aside0.mk zq34; have n2_ := Aside0.mk zq36; have n3_ := Aside0.mk (hbox); have n4_ := Aside0.mk (zq16); have n5_ := Aside0.mk ((Nat.le_trans HW0.out zq16 : w0.heap.size ≤ gb106)); have n6_ := Aside0.mk ((by rw [hg]; exact Nat.ne_of_lt (IsS98.lt (show IsS98 w0 _ g s0_0 s0_1 from by repeat zq17)) : g ≠ gb106)); have n7_ := Aside0.mk ((by rw [hg]; exact Nat.ne_of_gt (IsS98.lt (show IsS98 w0 _ g s0_0 s0_1 from by repeat zq17)) : gb106 ≠ g)); clear HI0; clear HK; clear HB; have HI0 := n0_; have HK := n1_; have HB := n2_; have BK106 := n3_; have GW106 := n4_; have GE106 := n5_; have NB0_106 := n6_; have NB106_0 := n7_; clear n0_ n1_ n2_ n3_ n4_ n5_ n6_ n7_; clear hb hbox hg) | ((with_reducible refine gate_callee (f := 78) rfl ?_); refine goesL_ (some 9) rfl rfl Try.func78 (by kernel_rfl) rfl #[.pointer (some ⟨g, 0, none⟩), .int .i64 17] rfl zq10 ?_; zq38; (case side1 => repeat zq1); (case side2 => repeat zq6); rintro e w108 ⟨rfl, hi, hb, hk⟩; refine ⟨_, rfl, ?_⟩; have n0_ := Aside0.mk (KeepBut.blk hk (g' := gb106) (o := .cells #[.int .i64 0, .int .i64 0, .int .i64 0, .int .i64 0] 24 (0, 0)) (by (with_reducible repeat zq4); exact BK106.out) NB106_0.out (by simp)); have n1_ := Aside0.mk (KeepBut.trans zq3 hk (.inl rfl)); have n2_ := Aside0.mk (hb); have n3_ := Aside0.mk (hi); clear BK106; clear HK; clear HB; clear HI0; have BK106 := n0_; have HK := n1_; have HB := n2_; have HI0 := n3_; clear n0_ n1_ n2_ n3_; (try clear hb); (try clear hb2); (try clear hk); (try clear hi)) | ((with_reducible refine gate_dst (N := 10) rfl ?_); refine Kd.R_lit (Kd.int .i64) _ 3 ?hg (N := 10) ?hd (xs := ([0, 4, 8, 8, 12, 16, t107] : List Int)) (inner := [.int .i64 0, .int .i64 4, .int .i64 8, .int .i64 8, .int .i64 12, .int .i64 16, .int .i64 t107]) (ok := fun _ => True) (okp := fun _ => True) ?hr ?hp (fun _ hk => hk) trivial (Below.refl _ _) (Nat.le_refl _) (by simp) ?_; (case hd => rfl); (case hg => rfl); (case hr => first | (go_simp; done) | (go_simp; rfl)); (case hp => exact zq18); intro v110 w109 ho110 hb hg_ hnew_; clear hg_ hnew_; (first | rw [← Ny109.out] at ho110 | (simp only [Int.reduceToNat] at ho110; rw [← Ny109.out] at ho110)); have n0_ := Aside0.mk (Kd.R_lower ho110 (keep_size (w := w) (g := g) (row := none) zq3)); have n1_ := Aside0.mk (IsS98.below (by repeat zq1) hb); have n2_ := Aside0.mk (blk_below (g := gb106) (o := .cells #[.int .i64 0, .int .i64 0, .int .i64 0, .int .i64 0] 24 (0, 0)) (by (with_reducible repeat zq4); exact BK106.out) hb); have n3_ := Aside0.mk (KeepBut.trans zq3 (KeepBut.of_below hb g none) (.inl rfl)); have n4_ := Aside0.mk (below_step (by repeat zq6) hb); clear HI0; clear BK106; clear HK; clear HB; have HO111 := n0_; have HI0 := n1_; have BK106 := n2_; have HK := n3_; have HB := n4_; clear n0_ n1_ n2_ n3_ n4_; clear hb ho110) | ((with_reducible refine gate_callee (f := 78) rfl ?_); refine goesL_ (some 12) rfl rfl Try.func78 (by kernel_rfl) rfl #[.pointer (some ⟨g, 0, none⟩), .int .i64 7] rfl zq10 ?_; zq40; (case side1 => repeat zq1); (case side2 => repeat zq6); rintro e w111 ⟨rfl, hi, hb, hk⟩; refine ⟨_, rfl, ?_⟩; have n0_ := Aside0.mk (KeepBut.blk hk (g' := gb106) (o := .cells #[.int .i64 0, .int .i64 0, .int .i64 0, .int .i64 0] 24 (0, 0)) (by (with_reducible repeat zq4); exact BK106.out) NB106_0.out (by simp)); have n1_ := Aside0.mk (Kd.R_mono (Kd.R_keep (IsS98.apart (show IsS98 w0 _ g s0_0 t108 from by repeat zq1) (by (with_reducible repeat zq8); exact HO111.out) (by decide)) hk (fun _ h => h.2)) (fun _ h => h.1)); have n2_ := Aside0.mk (KeepBut.trans zq3 hk (.inl rfl)); have n3_ := Aside0.mk (hb); have n4_ := Aside0.mk (hi); clear BK106; clear HO111; clear HK; clear HB; clear HI0; have BK106 := n0_; have HO111 := n1_; have HK := n2_; have HB := n3_; have HI0 := n4_; clear n0_ n1_ n2_ n3_ n4_; (try clear hb); (try clear hb2); (try clear hk); (try clear hi); obtain ⟨Ao112, co112, eo112⟩ := Kd.R_slice HO111.out; subst eo112; have p114 : 0 ≤ (t112 : Int) := of_decide_eq_true zq30; have q114 : t112 < (y109.length : Int) := of_decide_eq_true zq30; obtain ⟨ad114, e114, hx114_0⟩ := Kd.at_int (Kd.R_reads' HO111.out).2.2 t112 p114 q114; cases e114; replace p114 := eq_true p114; replace q114 := eq_true q114) | ((with_reducible refine gate_callee (f := 78) rfl ?_); refine goesL_ (some 16) rfl rfl Try.func78 (by kernel_rfl) rfl #[.pointer (some ⟨g, 0, none⟩), .int .i64 512] rfl zq10 ?_; zq37; (case side1 => repeat zq1); (case side2 => repeat zq6); rintro e w113 ⟨rfl, hi, hb, hk⟩; refine ⟨_, rfl, ?_⟩; have n0_ := Aside0.mk (KeepBut.blk hk (g' := gb106) (o := .cells #[.int .i64 0, .int .i64 0, .int .i64 0, .int .i64 0] 24 (0, 0)) (by (with_reducible repeat zq4); exact BK106.out) NB106_0.out (by simp)); have n1_ := Aside0.mk (Kd.R_mono (Kd.R_keep (IsS98.apart (show IsS98 w0 _ g s0_0 t113 from by repeat zq1) (by (with_reducible repeat zq8); exact HO111.out) (by decide)) hk (fun _ h => h.2)) (fun _ h => h.1)); have n2_ := Aside0.mk (KeepBut.trans zq3 hk (.inl rfl)); have n3_ := Aside0.mk (hb); have n4_ := Aside0.mk (hi); clear BK106; clear HO111; clear HK; clear HB; clear HI0; have BK106 := n0_; have HO111 := n1_; have HK := n2_; have HB := n3_; have HI0 := n4_; clear n0_ n1_ n2_ n3_ n4_; (try clear hb); (try clear hb2); (try clear hk); (try clear hi)) | ((with_reducible refine gate_dst (N := 18) rfl ?_); refine Kd.R_lit (Kd.int .i64) _ 3 ?hg (N := 18) ?hd (xs := ([0, 4096, 4352, 4353, wrap64 (4096 + t115), 65535] : List Int)) (inner := [.int .i64 0, .int .i64 4096, .int .i64 4352, .int .i64 4353, .int .i64 (wrap64 (4096 + t115)), .int .i64 65535]) (ok := fun _ => True) (okp := fun _ => True) ?hr ?hp (fun _ hk => hk) trivial (Below.refl _ _) (Nat.le_refl _) (by simp) ?_; (case hd => rfl); (case hg => rfl); (case hr => first | (go_simp; done) | (go_simp; rfl)); (case hp => exact zq20); intro v118 w114 ho115 hb hg_ hnew_; clear hg_ hnew_; (first | rw [← Ny117.out] at ho115 | (simp only [Int.reduceToNat] at ho115; rw [← Ny117.out] at ho115)); have n0_ := Aside0.mk (Kd.R_elder' (by (with_reducible repeat zq8); exact HO111.out) (Kd.R_base ho115) hb); have n1_ := Aside0.mk (Kd.R_lower (Kd.R_new' ho115 (Kd.R_lt (by (with_reducible repeat zq8); exact HO111.out))) (keep_size (w := w) (g := g) (row := none) zq3)); have n2_ := Aside0.mk (IsS98.below (by repeat zq1) hb); have n3_ := Aside0.mk (blk_below (g := gb106) (o := .cells #[.int .i64 0, .int .i64 0, .int .i64 0, .int .i64 0] 24 (0, 0)) (by (with_reducible repeat zq4); exact BK106.out) hb); have n4_ := Aside0.mk (KeepBut.trans zq3 (KeepBut.of_below hb g none) (.inl rfl)); have n5_ := Aside0.mk (below_step (by repeat zq6) hb); clear HO111; clear HI0; clear BK106; clear HK; clear HB; have HO111 := n0_; have HO119 := n1_; have HI0 := n2_; have BK106 := n3_; have HK := n4_; have HB := n5_; clear n0_ n1_ n2_ n3_ n4_ n5_; clear hb ho115) | ((with_reducible refine gate_callee (f := 78) rfl ?_); refine goesL_ (some 20) rfl rfl Try.func78 (by kernel_rfl) rfl #[.pointer (some ⟨g, 0, none⟩), .int .i64 6] rfl zq10 ?_; zq39; (case side1 => repeat zq1); (case side2 => repeat zq6); rintro e w116 ⟨rfl, hi, hb, hk⟩; refine ⟨_, rfl, ?_⟩; have n0_ := Aside0.mk (KeepBut.blk hk (g' := gb106) (o := .cells #[.int .i64 0, .int .i64 0, .int .i64 0, .int .i64 0] 24 (0, 0)) (by (with_reducible repeat zq4); exact BK106.out) NB106_0.out (by simp)); have n1_ := Aside0.mk (Kd.R_mono (Kd.R_keep (IsS98.apart (show IsS98 w0 _ g s0_0 t116 from by repeat zq1) (by (with_reducible repeat zq8); exact HO111.out) (by decide)) hk (fun _ h => h.2)) (fun _ h => h.1)); have n2_ := Aside0.mk (Kd.R_mono (Kd.R_keep (IsS98.apart (show IsS98 w0 _ g s0_0 t116 from by repeat zq1) (by (with_reducible repeat zq8); exact HO119.out) (by decide)) hk (fun _ h => h.2)) (fun _ h => h.1)); have n3_ := Aside0.mk (KeepBut.trans zq3 hk (.inl rfl)); have n4_ := Aside0.mk (hb); have n5_ := Aside0.mk (hi); clear BK106; clear HO111; clear HO119; clear HK; clear HB; clear HI0; have BK106 := n0_; have HO111 := n1_; have HO119 := n2_; have HK := n3_; have HB := n4_; have HI0 := n5_; clear n0_ n1_ n2_ n3_ n4_ n5_; (try clear hb); (try clear hb2); (try clear hk); (try clear hi); obtain ⟨Ao117, co117, eo117⟩ := Kd.R_slice HO119.out; subst eo117; have p122 : 0 ≤ (t120 : Int) := of_decide_eq_true zq30; have q122 : t120 < (y117.length : Int) := of_decide_eq_true zq30; obtain ⟨ad122, e122, hx122_0⟩ := Kd.at_int (Kd.R_reads' HO119.out).2.2 t120 p122 q122; cases e122; replace p122 := eq_true p122; replace q122 := eq_true q122))
        have n0_ := Aside0.mk (Kd.R_drew HO111.out)
        have n1_ := Aside0.mk (Kd.R_drew HO119.out)
        have n2_ := Aside0.mk (blk_drew BK106.out)
        have n3_ := Aside0.mk (IsS98.drew HI0.out)
        have n4_ := Aside0.mk (keep_drew HK.out)
        have n5_ := Aside0.mk (below_drew1 HB.out)
        clear HO111
        clear HO119
        clear BK106
        clear HI0
        clear HK
        clear HB
        have HO111 := n0_
        have HO119 := n1_
        have BK106 := n2_
        have HI0 := n3_
        have HK := n4_
        have HB := n5_
        clear n0_ n1_ n2_ n3_ n4_ n5_
        zq28
        generalize w116.drew = w118 at HO111 HO119 BK106 HI0 HK HB hHeld ⊢
        refine pure_ (i := 0) (N := some 23) (v := ?_) (a' := ?_) #[true, false, false, false, false, false, false, false, false, false, false, false, false, false, false, false, false] rfl rfl zq15 (fun _ _ _ h => h) (Or.inl ⟨by rfl, ?_⟩) ?_ ?_
        rotate_left
        ·intro w'
         go_simp
         with_reducible rfl
        rotate_left
        ·zq5
         rfl
        refine pure_ (i := 1) (N := some 24) (v := ?_) (a' := ?_) #[true, true, false, false, false, false, false, false, false, false, false, false, false, false, false, false, false] rfl rfl zq15 (fun _ _ _ h => h) (Or.inl ⟨by rfl, ?_⟩) ?_ ?_
        rotate_left
        ·intro w'
         go_simp
         with_reducible rfl
        rotate_left
        ·zq5
         rfl
        refine pure_ (i := 2) (N := some 25) (v := ?_) (a' := ?_) #[true, true, true, false, false, false, false, false, false, false, false, false, false, false, false, false, false] rfl rfl zq15 (fun _ _ _ h => h) (Or.inl ⟨by rfl, ?_⟩) ?_ ?_
        rotate_left
        ·intro w'
         go_simp
         with_reducible rfl
        rotate_left
        ·zq5
         rfl
        refine pure_ (i := 3) (N := some 26) (v := ?_) (a' := ?_) #[true, true, true, true, false, false, false, false, false, false, false, false, false, false, false, false, false] rfl rfl zq15 (fun _ _ _ h => h) (Or.inl ⟨by rfl, ?_⟩) ?_ ?_
        rotate_left
        ·intro w'
         go_simp
         with_reducible rfl
        rotate_left
        ·zq5
         rfl
        refine pure_ (i := 4) (N := some 27) (v := ?_) (a' := ?_) #[true, true, true, true, true, false, false, false, false, false, false, false, false, false, false, false, false] rfl rfl zq15 (fun _ _ _ h => h) (Or.inl ⟨by rfl, ?_⟩) ?_ ?_
        rotate_left
        ·intro w'
         go_simp
         with_reducible rfl
        rotate_left
        ·zq5
         rfl
        refine pure_ (i := 5) (N := some 28) (v := ?_) (a' := ?_) #[true, true, true, true, true, true, false, false, false, false, false, false, false, false, false, false, false] rfl rfl zq15 (fun _ _ _ h => h) (Or.inl ⟨by rfl, ?_⟩) ?_ ?_
        rotate_left
        ·intro w'
         go_simp
         with_reducible rfl
        rotate_left
        ·zq5
         rfl
        refine pure_ (i := 6) (N := some 29) (v := ?_) (a' := ?_) #[true, true, true, true, true, true, true, false, false, false, false, false, false, false, false, false, false] rfl rfl zq15 (fun _ _ _ h => h) (Or.inl ⟨by rfl, ?_⟩) ?_ ?_
        rotate_left
        ·intro w'
         go_simp
         with_reducible rfl
        rotate_left
        ·zq5
         rfl
        refine pure_ (i := 7) (N := some 30) (v := ?_) (a' := ?_) #[true, true, true, true, true, true, true, true, false, false, false, false, false, false, false, false, false] rfl rfl zq15 (fun _ _ _ h => h) (Or.inl ⟨by rfl, ?_⟩) ?_ ?_
        rotate_left
        ·intro w'
         go_simp
         with_reducible rfl
        rotate_left
        ·zq5
         rfl
        refine pure_ (i := 8) (N := some 31) (v := ?_) (a' := ?_) #[true, true, true, true, true, true, true, true, true, false, false, false, false, false, false, false, false] rfl rfl zq15 (fun _ _ _ h => h) (Or.inl ⟨by rfl, ?_⟩) ?_ ?_
        rotate_left
        ·intro w'
         go_simp
         with_reducible rfl
        rotate_left
        ·zq5
         rfl
        refine pure_ (i := 10) (N := some 33) (v := ?_) (a' := ?_) #[true, true, true, true, true, true, true, true, true, false, true, false, false, false, false, false, false] rfl rfl zq15 (fun _ _ _ h => h) (Or.inl ⟨by rfl, ?_⟩) ?_ ?_
        rotate_left
        ·intro w'
         go_simp
         with_reducible rfl
        rotate_left
        ·zq5
         rfl
        refine join_ (σ := Nat) 1 #[true, true, true, true, true, true, true, true, true, true, true, true, true, true, true, true, false] (fun s_ => [(32, .int .i64 t123), (34, .int .i64 t125), (7, .pointer (some ⟨s_, 0, none⟩)), (35, .int .i64 (wrap64 (t125 * 6))), (36, .int .i64 zq27), (37, .agg #[.int .i64 (wrap64 zq11), .int .i64 (rd y109 t112), .int .i64 t123, .int .i64 zq27])]) (fun s_ w' => (Kd.R (Kd.int .i64) 3 w' w.heap.size (fun k_ => some k_ ≠ (.slice (some ad122) y117.length co117 : Value).ownBlock) (.slice (some ad114) y109.length co112) y109) ∧ (Kd.R (Kd.int .i64) 3 w' w.heap.size (fun k_ => some k_ ≠ (.slice (some ad114) y109.length co112 : Value).ownBlock) (.slice (some ad122) y117.length co117) y117) ∧ (w'.heap[gb106]? = some zq26) ∧ (w'.heap[s_]? = some zq26) ∧ (w.heap.size ≤ s_) ∧ (w0.heap.size ≤ s_) ∧ (g ≠ s_) ∧ (s_ ≠ g) ∧ (gb106 ≠ s_) ∧ (s_ ≠ gb106) ∧ (IsS98 w0 w' g s0_0 t126) ∧ (KeepBut w w' g none) ∧ (Below w0.heap.size w0 w')) ?_ ?_
        rotate_left
        ·intro hCont
         zq22
         ·skip
          refine goes_ Try.func78 (by kernel_rfl) rfl #[.pointer (some ⟨g, 0, none⟩), .int .i64 3] (by rfl) rfl rfl zq10 ?_
          zq31
          (case side1 => repeat zq1)
          (case side2 => repeat zq6)
          rintro e w119 ⟨rfl, hi, hb, hk⟩
          refine ⟨_, rfl, ?_⟩
          have n0_ := Aside0.mk (KeepBut.blk hk (g' := gb106) (o := .cells #[.int .i64 0, .int .i64 0, .int .i64 0, .int .i64 0] 24 (0, 0)) (by (with_reducible repeat zq4); exact BK106.out) NB106_0.out (by simp))
          have n1_ := Aside0.mk (Kd.R_mono (Kd.R_keep (IsS98.apart (show IsS98 w0 _ g s0_0 t121 from by repeat zq1) (by (with_reducible repeat zq8); exact HO111.out) (by decide)) hk (fun _ h => h.2)) (fun _ h => h.1))
          have n2_ := Aside0.mk (Kd.R_mono (Kd.R_keep (IsS98.apart (show IsS98 w0 _ g s0_0 t121 from by repeat zq1) (by (with_reducible repeat zq8); exact HO119.out) (by decide)) hk (fun _ h => h.2)) (fun _ h => h.1))
          have n3_ := Aside0.mk (KeepBut.trans zq3 hk (.inl rfl))
          have n4_ := Aside0.mk (hb)
          have n5_ := Aside0.mk (hi)
          clear BK106
          clear HO111
          clear HO119
          clear HK
          clear HB
          clear HI0
          have BK106 := n0_
          have HO111 := n1_
          have HO119 := n2_
          have HK := n3_
          have HB := n4_
          have HI0 := n5_
          clear n0_ n1_ n2_ n3_ n4_ n5_
          (try clear hb)
          (try clear hb2)
          (try clear hk)
          (try clear hi)
          zq21
          clear hK K
          zq29
          rotate_left
          ·show Act.put _ (some 32) _ = _
           zq5
           rfl
          zq23
          ·skip
           refine goes_ Try.func78 (by kernel_rfl) rfl #[.pointer (some ⟨g, 0, none⟩), .int .i64 3] (by rfl) rfl rfl zq10 ?_
           zq24
           (case side1 => repeat zq1)
           (case side2 => repeat zq6)
           rintro e w120 ⟨rfl, hi, hb, hk⟩
           refine ⟨_, rfl, ?_⟩
           have n0_ := Aside0.mk (KeepBut.blk hk (g' := gb106) (o := .cells #[.int .i64 0, .int .i64 0, .int .i64 0, .int .i64 0] 24 (0, 0)) (by (with_reducible repeat zq4); exact BK106.out) NB106_0.out (by simp))
           have n1_ := Aside0.mk (Kd.R_mono (Kd.R_keep (IsS98.apart (show IsS98 w0 _ g s0_0 t124 from by repeat zq1) (by (with_reducible repeat zq8); exact HO111.out) (by decide)) hk (fun _ h => h.2)) (fun _ h => h.1))
           have n2_ := Aside0.mk (Kd.R_mono (Kd.R_keep (IsS98.apart (show IsS98 w0 _ g s0_0 t124 from by repeat zq1) (by (with_reducible repeat zq8); exact HO119.out) (by decide)) hk (fun _ h => h.2)) (fun _ h => h.1))
           have n3_ := Aside0.mk (KeepBut.trans zq3 hk (.inl rfl))
           have n4_ := Aside0.mk (hb)
           have n5_ := Aside0.mk (hi)
           clear BK106
           clear HO111
           clear HO119
           clear HK
           clear HB
           clear HI0
           have BK106 := n0_
           have HO111 := n1_
           have HO119 := n2_
           have HK := n3_
           have HB := n4_
           have HI0 := n5_
           clear n0_ n1_ n2_ n3_ n4_ n5_
           (try clear hb)
           (try clear hb2)
           (try clear hk)
           (try clear hi)
           zq21
           clear hK K
           zq29
           rotate_left
           ·show Act.put _ (some 34) _ = _
            zq5
            rfl
           refine pure_ (i := 12) (N := some 35) (v := ?_) (a' := ?_) #[true, true, true, true, true, true, true, true, true, true, true, true, true, false, false, false, false] rfl rfl zq15 (fun _ _ _ h => h) (Or.inl ⟨by rfl, ?_⟩) ?_ ?_
           rotate_left
           ·intro w'
            go_simp
            with_reducible rfl
           rotate_left
           ·zq5
            rfl
           refine pure_ (i := 13) (N := some 36) (v := ?_) (a' := ?_) #[true, true, true, true, true, true, true, true, true, true, true, true, true, true, false, false, false] rfl rfl zq15 (fun _ _ _ h => h) (Or.inl ⟨by rfl, ?_⟩) ?_ ?_
           rotate_left
           ·intro w'
            go_simp
            with_reducible rfl
           rotate_left
           ·zq5
            rfl
           refine pure_ (i := 14) (N := some 37) (v := ?_) (a' := ?_) #[true, true, true, true, true, true, true, true, true, true, true, true, true, true, true, false, false] rfl rfl zq15 (fun _ _ _ h => h) (Or.inl ⟨by rfl, ?_⟩) ?_ ?_
           rotate_left
           ·intro w'
            go_simp
            with_reducible rfl
           rotate_left
           ·zq5
            rfl
           zq33
           zq14
           intro gb127 hg w121 hbox hb
           have n0_ := Aside0.mk (Kd.R_below (by (with_reducible repeat zq8); exact HO111.out) hb)
           have n1_ := Aside0.mk (Kd.R_below (by (with_reducible repeat zq8); exact HO119.out) hb)
           have n2_ := Aside0.mk (IsS98.below (by repeat zq1) hb)
           have n3_ := Aside0.mk (blk_below (g := gb106) (o := .cells #[.int .i64 0, .int .i64 0, .int .i64 0, .int .i64 0] 24 (0, 0)) (by (with_reducible repeat zq4); exact BK106.out) hb)
           have n4_ := Aside0.mk (KeepBut.trans zq3 (KeepBut.of_below hb g none) (.inl rfl))
           have n5_ := Aside0.mk (below_step (by repeat zq6) hb)
           have n6_ := Aside0.mk (hbox)
           have n7_ := Aside0.mk ((by rw [hg]; exact (keep_size (w := w) (g := g) (row := none) zq3) : w.heap.size ≤ gb127))
           have n8_ := Aside0.mk ((Nat.le_trans HW0.out (by rw [hg]; exact (keep_size (w := w) (g := g) (row := none) zq3) : w.heap.size ≤ gb127) : w0.heap.size ≤ gb127))
           have n9_ := Aside0.mk ((by rw [hg]; exact Nat.ne_of_lt (blk_lt (g := gb106) (o := .cells #[.int .i64 0, .int .i64 0, .int .i64 0, .int .i64 0] 24 (0, 0)) (by (with_reducible repeat zq4); exact BK106.out)) : gb106 ≠ gb127))
           have n10_ := Aside0.mk ((by rw [hg]; exact Nat.ne_of_gt (blk_lt (g := gb106) (o := .cells #[.int .i64 0, .int .i64 0, .int .i64 0, .int .i64 0] 24 (0, 0)) (by (with_reducible repeat zq4); exact BK106.out)) : gb127 ≠ gb106))
           have n11_ := Aside0.mk ((by rw [hg]; exact Nat.ne_of_lt (IsS98.lt (show IsS98 w0 _ g s0_0 t126 from by repeat zq1)) : g ≠ gb127))
           have n12_ := Aside0.mk ((by rw [hg]; exact Nat.ne_of_gt (IsS98.lt (show IsS98 w0 _ g s0_0 t126 from by repeat zq1)) : gb127 ≠ g))
           clear HO111
           clear HO119
           clear HI0
           clear BK106
           clear HK
           clear HB
           have HO111 := n0_
           have HO119 := n1_
           have HI0 := n2_
           have BK106 := n3_
           have HK := n4_
           have HB := n5_
           have BK127 := n6_
           have GW127 := n7_
           have GE127 := n8_
           have NB106_127 := n9_
           have NB127_106 := n10_
           have NB0_127 := n11_
           have NB127_0 := n12_
           clear n0_ n1_ n2_ n3_ n4_ n5_ n6_ n7_ n8_ n9_ n10_ n11_ n12_
           clear hb hbox hg
           zq21
           clear hK K
           zq29
           rotate_left
           ·show Act.put _ (some 7) _ = _
            zq5
            rfl
           exact norm_ zq25 (hCont (gb127) _ ⟨(by (with_reducible repeat zq8); exact Kd.R_mono HO111.out (fun _ hk => hk.2)), (by (with_reducible repeat zq8); exact Kd.R_mono HO119.out (fun _ hk => hk.2)), (by (with_reducible repeat zq4); exact BK106.out), (by (with_reducible repeat zq4); exact BK127.out), GW127.out, GE127.out, NB0_127.out, NB127_0.out, NB106_127.out, NB127_106.out, (by repeat zq2), (by repeat zq9), (by repeat zq7)⟩)
          ·skip
           zq14
           intro gb127 hg w120 hbox hb
           have n0_ := Aside0.mk (Kd.R_below (by (with_reducible repeat zq8); exact HO111.out) hb)
           have n1_ := Aside0.mk (Kd.R_below (by (with_reducible repeat zq8); exact HO119.out) hb)
           have n2_ := Aside0.mk (IsS98.below (by repeat zq1) hb)
           have n3_ := Aside0.mk (blk_below (g := gb106) (o := .cells #[.int .i64 0, .int .i64 0, .int .i64 0, .int .i64 0] 24 (0, 0)) (by (with_reducible repeat zq4); exact BK106.out) hb)
           have n4_ := Aside0.mk (KeepBut.trans zq3 (KeepBut.of_below hb g none) (.inl rfl))
           have n5_ := Aside0.mk (below_step (by repeat zq6) hb)
           have n6_ := Aside0.mk (hbox)
           have n7_ := Aside0.mk ((by rw [hg]; exact (keep_size (w := w) (g := g) (row := none) zq3) : w.heap.size ≤ gb127))
           have n8_ := Aside0.mk ((Nat.le_trans HW0.out (by rw [hg]; exact (keep_size (w := w) (g := g) (row := none) zq3) : w.heap.size ≤ gb127) : w0.heap.size ≤ gb127))
           have n9_ := Aside0.mk ((by rw [hg]; exact Nat.ne_of_lt (blk_lt (g := gb106) (o := .cells #[.int .i64 0, .int .i64 0, .int .i64 0, .int .i64 0] 24 (0, 0)) (by (with_reducible repeat zq4); exact BK106.out)) : gb106 ≠ gb127))
           have n10_ := Aside0.mk ((by rw [hg]; exact Nat.ne_of_gt (blk_lt (g := gb106) (o := .cells #[.int .i64 0, .int .i64 0, .int .i64 0, .int .i64 0] 24 (0, 0)) (by (with_reducible repeat zq4); exact BK106.out)) : gb127 ≠ gb106))
           have n11_ := Aside0.mk ((by rw [hg]; exact Nat.ne_of_lt (IsS98.lt (show IsS98 w0 _ g s0_0 t124 from by repeat zq1)) : g ≠ gb127))
           have n12_ := Aside0.mk ((by rw [hg]; exact Nat.ne_of_gt (IsS98.lt (show IsS98 w0 _ g s0_0 t124 from by repeat zq1)) : gb127 ≠ g))
           clear HO111
           clear HO119
           clear HI0
           clear BK106
           clear HK
           clear HB
           have HO111 := n0_
           have HO119 := n1_
           have HI0 := n2_
           have BK106 := n3_
           have HK := n4_
           have HB := n5_
           have BK127 := n6_
           have GW127 := n7_
           have GE127 := n8_
           have NB106_127 := n9_
           have NB127_106 := n10_
           have NB0_127 := n11_
           have NB127_0 := n12_
           clear n0_ n1_ n2_ n3_ n4_ n5_ n6_ n7_ n8_ n9_ n10_ n11_ n12_
           clear hb hbox hg
           zq21
           clear hK K
           zq29
           rotate_left
           ·show Act.put _ (some 7) _ = _
            zq5
            rfl
           zq19
           refine goes_ Try.func78 (by kernel_rfl) rfl #[.pointer (some ⟨g, 0, none⟩), .int .i64 3] (by rfl) rfl rfl zq10 ?_
           zq24
           (case side1 => repeat zq2)
           (case side2 => repeat zq7)
           rintro e w121 ⟨rfl, hi, hb, hk⟩
           refine ⟨_, rfl, ?_⟩
           have n0_ := Aside0.mk (KeepBut.blk hk (g' := gb106) (o := .cells #[.int .i64 0, .int .i64 0, .int .i64 0, .int .i64 0] 24 (0, 0)) (by (with_reducible repeat zq4); exact BK106.out) NB106_0.out (by simp))
           have n1_ := Aside0.mk (Kd.R_mono (Kd.R_keep (IsS98.apart (show IsS98 w0 _ g s0_0 t124 from by repeat zq2) (by (with_reducible repeat zq8); exact HO111.out) (by decide)) hk (fun _ h => h.2)) (fun _ h => h.1))
           have n2_ := Aside0.mk (Kd.R_mono (Kd.R_keep (IsS98.apart (show IsS98 w0 _ g s0_0 t124 from by repeat zq2) (by (with_reducible repeat zq8); exact HO119.out) (by decide)) hk (fun _ h => h.2)) (fun _ h => h.1))
           have n3_ := Aside0.mk (KeepBut.blk hk (g' := gb127) (o := .cells #[.int .i64 0, .int .i64 0, .int .i64 0, .int .i64 0] 24 (0, 0)) (by (with_reducible repeat zq4); exact BK127.out) NB127_0.out (by simp))
           have n4_ := Aside0.mk (KeepBut.trans (by repeat zq9) hk (.inl rfl))
           have n5_ := Aside0.mk (hb)
           have n6_ := Aside0.mk (hi)
           clear BK106
           clear HO111
           clear HO119
           clear BK127
           clear HK
           clear HB
           clear HI0
           have BK106 := n0_
           have HO111 := n1_
           have HO119 := n2_
           have BK127 := n3_
           have HK := n4_
           have HB := n5_
           have HI0 := n6_
           clear n0_ n1_ n2_ n3_ n4_ n5_ n6_
           (try clear hb)
           (try clear hb2)
           (try clear hk)
           (try clear hi)
           zq21
           clear hK K
           zq29
           rotate_left
           ·show Act.put _ (some 34) _ = _
            zq5
            rfl
           refine pure_ (i := 12) (N := some 35) (v := ?_) (a' := ?_) #[true, true, true, true, true, true, true, true, true, true, true, true, true, false, false, true, false] rfl rfl zq15 (fun _ _ _ h => h) (Or.inl ⟨by rfl, ?_⟩) ?_ ?_
           rotate_left
           ·intro w'
            go_simp
            with_reducible rfl
           rotate_left
           ·zq5
            rfl
           refine pure_ (i := 13) (N := some 36) (v := ?_) (a' := ?_) #[true, true, true, true, true, true, true, true, true, true, true, true, true, true, false, true, false] rfl rfl zq15 (fun _ _ _ h => h) (Or.inl ⟨by rfl, ?_⟩) ?_ ?_
           rotate_left
           ·intro w'
            go_simp
            with_reducible rfl
           rotate_left
           ·zq5
            rfl
           refine pure_ (i := 14) (N := some 37) (v := ?_) (a' := ?_) #[true, true, true, true, true, true, true, true, true, true, true, true, true, true, true, true, false] rfl rfl zq15 (fun _ _ _ h => h) (Or.inl ⟨by rfl, ?_⟩) ?_ ?_
           rotate_left
           ·intro w'
            go_simp
            with_reducible rfl
           rotate_left
           ·zq5
            rfl
           exact norm_ zq25 (hCont (gb127) _ ⟨(by (with_reducible repeat zq8); exact Kd.R_mono HO111.out (fun _ hk => hk.2)), (by (with_reducible repeat zq8); exact Kd.R_mono HO119.out (fun _ hk => hk.2)), (by (with_reducible repeat zq4); exact BK106.out), (by (with_reducible repeat zq4); exact BK127.out), GW127.out, GE127.out, NB0_127.out, NB127_0.out, NB106_127.out, NB127_106.out, (by repeat zq2), (by repeat zq9), (by repeat zq7)⟩)
         ·skip
          zq14
          intro gb127 hg w119 hbox hb
          have n0_ := Aside0.mk (Kd.R_below (by (with_reducible repeat zq8); exact HO111.out) hb)
          have n1_ := Aside0.mk (Kd.R_below (by (with_reducible repeat zq8); exact HO119.out) hb)
          have n2_ := Aside0.mk (IsS98.below (by repeat zq1) hb)
          have n3_ := Aside0.mk (blk_below (g := gb106) (o := .cells #[.int .i64 0, .int .i64 0, .int .i64 0, .int .i64 0] 24 (0, 0)) (by (with_reducible repeat zq4); exact BK106.out) hb)
          have n4_ := Aside0.mk (KeepBut.trans zq3 (KeepBut.of_below hb g none) (.inl rfl))
          have n5_ := Aside0.mk (below_step (by repeat zq6) hb)
          have n6_ := Aside0.mk (hbox)
          have n7_ := Aside0.mk ((by rw [hg]; exact (keep_size (w := w) (g := g) (row := none) zq3) : w.heap.size ≤ gb127))
          have n8_ := Aside0.mk ((Nat.le_trans HW0.out (by rw [hg]; exact (keep_size (w := w) (g := g) (row := none) zq3) : w.heap.size ≤ gb127) : w0.heap.size ≤ gb127))
          have n9_ := Aside0.mk ((by rw [hg]; exact Nat.ne_of_lt (blk_lt (g := gb106) (o := .cells #[.int .i64 0, .int .i64 0, .int .i64 0, .int .i64 0] 24 (0, 0)) (by (with_reducible repeat zq4); exact BK106.out)) : gb106 ≠ gb127))
          have n10_ := Aside0.mk ((by rw [hg]; exact Nat.ne_of_gt (blk_lt (g := gb106) (o := .cells #[.int .i64 0, .int .i64 0, .int .i64 0, .int .i64 0] 24 (0, 0)) (by (with_reducible repeat zq4); exact BK106.out)) : gb127 ≠ gb106))
          have n11_ := Aside0.mk ((by rw [hg]; exact Nat.ne_of_lt (IsS98.lt (show IsS98 w0 _ g s0_0 t121 from by repeat zq1)) : g ≠ gb127))
          have n12_ := Aside0.mk ((by rw [hg]; exact Nat.ne_of_gt (IsS98.lt (show IsS98 w0 _ g s0_0 t121 from by repeat zq1)) : gb127 ≠ g))
          clear HO111
          clear HO119
          clear HI0
          clear BK106
          clear HK
          clear HB
          have HO111 := n0_
          have HO119 := n1_
          have HI0 := n2_
          have BK106 := n3_
          have HK := n4_
          have HB := n5_
          have BK127 := n6_
          have GW127 := n7_
          have GE127 := n8_
          have NB106_127 := n9_
          have NB127_106 := n10_
          have NB0_127 := n11_
          have NB127_0 := n12_
          clear n0_ n1_ n2_ n3_ n4_ n5_ n6_ n7_ n8_ n9_ n10_ n11_ n12_
          clear hb hbox hg
          zq21
          clear hK K
          zq29
          rotate_left
          ·show Act.put _ (some 7) _ = _
           zq5
           rfl
          zq32
          refine goes_ Try.func78 (by kernel_rfl) rfl #[.pointer (some ⟨g, 0, none⟩), .int .i64 3] (by rfl) rfl rfl zq10 ?_
          zq31
          (case side1 => repeat zq2)
          (case side2 => repeat zq7)
          rintro e w120 ⟨rfl, hi, hb, hk⟩
          refine ⟨_, rfl, ?_⟩
          have n0_ := Aside0.mk (KeepBut.blk hk (g' := gb106) (o := .cells #[.int .i64 0, .int .i64 0, .int .i64 0, .int .i64 0] 24 (0, 0)) (by (with_reducible repeat zq4); exact BK106.out) NB106_0.out (by simp))
          have n1_ := Aside0.mk (Kd.R_mono (Kd.R_keep (IsS98.apart (show IsS98 w0 _ g s0_0 t121 from by repeat zq2) (by (with_reducible repeat zq8); exact HO111.out) (by decide)) hk (fun _ h => h.2)) (fun _ h => h.1))
          have n2_ := Aside0.mk (Kd.R_mono (Kd.R_keep (IsS98.apart (show IsS98 w0 _ g s0_0 t121 from by repeat zq2) (by (with_reducible repeat zq8); exact HO119.out) (by decide)) hk (fun _ h => h.2)) (fun _ h => h.1))
          have n3_ := Aside0.mk (KeepBut.blk hk (g' := gb127) (o := .cells #[.int .i64 0, .int .i64 0, .int .i64 0, .int .i64 0] 24 (0, 0)) (by (with_reducible repeat zq4); exact BK127.out) NB127_0.out (by simp))
          have n4_ := Aside0.mk (KeepBut.trans (by repeat zq9) hk (.inl rfl))
          have n5_ := Aside0.mk (hb)
          have n6_ := Aside0.mk (hi)
          clear BK106
          clear HO111
          clear HO119
          clear BK127
          clear HK
          clear HB
          clear HI0
          have BK106 := n0_
          have HO111 := n1_
          have HO119 := n2_
          have BK127 := n3_
          have HK := n4_
          have HB := n5_
          have HI0 := n6_
          clear n0_ n1_ n2_ n3_ n4_ n5_ n6_
          (try clear hb)
          (try clear hb2)
          (try clear hk)
          (try clear hi)
          zq21
          clear hK K
          zq29
          rotate_left
          ·show Act.put _ (some 32) _ = _
           zq5
           rfl
          zq19
          refine goes_ Try.func78 (by kernel_rfl) rfl #[.pointer (some ⟨g, 0, none⟩), .int .i64 3] (by rfl) rfl rfl zq10 ?_
          zq24
          (case side1 => repeat zq2)
          (case side2 => repeat zq7)
          rintro e w121 ⟨rfl, hi, hb, hk⟩
          refine ⟨_, rfl, ?_⟩
          have n0_ := Aside0.mk (KeepBut.blk hk (g' := gb106) (o := .cells #[.int .i64 0, .int .i64 0, .int .i64 0, .int .i64 0] 24 (0, 0)) (by (with_reducible repeat zq4); exact BK106.out) NB106_0.out (by simp))
          have n1_ := Aside0.mk (Kd.R_mono (Kd.R_keep (IsS98.apart (show IsS98 w0 _ g s0_0 t124 from by repeat zq2) (by (with_reducible repeat zq8); exact HO111.out) (by decide)) hk (fun _ h => h.2)) (fun _ h => h.1))
          have n2_ := Aside0.mk (Kd.R_mono (Kd.R_keep (IsS98.apart (show IsS98 w0 _ g s0_0 t124 from by repeat zq2) (by (with_reducible repeat zq8); exact HO119.out) (by decide)) hk (fun _ h => h.2)) (fun _ h => h.1))
          have n3_ := Aside0.mk (KeepBut.blk hk (g' := gb127) (o := .cells #[.int .i64 0, .int .i64 0, .int .i64 0, .int .i64 0] 24 (0, 0)) (by (with_reducible repeat zq4); exact BK127.out) NB127_0.out (by simp))
          have n4_ := Aside0.mk (KeepBut.trans (by repeat zq9) hk (.inl rfl))
          have n5_ := Aside0.mk (hb)
          have n6_ := Aside0.mk (hi)
          clear BK106
          clear HO111
          clear HO119
          clear BK127
          clear HK
          clear HB
          clear HI0
          have BK106 := n0_
          have HO111 := n1_
          have HO119 := n2_
          have BK127 := n3_
          have HK := n4_
          have HB := n5_
          have HI0 := n6_
          clear n0_ n1_ n2_ n3_ n4_ n5_ n6_
          (try clear hb)
          (try clear hb2)
          (try clear hk)
          (try clear hi)
          zq21
          clear hK K
          zq29
          rotate_left
          ·show Act.put _ (some 34) _ = _
           zq5
           rfl
          refine pure_ (i := 12) (N := some 35) (v := ?_) (a' := ?_) #[true, true, true, true, true, true, true, true, true, true, true, true, true, false, false, true, false] rfl rfl zq15 (fun _ _ _ h => h) (Or.inl ⟨by rfl, ?_⟩) ?_ ?_
          rotate_left
          ·intro w'
           go_simp
           with_reducible rfl
          rotate_left
          ·zq5
           rfl
          refine pure_ (i := 13) (N := some 36) (v := ?_) (a' := ?_) #[true, true, true, true, true, true, true, true, true, true, true, true, true, true, false, true, false] rfl rfl zq15 (fun _ _ _ h => h) (Or.inl ⟨by rfl, ?_⟩) ?_ ?_
          rotate_left
          ·intro w'
           go_simp
           with_reducible rfl
          rotate_left
          ·zq5
           rfl
          refine pure_ (i := 14) (N := some 37) (v := ?_) (a' := ?_) #[true, true, true, true, true, true, true, true, true, true, true, true, true, true, true, true, false] rfl rfl zq15 (fun _ _ _ h => h) (Or.inl ⟨by rfl, ?_⟩) ?_ ?_
          rotate_left
          ·intro w'
           go_simp
           with_reducible rfl
          rotate_left
          ·zq5
           rfl
          exact norm_ zq25 (hCont (gb127) _ ⟨(by (with_reducible repeat zq8); exact Kd.R_mono HO111.out (fun _ hk => hk.2)), (by (with_reducible repeat zq8); exact Kd.R_mono HO119.out (fun _ hk => hk.2)), (by (with_reducible repeat zq4); exact BK106.out), (by (with_reducible repeat zq4); exact BK127.out), GW127.out, GE127.out, NB0_127.out, NB127_0.out, NB106_127.out, NB127_106.out, (by repeat zq2), (by repeat zq9), (by repeat zq7)⟩)
        rintro gb127 w122 ⟨h0_, h1_, h2_, h3_, h4_, h5_, h6_, h7_, h8_, h9_, h10_, h11_, h12_⟩
        have n0_ : Aside0 (Kd.R (Kd.int .i64) 3 w122 w.heap.size (fun k_ => some k_ ≠ (.slice (some ad122) y117.length co117 : Value).ownBlock) (.slice (some ad114) y109.length co112) y109) := ⟨h0_⟩
        have n1_ : Aside0 (Kd.R (Kd.int .i64) 3 w122 w.heap.size (fun k_ => some k_ ≠ (.slice (some ad114) y109.length co112 : Value).ownBlock) (.slice (some ad122) y117.length co117) y117) := ⟨h1_⟩
        have n2_ : Aside0 (w122.heap[gb106]? = some zq26) := ⟨h2_⟩
        have n3_ : Aside0 (w122.heap[gb127]? = some zq26) := ⟨h3_⟩
        have n4_ : Aside0 (w.heap.size ≤ gb127) := ⟨h4_⟩
        have n5_ : Aside0 (w0.heap.size ≤ gb127) := ⟨h5_⟩
        have n6_ : Aside0 (g ≠ gb127) := ⟨h6_⟩
        have n7_ : Aside0 (gb127 ≠ g) := ⟨h7_⟩
        have n8_ : Aside0 (gb106 ≠ gb127) := ⟨h8_⟩
        have n9_ : Aside0 (gb127 ≠ gb106) := ⟨h9_⟩
        have n10_ : Aside0 (IsS98 w0 w122 g s0_0 t126) := ⟨h10_⟩
        have n11_ : Aside0 (KeepBut w w122 g none) := ⟨h11_⟩
        have n12_ : Aside0 (Below w0.heap.size w0 w122) := ⟨h12_⟩
        clear HO111
        clear HO119
        clear BK106
        clear HI0
        clear HK
        clear HB
        clear h0_ h1_ h2_ h3_ h4_ h5_ h6_ h7_ h8_ h9_ h10_ h11_ h12_
        have HO111 := n0_
        have HO119 := n1_
        have BK106 := n2_
        have BK127 := n3_
        have GW127 := n4_
        have GE127 := n5_
        have NB0_127 := n6_
        have NB127_0 := n7_
        have NB106_127 := n8_
        have NB127_106 := n9_
        have HI0 := n10_
        have HK := n11_
        have HB := n12_
        clear n0_ n1_ n2_ n3_ n4_ n5_ n6_ n7_ n8_ n9_ n10_ n11_ n12_
        have hHeld := trivial
        zq29
        rotate_left
        ·simp only [putAll, Act.put, List.setIfInBounds_toArray, List.set_cons_zero, List.set_cons_succ]
         rfl
        zq35
        have hs123 : w122.cell? ⟨gb127, 0, none⟩ = some (.int .i64 0) := (blk_cell BK127.out 0).trans rfl
        have hfs123 := blk_frozen BK127.out 0
        have hns123_0 := NB106_127.out
        have hms123_0 := NB127_106.out
        have hs124 : w122.cell? ⟨gb127, 1, none⟩ = some (.int .i64 0) := (blk_cell BK127.out 1).trans rfl
        have hfs124 := blk_frozen BK127.out 1
        have hns124_0 := NB106_127.out
        have hms124_0 := NB127_106.out
        have hs125 : w122.cell? ⟨gb127, 2, none⟩ = some (.int .i64 0) := (blk_cell BK127.out 2).trans rfl
        have hfs125 := blk_frozen BK127.out 2
        have hns125_0 := NB106_127.out
        have hms125_0 := NB127_106.out
        have hs126 : w122.cell? ⟨gb127, 3, none⟩ = some (.int .i64 0) := (blk_cell BK127.out 3).trans rfl
        have hfs126 := blk_frozen BK127.out 3
        have hns126_0 := NB106_127.out
        have hms126_0 := NB127_106.out
        refine skip_ (w1 := ?_) (by rfl) rfl ?_ ?_
        rotate_left
        ·go_simp
         rfl
        zq21
        clear hK K
        refine done_ (done_of HT_.out (by kernel_rfl)) ?_
        try go_wp2_with (first | ((with_reducible refine gate_callee (f := 87) rfl ?_); refine goesL_ (some 40) rfl rfl Try.func87 (by kernel_rfl) rfl #[.pointer (some ⟨g, 0, none⟩), .int .i64 a1] rfl zq10 ?_; (with_reducible refine (spec_l20Rd_odd.calls k g s0_0 t126 a1 false t129 w0 _ ?side1 ?side2 A17.out).mono ?_); (case side1 => repeat zq2); (case side2 => repeat zq7); rintro e w127 ⟨rfl, hi, hb, hk⟩; refine ⟨_, rfl, ?_⟩; have n0_ := Aside0.mk (KeepBut.blk hk (g' := gb106) (o := .cells #[.int .i64 0, .int .i64 0, .int .i64 0, .int .i64 0] 24 (0, 0)) (by (with_reducible repeat zq4); refine blk_far ?_ NB106_127.out _; (with_reducible repeat zq4); refine blk_far ?_ NB106_127.out _; (with_reducible repeat zq4); refine blk_far ?_ NB106_127.out _; (with_reducible repeat zq4); refine blk_far ?_ NB106_127.out _; (with_reducible repeat zq4); exact BK106.out) NB106_0.out (by simp)); have n1_ := Aside0.mk (Kd.R_mono (Kd.R_keep (IsS98.apart (show IsS98 w0 _ g s0_0 t126 from by repeat zq2) (by (with_reducible repeat zq8); exact (Kd.R_mono (Kd.R_far (p := ⟨gb127, 3, none⟩) (Kd.R_far (p := ⟨gb127, 2, none⟩) (Kd.R_far (p := ⟨gb127, 1, none⟩) (Kd.R_far (p := ⟨gb127, 0, none⟩) (Kd.R_types HO111.out BK127.out (by decide)) (fun _ hk => hk.2) (.int .i64 (wrap64 zq11))) (fun _ hk => hk.2) (.int .i64 (rd y109 t112))) (fun _ hk => hk.2) (.int .i64 t123)) (fun _ hk => hk.2) (.int .i64 zq27)) (fun _ h_ => h_.1))) (by decide)) hk (fun _ h => h.2)) (fun _ h => h.1)); have n2_ := Aside0.mk (Kd.R_mono (Kd.R_keep (IsS98.apart (show IsS98 w0 _ g s0_0 t126 from by repeat zq2) (by (with_reducible repeat zq8); exact (Kd.R_mono (Kd.R_far (p := ⟨gb127, 3, none⟩) (Kd.R_far (p := ⟨gb127, 2, none⟩) (Kd.R_far (p := ⟨gb127, 1, none⟩) (Kd.R_far (p := ⟨gb127, 0, none⟩) (Kd.R_types HO119.out BK127.out (by decide)) (fun _ hk => hk.2) (.int .i64 (wrap64 zq11))) (fun _ hk => hk.2) (.int .i64 (rd y109 t112))) (fun _ hk => hk.2) (.int .i64 t123)) (fun _ hk => hk.2) (.int .i64 zq27)) (fun _ h_ => h_.1))) (by decide)) hk (fun _ h => h.2)) (fun _ h => h.1)); have n3_ := Aside0.mk (KeepBut.blk hk (g' := gb127) (o := .cells #[.int .i64 (wrap64 zq11), .int .i64 (rd y109 t112), .int .i64 t123, .int .i64 zq27] 24 (0, 0)) (by (with_reducible repeat zq4); refine blk_put (cs := #[.int .i64 (wrap64 zq11), .int .i64 (rd y109 t112), .int .i64 t123, .int .i64 0]) ?_ 3 _ rfl; (with_reducible repeat zq4); refine blk_put (cs := #[.int .i64 (wrap64 zq11), .int .i64 (rd y109 t112), .int .i64 0, .int .i64 0]) ?_ 2 _ rfl; (with_reducible repeat zq4); refine blk_put (cs := #[.int .i64 (wrap64 zq11), .int .i64 0, .int .i64 0, .int .i64 0]) ?_ 1 _ rfl; (with_reducible repeat zq4); refine blk_put (cs := #[.int .i64 0, .int .i64 0, .int .i64 0, .int .i64 0]) ?_ 0 _ rfl; (with_reducible repeat zq4); exact BK127.out) NB127_0.out (by simp)); have n4_ := Aside0.mk (KeepBut.trans (by repeat zq9) hk (.inl rfl)); have n5_ := Aside0.mk (hb); have n6_ := Aside0.mk (hi); clear BK106; clear HO111; clear HO119; clear BK127; clear HK; clear HB; clear HI0; have BK106 := n0_; have HO111 := n1_; have HO119 := n2_; have BK127 := n3_; have HK := n4_; have HB := n5_; have HI0 := n6_; clear n0_ n1_ n2_ n3_ n4_ n5_ n6_; (try clear hb); (try clear hb2); (try clear hk); (try clear hi); have hnb128 := NB127_106.out; have hnc128 := NB106_127.out; have hnb129 := NB127_0.out; have hnc129 := NB0_127.out; have hcz130_0 : w127.cell? ⟨gb127, 0, none⟩ = some (.int .i64 (wrap64 zq11)) := (blk_cell BK127.out 0).trans rfl; have hcz130_1 : w127.cell? ⟨gb127, 1, none⟩ = some (.int .i64 (rd y109 t112)) := (blk_cell BK127.out 1).trans rfl; have hcz130_2 : w127.cell? ⟨gb127, 2, none⟩ = some (.int .i64 t123) := (blk_cell BK127.out 2).trans rfl; have hcz130_3 : w127.cell? ⟨gb127, 3, none⟩ = some (.int .i64 zq27) := (blk_cell BK127.out 3).trans rfl; have hfz130_0 := blk_frozen BK127.out 0; have hfz130_1 := blk_frozen BK127.out 1; have hfz130_2 := blk_frozen BK127.out 2; have hfz130_3 := blk_frozen BK127.out 3; have hnb131 := NB106_0.out; have hnc131 := NB0_106.out; have hcz132_0 : w127.cell? ⟨gb106, 0, none⟩ = some (.int .i64 0) := (blk_cell BK106.out 0).trans rfl; have hcz132_1 : w127.cell? ⟨gb106, 1, none⟩ = some (.int .i64 0) := (blk_cell BK106.out 1).trans rfl; have hcz132_2 : w127.cell? ⟨gb106, 2, none⟩ = some (.int .i64 0) := (blk_cell BK106.out 2).trans rfl; have hcz132_3 : w127.cell? ⟨gb106, 3, none⟩ = some (.int .i64 0) := (blk_cell BK106.out 3).trans rfl; have hfz132_0 := blk_frozen BK106.out 0; have hfz132_1 := blk_frozen BK106.out 1; have hfz132_2 := blk_frozen BK106.out 2; have hfz132_3 := blk_frozen BK106.out 3))
        refine bodyPost_ret (results_cell_row rfl _ _ gb106 24 #[.int .i64 (wrap64 zq11), .int .i64 (rd y109 t112), .int .i64 t123, .int .i64 zq27] (0, 0) _ rfl (by (with_reducible repeat zq4); refine blk_put (cs := #[.int .i64 (wrap64 zq11), .int .i64 (rd y109 t112), .int .i64 t123, .int .i64 0]) ?_ 3 _ rfl; (with_reducible repeat zq4); refine blk_put (cs := #[.int .i64 (wrap64 zq11), .int .i64 (rd y109 t112), .int .i64 0, .int .i64 0]) ?_ 2 _ rfl; (with_reducible repeat zq4); refine blk_put (cs := #[.int .i64 (wrap64 zq11), .int .i64 0, .int .i64 0, .int .i64 0]) ?_ 1 _ rfl; (with_reducible repeat zq4); refine blk_put (cs := #[.int .i64 0, .int .i64 0, .int .i64 0, .int .i64 0]) ?_ 0 _ rfl; (with_reducible repeat zq4); exact BK106.out) Try.underlying24 rfl (by kernel_rfl)) rfl ?_
        exact ⟨by first | rfl | (simp [errW_none, errW_some] <;> rfl) | (simp only [← hji11, ← hji13]; first | rfl | (simp [errW_none, errW_some] <;> rfl)) | (simp [*, errW_none, errW_some] <;> rfl), by repeat zq2, by repeat zq7, by repeat zq9⟩
     ·rw [if_neg c12] at H
      exact absurd H (by simp)
    ·rw [if_neg c10] at H
     exact absurd H (by simp)
   ·rw [if_neg c9] at H
    exact absurd H (by simp)
  ·rw [if_neg c6] at H
   exact absurd H (by simp)
 ·rw [if_neg c5] at H
  exact absurd H (by simp)

end Go.Proofs.Ytpoedefohfonjaa.PFnRouteOk

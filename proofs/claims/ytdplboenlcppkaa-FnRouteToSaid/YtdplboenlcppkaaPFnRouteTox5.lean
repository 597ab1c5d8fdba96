/- The machine side of some functions: each comes to its pure answer (written by a program of this session with the kit's print). No condition. -/
import Derived.Test.YtdplboenlcppkaaPFnRouteTox0
import Derived.Test.YtdplboenlcppkaaPFnRouteTox2
namespace Go.Proofs.Ytdplboenlcppkaa.PFnRouteTo
open Go.RowKit Go.Proofs.YtdplboenlcppkaaUFnRouteTo.PrintWords Go.Proofs.YtdplboenlcppkaaUFnRouteTo.PrintLast Go.Proofs.YtdplboenlcppkaaUFnRouteTo.PrintMore
attribute [local go_sem] max2_int min2_int max_two min_two max_three min_three max_four min_four   -- for this text's walks alone
set_option linter.unusedVariables false
set_option linter.unusedSimpArgs false

/-! ### spec_l20Route: function 128 -/
def spec_l20Route.j0 : Nat → List Int → Int → Int → Int → Int → Int → Option (Int × Int × Int × Int × Int)
  | 0, _, _, _, _, _, _ => none
  | k + 1, x1000, x1001, x195000, x195001, x195002, x195003 => some (x195000, x195001, x195002, x195003, x1001)
def spec_l20Route.f (k : Nat) (s0_0 : List Int) (s0_1 : Int) (a1 : Int) : Option (Int × Int × Int × Int × Int) := (spec_l20Rd_pick.f k s0_0 s0_1 17).bind fun bt174 => ((some (([0, 4, 8, 8, 12, 16, bt174.1] : List Int) : List Int)).bind fun y176 => ((spec_l20Rd_pick.f k s0_0 bt174.2 7).bind fun bt179 => (if 0 ≤ bt179.1 then (if bt179.1 < (y176.length : Int) then ((spec_l20Rd_pick.f k s0_0 bt179.2 512).bind fun bt182 => ((some (([0, 4096, 4352, 4353, wrap64 (4096 + bt182.1), 65535] : List Int) : List Int)).bind fun y184 => ((spec_l20Rd_pick.f k s0_0 bt182.2 6).bind fun bt187 => (if 0 ≤ bt187.1 then (if bt187.1 < (y184.length : Int) then (if 0 ≤ (wrap64 (16 - (rd y176 bt179.1))) then (if (shl .i64 1 (wrap64 (16 - (rd y176 bt179.1)))) = 0 then (none) else ((spec_l20Rd_pick.f k s0_0 bt187.2 3).bind fun bt190 => ((spec_l20Rd_pick.f k s0_0 bt190.2 3).bind fun bt192 => ((spec_l20Rd_odd.f k s0_0 bt192.2 a1).bind fun bt195 => (if bt195.1 = true then ((spec_l20Rd_pick.f k s0_0 bt195.2 3).bind fun bt197 => (if bt197.1 = 0 then ((spec_l20Rd_pick.f k s0_0 bt197.2 2).bind fun bt199 => (spec_l20Route.j0 k s0_0 bt199.2 (wrap64 ((rd y184 bt187.1) - (Int.tmod (rd y184 bt187.1) (shl .i64 1 (wrap64 (16 - (rd y176 bt179.1))))))) (wrap64 (17 - (wrap64 (bt199.1 * 18)))) bt190.1 (wrap64 (4 + (wrap64 (bt192.1 * 6)))))) else (if bt197.1 = 1 then ((spec_l20Rd_pick.f k s0_0 bt197.2 2).bind fun bt201 => (spec_l20Route.j0 k s0_0 bt201.2 (wrap64 ((rd y184 bt187.1) - (Int.tmod (rd y184 bt187.1) (shl .i64 1 (wrap64 (16 - (rd y176 bt179.1))))))) (rd y176 bt179.1) bt190.1 (wrap64 (bt201.1 * 49)))) else (spec_l20Route.j0 k s0_0 bt197.2 (wrap64 ((wrap64 ((rd y184 bt187.1) - (Int.tmod (rd y184 bt187.1) (shl .i64 1 (wrap64 (16 - (rd y176 bt179.1))))))) + 1)) (rd y176 bt179.1) bt190.1 (wrap64 (4 + (wrap64 (bt192.1 * 6)))))))) else (spec_l20Route.j0 k s0_0 bt195.2 (wrap64 ((rd y184 bt187.1) - (Int.tmod (rd y184 bt187.1) (shl .i64 1 (wrap64 (16 - (rd y176 bt179.1))))))) (rd y176 bt179.1) bt190.1 (wrap64 (4 + (wrap64 (bt192.1 * 6)))))))))) else (none)) else (none)) else (none))))) else (none)) else (none))))
theorem spec_l20Route.mono_l : ∀ k, (∀ y0 y1 y2 y3 y4 y5, LeO (spec_l20Route.j0 k y0 y1 y2 y3 y4 y5) (spec_l20Route.j0 (k + 1) y0 y1 y2 y3 y4 y5))
  | 0 => fun _ _ _ _ _ _ r h => by simp [spec_l20Route.j0] at h
  | k + 1 => by
    have ih0 := spec_l20Route.mono_l k
    · intro y0 y1 y2 y3 y4 y5
      unfold spec_l20Route.j0
      repeat' first
      | (with_reducible exact ih0 _ _ _ _ _ _)
      | (with_reducible exact spec_l20Rd_odd.mono _ _ _ _)
      | (with_reducible exact spec_l20Rd_pick.mono _ _ _ _)
      | (with_reducible exact LeO.refl _)
      | (with_reducible exact LeO.none _)
      | (with_reducible refine LeO.ite ?_ ?_)
      | (with_reducible refine LeO.bind ?_ (fun _ => ?_))
      | exact ih0 _ _ _ _ _ _
      | exact spec_l20Rd_odd.mono _ _ _ _
      | exact spec_l20Rd_pick.mono _ _ _ _
      | exact LeO.none _
      | refine LeO.ite ?_ ?_
      | refine LeO.bind ?_ (fun _ => ?_)
theorem spec_l20Route.mono : ∀ a0 a1 a2 k, LeO (spec_l20Route.f k a0 a1 a2) (spec_l20Route.f (k + 1) a0 a1 a2) := by
  intro a0 a1 a2 k
  have ih0 := spec_l20Route.mono_l k
  unfold spec_l20Route.f
  repeat' first
      | (with_reducible exact ih0 _ _ _ _ _ _)
      | (with_reducible exact spec_l20Rd_odd.mono _ _ _ _)
      | (with_reducible exact spec_l20Rd_pick.mono _ _ _ _)
      | (with_reducible exact LeO.refl _)
      | (with_reducible exact LeO.none _)
      | (with_reducible refine LeO.ite ?_ ?_)
      | (with_reducible refine LeO.bind ?_ (fun _ => ?_))
      | exact ih0 _ _ _ _ _ _
      | exact spec_l20Rd_odd.mono _ _ _ _
      | exact spec_l20Rd_pick.mono _ _ _ _
      | exact LeO.none _
      | refine LeO.ite ?_ ?_
      | refine LeO.bind ?_ (fun _ => ?_)
def spec_l20Route.T3 : Bool × List (List Nat × List Nat) := (true, [([], []), ([], []), ([], []), ([2], [2]), ([3], [3]), ([1, 4], [1, 4]), ([0, 5], [0, 5]), ([], []), ([], []), ([8], [8]), ([], []), ([10, 9], [10]), ([11], [11]), ([12], [12]), ([6, 7, 9, 13], [6, 7, 9, 13]), ([], []), ([15, 14, 11, 0, 1, 2, 3, 4, 5, 6, 7, 8, 9, 10, 11, 12, 13, 14, 15], [14, 15])])
def spec_l20Route.B3 : List Nat := [0, 0, 0, 4, 12, 30, 63, 0, 0, 256, 0, 1792, 3840, 7936, 16383, 0, 65535]
theorem spec_l20Route.tab3 : rtab .any (opsOf Try.f128 3) = spec_l20Route.T3 := by kernel_rfl
theorem spec_l20Route.bits3 : waitsOk spec_l20Route.T3.2 spec_l20Route.B3 = true := by kernel_rfl
set_option maxHeartbeats 8000000 in
set_option maxRecDepth 100000 in
theorem spec_l20Route.calls (k : Nat) (g : Nat) (s0_0 : List Int) (s0_1 : Int) (a1 : Int) (r1 : Int) (r2 : Int) (r3 : Int) (r4 : Int) (r5 : Int) (w0 w : World) (hI : IsS152 w0 w g s0_0 s0_1) (hB : Below w0.heap.size w0 w) (h : spec_l20Route.f k s0_0 s0_1 a1 = some (r1, r2, r3, r4, r5)) :
    Calls Try.prog 128 #[.pointer (some ⟨g, 0, none⟩), .int .i64 a1] w fun e w' => e = .returned (.agg #[.int .i64 r1, .int .i64 r2, .int .i64 r3, .int .i64 r4]) ∧ IsS152 w0 w' g s0_0 r5 ∧ Below w0.heap.size w0 w' ∧ KeepBut w w' g none := by
  have hu65 := Try.underlying65
  have HI0 := Aside0.mk hI
  have HK := Aside0.mk (KeepBut.refl w g none)
  have HL := Aside0.mk hB.size
  clear hI
  have HW0 := Aside0.mk hB.size
  have HB := Aside0.mk hB
  clear hB
  have H : ((spec_l20Rd_pick.f k s0_0 s0_1 17).bind fun bt174 => ((some (([0, 4, 8, 8, 12, 16, bt174.1] : List Int) : List Int)).bind fun y176 => ((spec_l20Rd_pick.f k s0_0 bt174.2 7).bind fun bt179 => (if 0 ≤ bt179.1 then (if bt179.1 < (y176.length : Int) then ((spec_l20Rd_pick.f k s0_0 bt179.2 512).bind fun bt182 => ((some (([0, 4096, 4352, 4353, wrap64 (4096 + bt182.1), 65535] : List Int) : List Int)).bind fun y184 => ((spec_l20Rd_pick.f k s0_0 bt182.2 6).bind fun bt187 => (if 0 ≤ bt187.1 then (if bt187.1 < (y184.length : Int) then (if 0 ≤ (wrap64 (16 - (rd y176 bt179.1))) then (if (shl .i64 1 (wrap64 (16 - (rd y176 bt179.1)))) = 0 then (none) else ((spec_l20Rd_pick.f k s0_0 bt187.2 3).bind fun bt190 => ((spec_l20Rd_pick.f k s0_0 bt190.2 3).bind fun bt192 => ((spec_l20Rd_odd.f k s0_0 bt192.2 a1).bind fun bt195 => (if bt195.1 = true then ((spec_l20Rd_pick.f k s0_0 bt195.2 3).bind fun bt197 => (if bt197.1 = 0 then ((spec_l20Rd_pick.f k s0_0 bt197.2 2).bind fun bt199 => (spec_l20Route.j0 k s0_0 bt199.2 (wrap64 ((rd y184 bt187.1) - (Int.tmod (rd y184 bt187.1) (shl .i64 1 (wrap64 (16 - (rd y176 bt179.1))))))) (wrap64 (17 - (wrap64 (bt199.1 * 18)))) bt190.1 (wrap64 (4 + (wrap64 (bt192.1 * 6)))))) else (if bt197.1 = 1 then ((spec_l20Rd_pick.f k s0_0 bt197.2 2).bind fun bt201 => (spec_l20Route.j0 k s0_0 bt201.2 (wrap64 ((rd y184 bt187.1) - (Int.tmod (rd y184 bt187.1) (shl .i64 1 (wrap64 (16 - (rd y176 bt179.1))))))) (rd y176 bt179.1) bt190.1 (wrap64 (bt201.1 * 49)))) else (spec_l20Route.j0 k s0_0 bt197.2 (wrap64 ((wrap64 ((rd y184 bt187.1) - (Int.tmod (rd y184 bt187.1) (shl .i64 1 (wrap64 (16 - (rd y176 bt179.1))))))) + 1)) (rd y176 bt179.1) bt190.1 (wrap64 (4 + (wrap64 (bt192.1 * 6)))))))) else (spec_l20Route.j0 k s0_0 bt195.2 (wrap64 ((rd y184 bt187.1) - (Int.tmod (rd y184 bt187.1) (shl .i64 1 (wrap64 (16 - (rd y176 bt179.1))))))) (rd y176 bt179.1) bt190.1 (wrap64 (4 + (wrap64 (bt192.1 * 6)))))))))) else (none)) else (none)) else (none))))) else (none)) else (none))))) = some (r1, r2, r3, r4, r5) := h
  clear h
  replace H := Option.bind_eq_some_iff.mp H
  obtain ⟨⟨t174, t175⟩, A30, H⟩ := H
  replace H : ((some (([0, 4, 8, 8, 12, 16, t174] : List Int) : List Int)).bind fun y176 => ((spec_l20Rd_pick.f k s0_0 t175 7).bind fun bt179 => (if 0 ≤ bt179.1 then (if bt179.1 < (y176.length : Int) then ((spec_l20Rd_pick.f k s0_0 bt179.2 512).bind fun bt182 => ((some (([0, 4096, 4352, 4353, wrap64 (4096 + bt182.1), 65535] : List Int) : List Int)).bind fun y184 => ((spec_l20Rd_pick.f k s0_0 bt182.2 6).bind fun bt187 => (if 0 ≤ bt187.1 then (if bt187.1 < (y184.length : Int) then (if 0 ≤ (wrap64 (16 - (rd y176 bt179.1))) then (if (shl .i64 1 (wrap64 (16 - (rd y176 bt179.1)))) = 0 then (none) else ((spec_l20Rd_pick.f k s0_0 bt187.2 3).bind fun bt190 => ((spec_l20Rd_pick.f k s0_0 bt190.2 3).bind fun bt192 => ((spec_l20Rd_odd.f k s0_0 bt192.2 a1).bind fun bt195 => (if bt195.1 = true then ((spec_l20Rd_pick.f k s0_0 bt195.2 3).bind fun bt197 => (if bt197.1 = 0 then ((spec_l20Rd_pick.f k s0_0 bt197.2 2).bind fun bt199 => (spec_l20Route.j0 k s0_0 bt199.2 (wrap64 ((rd y184 bt187.1) - (Int.tmod (rd y184 bt187.1) (shl .i64 1 (wrap64 (16 - (rd y176 bt179.1))))))) (wrap64 (17 - (wrap64 (bt199.1 * 18)))) bt190.1 (wrap64 (4 + (wrap64 (bt192.1 * 6)))))) else (if bt197.1 = 1 then ((spec_l20Rd_pick.f k s0_0 bt197.2 2).bind fun bt201 => (spec_l20Route.j0 k s0_0 bt201.2 (wrap64 ((rd y184 bt187.1) - (Int.tmod (rd y184 bt187.1) (shl .i64 1 (wrap64 (16 - (rd y176 bt179.1))))))) (rd y176 bt179.1) bt190.1 (wrap64 (bt201.1 * 49)))) else (spec_l20Route.j0 k s0_0 bt197.2 (wrap64 ((wrap64 ((rd y184 bt187.1) - (Int.tmod (rd y184 bt187.1) (shl .i64 1 (wrap64 (16 - (rd y176 bt179.1))))))) + 1)) (rd y176 bt179.1) bt190.1 (wrap64 (4 + (wrap64 (bt192.1 * 6)))))))) else (spec_l20Route.j0 k s0_0 bt195.2 (wrap64 ((rd y184 bt187.1) - (Int.tmod (rd y184 bt187.1) (shl .i64 1 (wrap64 (16 - (rd y176 bt179.1))))))) (rd y176 bt179.1) bt190.1 (wrap64 (4 + (wrap64 (bt192.1 * 6)))))))))) else (none)) else (none)) else (none))))) else (none)) else (none)))) = some (r1, r2, r3, r4, r5) := H
  have A3 := Aside0.mk A30
  clear A30
  obtain ⟨y176, hy176⟩ : ∃ y_ : List Int, y_ = (([0, 4, 8, 8, 12, 16, t174] : List Int)) := ⟨_, rfl⟩
  replace H : ((spec_l20Rd_pick.f k s0_0 t175 7).bind fun bt179 => (if 0 ≤ bt179.1 then (if bt179.1 < (y176.length : Int) then ((spec_l20Rd_pick.f k s0_0 bt179.2 512).bind fun bt182 => ((some (([0, 4096, 4352, 4353, wrap64 (4096 + bt182.1), 65535] : List Int) : List Int)).bind fun y184 => ((spec_l20Rd_pick.f k s0_0 bt182.2 6).bind fun bt187 => (if 0 ≤ bt187.1 then (if bt187.1 < (y184.length : Int) then (if 0 ≤ (wrap64 (16 - (rd y176 bt179.1))) then (if (shl .i64 1 (wrap64 (16 - (rd y176 bt179.1)))) = 0 then (none) else ((spec_l20Rd_pick.f k s0_0 bt187.2 3).bind fun bt190 => ((spec_l20Rd_pick.f k s0_0 bt190.2 3).bind fun bt192 => ((spec_l20Rd_odd.f k s0_0 bt192.2 a1).bind fun bt195 => (if bt195.1 = true then ((spec_l20Rd_pick.f k s0_0 bt195.2 3).bind fun bt197 => (if bt197.1 = 0 then ((spec_l20Rd_pick.f k s0_0 bt197.2 2).bind fun bt199 => (spec_l20Route.j0 k s0_0 bt199.2 (wrap64 ((rd y184 bt187.1) - (Int.tmod (rd y184 bt187.1) (shl .i64 1 (wrap64 (16 - (rd y176 bt179.1))))))) (wrap64 (17 - (wrap64 (bt199.1 * 18)))) bt190.1 (wrap64 (4 + (wrap64 (bt192.1 * 6)))))) else (if bt197.1 = 1 then ((spec_l20Rd_pick.f k s0_0 bt197.2 2).bind fun bt201 => (spec_l20Route.j0 k s0_0 bt201.2 (wrap64 ((rd y184 bt187.1) - (Int.tmod (rd y184 bt187.1) (shl .i64 1 (wrap64 (16 - (rd y176 bt179.1))))))) (rd y176 bt179.1) bt190.1 (wrap64 (bt201.1 * 49)))) else (spec_l20Route.j0 k s0_0 bt197.2 (wrap64 ((wrap64 ((rd y184 bt187.1) - (Int.tmod (rd y184 bt187.1) (shl .i64 1 (wrap64 (16 - (rd y176 bt179.1))))))) + 1)) (rd y176 bt179.1) bt190.1 (wrap64 (4 + (wrap64 (bt192.1 * 6)))))))) else (spec_l20Route.j0 k s0_0 bt195.2 (wrap64 ((rd y184 bt187.1) - (Int.tmod (rd y184 bt187.1) (shl .i64 1 (wrap64 (16 - (rd y176 bt179.1))))))) (rd y176 bt179.1) bt190.1 (wrap64 (4 + (wrap64 (bt192.1 * 6)))))))))) else (none)) else (none)) else (none))))) else (none)) else (none))) = some (r1, r2, r3, r4, r5) := by first | (rw [hy176]; with_reducible exact H) | (have H2_ := (Option.bind_some _ _).symm.trans H; rw [hy176]; with_reducible exact H2_) | (have H2_ := (Option.bind_some _ _).symm.trans H; with_reducible exact H2_) | with_reducible exact H | (rw [hy176]; exact H) | exact H
  have Ny176 := Aside0.mk hy176
  clear hy176
  replace H := Option.bind_eq_some_iff.mp H
  obtain ⟨⟨t179, t180⟩, A40, H⟩ := H
  replace H : (if 0 ≤ t179 then (if t179 < (y176.length : Int) then ((spec_l20Rd_pick.f k s0_0 t180 512).bind fun bt182 => ((some (([0, 4096, 4352, 4353, wrap64 (4096 + bt182.1), 65535] : List Int) : List Int)).bind fun y184 => ((spec_l20Rd_pick.f k s0_0 bt182.2 6).bind fun bt187 => (if 0 ≤ bt187.1 then (if bt187.1 < (y184.length : Int) then (if 0 ≤ (wrap64 (16 - (rd y176 t179))) then (if (shl .i64 1 (wrap64 (16 - (rd y176 t179)))) = 0 then (none) else ((spec_l20Rd_pick.f k s0_0 bt187.2 3).bind fun bt190 => ((spec_l20Rd_pick.f k s0_0 bt190.2 3).bind fun bt192 => ((spec_l20Rd_odd.f k s0_0 bt192.2 a1).bind fun bt195 => (if bt195.1 = true then ((spec_l20Rd_pick.f k s0_0 bt195.2 3).bind fun bt197 => (if bt197.1 = 0 then ((spec_l20Rd_pick.f k s0_0 bt197.2 2).bind fun bt199 => (spec_l20Route.j0 k s0_0 bt199.2 (wrap64 ((rd y184 bt187.1) - (Int.tmod (rd y184 bt187.1) (shl .i64 1 (wrap64 (16 - (rd y176 t179))))))) (wrap64 (17 - (wrap64 (bt199.1 * 18)))) bt190.1 (wrap64 (4 + (wrap64 (bt192.1 * 6)))))) else (if bt197.1 = 1 then ((spec_l20Rd_pick.f k s0_0 bt197.2 2).bind fun bt201 => (spec_l20Route.j0 k s0_0 bt201.2 (wrap64 ((rd y184 bt187.1) - (Int.tmod (rd y184 bt187.1) (shl .i64 1 (wrap64 (16 - (rd y176 t179))))))) (rd y176 t179) bt190.1 (wrap64 (bt201.1 * 49)))) else (spec_l20Route.j0 k s0_0 bt197.2 (wrap64 ((wrap64 ((rd y184 bt187.1) - (Int.tmod (rd y184 bt187.1) (shl .i64 1 (wrap64 (16 - (rd y176 t179))))))) + 1)) (rd y176 t179) bt190.1 (wrap64 (4 + (wrap64 (bt192.1 * 6)))))))) else (spec_l20Route.j0 k s0_0 bt195.2 (wrap64 ((rd y184 bt187.1) - (Int.tmod (rd y184 bt187.1) (shl .i64 1 (wrap64 (16 - (rd y176 t179))))))) (rd y176 t179) bt190.1 (wrap64 (4 + (wrap64 (bt192.1 * 6)))))))))) else (none)) else (none)) else (none))))) else (none)) else (none)) = some (r1, r2, r3, r4, r5) := H
  have A4 := Aside0.mk A40
  clear A40
  by_cases c5 : 0 ≤ t179
  · rw [if_pos c5] at H
    have c5b0 : decide (0 ≤ t179) = true := decide_eq_true c5
    clear c5
    by_cases c6 : t179 < (y176.length : Int)
    · rw [if_pos c6] at H
      have c6b0 : decide (t179 < (y176.length : Int)) = true := decide_eq_true c6
      clear c6
      replace H := Option.bind_eq_some_iff.mp H
      obtain ⟨⟨t182, t183⟩, A70, H⟩ := H
      replace H : ((some (([0, 4096, 4352, 4353, wrap64 (4096 + t182), 65535] : List Int) : List Int)).bind fun y184 => ((spec_l20Rd_pick.f k s0_0 t183 6).bind fun bt187 => (if 0 ≤ bt187.1 then (if bt187.1 < (y184.length : Int) then (if 0 ≤ (wrap64 (16 - (rd y176 t179))) then (if (shl .i64 1 (wrap64 (16 - (rd y176 t179)))) = 0 then (none) else ((spec_l20Rd_pick.f k s0_0 bt187.2 3).bind fun bt190 => ((spec_l20Rd_pick.f k s0_0 bt190.2 3).bind fun bt192 => ((spec_l20Rd_odd.f k s0_0 bt192.2 a1).bind fun bt195 => (if bt195.1 = true then ((spec_l20Rd_pick.f k s0_0 bt195.2 3).bind fun bt197 => (if bt197.1 = 0 then ((spec_l20Rd_pick.f k s0_0 bt197.2 2).bind fun bt199 => (spec_l20Route.j0 k s0_0 bt199.2 (wrap64 ((rd y184 bt187.1) - (Int.tmod (rd y184 bt187.1) (shl .i64 1 (wrap64 (16 - (rd y176 t179))))))) (wrap64 (17 - (wrap64 (bt199.1 * 18)))) bt190.1 (wrap64 (4 + (wrap64 (bt192.1 * 6)))))) else (if bt197.1 = 1 then ((spec_l20Rd_pick.f k s0_0 bt197.2 2).bind fun bt201 => (spec_l20Route.j0 k s0_0 bt201.2 (wrap64 ((rd y184 bt187.1) - (Int.tmod (rd y184 bt187.1) (shl .i64 1 (wrap64 (16 - (rd y176 t179))))))) (rd y176 t179) bt190.1 (wrap64 (bt201.1 * 49)))) else (spec_l20Route.j0 k s0_0 bt197.2 (wrap64 ((wrap64 ((rd y184 bt187.1) - (Int.tmod (rd y184 bt187.1) (shl .i64 1 (wrap64 (16 - (rd y176 t179))))))) + 1)) (rd y176 t179) bt190.1 (wrap64 (4 + (wrap64 (bt192.1 * 6)))))))) else (spec_l20Route.j0 k s0_0 bt195.2 (wrap64 ((rd y184 bt187.1) - (Int.tmod (rd y184 bt187.1) (shl .i64 1 (wrap64 (16 - (rd y176 t179))))))) (rd y176 t179) bt190.1 (wrap64 (4 + (wrap64 (bt192.1 * 6)))))))))) else (none)) else (none)) else (none)))) = some (r1, r2, r3, r4, r5) := H
      have A7 := Aside0.mk A70
      clear A70
      obtain ⟨y184, hy184⟩ : ∃ y_ : List Int, y_ = (([0, 4096, 4352, 4353, wrap64 (4096 + t182), 65535] : List Int)) := ⟨_, rfl⟩
      replace H : ((spec_l20Rd_pick.f k s0_0 t183 6).bind fun bt187 => (if 0 ≤ bt187.1 then (if bt187.1 < (y184.length : Int) then (if 0 ≤ (wrap64 (16 - (rd y176 t179))) then (if (shl .i64 1 (wrap64 (16 - (rd y176 t179)))) = 0 then (none) else ((spec_l20Rd_pick.f k s0_0 bt187.2 3).bind fun bt190 => ((spec_l20Rd_pick.f k s0_0 bt190.2 3).bind fun bt192 => ((spec_l20Rd_odd.f k s0_0 bt192.2 a1).bind fun bt195 => (if bt195.1 = true then ((spec_l20Rd_pick.f k s0_0 bt195.2 3).bind fun bt197 => (if bt197.1 = 0 then ((spec_l20Rd_pick.f k s0_0 bt197.2 2).bind fun bt199 => (spec_l20Route.j0 k s0_0 bt199.2 (wrap64 ((rd y184 bt187.1) - (Int.tmod (rd y184 bt187.1) (shl .i64 1 (wrap64 (16 - (rd y176 t179))))))) (wrap64 (17 - (wrap64 (bt199.1 * 18)))) bt190.1 (wrap64 (4 + (wrap64 (bt192.1 * 6)))))) else (if bt197.1 = 1 then ((spec_l20Rd_pick.f k s0_0 bt197.2 2).bind fun bt201 => (spec_l20Route.j0 k s0_0 bt201.2 (wrap64 ((rd y184 bt187.1) - (Int.tmod (rd y184 bt187.1) (shl .i64 1 (wrap64 (16 - (rd y176 t179))))))) (rd y176 t179) bt190.1 (wrap64 (bt201.1 * 49)))) else (spec_l20Route.j0 k s0_0 bt197.2 (wrap64 ((wrap64 ((rd y184 bt187.1) - (Int.tmod (rd y184 bt187.1) (shl .i64 1 (wrap64 (16 - (rd y176 t179))))))) + 1)) (rd y176 t179) bt190.1 (wrap64 (4 + (wrap64 (bt192.1 * 6)))))))) else (spec_l20Route.j0 k s0_0 bt195.2 (wrap64 ((rd y184 bt187.1) - (Int.tmod (rd y184 bt187.1) (shl .i64 1 (wrap64 (16 - (rd y176 t179))))))) (rd y176 t179) bt190.1 (wrap64 (4 + (wrap64 (bt192.1 * 6)))))))))) else (none)) else (none)) else (none))) = some (r1, r2, r3, r4, r5) := by first | (rw [hy184]; with_reducible exact H) | (have H2_ := (Option.bind_some _ _).symm.trans H; rw [hy184]; with_reducible exact H2_) | (have H2_ := (Option.bind_some _ _).symm.trans H; with_reducible exact H2_) | with_reducible exact H | (rw [hy184]; exact H) | exact H
      have Ny184 := Aside0.mk hy184
      clear hy184
      replace H := Option.bind_eq_some_iff.mp H
      obtain ⟨⟨t187, t188⟩, A80, H⟩ := H
      replace H : (if 0 ≤ t187 then (if t187 < (y184.length : Int) then (if 0 ≤ (wrap64 (16 - (rd y176 t179))) then (if (shl .i64 1 (wrap64 (16 - (rd y176 t179)))) = 0 then (none) else ((spec_l20Rd_pick.f k s0_0 t188 3).bind fun bt190 => ((spec_l20Rd_pick.f k s0_0 bt190.2 3).bind fun bt192 => ((spec_l20Rd_odd.f k s0_0 bt192.2 a1).bind fun bt195 => (if bt195.1 = true then ((spec_l20Rd_pick.f k s0_0 bt195.2 3).bind fun bt197 => (if bt197.1 = 0 then ((spec_l20Rd_pick.f k s0_0 bt197.2 2).bind fun bt199 => (spec_l20Route.j0 k s0_0 bt199.2 (wrap64 ((rd y184 t187) - (Int.tmod (rd y184 t187) (shl .i64 1 (wrap64 (16 - (rd y176 t179))))))) (wrap64 (17 - (wrap64 (bt199.1 * 18)))) bt190.1 (wrap64 (4 + (wrap64 (bt192.1 * 6)))))) else (if bt197.1 = 1 then ((spec_l20Rd_pick.f k s0_0 bt197.2 2).bind fun bt201 => (spec_l20Route.j0 k s0_0 bt201.2 (wrap64 ((rd y184 t187) - (Int.tmod (rd y184 t187) (shl .i64 1 (wrap64 (16 - (rd y176 t179))))))) (rd y176 t179) bt190.1 (wrap64 (bt201.1 * 49)))) else (spec_l20Route.j0 k s0_0 bt197.2 (wrap64 ((wrap64 ((rd y184 t187) - (Int.tmod (rd y184 t187) (shl .i64 1 (wrap64 (16 - (rd y176 t179))))))) + 1)) (rd y176 t179) bt190.1 (wrap64 (4 + (wrap64 (bt192.1 * 6)))))))) else (spec_l20Route.j0 k s0_0 bt195.2 (wrap64 ((rd y184 t187) - (Int.tmod (rd y184 t187) (shl .i64 1 (wrap64 (16 - (rd y176 t179))))))) (rd y176 t179) bt190.1 (wrap64 (4 + (wrap64 (bt192.1 * 6)))))))))) else (none)) else (none)) else (none)) = some (r1, r2, r3, r4, r5) := H
      have A8 := Aside0.mk A80
      clear A80
      by_cases c9 : 0 ≤ t187
      · rw [if_pos c9] at H
        have c9b0 : decide (0 ≤ t187) = true := decide_eq_true c9
        clear c9
        by_cases c10 : t187 < (y184.length : Int)
        · rw [if_pos c10] at H
          have c10b0 : decide (t187 < (y184.length : Int)) = true := decide_eq_true c10
          clear c10
          obtain ⟨ji11, hji11⟩ : ∃ j_ : Int, (wrap64 (16 - (rd y176 t179))) = j_ := ⟨_, rfl⟩
          replace H : (if 0 ≤ (ji11) then (if (shl .i64 1 (ji11)) = 0 then (none) else ((spec_l20Rd_pick.f k s0_0 t188 3).bind fun bt190 => ((spec_l20Rd_pick.f k s0_0 bt190.2 3).bind fun bt192 => ((spec_l20Rd_odd.f k s0_0 bt192.2 a1).bind fun bt195 => (if bt195.1 = true then ((spec_l20Rd_pick.f k s0_0 bt195.2 3).bind fun bt197 => (if bt197.1 = 0 then ((spec_l20Rd_pick.f k s0_0 bt197.2 2).bind fun bt199 => (spec_l20Route.j0 k s0_0 bt199.2 (wrap64 ((rd y184 t187) - (Int.tmod (rd y184 t187) (shl .i64 1 (ji11))))) (wrap64 (17 - (wrap64 (bt199.1 * 18)))) bt190.1 (wrap64 (4 + (wrap64 (bt192.1 * 6)))))) else (if bt197.1 = 1 then ((spec_l20Rd_pick.f k s0_0 bt197.2 2).bind fun bt201 => (spec_l20Route.j0 k s0_0 bt201.2 (wrap64 ((rd y184 t187) - (Int.tmod (rd y184 t187) (shl .i64 1 (ji11))))) (rd y176 t179) bt190.1 (wrap64 (bt201.1 * 49)))) else (spec_l20Route.j0 k s0_0 bt197.2 (wrap64 ((wrap64 ((rd y184 t187) - (Int.tmod (rd y184 t187) (shl .i64 1 (ji11))))) + 1)) (rd y176 t179) bt190.1 (wrap64 (4 + (wrap64 (bt192.1 * 6)))))))) else (spec_l20Route.j0 k s0_0 bt195.2 (wrap64 ((rd y184 t187) - (Int.tmod (rd y184 t187) (shl .i64 1 (ji11))))) (rd y176 t179) bt190.1 (wrap64 (4 + (wrap64 (bt192.1 * 6)))))))))) else (none)) = some (r1, r2, r3, r4, r5) := by first | (rw [hji11] at H; exact H) | (simp only [hji11] at H ⊢; exact H)
          (try rw [hji11] at A3)
          (try rw [hji11] at A4)
          (try rw [hji11] at A7)
          (try rw [hji11] at A8)
          have hji11w : (IntKind.i64.wrap (16 - (rd y176 t179))) = ji11 := (i64_w _).trans hji11
          by_cases c12 : 0 ≤ (ji11)
          · rw [if_pos c12] at H
            have c12b0 := eq_true c12
            have c12b1 : decide (0 ≤ (ji11)) = true := decide_eq_true c12
            clear c12
            obtain ⟨ji13, hji13⟩ : ∃ j_ : Int, (shl .i64 1 (ji11)) = j_ := ⟨_, rfl⟩
            replace H : (if (ji13) = 0 then (none) else ((spec_l20Rd_pick.f k s0_0 t188 3).bind fun bt190 => ((spec_l20Rd_pick.f k s0_0 bt190.2 3).bind fun bt192 => ((spec_l20Rd_odd.f k s0_0 bt192.2 a1).bind fun bt195 => (if bt195.1 = true then ((spec_l20Rd_pick.f k s0_0 bt195.2 3).bind fun bt197 => (if bt197.1 = 0 then ((spec_l20Rd_pick.f k s0_0 bt197.2 2).bind fun bt199 => (spec_l20Route.j0 k s0_0 bt199.2 (wrap64 ((rd y184 t187) - (Int.tmod (rd y184 t187) (ji13)))) (wrap64 (17 - (wrap64 (bt199.1 * 18)))) bt190.1 (wrap64 (4 + (wrap64 (bt192.1 * 6)))))) else (if bt197.1 = 1 then ((spec_l20Rd_pick.f k s0_0 bt197.2 2).bind fun bt201 => (spec_l20Route.j0 k s0_0 bt201.2 (wrap64 ((rd y184 t187) - (Int.tmod (rd y184 t187) (ji13)))) (rd y176 t179) bt190.1 (wrap64 (bt201.1 * 49)))) else (spec_l20Route.j0 k s0_0 bt197.2 (wrap64 ((wrap64 ((rd y184 t187) - (Int.tmod (rd y184 t187) (ji13)))) + 1)) (rd y176 t179) bt190.1 (wrap64 (4 + (wrap64 (bt192.1 * 6)))))))) else (spec_l20Route.j0 k s0_0 bt195.2 (wrap64 ((rd y184 t187) - (Int.tmod (rd y184 t187) (ji13)))) (rd y176 t179) bt190.1 (wrap64 (4 + (wrap64 (bt192.1 * 6)))))))))) = some (r1, r2, r3, r4, r5) := by first | (rw [hji13] at H; exact H) | (simp only [hji13] at H ⊢; exact H)
            (try rw [hji13] at A3)
            (try rw [hji13] at A4)
            (try rw [hji13] at A7)
            (try rw [hji13] at A8)
            have hji13_ : (IntKind.i64.wrap (1 * 2 ^ min (ji11).toNat 64)) = ji13 := hji13
            have hji13z : (ji11) ≤ 64 → (IntKind.i64.wrap (1 * 2 ^ (ji11).toNat)) = ji13 := shl_small hji13
            have hji13u : (IntKind.i64.wrap (2 ^ min (ji11).toNat 64)) = ji13 := by have h_ := hji13_; rw [Int.one_mul] at h_; exact h_
            have hji13v : (ji11) ≤ 64 → (IntKind.i64.wrap (2 ^ (ji11).toNat)) = ji13 := fun hle_ => by have h_ := hji13z hle_; rw [Int.one_mul] at h_; exact h_
            have hji13y : (wrap64 (1 * 2 ^ min (ji11).toNat 64)) = ji13 := (i64_w _).symm.trans hji13_
            have hji13x : (ji11) ≤ 64 → (wrap64 (1 * 2 ^ (ji11).toNat)) = ji13 := fun h_ => (i64_w _).symm.trans (hji13z h_)
            by_cases c14 : (ji13) = 0
            · rw [if_pos c14] at H
              exact absurd H (by simp)
            · rw [if_neg c14] at H
              have c14b0 : ((ji13) == 0) = false := beq_eq_false_iff_ne.mpr c14
              have c14b1 : ((ji13) != 0) = true := bne_iff_ne.mpr c14
              replace H := Option.bind_eq_some_iff.mp H
              obtain ⟨⟨t190, t191⟩, A150, H⟩ := H
              replace H : ((spec_l20Rd_pick.f k s0_0 t191 3).bind fun bt192 => ((spec_l20Rd_odd.f k s0_0 bt192.2 a1).bind fun bt195 => (if bt195.1 = true then ((spec_l20Rd_pick.f k s0_0 bt195.2 3).bind fun bt197 => (if bt197.1 = 0 then ((spec_l20Rd_pick.f k s0_0 bt197.2 2).bind fun bt199 => (spec_l20Route.j0 k s0_0 bt199.2 (wrap64 ((rd y184 t187) - (Int.tmod (rd y184 t187) (ji13)))) (wrap64 (17 - (wrap64 (bt199.1 * 18)))) t190 (wrap64 (4 + (wrap64 (bt192.1 * 6)))))) else (if bt197.1 = 1 then ((spec_l20Rd_pick.f k s0_0 bt197.2 2).bind fun bt201 => (spec_l20Route.j0 k s0_0 bt201.2 (wrap64 ((rd y184 t187) - (Int.tmod (rd y184 t187) (ji13)))) (rd y176 t179) t190 (wrap64 (bt201.1 * 49)))) else (spec_l20Route.j0 k s0_0 bt197.2 (wrap64 ((wrap64 ((rd y184 t187) - (Int.tmod (rd y184 t187) (ji13)))) + 1)) (rd y176 t179) t190 (wrap64 (4 + (wrap64 (bt192.1 * 6)))))))) else (spec_l20Route.j0 k s0_0 bt195.2 (wrap64 ((rd y184 t187) - (Int.tmod (rd y184 t187) (ji13)))) (rd y176 t179) t190 (wrap64 (4 + (wrap64 (bt192.1 * 6)))))))) = some (r1, r2, r3, r4, r5) := H
              have A15 := Aside0.mk A150
              clear A150
              replace H := Option.bind_eq_some_iff.mp H
              obtain ⟨⟨t192, t193⟩, A160, H⟩ := H
              replace H : ((spec_l20Rd_odd.f k s0_0 t193 a1).bind fun bt195 => (if bt195.1 = true then ((spec_l20Rd_pick.f k s0_0 bt195.2 3).bind fun bt197 => (if bt197.1 = 0 then ((spec_l20Rd_pick.f k s0_0 bt197.2 2).bind fun bt199 => (spec_l20Route.j0 k s0_0 bt199.2 (wrap64 ((rd y184 t187) - (Int.tmod (rd y184 t187) (ji13)))) (wrap64 (17 - (wrap64 (bt199.1 * 18)))) t190 (wrap64 (4 + (wrap64 (t192 * 6)))))) else (if bt197.1 = 1 then ((spec_l20Rd_pick.f k s0_0 bt197.2 2).bind fun bt201 => (spec_l20Route.j0 k s0_0 bt201.2 (wrap64 ((rd y184 t187) - (Int.tmod (rd y184 t187) (ji13)))) (rd y176 t179) t190 (wrap64 (bt201.1 * 49)))) else (spec_l20Route.j0 k s0_0 bt197.2 (wrap64 ((wrap64 ((rd y184 t187) - (Int.tmod (rd y184 t187) (ji13)))) + 1)) (rd y176 t179) t190 (wrap64 (4 + (wrap64 (t192 * 6)))))))) else (spec_l20Route.j0 k s0_0 bt195.2 (wrap64 ((rd y184 t187) - (Int.tmod (rd y184 t187) (ji13)))) (rd y176 t179) t190 (wrap64 (4 + (wrap64 (t192 * 6))))))) = some (r1, r2, r3, r4, r5) := H
              have A16 := Aside0.mk A160
              clear A160
              replace H := Option.bind_eq_some_iff.mp H
              obtain ⟨⟨t195, t196⟩, A170, H⟩ := H
              replace H : (if t195 = true then ((spec_l20Rd_pick.f k s0_0 t196 3).bind fun bt197 => (if bt197.1 = 0 then ((spec_l20Rd_pick.f k s0_0 bt197.2 2).bind fun bt199 => (spec_l20Route.j0 k s0_0 bt199.2 (wrap64 ((rd y184 t187) - (Int.tmod (rd y184 t187) (ji13)))) (wrap64 (17 - (wrap64 (bt199.1 * 18)))) t190 (wrap64 (4 + (wrap64 (t192 * 6)))))) else (if bt197.1 = 1 then ((spec_l20Rd_pick.f k s0_0 bt197.2 2).bind fun bt201 => (spec_l20Route.j0 k s0_0 bt201.2 (wrap64 ((rd y184 t187) - (Int.tmod (rd y184 t187) (ji13)))) (rd y176 t179) t190 (wrap64 (bt201.1 * 49)))) else (spec_l20Route.j0 k s0_0 bt197.2 (wrap64 ((wrap64 ((rd y184 t187) - (Int.tmod (rd y184 t187) (ji13)))) + 1)) (rd y176 t179) t190 (wrap64 (4 + (wrap64 (t192 * 6)))))))) else (spec_l20Route.j0 k s0_0 t196 (wrap64 ((rd y184 t187) - (Int.tmod (rd y184 t187) (ji13)))) (rd y176 t179) t190 (wrap64 (4 + (wrap64 (t192 * 6)))))) = some (r1, r2, r3, r4, r5) := H
              have A17 := Aside0.mk A170
              clear A170
              have HC18 := Aside0.mk H
              clear H
              go_enter Try.func128, Try.ntmps128
              try go_wp2_with (first | ((with_reducible refine gate_dst (N := 4) rfl ?_); refine box_event ?hg (N := 4) ?hd (cs := #[.int .i64 0, .int .i64 0, .int .i64 0, .int .i64 0]) (t := 65) ?hr ?_; (case hd => rfl); (case hg => rfl); (case hr => first | (go_simp; done) | (go_simp; rfl)); intro gb173 hg w19 hbox hb; have n0_ := Aside0.mk (IsS152.below (by repeat (first | (with_reducible first | exact HI0.out | apply IsS152.alloc | apply IsS152.drewN | apply IsS152.drew | apply IsS152.set_1) | exact HI0.out)) hb); have n1_ := Aside0.mk (KeepBut.trans (by repeat (first | (with_reducible first | exact HK.out | apply KeepBut.set_ | apply keep_drewN | apply keep_drew | apply keep_alloc) | exact HK.out)) (KeepBut.of_below hb g none) (.inl rfl)); have n2_ := Aside0.mk (below_step (by repeat (first | (with_reducible first | exact HB.out | apply below_alloc | apply pw_below_drewN | apply below_drew1 | refine below_set ?_ (IsS152.ge HI0.out)) | exact HB.out)) hb); have n3_ := Aside0.mk (hbox); have n4_ := Aside0.mk ((by rw [hg]; exact (keep_size (w := w) (g := g) (row := none) (by repeat (first | (with_reducible first | exact HK.out | apply KeepBut.set_ | apply keep_drewN | apply keep_drew | apply keep_alloc) | exact HK.out))) : w.heap.size ≤ gb173)); have n5_ := Aside0.mk ((Nat.le_trans HW0.out (by rw [hg]; exact (keep_size (w := w) (g := g) (row := none) (by repeat (first | (with_reducible first | exact HK.out | apply KeepBut.set_ | apply keep_drewN | apply keep_drew | apply keep_alloc) | exact HK.out))) : w.heap.size ≤ gb173) : w0.heap.size ≤ gb173)); have n6_ := Aside0.mk ((by rw [hg]; exact Nat.ne_of_lt (IsS152.lt (show IsS152 w0 _ g s0_0 s0_1 from by repeat (first | (with_reducible first | exact HI0.out | apply IsS152.alloc | apply IsS152.drewN | apply IsS152.drew | apply IsS152.set_1) | exact HI0.out))) : g ≠ gb173)); have n7_ := Aside0.mk ((by rw [hg]; exact Nat.ne_of_gt (IsS152.lt (show IsS152 w0 _ g s0_0 s0_1 from by repeat (first | (with_reducible first | exact HI0.out | apply IsS152.alloc | apply IsS152.drewN | apply IsS152.drew | apply IsS152.set_1) | exact HI0.out))) : gb173 ≠ g)); clear HI0; clear HK; clear HB; have HI0 := n0_; have HK := n1_; have HB := n2_; have BK173 := n3_; have GW173 := n4_; have GE173 := n5_; have NB0_173 := n6_; have NB173_0 := n7_; clear n0_ n1_ n2_ n3_ n4_ n5_ n6_ n7_; clear hb hbox hg) | ((with_reducible refine gate_callee (f := 103) rfl ?_); refine goesL_ (some 9) rfl rfl Try.func103 (by kernel_rfl) rfl #[.pointer (some ⟨g, 0, none⟩), .int .i64 17] rfl (by (try simp only [List.map_toArray, List.map_cons, List.map_nil]); first | done | rfl | (simp only [List.length_drop, List.length_take]; rfl)) ?_; (with_reducible refine (spec_l20Rd_pick.calls k g s0_0 s0_1 17 t174 t175 w0 _ ?side1 ?side2 A3.out).mono ?_); (case side1 => repeat (first | (with_reducible first | exact HI0.out | apply IsS152.alloc | apply IsS152.drewN | apply IsS152.drew | apply IsS152.set_1 | refine IsS152.far ?_ NB0_173.out _) | exact HI0.out)); (case side2 => repeat (first | (with_reducible first | exact HB.out | apply below_alloc | apply pw_below_drewN | apply below_drew1 | refine below_set ?_ (IsS152.ge HI0.out) | refine below_set ?_ GE173.out) | exact HB.out)); rintro e w20 ⟨rfl, hi, hb, hk⟩; refine ⟨_, rfl, ?_⟩; have n0_ := Aside0.mk (KeepBut.blk hk (g' := gb173) (o := .cells #[.int .i64 0, .int .i64 0, .int .i64 0, .int .i64 0] 65 (0, 0)) (by (with_reducible repeat (first | refine blk_drewN ?_ _ | refine blk_drew ?_ | refine blk_alloc ?_ _)); exact BK173.out) NB173_0.out (by simp)); have n1_ := Aside0.mk (KeepBut.trans (by repeat (first | (with_reducible first | exact HK.out | apply KeepBut.set_ | apply keep_drewN | apply keep_drew | apply keep_alloc | refine keep_far ?_ GW173.out _) | exact HK.out)) hk (.inl rfl)); have n2_ := Aside0.mk (hb); have n3_ := Aside0.mk (hi); clear BK173; clear HK; clear HB; clear HI0; have BK173 := n0_; have HK := n1_; have HB := n2_; have HI0 := n3_; clear n0_ n1_ n2_ n3_; (try clear hb); (try clear hb2); (try clear hk); (try clear hi)) | ((with_reducible refine gate_dst (N := 10) rfl ?_); refine Kd.R_lit (Kd.int .i64) _ 3 ?hg (N := 10) ?hd (xs := ([0, 4, 8, 8, 12, 16, t174] : List Int)) (inner := [.int .i64 0, .int .i64 4, .int .i64 8, .int .i64 8, .int .i64 12, .int .i64 16, .int .i64 t174]) (ok := fun _ => True) (okp := fun _ => True) ?hr ?hp (fun _ hk => hk) trivial (Below.refl _ _) (Nat.le_refl _) (by simp) ?_; (case hd => rfl); (case hg => rfl); (case hr => first | (go_simp; done) | (go_simp; rfl)); (case hp => exact (Reps.one (show Kd.M (Kd.int .i64) _ _ _ 0 [.int .i64 0] from rfl) (Reps.one (show Kd.M (Kd.int .i64) _ _ _ 4 [.int .i64 4] from rfl) (Reps.one (show Kd.M (Kd.int .i64) _ _ _ 8 [.int .i64 8] from rfl) (Reps.one (show Kd.M (Kd.int .i64) _ _ _ 8 [.int .i64 8] from rfl) (Reps.one (show Kd.M (Kd.int .i64) _ _ _ 12 [.int .i64 12] from rfl) (Reps.one (show Kd.M (Kd.int .i64) _ _ _ 16 [.int .i64 16] from rfl) (Reps.one (show Kd.M (Kd.int .i64) _ _ _ t174 [.int .i64 t174] from rfl) (Reps.none _ _))))))))); intro v177 w21 ho22 hb hg_ hnew_; clear hg_ hnew_; (first | rw [← Ny176.out] at ho22 | (simp only [Int.reduceToNat] at ho22; rw [← Ny176.out] at ho22)); have n0_ := Aside0.mk (Kd.R_lower ho22 (keep_size (w := w) (g := g) (row := none) (by repeat (first | (with_reducible first | exact HK.out | apply KeepBut.set_ | apply keep_drewN | apply keep_drew | apply keep_alloc | refine keep_far ?_ GW173.out _) | exact HK.out)))); have n1_ := Aside0.mk (IsS152.below (by repeat (first | (with_reducible first | exact HI0.out | apply IsS152.alloc | apply IsS152.drewN | apply IsS152.drew | apply IsS152.set_1 | refine IsS152.far ?_ NB0_173.out _) | exact HI0.out)) hb); have n2_ := Aside0.mk (blk_below (g := gb173) (o := .cells #[.int .i64 0, .int .i64 0, .int .i64 0, .int .i64 0] 65 (0, 0)) (by (with_reducible repeat (first | refine blk_drewN ?_ _ | refine blk_drew ?_ | refine blk_alloc ?_ _)); exact BK173.out) hb); have n3_ := Aside0.mk (KeepBut.trans (by repeat (first | (with_reducible first | exact HK.out | apply KeepBut.set_ | apply keep_drewN | apply keep_drew | apply keep_alloc | refine keep_far ?_ GW173.out _) | exact HK.out)) (KeepBut.of_below hb g none) (.inl rfl)); have n4_ := Aside0.mk (below_step (by repeat (first | (with_reducible first | exact HB.out | apply below_alloc | apply pw_below_drewN | apply below_drew1 | refine below_set ?_ (IsS152.ge HI0.out) | refine below_set ?_ GE173.out) | exact HB.out)) hb); clear HI0; clear BK173; clear HK; clear HB; have HO178 := n0_; have HI0 := n1_; have BK173 := n2_; have HK := n3_; have HB := n4_; clear n0_ n1_ n2_ n3_ n4_; clear hb ho22) | ((with_reducible refine gate_callee (f := 103) rfl ?_); refine goesL_ (some 12) rfl rfl Try.func103 (by kernel_rfl) rfl #[.pointer (some ⟨g, 0, none⟩), .int .i64 7] rfl (by (try simp only [List.map_toArray, List.map_cons, List.map_nil]); first | done | rfl | (simp only [List.length_drop, List.length_take]; rfl)) ?_; (with_reducible refine (spec_l20Rd_pick.calls k g s0_0 t175 7 t179 t180 w0 _ ?side1 ?side2 A4.out).mono ?_); (case side1 => repeat (first | (with_reducible first | exact HI0.out | apply IsS152.alloc | apply IsS152.drewN | apply IsS152.drew | apply IsS152.set_1 | refine IsS152.far ?_ NB0_173.out _) | exact HI0.out)); (case side2 => repeat (first | (with_reducible first | exact HB.out | apply below_alloc | apply pw_below_drewN | apply below_drew1 | refine below_set ?_ (IsS152.ge HI0.out) | refine below_set ?_ GE173.out) | exact HB.out)); rintro e w23 ⟨rfl, hi, hb, hk⟩; refine ⟨_, rfl, ?_⟩; have n0_ := Aside0.mk (KeepBut.blk hk (g' := gb173) (o := .cells #[.int .i64 0, .int .i64 0, .int .i64 0, .int .i64 0] 65 (0, 0)) (by (with_reducible repeat (first | refine blk_drewN ?_ _ | refine blk_drew ?_ | refine blk_alloc ?_ _)); exact BK173.out) NB173_0.out (by simp)); have n1_ := Aside0.mk (Kd.R_mono (Kd.R_keep (IsS152.apart (show IsS152 w0 _ g s0_0 t175 from by repeat (first | (with_reducible first | exact HI0.out | apply IsS152.alloc | apply IsS152.drewN | apply IsS152.drew | apply IsS152.set_1 | refine IsS152.far ?_ NB0_173.out _) | exact HI0.out)) (by (with_reducible repeat (first | apply Kd.R_alloc | apply Kd.R_drewN | apply Kd.R_drew)); exact HO178.out) (by decide)) hk (fun _ h => h.2)) (fun _ h => h.1)); have n2_ := Aside0.mk (KeepBut.trans (by repeat (first | (with_reducible first | exact HK.out | apply KeepBut.set_ | apply keep_drewN | apply keep_drew | apply keep_alloc | refine keep_far ?_ GW173.out _) | exact HK.out)) hk (.inl rfl)); have n3_ := Aside0.mk (hb); have n4_ := Aside0.mk (hi); clear BK173; clear HO178; clear HK; clear HB; clear HI0; have BK173 := n0_; have HO178 := n1_; have HK := n2_; have HB := n3_; have HI0 := n4_; clear n0_ n1_ n2_ n3_ n4_; (try clear hb); (try clear hb2); (try clear hk); (try clear hi); obtain ⟨Ao24, co24, eo24⟩ := Kd.R_slice HO178.out; subst eo24; have p181 : 0 ≤ (t179 : Int) := of_decide_eq_true (by first | (with_reducible assumption) | assumption); have q181 : t179 < (y176.length : Int) := of_decide_eq_true (by first | (with_reducible assumption) | assumption); obtain ⟨ad181, e181, hx181_0⟩ := Kd.at_int (Kd.R_reads' HO178.out).2.2 t179 p181 q181; cases e181; replace p181 := eq_true p181; replace q181 := eq_true q181) | ((with_reducible refine gate_callee (f := 103) rfl ?_); refine goesL_ (some 16) rfl rfl Try.func103 (by kernel_rfl) rfl #[.pointer (some ⟨g, 0, none⟩), .int .i64 512] rfl (by (try simp only [List.map_toArray, List.map_cons, List.map_nil]); first | done | rfl | (simp only [List.length_drop, List.length_take]; rfl)) ?_; (with_reducible refine (spec_l20Rd_pick.calls k g s0_0 t180 512 t182 t183 w0 _ ?side1 ?side2 A7.out).mono ?_); (case side1 => repeat (first | (with_reducible first | exact HI0.out | apply IsS152.alloc | apply IsS152.drewN | apply IsS152.drew | apply IsS152.set_1 | refine IsS152.far ?_ NB0_173.out _) | exact HI0.out)); (case side2 => repeat (first | (with_reducible first | exact HB.out | apply below_alloc | apply pw_below_drewN | apply below_drew1 | refine below_set ?_ (IsS152.ge HI0.out) | refine below_set ?_ GE173.out) | exact HB.out)); rintro e w25 ⟨rfl, hi, hb, hk⟩; refine ⟨_, rfl, ?_⟩; have n0_ := Aside0.mk (KeepBut.blk hk (g' := gb173) (o := .cells #[.int .i64 0, .int .i64 0, .int .i64 0, .int .i64 0] 65 (0, 0)) (by (with_reducible repeat (first | refine blk_drewN ?_ _ | refine blk_drew ?_ | refine blk_alloc ?_ _)); exact BK173.out) NB173_0.out (by simp)); have n1_ := Aside0.mk (Kd.R_mono (Kd.R_keep (IsS152.apart (show IsS152 w0 _ g s0_0 t180 from by repeat (first | (with_reducible first | exact HI0.out | apply IsS152.alloc | apply IsS152.drewN | apply IsS152.drew | apply IsS152.set_1 | refine IsS152.far ?_ NB0_173.out _) | exact HI0.out)) (by (with_reducible repeat (first | apply Kd.R_alloc | apply Kd.R_drewN | apply Kd.R_drew)); exact HO178.out) (by decide)) hk (fun _ h => h.2)) (fun _ h => h.1)); have n2_ := Aside0.mk (KeepBut.trans (by repeat (first | (with_reducible first | exact HK.out | apply KeepBut.set_ | apply keep_drewN | apply keep_drew | apply keep_alloc | refine keep_far ?_ GW173.out _) | exact HK.out)) hk (.inl rfl)); have n3_ := Aside0.mk (hb); have n4_ := Aside0.mk (hi); clear BK173; clear HO178; clear HK; clear HB; clear HI0; have BK173 := n0_; have HO178 := n1_; have HK := n2_; have HB := n3_; have HI0 := n4_; clear n0_ n1_ n2_ n3_ n4_; (try clear hb); (try clear hb2); (try clear hk); (try clear hi)) | ((with_reducible refine gate_dst (N := 18) rfl ?_); refine Kd.R_lit (Kd.int .i64) _ 3 ?hg (N := 18) ?hd (xs := ([0, 4096, 4352, 4353, wrap64 (4096 + t182), 65535] : List Int)) (inner := [.int .i64 0, .int .i64 4096, .int .i64 4352, .int .i64 4353, .int .i64 (wrap64 (4096 + t182)), .int .i64 65535]) (ok := fun _ => True) (okp := fun _ => True) ?hr ?hp (fun _ hk => hk) trivial (Below.refl _ _) (Nat.le_refl _) (by simp) ?_; (case hd => rfl); (case hg => rfl); (case hr => first | (go_simp; done) | (go_simp; rfl)); (case hp => exact (Reps.one (show Kd.M (Kd.int .i64) _ _ _ 0 [.int .i64 0] from rfl) (Reps.one (show Kd.M (Kd.int .i64) _ _ _ 4096 [.int .i64 4096] from rfl) (Reps.one (show Kd.M (Kd.int .i64) _ _ _ 4352 [.int .i64 4352] from rfl) (Reps.one (show Kd.M (Kd.int .i64) _ _ _ 4353 [.int .i64 4353] from rfl) (Reps.one (show Kd.M (Kd.int .i64) _ _ _ (wrap64 (4096 + t182)) [.int .i64 (wrap64 (4096 + t182))] from rfl) (Reps.one (show Kd.M (Kd.int .i64) _ _ _ 65535 [.int .i64 65535] from rfl) (Reps.none _ _)))))))); intro v185 w26 ho27 hb hg_ hnew_; clear hg_ hnew_; (first | rw [← Ny184.out] at ho27 | (simp only [Int.reduceToNat] at ho27; rw [← Ny184.out] at ho27)); have n0_ := Aside0.mk (Kd.R_elder' (by (with_reducible repeat (first | apply Kd.R_alloc | apply Kd.R_drewN | apply Kd.R_drew)); exact HO178.out) (Kd.R_base ho27) hb); have n1_ := Aside0.mk (Kd.R_lower (Kd.R_new' ho27 (Kd.R_lt (by (with_reducible repeat (first | apply Kd.R_alloc | apply Kd.R_drewN | apply Kd.R_drew)); exact HO178.out))) (keep_size (w := w) (g := g) (row := none) (by repeat (first | (with_reducible first | exact HK.out | apply KeepBut.set_ | apply keep_drewN | apply keep_drew | apply keep_alloc | refine keep_far ?_ GW173.out _) | exact HK.out)))); have n2_ := Aside0.mk (IsS152.below (by repeat (first | (with_reducible first | exact HI0.out | apply IsS152.alloc | apply IsS152.drewN | apply IsS152.drew | apply IsS152.set_1 | refine IsS152.far ?_ NB0_173.out _) | exact HI0.out)) hb); have n3_ := Aside0.mk (blk_below (g := gb173) (o := .cells #[.int .i64 0, .int .i64 0, .int .i64 0, .int .i64 0] 65 (0, 0)) (by (with_reducible repeat (first | refine blk_drewN ?_ _ | refine blk_drew ?_ | refine blk_alloc ?_ _)); exact BK173.out) hb); have n4_ := Aside0.mk (KeepBut.trans (by repeat (first | (with_reducible first | exact HK.out | apply KeepBut.set_ | apply keep_drewN | apply keep_drew | apply keep_alloc | refine keep_far ?_ GW173.out _) | exact HK.out)) (KeepBut.of_below hb g none) (.inl rfl)); have n5_ := Aside0.mk (below_step (by repeat (first | (with_reducible first | exact HB.out | apply below_alloc | apply pw_below_drewN | apply below_drew1 | refine below_set ?_ (IsS152.ge HI0.out) | refine below_set ?_ GE173.out) | exact HB.out)) hb); clear HO178; clear HI0; clear BK173; clear HK; clear HB; have HO178 := n0_; have HO186 := n1_; have HI0 := n2_; have BK173 := n3_; have HK := n4_; have HB := n5_; clear n0_ n1_ n2_ n3_ n4_ n5_; clear hb ho27) | ((with_reducible refine gate_callee (f := 103) rfl ?_); refine goesL_ (some 20) rfl rfl Try.func103 (by kernel_rfl) rfl #[.pointer (some ⟨g, 0, none⟩), .int .i64 6] rfl (by (try simp only [List.map_toArray, List.map_cons, List.map_nil]); first | done | rfl | (simp only [List.length_drop, List.length_take]; rfl)) ?_; (with_reducible refine (spec_l20Rd_pick.calls k g s0_0 t183 6 t187 t188 w0 _ ?side1 ?side2 A8.out).mono ?_); (case side1 => repeat (first | (with_reducible first | exact HI0.out | apply IsS152.alloc | apply IsS152.drewN | apply IsS152.drew | apply IsS152.set_1 | refine IsS152.far ?_ NB0_173.out _) | exact HI0.out)); (case side2 => repeat (first | (with_reducible first | exact HB.out | apply below_alloc | apply pw_below_drewN | apply below_drew1 | refine below_set ?_ (IsS152.ge HI0.out) | refine below_set ?_ GE173.out) | exact HB.out)); rintro e w28 ⟨rfl, hi, hb, hk⟩; refine ⟨_, rfl, ?_⟩; have n0_ := Aside0.mk (KeepBut.blk hk (g' := gb173) (o := .cells #[.int .i64 0, .int .i64 0, .int .i64 0, .int .i64 0] 65 (0, 0)) (by (with_reducible repeat (first | refine blk_drewN ?_ _ | refine blk_drew ?_ | refine blk_alloc ?_ _)); exact BK173.out) NB173_0.out (by simp)); have n1_ := Aside0.mk (Kd.R_mono (Kd.R_keep (IsS152.apart (show IsS152 w0 _ g s0_0 t183 from by repeat (first | (with_reducible first | exact HI0.out | apply IsS152.alloc | apply IsS152.drewN | apply IsS152.drew | apply IsS152.set_1 | refine IsS152.far ?_ NB0_173.out _) | exact HI0.out)) (by (with_reducible repeat (first | apply Kd.R_alloc | apply Kd.R_drewN | apply Kd.R_drew)); exact HO178.out) (by decide)) hk (fun _ h => h.2)) (fun _ h => h.1)); have n2_ := Aside0.mk (Kd.R_mono (Kd.R_keep (IsS152.apart (show IsS152 w0 _ g s0_0 t183 from by repeat (first | (with_reducible first | exact HI0.out | apply IsS152.alloc | apply IsS152.drewN | apply IsS152.drew | apply IsS152.set_1 | refine IsS152.far ?_ NB0_173.out _) | exact HI0.out)) (by (with_reducible repeat (first | apply Kd.R_alloc | apply Kd.R_drewN | apply Kd.R_drew)); exact HO186.out) (by decide)) hk (fun _ h => h.2)) (fun _ h => h.1)); have n3_ := Aside0.mk (KeepBut.trans (by repeat (first | (with_reducible first | exact HK.out | apply KeepBut.set_ | apply keep_drewN | apply keep_drew | apply keep_alloc | refine keep_far ?_ GW173.out _) | exact HK.out)) hk (.inl rfl)); have n4_ := Aside0.mk (hb); have n5_ := Aside0.mk (hi); clear BK173; clear HO178; clear HO186; clear HK; clear HB; clear HI0; have BK173 := n0_; have HO178 := n1_; have HO186 := n2_; have HK := n3_; have HB := n4_; have HI0 := n5_; clear n0_ n1_ n2_ n3_ n4_ n5_; (try clear hb); (try clear hb2); (try clear hk); (try clear hi); obtain ⟨Ao29, co29, eo29⟩ := Kd.R_slice HO186.out; subst eo29; have p189 : 0 ≤ (t187 : Int) := of_decide_eq_true (by first | (with_reducible assumption) | assumption); have q189 : t187 < (y184.length : Int) := of_decide_eq_true (by first | (with_reducible assumption) | assumption); obtain ⟨ad189, e189, hx189_0⟩ := Kd.at_int (Kd.R_reads' HO186.out).2.2 t187 p189 q189; cases e189; replace p189 := eq_true p189; replace q189 := eq_true q189))
              have n0_ := Aside0.mk (Kd.R_drew HO178.out)
              have n1_ := Aside0.mk (Kd.R_drew HO186.out)
              have n2_ := Aside0.mk (blk_drew BK173.out)
              have n3_ := Aside0.mk (IsS152.drew HI0.out)
              have n4_ := Aside0.mk (keep_drew HK.out)
              have n5_ := Aside0.mk (below_drew1 HB.out)
              clear HO178
              clear HO186
              clear BK173
              clear HI0
              clear HK
              clear HB
              have HO178 := n0_
              have HO186 := n1_
              have BK173 := n2_
              have HI0 := n3_
              have HK := n4_
              have HB := n5_
              clear n0_ n1_ n2_ n3_ n4_ n5_
              refine start_ (n := 17) (S := fun w' => True) (ds := []) #[false, false, false, false, false, false, false, false, false, false, false, false, false, false, false, false, false] (by kernel_rfl) rfl rfl trivial (fun hHeld => ?_); refine with_tabW spec_l20Route.tab3 spec_l20Route.bits3 (fun HT_ HW_ => ?_)
              generalize w28.drew = w30 at HO178 HO186 BK173 HI0 HK HB hHeld ⊢
              refine pure_ (i := 0) (N := some 23) (v := ?_) (a' := ?_) #[true, false, false, false, false, false, false, false, false, false, false, false, false, false, false, false, false] rfl rfl (any_of HT_.out (by kernel_rfl)) (fun _ _ _ h => h) (Or.inl ⟨by rfl, ?_⟩) ?_ ?_
              rotate_left
              · intro w'
                go_simp
                with_reducible rfl
              rotate_left
              · simp only [Act.put, List.setIfInBounds_toArray, List.set_cons_zero, List.set_cons_succ, i64_w, i32_w]
                rfl
              refine pure_ (i := 1) (N := some 24) (v := ?_) (a' := ?_) #[true, true, false, false, false, false, false, false, false, false, false, false, false, false, false, false, false] rfl rfl (any_of HT_.out (by kernel_rfl)) (fun _ _ _ h => h) (Or.inl ⟨by rfl, ?_⟩) ?_ ?_
              rotate_left
              · intro w'
                go_simp
                with_reducible rfl
              rotate_left
              · simp only [Act.put, List.setIfInBounds_toArray, List.set_cons_zero, List.set_cons_succ, i64_w, i32_w]
                rfl
              refine pure_ (i := 2) (N := some 25) (v := ?_) (a' := ?_) #[true, true, true, false, false, false, false, false, false, false, false, false, false, false, false, false, false] rfl rfl (any_of HT_.out (by kernel_rfl)) (fun _ _ _ h => h) (Or.inl ⟨by rfl, ?_⟩) ?_ ?_
              rotate_left
              · intro w'
                go_simp
                with_reducible rfl
              rotate_left
              · simp only [Act.put, List.setIfInBounds_toArray, List.set_cons_zero, List.set_cons_succ, i64_w, i32_w]
                rfl
              refine pure_ (i := 3) (N := some 26) (v := ?_) (a' := ?_) #[true, true, true, true, false, false, false, false, false, false, false, false, false, false, false, false, false] rfl rfl (any_of HT_.out (by kernel_rfl)) (fun _ _ _ h => h) (Or.inl ⟨by rfl, ?_⟩) ?_ ?_
              rotate_left
              · intro w'
                go_simp
                with_reducible rfl
              rotate_left
              · simp only [Act.put, List.setIfInBounds_toArray, List.set_cons_zero, List.set_cons_succ, i64_w, i32_w]
                rfl
              refine pure_ (i := 4) (N := some 27) (v := ?_) (a' := ?_) #[true, true, true, true, true, false, false, false, false, false, false, false, false, false, false, false, false] rfl rfl (any_of HT_.out (by kernel_rfl)) (fun _ _ _ h => h) (Or.inl ⟨by rfl, ?_⟩) ?_ ?_
              rotate_left
              · intro w'
                go_simp
                with_reducible rfl
              rotate_left
              · simp only [Act.put, List.setIfInBounds_toArray, List.set_cons_zero, List.set_cons_succ, i64_w, i32_w]
                rfl
              refine pure_ (i := 5) (N := some 28) (v := ?_) (a' := ?_) #[true, true, true, true, true, true, false, false, false, false, false, false, false, false, false, false, false] rfl rfl (any_of HT_.out (by kernel_rfl)) (fun _ _ _ h => h) (Or.inl ⟨by rfl, ?_⟩) ?_ ?_
              rotate_left
              · intro w'
                go_simp
                with_reducible rfl
              rotate_left
              · simp only [Act.put, List.setIfInBounds_toArray, List.set_cons_zero, List.set_cons_succ, i64_w, i32_w]
                rfl
              refine pure_ (i := 6) (N := some 29) (v := ?_) (a' := ?_) #[true, true, true, true, true, true, true, false, false, false, false, false, false, false, false, false, false] rfl rfl (any_of HT_.out (by kernel_rfl)) (fun _ _ _ h => h) (Or.inl ⟨by rfl, ?_⟩) ?_ ?_
              rotate_left
              · intro w'
                go_simp
                with_reducible rfl
              rotate_left
              · simp only [Act.put, List.setIfInBounds_toArray, List.set_cons_zero, List.set_cons_succ, i64_w, i32_w]
                rfl
              refine pure_ (i := 7) (N := some 30) (v := ?_) (a' := ?_) #[true, true, true, true, true, true, true, true, false, false, false, false, false, false, false, false, false] rfl rfl (any_of HT_.out (by kernel_rfl)) (fun _ _ _ h => h) (Or.inl ⟨by rfl, ?_⟩) ?_ ?_
              rotate_left
              · intro w'
                go_simp
                with_reducible rfl
              rotate_left
              · simp only [Act.put, List.setIfInBounds_toArray, List.set_cons_zero, List.set_cons_succ, i64_w, i32_w]
                rfl
              refine pure_ (i := 8) (N := some 31) (v := ?_) (a' := ?_) #[true, true, true, true, true, true, true, true, true, false, false, false, false, false, false, false, false] rfl rfl (any_of HT_.out (by kernel_rfl)) (fun _ _ _ h => h) (Or.inl ⟨by rfl, ?_⟩) ?_ ?_
              rotate_left
              · intro w'
                go_simp
                with_reducible rfl
              rotate_left
              · simp only [Act.put, List.setIfInBounds_toArray, List.set_cons_zero, List.set_cons_succ, i64_w, i32_w]
                rfl
              refine pure_ (i := 10) (N := some 33) (v := ?_) (a' := ?_) #[true, true, true, true, true, true, true, true, true, false, true, false, false, false, false, false, false] rfl rfl (any_of HT_.out (by kernel_rfl)) (fun _ _ _ h => h) (Or.inl ⟨by rfl, ?_⟩) ?_ ?_
              rotate_left
              · intro w'
                go_simp
                with_reducible rfl
              rotate_left
              · simp only [Act.put, List.setIfInBounds_toArray, List.set_cons_zero, List.set_cons_succ, i64_w, i32_w]
                rfl
              refine join_ (σ := Nat) 1 #[true, true, true, true, true, true, true, true, true, true, true, true, true, true, true, true, false] (fun s_ => [(32, .int .i64 t190), (34, .int .i64 t192), (7, .pointer (some ⟨s_, 0, none⟩)), (35, .int .i64 (wrap64 (t192 * 6))), (36, .int .i64 (wrap64 (4 + (wrap64 (t192 * 6))))), (37, .agg #[.int .i64 (wrap64 ((rd y184 t187) - (Int.tmod (rd y184 t187) (ji13)))), .int .i64 (rd y176 t179), .int .i64 t190, .int .i64 (wrap64 (4 + (wrap64 (t192 * 6))))])]) (fun s_ w' => (Kd.R (Kd.int .i64) 3 w' w.heap.size (fun k_ => some k_ ≠ (.slice (some ad189) y184.length co29 : Value).ownBlock) (.slice (some ad181) y176.length co24) y176) ∧ (Kd.R (Kd.int .i64) 3 w' w.heap.size (fun k_ => some k_ ≠ (.slice (some ad181) y176.length co24 : Value).ownBlock) (.slice (some ad189) y184.length co29) y184) ∧ (w'.heap[gb173]? = some (.cells #[.int .i64 0, .int .i64 0, .int .i64 0, .int .i64 0] 65 (0, 0))) ∧ (w'.heap[s_]? = some (.cells #[.int .i64 0, .int .i64 0, .int .i64 0, .int .i64 0] 65 (0, 0))) ∧ (w.heap.size ≤ s_) ∧ (w0.heap.size ≤ s_) ∧ (g ≠ s_) ∧ (s_ ≠ g) ∧ (gb173 ≠ s_) ∧ (s_ ≠ gb173) ∧ (IsS152 w0 w' g s0_0 t193) ∧ (KeepBut w w' g none) ∧ (Below w0.heap.size w0 w')) ?_ ?_
              rotate_left
              · intro hCont
                refine two_ (i := 9) (j := 15) (Ni := some 32) (Nj := some 7) #[true, true, true, true, true, true, true, true, true, true, true, false, false, false, false, false, false] #[true, true, true, true, true, true, true, true, true, false, true, false, false, false, false, true, false] rfl rfl rfl rfl (two_of HT_.out (by kernel_rfl)) (by decide) (by decide) (fun K hK => ?_) (fun K hK => ?_)
                · skip
                  refine goes_ Try.func103 (by kernel_rfl) rfl #[.pointer (some ⟨g, 0, none⟩), .int .i64 3] (by rfl) rfl rfl (by (try simp only [List.map_toArray, List.map_cons, List.map_nil]); first | done | rfl | (simp only [List.length_drop, List.length_take]; rfl)) ?_
                  with_reducible refine (spec_l20Rd_pick.calls k g s0_0 t188 3 t190 t191 w0 _ ?side1 ?side2 A15.out).mono ?_
                  (case side1 => repeat (first | (with_reducible first | exact HI0.out | apply IsS152.alloc | apply IsS152.drewN | apply IsS152.drew | apply IsS152.set_1 | refine IsS152.far ?_ NB0_173.out _) | exact HI0.out))
                  (case side2 => repeat (first | (with_reducible first | exact HB.out | apply below_alloc | apply pw_below_drewN | apply below_drew1 | refine below_set ?_ (IsS152.ge HI0.out) | refine below_set ?_ GE173.out) | exact HB.out))
                  rintro e w31 ⟨rfl, hi, hb, hk⟩
                  refine ⟨_, rfl, ?_⟩
                  have n0_ := Aside0.mk (KeepBut.blk hk (g' := gb173) (o := .cells #[.int .i64 0, .int .i64 0, .int .i64 0, .int .i64 0] 65 (0, 0)) (by (with_reducible repeat (first | refine blk_drewN ?_ _ | refine blk_drew ?_ | refine blk_alloc ?_ _)); exact BK173.out) NB173_0.out (by simp))
                  have n1_ := Aside0.mk (Kd.R_mono (Kd.R_keep (IsS152.apart (show IsS152 w0 _ g s0_0 t188 from by repeat (first | (with_reducible first | exact HI0.out | apply IsS152.alloc | apply IsS152.drewN | apply IsS152.drew | apply IsS152.set_1 | refine IsS152.far ?_ NB0_173.out _) | exact HI0.out)) (by (with_reducible repeat (first | apply Kd.R_alloc | apply Kd.R_drewN | apply Kd.R_drew)); exact HO178.out) (by decide)) hk (fun _ h => h.2)) (fun _ h => h.1))
                  have n2_ := Aside0.mk (Kd.R_mono (Kd.R_keep (IsS152.apart (show IsS152 w0 _ g s0_0 t188 from by repeat (first | (with_reducible first | exact HI0.out | apply IsS152.alloc | apply IsS152.drewN | apply IsS152.drew | apply IsS152.set_1 | refine IsS152.far ?_ NB0_173.out _) | exact HI0.out)) (by (with_reducible repeat (first | apply Kd.R_alloc | apply Kd.R_drewN | apply Kd.R_drew)); exact HO186.out) (by decide)) hk (fun _ h => h.2)) (fun _ h => h.1))
                  have n3_ := Aside0.mk (KeepBut.trans (by repeat (first | (with_reducible first | exact HK.out | apply KeepBut.set_ | apply keep_drewN | apply keep_drew | apply keep_alloc | refine keep_far ?_ GW173.out _) | exact HK.out)) hk (.inl rfl))
                  have n4_ := Aside0.mk (hb)
                  have n5_ := Aside0.mk (hi)
                  clear BK173
                  clear HO178
                  clear HO186
                  clear HK
                  clear HB
                  clear HI0
                  have BK173 := n0_
                  have HO178 := n1_
                  have HO186 := n2_
                  have HK := n3_
                  have HB := n4_
                  have HI0 := n5_
                  clear n0_ n1_ n2_ n3_ n4_ n5_
                  (try clear hb)
                  (try clear hb2)
                  (try clear hk)
                  (try clear hi)
                  refine hK.out _ _ trivial (fun hHeld => ?_)
                  clear hK K
                  refine norm_ (a' := ?_) ?_ ?_
                  rotate_left
                  · show Act.put _ (some 32) _ = _
                    simp only [Act.put, List.setIfInBounds_toArray, List.set_cons_zero, List.set_cons_succ, i64_w, i32_w]
                    rfl
                  refine two_ (i := 11) (j := 15) (Ni := some 34) (Nj := some 7) #[true, true, true, true, true, true, true, true, true, true, true, true, false, false, false, false, false] #[true, true, true, true, true, true, true, true, true, true, true, false, false, false, false, true, false] rfl rfl rfl rfl (two_of HT_.out (by kernel_rfl)) (by decide) (by decide) (fun K hK => ?_) (fun K hK => ?_)
                  · skip
                    refine goes_ Try.func103 (by kernel_rfl) rfl #[.pointer (some ⟨g, 0, none⟩), .int .i64 3] (by rfl) rfl rfl (by (try simp only [List.map_toArray, List.map_cons, List.map_nil]); first | done | rfl | (simp only [List.length_drop, List.length_take]; rfl)) ?_
                    with_reducible refine (spec_l20Rd_pick.calls k g s0_0 t191 3 t192 t193 w0 _ ?side1 ?side2 A16.out).mono ?_
                    (case side1 => repeat (first | (with_reducible first | exact HI0.out | apply IsS152.alloc | apply IsS152.drewN | apply IsS152.drew | apply IsS152.set_1 | refine IsS152.far ?_ NB0_173.out _) | exact HI0.out))
                    (case side2 => repeat (first | (with_reducible first | exact HB.out | apply below_alloc | apply pw_below_drewN | apply below_drew1 | refine below_set ?_ (IsS152.ge HI0.out) | refine below_set ?_ GE173.out) | exact HB.out))
                    rintro e w32 ⟨rfl, hi, hb, hk⟩
                    refine ⟨_, rfl, ?_⟩
                    have n0_ := Aside0.mk (KeepBut.blk hk (g' := gb173) (o := .cells #[.int .i64 0, .int .i64 0, .int .i64 0, .int .i64 0] 65 (0, 0)) (by (with_reducible repeat (first | refine blk_drewN ?_ _ | refine blk_drew ?_ | refine blk_alloc ?_ _)); exact BK173.out) NB173_0.out (by simp))
                    have n1_ := Aside0.mk (Kd.R_mono (Kd.R_keep (IsS152.apart (show IsS152 w0 _ g s0_0 t191 from by repeat (first | (with_reducible first | exact HI0.out | apply IsS152.alloc | apply IsS152.drewN | apply IsS152.drew | apply IsS152.set_1 | refine IsS152.far ?_ NB0_173.out _) | exact HI0.out)) (by (with_reducible repeat (first | apply Kd.R_alloc | apply Kd.R_drewN | apply Kd.R_drew)); exact HO178.out) (by decide)) hk (fun _ h => h.2)) (fun _ h => h.1))
                    have n2_ := Aside0.mk (Kd.R_mono (Kd.R_keep (IsS152.apart (show IsS152 w0 _ g s0_0 t191 from by repeat (first | (with_reducible first | exact HI0.out | apply IsS152.alloc | apply IsS152.drewN | apply IsS152.drew | apply IsS152.set_1 | refine IsS152.far ?_ NB0_173.out _) | exact HI0.out)) (by (with_reducible repeat (first | apply Kd.R_alloc | apply Kd.R_drewN | apply Kd.R_drew)); exact HO186.out) (by decide)) hk (fun _ h => h.2)) (fun _ h => h.1))
                    have n3_ := Aside0.mk (KeepBut.trans (by repeat (first | (with_reducible first | exact HK.out | apply KeepBut.set_ | apply keep_drewN | apply keep_drew | apply keep_alloc | refine keep_far ?_ GW173.out _) | exact HK.out)) hk (.inl rfl))
                    have n4_ := Aside0.mk (hb)
                    have n5_ := Aside0.mk (hi)
                    clear BK173
                    clear HO178
                    clear HO186
                    clear HK
                    clear HB
                    clear HI0
                    have BK173 := n0_
                    have HO178 := n1_
                    have HO186 := n2_
                    have HK := n3_
                    have HB := n4_
                    have HI0 := n5_
                    clear n0_ n1_ n2_ n3_ n4_ n5_
                    (try clear hb)
                    (try clear hb2)
                    (try clear hk)
                    (try clear hi)
                    refine hK.out _ _ trivial (fun hHeld => ?_)
                    clear hK K
                    refine norm_ (a' := ?_) ?_ ?_
                    rotate_left
                    · show Act.put _ (some 34) _ = _
                      simp only [Act.put, List.setIfInBounds_toArray, List.set_cons_zero, List.set_cons_succ, i64_w, i32_w]
                      rfl
                    refine pure_ (i := 12) (N := some 35) (v := ?_) (a' := ?_) #[true, true, true, true, true, true, true, true, true, true, true, true, true, false, false, false, false] rfl rfl (any_of HT_.out (by kernel_rfl)) (fun _ _ _ h => h) (Or.inl ⟨by rfl, ?_⟩) ?_ ?_
                    rotate_left
                    · intro w'
                      go_simp
                      with_reducible rfl
                    rotate_left
                    · simp only [Act.put, List.setIfInBounds_toArray, List.set_cons_zero, List.set_cons_succ, i64_w, i32_w]
                      rfl
                    refine pure_ (i := 13) (N := some 36) (v := ?_) (a' := ?_) #[true, true, true, true, true, true, true, true, true, true, true, true, true, true, false, false, false] rfl rfl (any_of HT_.out (by kernel_rfl)) (fun _ _ _ h => h) (Or.inl ⟨by rfl, ?_⟩) ?_ ?_
                    rotate_left
                    · intro w'
                      go_simp
                      with_reducible rfl
                    rotate_left
                    · simp only [Act.put, List.setIfInBounds_toArray, List.set_cons_zero, List.set_cons_succ, i64_w, i32_w]
                      rfl
                    refine pure_ (i := 14) (N := some 37) (v := ?_) (a' := ?_) #[true, true, true, true, true, true, true, true, true, true, true, true, true, true, true, false, false] rfl rfl (any_of HT_.out (by kernel_rfl)) (fun _ _ _ h => h) (Or.inl ⟨by rfl, ?_⟩) ?_ ?_
                    rotate_left
                    · intro w'
                      go_simp
                      with_reducible rfl
                    rotate_left
                    · simp only [Act.put, List.setIfInBounds_toArray, List.set_cons_zero, List.set_cons_succ, i64_w, i32_w]
                      rfl
                    refine one_ (i := 15) (N := some 7) #[true, true, true, true, true, true, true, true, true, true, true, true, true, true, true, true, false] rfl rfl (one_of HT_.out (by kernel_rfl)) (by decide) (fun K hK => ?_)
                    refine box_step ?hg (N := 7) ?hd (cs := #[.int .i64 0, .int .i64 0, .int .i64 0, .int .i64 0]) (t := 65) ?hr ?_; (case hd => rfl); (case hg => rfl); (case hr => first | (go_simp; done) | (go_simp; rfl))
                    intro gb194 hg w33 hbox hb
                    have n0_ := Aside0.mk (Kd.R_below (by (with_reducible repeat (first | apply Kd.R_alloc | apply Kd.R_drewN | apply Kd.R_drew)); exact HO178.out) hb)
                    have n1_ := Aside0.mk (Kd.R_below (by (with_reducible repeat (first | apply Kd.R_alloc | apply Kd.R_drewN | apply Kd.R_drew)); exact HO186.out) hb)
                    have n2_ := Aside0.mk (IsS152.below (by repeat (first | (with_reducible first | exact HI0.out | apply IsS152.alloc | apply IsS152.drewN | apply IsS152.drew | apply IsS152.set_1 | refine IsS152.far ?_ NB0_173.out _) | exact HI0.out)) hb)
                    have n3_ := Aside0.mk (blk_below (g := gb173) (o := .cells #[.int .i64 0, .int .i64 0, .int .i64 0, .int .i64 0] 65 (0, 0)) (by (with_reducible repeat (first | refine blk_drewN ?_ _ | refine blk_drew ?_ | refine blk_alloc ?_ _)); exact BK173.out) hb)
                    have n4_ := Aside0.mk (KeepBut.trans (by repeat (first | (with_reducible first | exact HK.out | apply KeepBut.set_ | apply keep_drewN | apply keep_drew | apply keep_alloc | refine keep_far ?_ GW173.out _) | exact HK.out)) (KeepBut.of_below hb g none) (.inl rfl))
                    have n5_ := Aside0.mk (below_step (by repeat (first | (with_reducible first | exact HB.out | apply below_alloc | apply pw_below_drewN | apply below_drew1 | refine below_set ?_ (IsS152.ge HI0.out) | refine below_set ?_ GE173.out) | exact HB.out)) hb)
                    have n6_ := Aside0.mk (hbox)
                    have n7_ := Aside0.mk ((by rw [hg]; exact (keep_size (w := w) (g := g) (row := none) (by repeat (first | (with_reducible first | exact HK.out | apply KeepBut.set_ | apply keep_drewN | apply keep_drew | apply keep_alloc | refine keep_far ?_ GW173.out _) | exact HK.out))) : w.heap.size ≤ gb194))
                    have n8_ := Aside0.mk ((Nat.le_trans HW0.out (by rw [hg]; exact (keep_size (w := w) (g := g) (row := none) (by repeat (first | (with_reducible first | exact HK.out | apply KeepBut.set_ | apply keep_drewN | apply keep_drew | apply keep_alloc | refine keep_far ?_ GW173.out _) | exact HK.out))) : w.heap.size ≤ gb194) : w0.heap.size ≤ gb194))
                    have n9_ := Aside0.mk ((by rw [hg]; exact Nat.ne_of_lt (blk_lt (g := gb173) (o := .cells #[.int .i64 0, .int .i64 0, .int .i64 0, .int .i64 0] 65 (0, 0)) (by (with_reducible repeat (first | refine blk_drewN ?_ _ | refine blk_drew ?_ | refine blk_alloc ?_ _)); exact BK173.out)) : gb173 ≠ gb194))
                    have n10_ := Aside0.mk ((by rw [hg]; exact Nat.ne_of_gt (blk_lt (g := gb173) (o := .cells #[.int .i64 0, .int .i64 0, .int .i64 0, .int .i64 0] 65 (0, 0)) (by (with_reducible repeat (first | refine blk_drewN ?_ _ | refine blk_drew ?_ | refine blk_alloc ?_ _)); exact BK173.out)) : gb194 ≠ gb173))
                    have n11_ := Aside0.mk ((by rw [hg]; exact Nat.ne_of_lt (IsS152.lt (show IsS152 w0 _ g s0_0 t193 from by repeat (first | (with_reducible first | exact HI0.out | apply IsS152.alloc | apply IsS152.drewN | apply IsS152.drew | apply IsS152.set_1 | refine IsS152.far ?_ NB0_173.out _) | exact HI0.out))) : g ≠ gb194))
                    have n12_ := Aside0.mk ((by rw [hg]; exact Nat.ne_of_gt (IsS152.lt (show IsS152 w0 _ g s0_0 t193 from by repeat (first | (with_reducible first | exact HI0.out | apply IsS152.alloc | apply IsS152.drewN | apply IsS152.drew | apply IsS152.set_1 | refine IsS152.far ?_ NB0_173.out _) | exact HI0.out))) : gb194 ≠ g))
                    clear HO178
                    clear HO186
                    clear HI0
                    clear BK173
                    clear HK
                    clear HB
                    have HO178 := n0_
                    have HO186 := n1_
                    have HI0 := n2_
                    have BK173 := n3_
                    have HK := n4_
                    have HB := n5_
                    have BK194 := n6_
                    have GW194 := n7_
                    have GE194 := n8_
                    have NB173_194 := n9_
                    have NB194_173 := n10_
                    have NB0_194 := n11_
                    have NB194_0 := n12_
                    clear n0_ n1_ n2_ n3_ n4_ n5_ n6_ n7_ n8_ n9_ n10_ n11_ n12_
                    clear hb hbox hg
                    refine hK.out _ _ trivial (fun hHeld => ?_)
                    clear hK K
                    refine norm_ (a' := ?_) ?_ ?_
                    rotate_left
                    · show Act.put _ (some 7) _ = _
                      simp only [Act.put, List.setIfInBounds_toArray, List.set_cons_zero, List.set_cons_succ, i64_w, i32_w]
                      rfl
                    exact norm_ (by simp only [putAll, Act.put, List.setIfInBounds_toArray, List.set_cons_zero, List.set_cons_succ]) (hCont (gb194) _ ⟨(by (with_reducible repeat (first | apply Kd.R_alloc | apply Kd.R_drewN | apply Kd.R_drew)); exact Kd.R_mono HO178.out (fun _ hk => hk.2)), (by (with_reducible repeat (first | apply Kd.R_alloc | apply Kd.R_drewN | apply Kd.R_drew)); exact Kd.R_mono HO186.out (fun _ hk => hk.2)), (by (with_reducible repeat (first | refine blk_drewN ?_ _ | refine blk_drew ?_ | refine blk_alloc ?_ _)); exact BK173.out), (by (with_reducible repeat (first | refine blk_drewN ?_ _ | refine blk_drew ?_ | refine blk_alloc ?_ _)); exact BK194.out), GW194.out, GE194.out, NB0_194.out, NB194_0.out, NB173_194.out, NB194_173.out, (by repeat (first | (with_reducible first | exact HI0.out | apply IsS152.alloc | apply IsS152.drewN | apply IsS152.drew | apply IsS152.set_1 | refine IsS152.far ?_ NB0_173.out _ | refine IsS152.far ?_ NB0_194.out _) | exact HI0.out)), (by repeat (first | (with_reducible first | exact HK.out | apply KeepBut.set_ | apply keep_drewN | apply keep_drew | apply keep_alloc | refine keep_far ?_ GW173.out _ | refine keep_far ?_ GW194.out _) | exact HK.out)), (by repeat (first | (with_reducible first | exact HB.out | apply below_alloc | apply pw_below_drewN | apply below_drew1 | refine below_set ?_ (IsS152.ge HI0.out) | refine below_set ?_ GE173.out | refine below_set ?_ GE194.out) | exact HB.out))⟩)
                  · skip
                    refine box_step ?hg (N := 7) ?hd (cs := #[.int .i64 0, .int .i64 0, .int .i64 0, .int .i64 0]) (t := 65) ?hr ?_; (case hd => rfl); (case hg => rfl); (case hr => first | (go_simp; done) | (go_simp; rfl))
                    intro gb194 hg w32 hbox hb
                    have n0_ := Aside0.mk (Kd.R_below (by (with_reducible repeat (first | apply Kd.R_alloc | apply Kd.R_drewN | apply Kd.R_drew)); exact HO178.out) hb)
                    have n1_ := Aside0.mk (Kd.R_below (by (with_reducible repeat (first | apply Kd.R_alloc | apply Kd.R_drewN | apply Kd.R_drew)); exact HO186.out) hb)
                    have n2_ := Aside0.mk (IsS152.below (by repeat (first | (with_reducible first | exact HI0.out | apply IsS152.alloc | apply IsS152.drewN | apply IsS152.drew | apply IsS152.set_1 | refine IsS152.far ?_ NB0_173.out _) | exact HI0.out)) hb)
                    have n3_ := Aside0.mk (blk_below (g := gb173) (o := .cells #[.int .i64 0, .int .i64 0, .int .i64 0, .int .i64 0] 65 (0, 0)) (by (with_reducible repeat (first | refine blk_drewN ?_ _ | refine blk_drew ?_ | refine blk_alloc ?_ _)); exact BK173.out) hb)
                    have n4_ := Aside0.mk (KeepBut.trans (by repeat (first | (with_reducible first | exact HK.out | apply KeepBut.set_ | apply keep_drewN | apply keep_drew | apply keep_alloc | refine keep_far ?_ GW173.out _) | exact HK.out)) (KeepBut.of_below hb g none) (.inl rfl))
                    have n5_ := Aside0.mk (below_step (by repeat (first | (with_reducible first | exact HB.out | apply below_alloc | apply pw_below_drewN | apply below_drew1 | refine below_set ?_ (IsS152.ge HI0.out) | refine below_set ?_ GE173.out) | exact HB.out)) hb)
                    have n6_ := Aside0.mk (hbox)
                    have n7_ := Aside0.mk ((by rw [hg]; exact (keep_size (w := w) (g := g) (row := none) (by repeat (first | (with_reducible first | exact HK.out | apply KeepBut.set_ | apply keep_drewN | apply keep_drew | apply keep_alloc | refine keep_far ?_ GW173.out _) | exact HK.out))) : w.heap.size ≤ gb194))
                    have n8_ := Aside0.mk ((Nat.le_trans HW0.out (by rw [hg]; exact (keep_size (w := w) (g := g) (row := none) (by repeat (first | (with_reducible first | exact HK.out | apply KeepBut.set_ | apply keep_drewN | apply keep_drew | apply keep_alloc | refine keep_far ?_ GW173.out _) | exact HK.out))) : w.heap.size ≤ gb194) : w0.heap.size ≤ gb194))
                    have n9_ := Aside0.mk ((by rw [hg]; exact Nat.ne_of_lt (blk_lt (g := gb173) (o := .cells #[.int .i64 0, .int .i64 0, .int .i64 0, .int .i64 0] 65 (0, 0)) (by (with_reducible repeat (first | refine blk_drewN ?_ _ | refine blk_drew ?_ | refine blk_alloc ?_ _)); exact BK173.out)) : gb173 ≠ gb194))
                    have n10_ := Aside0.mk ((by rw [hg]; exact Nat.ne_of_gt (blk_lt (g := gb173) (o := .cells #[.int .i64 0, .int .i64 0, .int .i64 0, .int .i64 0] 65 (0, 0)) (by (with_reducible repeat (first | refine blk_drewN ?_ _ | refine blk_drew ?_ | refine blk_alloc ?_ _)); exact BK173.out)) : gb194 ≠ gb173))
                    have n11_ := Aside0.mk ((by rw [hg]; exact Nat.ne_of_lt (IsS152.lt (show IsS152 w0 _ g s0_0 t191 from by repeat (first | (with_reducible first | exact HI0.out | apply IsS152.alloc | apply IsS152.drewN | apply IsS152.drew | apply IsS152.set_1 | refine IsS152.far ?_ NB0_173.out _) | exact HI0.out))) : g ≠ gb194))
                    have n12_ := Aside0.mk ((by rw [hg]; exact Nat.ne_of_gt (IsS152.lt (show IsS152 w0 _ g s0_0 t191 from by repeat (first | (with_reducible first | exact HI0.out | apply IsS152.alloc | apply IsS152.drewN | apply IsS152.drew | apply IsS152.set_1 | refine IsS152.far ?_ NB0_173.out _) | exact HI0.out))) : gb194 ≠ g))
                    clear HO178
                    clear HO186
                    clear HI0
                    clear BK173
                    clear HK
                    clear HB
                    have HO178 := n0_
                    have HO186 := n1_
                    have HI0 := n2_
                    have BK173 := n3_
                    have HK := n4_
                    have HB := n5_
                    have BK194 := n6_
                    have GW194 := n7_
                    have GE194 := n8_
                    have NB173_194 := n9_
                    have NB194_173 := n10_
                    have NB0_194 := n11_
                    have NB194_0 := n12_
                    clear n0_ n1_ n2_ n3_ n4_ n5_ n6_ n7_ n8_ n9_ n10_ n11_ n12_
                    clear hb hbox hg
                    refine hK.out _ _ trivial (fun hHeld => ?_)
                    clear hK K
                    refine norm_ (a' := ?_) ?_ ?_
                    rotate_left
                    · show Act.put _ (some 7) _ = _
                      simp only [Act.put, List.setIfInBounds_toArray, List.set_cons_zero, List.set_cons_succ, i64_w, i32_w]
                      rfl
                    refine one_ (i := 11) (N := some 34) #[true, true, true, true, true, true, true, true, true, true, true, true, false, false, false, true, false] rfl rfl (one_of HT_.out (by kernel_rfl)) (by decide) (fun K hK => ?_)
                    refine goes_ Try.func103 (by kernel_rfl) rfl #[.pointer (some ⟨g, 0, none⟩), .int .i64 3] (by rfl) rfl rfl (by (try simp only [List.map_toArray, List.map_cons, List.map_nil]); first | done | rfl | (simp only [List.length_drop, List.length_take]; rfl)) ?_
                    with_reducible refine (spec_l20Rd_pick.calls k g s0_0 t191 3 t192 t193 w0 _ ?side1 ?side2 A16.out).mono ?_
                    (case side1 => repeat (first | (with_reducible first | exact HI0.out | apply IsS152.alloc | apply IsS152.drewN | apply IsS152.drew | apply IsS152.set_1 | refine IsS152.far ?_ NB0_173.out _ | refine IsS152.far ?_ NB0_194.out _) | exact HI0.out))
                    (case side2 => repeat (first | (with_reducible first | exact HB.out | apply below_alloc | apply pw_below_drewN | apply below_drew1 | refine below_set ?_ (IsS152.ge HI0.out) | refine below_set ?_ GE173.out | refine below_set ?_ GE194.out) | exact HB.out))
                    rintro e w33 ⟨rfl, hi, hb, hk⟩
                    refine ⟨_, rfl, ?_⟩
                    have n0_ := Aside0.mk (KeepBut.blk hk (g' := gb173) (o := .cells #[.int .i64 0, .int .i64 0, .int .i64 0, .int .i64 0] 65 (0, 0)) (by (with_reducible repeat (first | refine blk_drewN ?_ _ | refine blk_drew ?_ | refine blk_alloc ?_ _)); exact BK173.out) NB173_0.out (by simp))
                    have n1_ := Aside0.mk (Kd.R_mono (Kd.R_keep (IsS152.apart (show IsS152 w0 _ g s0_0 t191 from by repeat (first | (with_reducible first | exact HI0.out | apply IsS152.alloc | apply IsS152.drewN | apply IsS152.drew | apply IsS152.set_1 | refine IsS152.far ?_ NB0_173.out _ | refine IsS152.far ?_ NB0_194.out _) | exact HI0.out)) (by (with_reducible repeat (first | apply Kd.R_alloc | apply Kd.R_drewN | apply Kd.R_drew)); exact HO178.out) (by decide)) hk (fun _ h => h.2)) (fun _ h => h.1))
                    have n2_ := Aside0.mk (Kd.R_mono (Kd.R_keep (IsS152.apart (show IsS152 w0 _ g s0_0 t191 from by repeat (first | (with_reducible first | exact HI0.out | apply IsS152.alloc | apply IsS152.drewN | apply IsS152.drew | apply IsS152.set_1 | refine IsS152.far ?_ NB0_173.out _ | refine IsS152.far ?_ NB0_194.out _) | exact HI0.out)) (by (with_reducible repeat (first | apply Kd.R_alloc | apply Kd.R_drewN | apply Kd.R_drew)); exact HO186.out) (by decide)) hk (fun _ h => h.2)) (fun _ h => h.1))
                    have n3_ := Aside0.mk (KeepBut.blk hk (g' := gb194) (o := .cells #[.int .i64 0, .int .i64 0, .int .i64 0, .int .i64 0] 65 (0, 0)) (by (with_reducible repeat (first | refine blk_drewN ?_ _ | refine blk_drew ?_ | refine blk_alloc ?_ _)); exact BK194.out) NB194_0.out (by simp))
                    have n4_ := Aside0.mk (KeepBut.trans (by repeat (first | (with_reducible first | exact HK.out | apply KeepBut.set_ | apply keep_drewN | apply keep_drew | apply keep_alloc | refine keep_far ?_ GW173.out _ | refine keep_far ?_ GW194.out _) | exact HK.out)) hk (.inl rfl))
                    have n5_ := Aside0.mk (hb)
                    have n6_ := Aside0.mk (hi)
                    clear BK173
                    clear HO178
                    clear HO186
                    clear BK194
                    clear HK
                    clear HB
                    clear HI0
                    have BK173 := n0_
                    have HO178 := n1_
                    have HO186 := n2_
                    have BK194 := n3_
                    have HK := n4_
                    have HB := n5_
                    have HI0 := n6_
                    clear n0_ n1_ n2_ n3_ n4_ n5_ n6_
                    (try clear hb)
                    (try clear hb2)
                    (try clear hk)
                    (try clear hi)
                    refine hK.out _ _ trivial (fun hHeld => ?_)
                    clear hK K
                    refine norm_ (a' := ?_) ?_ ?_
                    rotate_left
                    · show Act.put _ (some 34) _ = _
                      simp only [Act.put, List.setIfInBounds_toArray, List.set_cons_zero, List.set_cons_succ, i64_w, i32_w]
                      rfl
                    refine pure_ (i := 12) (N := some 35) (v := ?_) (a' := ?_) #[true, true, true, true, true, true, true, true, true, true, true, true, true, false, false, true, false] rfl rfl (any_of HT_.out (by kernel_rfl)) (fun _ _ _ h => h) (Or.inl ⟨by rfl, ?_⟩) ?_ ?_
                    rotate_left
                    · intro w'
                      go_simp
                      with_reducible rfl
                    rotate_left
                    · simp only [Act.put, List.setIfInBounds_toArray, List.set_cons_zero, List.set_cons_succ, i64_w, i32_w]
                      rfl
                    refine pure_ (i := 13) (N := some 36) (v := ?_) (a' := ?_) #[true, true, true, true, true, true, true, true, true, true, true, true, true, true, false, true, false] rfl rfl (any_of HT_.out (by kernel_rfl)) (fun _ _ _ h => h) (Or.inl ⟨by rfl, ?_⟩) ?_ ?_
                    rotate_left
                    · intro w'
                      go_simp
                      with_reducible rfl
                    rotate_left
                    · simp only [Act.put, List.setIfInBounds_toArray, List.set_cons_zero, List.set_cons_succ, i64_w, i32_w]
                      rfl
                    refine pure_ (i := 14) (N := some 37) (v := ?_) (a' := ?_) #[true, true, true, true, true, true, true, true, true, true, true, true, true, true, true, true, false] rfl rfl (any_of HT_.out (by kernel_rfl)) (fun _ _ _ h => h) (Or.inl ⟨by rfl, ?_⟩) ?_ ?_
                    rotate_left
                    · intro w'
                      go_simp
                      with_reducible rfl
                    rotate_left
                    · simp only [Act.put, List.setIfInBounds_toArray, List.set_cons_zero, List.set_cons_succ, i64_w, i32_w]
                      rfl
                    exact norm_ (by simp only [putAll, Act.put, List.setIfInBounds_toArray, List.set_cons_zero, List.set_cons_succ]) (hCont (gb194) _ ⟨(by (with_reducible repeat (first | apply Kd.R_alloc | apply Kd.R_drewN | apply Kd.R_drew)); exact Kd.R_mono HO178.out (fun _ hk => hk.2)), (by (with_reducible repeat (first | apply Kd.R_alloc | apply Kd.R_drewN | apply Kd.R_drew)); exact Kd.R_mono HO186.out (fun _ hk => hk.2)), (by (with_reducible repeat (first | refine blk_drewN ?_ _ | refine blk_drew ?_ | refine blk_alloc ?_ _)); exact BK173.out), (by (with_reducible repeat (first | refine blk_drewN ?_ _ | refine blk_drew ?_ | refine blk_alloc ?_ _)); exact BK194.out), GW194.out, GE194.out, NB0_194.out, NB194_0.out, NB173_194.out, NB194_173.out, (by repeat (first | (with_reducible first | exact HI0.out | apply IsS152.alloc | apply IsS152.drewN | apply IsS152.drew | apply IsS152.set_1 | refine IsS152.far ?_ NB0_173.out _ | refine IsS152.far ?_ NB0_194.out _) | exact HI0.out)), (by repeat (first | (with_reducible first | exact HK.out | apply KeepBut.set_ | apply keep_drewN | apply keep_drew | apply keep_alloc | refine keep_far ?_ GW173.out _ | refine keep_far ?_ GW194.out _) | exact HK.out)), (by repeat (first | (with_reducible first | exact HB.out | apply below_alloc | apply pw_below_drewN | apply below_drew1 | refine below_set ?_ (IsS152.ge HI0.out) | refine below_set ?_ GE173.out | refine below_set ?_ GE194.out) | exact HB.out))⟩)
                · skip
                  refine box_step ?hg (N := 7) ?hd (cs := #[.int .i64 0, .int .i64 0, .int .i64 0, .int .i64 0]) (t := 65) ?hr ?_; (case hd => rfl); (case hg => rfl); (case hr => first | (go_simp; done) | (go_simp; rfl))
                  intro gb194 hg w31 hbox hb
                  have n0_ := Aside0.mk (Kd.R_below (by (with_reducible repeat (first | apply Kd.R_alloc | apply Kd.R_drewN | apply Kd.R_drew)); exact HO178.out) hb)
                  have n1_ := Aside0.mk (Kd.R_below (by (with_reducible repeat (first | apply Kd.R_alloc | apply Kd.R_drewN | apply Kd.R_drew)); exact HO186.out) hb)
                  have n2_ := Aside0.mk (IsS152.below (by repeat (first | (with_reducible first | exact HI0.out | apply IsS152.alloc | apply IsS152.drewN | apply IsS152.drew | apply IsS152.set_1 | refine IsS152.far ?_ NB0_173.out _) | exact HI0.out)) hb)
                  have n3_ := Aside0.mk (blk_below (g := gb173) (o := .cells #[.int .i64 0, .int .i64 0, .int .i64 0, .int .i64 0] 65 (0, 0)) (by (with_reducible repeat (first | refine blk_drewN ?_ _ | refine blk_drew ?_ | refine blk_alloc ?_ _)); exact BK173.out) hb)
                  have n4_ := Aside0.mk (KeepBut.trans (by repeat (first | (with_reducible first | exact HK.out | apply KeepBut.set_ | apply keep_drewN | apply keep_drew | apply keep_alloc | refine keep_far ?_ GW173.out _) | exact HK.out)) (KeepBut.of_below hb g none) (.inl rfl))
                  have n5_ := Aside0.mk (below_step (by repeat (first | (with_reducible first | exact HB.out | apply below_alloc | apply pw_below_drewN | apply below_drew1 | refine below_set ?_ (IsS152.ge HI0.out) | refine below_set ?_ GE173.out) | exact HB.out)) hb)
                  have n6_ := Aside0.mk (hbox)
                  have n7_ := Aside0.mk ((by rw [hg]; exact (keep_size (w := w) (g := g) (row := none) (by repeat (first | (with_reducible first | exact HK.out | apply KeepBut.set_ | apply keep_drewN | apply keep_drew | apply keep_alloc | refine keep_far ?_ GW173.out _) | exact HK.out))) : w.heap.size ≤ gb194))
                  have n8_ := Aside0.mk ((Nat.le_trans HW0.out (by rw [hg]; exact (keep_size (w := w) (g := g) (row := none) (by repeat (first | (with_reducible first | exact HK.out | apply KeepBut.set_ | apply keep_drewN | apply keep_drew | apply keep_alloc | refine keep_far ?_ GW173.out _) | exact HK.out))) : w.heap.size ≤ gb194) : w0.heap.size ≤ gb194))
                  have n9_ := Aside0.mk ((by rw [hg]; exact Nat.ne_of_lt (blk_lt (g := gb173) (o := .cells #[.int .i64 0, .int .i64 0, .int .i64 0, .int .i64 0] 65 (0, 0)) (by (with_reducible repeat (first | refine blk_drewN ?_ _ | refine blk_drew ?_ | refine blk_alloc ?_ _)); exact BK173.out)) : gb173 ≠ gb194))
                  have n10_ := Aside0.mk ((by rw [hg]; exact Nat.ne_of_gt (blk_lt (g := gb173) (o := .cells #[.int .i64 0, .int .i64 0, .int .i64 0, .int .i64 0] 65 (0, 0)) (by (with_reducible repeat (first | refine blk_drewN ?_ _ | refine blk_drew ?_ | refine blk_alloc ?_ _)); exact BK173.out)) : gb194 ≠ gb173))
                  have n11_ := Aside0.mk ((by rw [hg]; exact Nat.ne_of_lt (IsS152.lt (show IsS152 w0 _ g s0_0 t188 from by repeat (first | (with_reducible first | exact HI0.out | apply IsS152.alloc | apply IsS152.drewN | apply IsS152.drew | apply IsS152.set_1 | refine IsS152.far ?_ NB0_173.out _) | exact HI0.out))) : g ≠ gb194))
                  have n12_ := Aside0.mk ((by rw [hg]; exact Nat.ne_of_gt (IsS152.lt (show IsS152 w0 _ g s0_0 t188 from by repeat (first | (with_reducible first | exact HI0.out | apply IsS152.alloc | apply IsS152.drewN | apply IsS152.drew | apply IsS152.set_1 | refine IsS152.far ?_ NB0_173.out _) | exact HI0.out))) : gb194 ≠ g))
                  clear HO178
                  clear HO186
                  clear HI0
                  clear BK173
                  clear HK
                  clear HB
                  have HO178 := n0_
                  have HO186 := n1_
                  have HI0 := n2_
                  have BK173 := n3_
                  have HK := n4_
                  have HB := n5_
                  have BK194 := n6_
                  have GW194 := n7_
                  have GE194 := n8_
                  have NB173_194 := n9_
                  have NB194_173 := n10_
                  have NB0_194 := n11_
                  have NB194_0 := n12_
                  clear n0_ n1_ n2_ n3_ n4_ n5_ n6_ n7_ n8_ n9_ n10_ n11_ n12_
                  clear hb hbox hg
                  refine hK.out _ _ trivial (fun hHeld => ?_)
                  clear hK K
                  refine norm_ (a' := ?_) ?_ ?_
                  rotate_left
                  · show Act.put _ (some 7) _ = _
                    simp only [Act.put, List.setIfInBounds_toArray, List.set_cons_zero, List.set_cons_succ, i64_w, i32_w]
                    rfl
                  refine one_ (i := 9) (N := some 32) #[true, true, true, true, true, true, true, true, true, true, true, false, false, false, false, true, false] rfl rfl (one_of HT_.out (by kernel_rfl)) (by decide) (fun K hK => ?_)
                  refine goes_ Try.func103 (by kernel_rfl) rfl #[.pointer (some ⟨g, 0, none⟩), .int .i64 3] (by rfl) rfl rfl (by (try simp only [List.map_toArray, List.map_cons, List.map_nil]); first | done | rfl | (simp only [List.length_drop, List.length_take]; rfl)) ?_
                  with_reducible refine (spec_l20Rd_pick.calls k g s0_0 t188 3 t190 t191 w0 _ ?side1 ?side2 A15.out).mono ?_
                  (case side1 => repeat (first | (with_reducible first | exact HI0.out | apply IsS152.alloc | apply IsS152.drewN | apply IsS152.drew | apply IsS152.set_1 | refine IsS152.far ?_ NB0_173.out _ | refine IsS152.far ?_ NB0_194.out _) | exact HI0.out))
                  (case side2 => repeat (first | (with_reducible first | exact HB.out | apply below_alloc | apply pw_below_drewN | apply below_drew1 | refine below_set ?_ (IsS152.ge HI0.out) | refine below_set ?_ GE173.out | refine below_set ?_ GE194.out) | exact HB.out))
                  rintro e w32 ⟨rfl, hi, hb, hk⟩
                  refine ⟨_, rfl, ?_⟩
                  have n0_ := Aside0.mk (KeepBut.blk hk (g' := gb173) (o := .cells #[.int .i64 0, .int .i64 0, .int .i64 0, .int .i64 0] 65 (0, 0)) (by (with_reducible repeat (first | refine blk_drewN ?_ _ | refine blk_drew ?_ | refine blk_alloc ?_ _)); exact BK173.out) NB173_0.out (by simp))
                  have n1_ := Aside0.mk (Kd.R_mono (Kd.R_keep (IsS152.apart (show IsS152 w0 _ g s0_0 t188 from by repeat (first | (with_reducible first | exact HI0.out | apply IsS152.alloc | apply IsS152.drewN | apply IsS152.drew | apply IsS152.set_1 | refine IsS152.far ?_ NB0_173.out _ | refine IsS152.far ?_ NB0_194.out _) | exact HI0.out)) (by (with_reducible repeat (first | apply Kd.R_alloc | apply Kd.R_drewN | apply Kd.R_drew)); exact HO178.out) (by decide)) hk (fun _ h => h.2)) (fun _ h => h.1))
                  have n2_ := Aside0.mk (Kd.R_mono (Kd.R_keep (IsS152.apart (show IsS152 w0 _ g s0_0 t188 from by repeat (first | (with_reducible first | exact HI0.out | apply IsS152.alloc | apply IsS152.drewN | apply IsS152.drew | apply IsS152.set_1 | refine IsS152.far ?_ NB0_173.out _ | refine IsS152.far ?_ NB0_194.out _) | exact HI0.out)) (by (with_reducible repeat (first | apply Kd.R_alloc | apply Kd.R_drewN | apply Kd.R_drew)); exact HO186.out) (by decide)) hk (fun _ h => h.2)) (fun _ h => h.1))
                  have n3_ := Aside0.mk (KeepBut.blk hk (g' := gb194) (o := .cells #[.int .i64 0, .int .i64 0, .int .i64 0, .int .i64 0] 65 (0, 0)) (by (with_reducible repeat (first | refine blk_drewN ?_ _ | refine blk_drew ?_ | refine blk_alloc ?_ _)); exact BK194.out) NB194_0.out (by simp))
                  have n4_ := Aside0.mk (KeepBut.trans (by repeat (first | (with_reducible first | exact HK.out | apply KeepBut.set_ | apply keep_drewN | apply keep_drew | apply keep_alloc | refine keep_far ?_ GW173.out _ | refine keep_far ?_ GW194.out _) | exact HK.out)) hk (.inl rfl))
                  have n5_ := Aside0.mk (hb)
                  have n6_ := Aside0.mk (hi)
                  clear BK173
                  clear HO178
                  clear HO186
                  clear BK194
                  clear HK
                  clear HB
                  clear HI0
                  have BK173 := n0_
                  have HO178 := n1_
                  have HO186 := n2_
                  have BK194 := n3_
                  have HK := n4_
                  have HB := n5_
                  have HI0 := n6_
                  clear n0_ n1_ n2_ n3_ n4_ n5_ n6_
                  (try clear hb)
                  (try clear hb2)
                  (try clear hk)
                  (try clear hi)
                  refine hK.out _ _ trivial (fun hHeld => ?_)
                  clear hK K
                  refine norm_ (a' := ?_) ?_ ?_
                  rotate_left
                  · show Act.put _ (some 32) _ = _
                    simp only [Act.put, List.setIfInBounds_toArray, List.set_cons_zero, List.set_cons_succ, i64_w, i32_w]
                    rfl
                  refine one_ (i := 11) (N := some 34) #[true, true, true, true, true, true, true, true, true, true, true, true, false, false, false, true, false] rfl rfl (one_of HT_.out (by kernel_rfl)) (by decide) (fun K hK => ?_)
                  refine goes_ Try.func103 (by kernel_rfl) rfl #[.pointer (some ⟨g, 0, none⟩), .int .i64 3] (by rfl) rfl rfl (by (try simp only [List.map_toArray, List.map_cons, List.map_nil]); first | done | rfl | (simp only [List.length_drop, List.length_take]; rfl)) ?_
                  with_reducible refine (spec_l20Rd_pick.calls k g s0_0 t191 3 t192 t193 w0 _ ?side1 ?side2 A16.out).mono ?_
                  (case side1 => repeat (first | (with_reducible first | exact HI0.out | apply IsS152.alloc | apply IsS152.drewN | apply IsS152.drew | apply IsS152.set_1 | refine IsS152.far ?_ NB0_173.out _ | refine IsS152.far ?_ NB0_194.out _) | exact HI0.out))
                  (case side2 => repeat (first | (with_reducible first | exact HB.out | apply below_alloc | apply pw_below_drewN | apply below_drew1 | refine below_set ?_ (IsS152.ge HI0.out) | refine below_set ?_ GE173.out | refine below_set ?_ GE194.out) | exact HB.out))
                  rintro e w33 ⟨rfl, hi, hb, hk⟩
                  refine ⟨_, rfl, ?_⟩
                  have n0_ := Aside0.mk (KeepBut.blk hk (g' := gb173) (o := .cells #[.int .i64 0, .int .i64 0, .int .i64 0, .int .i64 0] 65 (0, 0)) (by (with_reducible repeat (first | refine blk_drewN ?_ _ | refine blk_drew ?_ | refine blk_alloc ?_ _)); exact BK173.out) NB173_0.out (by simp))
                  have n1_ := Aside0.mk (Kd.R_mono (Kd.R_keep (IsS152.apart (show IsS152 w0 _ g s0_0 t191 from by repeat (first | (with_reducible first | exact HI0.out | apply IsS152.alloc | apply IsS152.drewN | apply IsS152.drew | apply IsS152.set_1 | refine IsS152.far ?_ NB0_173.out _ | refine IsS152.far ?_ NB0_194.out _) | exact HI0.out)) (by (with_reducible repeat (first | apply Kd.R_alloc | apply Kd.R_drewN | apply Kd.R_drew)); exact HO178.out) (by decide)) hk (fun _ h => h.2)) (fun _ h => h.1))
                  have n2_ := Aside0.mk (Kd.R_mono (Kd.R_keep (IsS152.apart (show IsS152 w0 _ g s0_0 t191 from by repeat (first | (with_reducible first | exact HI0.out | apply IsS152.alloc | apply IsS152.drewN | apply IsS152.drew | apply IsS152.set_1 | refine IsS152.far ?_ NB0_173.out _ | refine IsS152.far ?_ NB0_194.out _) | exact HI0.out)) (by (with_reducible repeat (first | apply Kd.R_alloc | apply Kd.R_drewN | apply Kd.R_drew)); exact HO186.out) (by decide)) hk (fun _ h => h.2)) (fun _ h => h.1))
                  have n3_ := Aside0.mk (KeepBut.blk hk (g' := gb194) (o := .cells #[.int .i64 0, .int .i64 0, .int .i64 0, .int .i64 0] 65 (0, 0)) (by (with_reducible repeat (first | refine blk_drewN ?_ _ | refine blk_drew ?_ | refine blk_alloc ?_ _)); exact BK194.out) NB194_0.out (by simp))
                  have n4_ := Aside0.mk (KeepBut.trans (by repeat (first | (with_reducible first | exact HK.out | apply KeepBut.set_ | apply keep_drewN | apply keep_drew | apply keep_alloc | refine keep_far ?_ GW173.out _ | refine keep_far ?_ GW194.out _) | exact HK.out)) hk (.inl rfl))
                  have n5_ := Aside0.mk (hb)
                  have n6_ := Aside0.mk (hi)
                  clear BK173
                  clear HO178
                  clear HO186
                  clear BK194
                  clear HK
                  clear HB
                  clear HI0
                  have BK173 := n0_
                  have HO178 := n1_
                  have HO186 := n2_
                  have BK194 := n3_
                  have HK := n4_
                  have HB := n5_
                  have HI0 := n6_
                  clear n0_ n1_ n2_ n3_ n4_ n5_ n6_
                  (try clear hb)
                  (try clear hb2)
                  (try clear hk)
                  (try clear hi)
                  refine hK.out _ _ trivial (fun hHeld => ?_)
                  clear hK K
                  refine norm_ (a' := ?_) ?_ ?_
                  rotate_left
                  · show Act.put _ (some 34) _ = _
                    simp only [Act.put, List.setIfInBounds_toArray, List.set_cons_zero, List.set_cons_succ, i64_w, i32_w]
                    rfl
                  refine pure_ (i := 12) (N := some 35) (v := ?_) (a' := ?_) #[true, true, true, true, true, true, true, true, true, true, true, true, true, false, false, true, false] rfl rfl (any_of HT_.out (by kernel_rfl)) (fun _ _ _ h => h) (Or.inl ⟨by rfl, ?_⟩) ?_ ?_
                  rotate_left
                  · intro w'
                    go_simp
                    with_reducible rfl
                  rotate_left
                  · simp only [Act.put, List.setIfInBounds_toArray, List.set_cons_zero, List.set_cons_succ, i64_w, i32_w]
                    rfl
                  refine pure_ (i := 13) (N := some 36) (v := ?_) (a' := ?_) #[true, true, true, true, true, true, true, true, true, true, true, true, true, true, false, true, false] rfl rfl (any_of HT_.out (by kernel_rfl)) (fun _ _ _ h => h) (Or.inl ⟨by rfl, ?_⟩) ?_ ?_
                  rotate_left
                  · intro w'
                    go_simp
                    with_reducible rfl
                  rotate_left
                  · simp only [Act.put, List.setIfInBounds_toArray, List.set_cons_zero, List.set_cons_succ, i64_w, i32_w]
                    rfl
                  refine pure_ (i := 14) (N := some 37) (v := ?_) (a' := ?_) #[true, true, true, true, true, true, true, true, true, true, true, true, true, true, true, true, false] rfl rfl (any_of HT_.out (by kernel_rfl)) (fun _ _ _ h => h) (Or.inl ⟨by rfl, ?_⟩) ?_ ?_
                  rotate_left
                  · intro w'
                    go_simp
                    with_reducible rfl
                  rotate_left
                  · simp only [Act.put, List.setIfInBounds_toArray, List.set_cons_zero, List.set_cons_succ, i64_w, i32_w]
                    rfl
                  exact norm_ (by simp only [putAll, Act.put, List.setIfInBounds_toArray, List.set_cons_zero, List.set_cons_succ]) (hCont (gb194) _ ⟨(by (with_reducible repeat (first | apply Kd.R_alloc | apply Kd.R_drewN | apply Kd.R_drew)); exact Kd.R_mono HO178.out (fun _ hk => hk.2)), (by (with_reducible repeat (first | apply Kd.R_alloc | apply Kd.R_drewN | apply Kd.R_drew)); exact Kd.R_mono HO186.out (fun _ hk => hk.2)), (by (with_reducible repeat (first | refine blk_drewN ?_ _ | refine blk_drew ?_ | refine blk_alloc ?_ _)); exact BK173.out), (by (with_reducible repeat (first | refine blk_drewN ?_ _ | refine blk_drew ?_ | refine blk_alloc ?_ _)); exact BK194.out), GW194.out, GE194.out, NB0_194.out, NB194_0.out, NB173_194.out, NB194_173.out, (by repeat (first | (with_reducible first | exact HI0.out | apply IsS152.alloc | apply IsS152.drewN | apply IsS152.drew | apply IsS152.set_1 | refine IsS152.far ?_ NB0_173.out _ | refine IsS152.far ?_ NB0_194.out _) | exact HI0.out)), (by repeat (first | (with_reducible first | exact HK.out | apply KeepBut.set_ | apply keep_drewN | apply keep_drew | apply keep_alloc | refine keep_far ?_ GW173.out _ | refine keep_far ?_ GW194.out _) | exact HK.out)), (by repeat (first | (with_reducible first | exact HB.out | apply below_alloc | apply pw_below_drewN | apply below_drew1 | refine below_set ?_ (IsS152.ge HI0.out) | refine below_set ?_ GE173.out | refine below_set ?_ GE194.out) | exact HB.out))⟩)
              rintro gb194 w34 ⟨h0_, h1_, h2_, h3_, h4_, h5_, h6_, h7_, h8_, h9_, h10_, h11_, h12_⟩
              have n0_ : Aside0 (Kd.R (Kd.int .i64) 3 w34 w.heap.size (fun k_ => some k_ ≠ (.slice (some ad189) y184.length co29 : Value).ownBlock) (.slice (some ad181) y176.length co24) y176) := ⟨h0_⟩
              have n1_ : Aside0 (Kd.R (Kd.int .i64) 3 w34 w.heap.size (fun k_ => some k_ ≠ (.slice (some ad181) y176.length co24 : Value).ownBlock) (.slice (some ad189) y184.length co29) y184) := ⟨h1_⟩
              have n2_ : Aside0 (w34.heap[gb173]? = some (.cells #[.int .i64 0, .int .i64 0, .int .i64 0, .int .i64 0] 65 (0, 0))) := ⟨h2_⟩
              have n3_ : Aside0 (w34.heap[gb194]? = some (.cells #[.int .i64 0, .int .i64 0, .int .i64 0, .int .i64 0] 65 (0, 0))) := ⟨h3_⟩
              have n4_ : Aside0 (w.heap.size ≤ gb194) := ⟨h4_⟩
              have n5_ : Aside0 (w0.heap.size ≤ gb194) := ⟨h5_⟩
              have n6_ : Aside0 (g ≠ gb194) := ⟨h6_⟩
              have n7_ : Aside0 (gb194 ≠ g) := ⟨h7_⟩
              have n8_ : Aside0 (gb173 ≠ gb194) := ⟨h8_⟩
              have n9_ : Aside0 (gb194 ≠ gb173) := ⟨h9_⟩
              have n10_ : Aside0 (IsS152 w0 w34 g s0_0 t193) := ⟨h10_⟩
              have n11_ : Aside0 (KeepBut w w34 g none) := ⟨h11_⟩
              have n12_ : Aside0 (Below w0.heap.size w0 w34) := ⟨h12_⟩
              clear HO178
              clear HO186
              clear BK173
              clear HI0
              clear HK
              clear HB
              clear h0_ h1_ h2_ h3_ h4_ h5_ h6_ h7_ h8_ h9_ h10_ h11_ h12_
              have HO178 := n0_
              have HO186 := n1_
              have BK173 := n2_
              have BK194 := n3_
              have GW194 := n4_
              have GE194 := n5_
              have NB0_194 := n6_
              have NB194_0 := n7_
              have NB173_194 := n8_
              have NB194_173 := n9_
              have HI0 := n10_
              have HK := n11_
              have HB := n12_
              clear n0_ n1_ n2_ n3_ n4_ n5_ n6_ n7_ n8_ n9_ n10_ n11_ n12_
              have hHeld := trivial
              refine norm_ (a' := ?_) ?_ ?_
              rotate_left
              · simp only [putAll, Act.put, List.setIfInBounds_toArray, List.set_cons_zero, List.set_cons_succ]
                rfl
              refine one_ (i := 16) (N := none) #[true, true, true, true, true, true, true, true, true, true, true, true, true, true, true, true, true] rfl rfl (one_of HT_.out (by kernel_rfl)) (by decide) (fun K hK => ?_)
              have hs35 : w34.cell? ⟨gb194, 0, none⟩ = some (.int .i64 0) := (blk_cell BK194.out 0).trans rfl
              have hfs35 := blk_frozen BK194.out 0
              have hns35_0 := NB173_194.out
              have hms35_0 := NB194_173.out
              have hs36 : w34.cell? ⟨gb194, 1, none⟩ = some (.int .i64 0) := (blk_cell BK194.out 1).trans rfl
              have hfs36 := blk_frozen BK194.out 1
              have hns36_0 := NB173_194.out
              have hms36_0 := NB194_173.out
              have hs37 : w34.cell? ⟨gb194, 2, none⟩ = some (.int .i64 0) := (blk_cell BK194.out 2).trans rfl
              have hfs37 := blk_frozen BK194.out 2
              have hns37_0 := NB173_194.out
              have hms37_0 := NB194_173.out
              have hs38 : w34.cell? ⟨gb194, 3, none⟩ = some (.int .i64 0) := (blk_cell BK194.out 3).trans rfl
              have hfs38 := blk_frozen BK194.out 3
              have hns38_0 := NB173_194.out
              have hms38_0 := NB194_173.out
              refine skip_ (w1 := ?_) (by rfl) rfl ?_ ?_
              rotate_left
              · go_simp
                rfl
              refine hK.out _ _ trivial (fun hHeld => ?_)
              clear hK K
              refine done_ (done_of HT_.out (by kernel_rfl)) ?_
              go_upto_if 40 with (first | ((with_reducible refine gate_callee (f := 122) rfl ?_); refine goesL_ (some 40) rfl rfl Try.func122 (by kernel_rfl) rfl #[.pointer (some ⟨g, 0, none⟩), .int .i64 a1] rfl (by (try simp only [List.map_toArray, List.map_cons, List.map_nil]); first | done | rfl | (simp only [List.length_drop, List.length_take]; rfl)) ?_; (with_reducible refine (spec_l20Rd_odd.calls k g s0_0 t193 a1 t195 t196 w0 _ ?side1 ?side2 A17.out).mono ?_); (case side1 => repeat (first | (with_reducible first | exact HI0.out | apply IsS152.alloc | apply IsS152.drewN | apply IsS152.drew | apply IsS152.set_1 | refine IsS152.far ?_ NB0_173.out _ | refine IsS152.far ?_ NB0_194.out _) | exact HI0.out)); (case side2 => repeat (first | (with_reducible first | exact HB.out | apply below_alloc | apply pw_below_drewN | apply below_drew1 | refine below_set ?_ (IsS152.ge HI0.out) | refine below_set ?_ GE173.out | refine below_set ?_ GE194.out) | exact HB.out)); rintro e w39 ⟨rfl, hi, hb, hk⟩; refine ⟨_, rfl, ?_⟩; have n0_ := Aside0.mk (KeepBut.blk hk (g' := gb173) (o := .cells #[.int .i64 0, .int .i64 0, .int .i64 0, .int .i64 0] 65 (0, 0)) (by (with_reducible repeat (first | refine blk_drewN ?_ _ | refine blk_drew ?_ | refine blk_alloc ?_ _)); refine blk_far ?_ NB173_194.out _; (with_reducible repeat (first | refine blk_drewN ?_ _ | refine blk_drew ?_ | refine blk_alloc ?_ _)); refine blk_far ?_ NB173_194.out _; (with_reducible repeat (first | refine blk_drewN ?_ _ | refine blk_drew ?_ | refine blk_alloc ?_ _)); refine blk_far ?_ NB173_194.out _; (with_reducible repeat (first | refine blk_drewN ?_ _ | refine blk_drew ?_ | refine blk_alloc ?_ _)); refine blk_far ?_ NB173_194.out _; (with_reducible repeat (first | refine blk_drewN ?_ _ | refine blk_drew ?_ | refine blk_alloc ?_ _)); exact BK173.out) NB173_0.out (by simp)); have n1_ := Aside0.mk (Kd.R_mono (Kd.R_keep (IsS152.apart (show IsS152 w0 _ g s0_0 t193 from by repeat (first | (with_reducible first | exact HI0.out | apply IsS152.alloc | apply IsS152.drewN | apply IsS152.drew | apply IsS152.set_1 | refine IsS152.far ?_ NB0_173.out _ | refine IsS152.far ?_ NB0_194.out _) | exact HI0.out)) (by (with_reducible repeat (first | apply Kd.R_alloc | apply Kd.R_drewN | apply Kd.R_drew)); exact (Kd.R_mono (Kd.R_far (p := ⟨gb194, 3, none⟩) (Kd.R_far (p := ⟨gb194, 2, none⟩) (Kd.R_far (p := ⟨gb194, 1, none⟩) (Kd.R_far (p := ⟨gb194, 0, none⟩) (Kd.R_types HO178.out BK194.out (by decide)) (fun _ hk => hk.2) (.int .i64 (wrap64 ((rd y184 t187) - (Int.tmod (rd y184 t187) (ji13)))))) (fun _ hk => hk.2) (.int .i64 (rd y176 t179))) (fun _ hk => hk.2) (.int .i64 t190)) (fun _ hk => hk.2) (.int .i64 (wrap64 (4 + (wrap64 (t192 * 6)))))) (fun _ h_ => h_.1))) (by decide)) hk (fun _ h => h.2)) (fun _ h => h.1)); have n2_ := Aside0.mk (Kd.R_mono (Kd.R_keep (IsS152.apart (show IsS152 w0 _ g s0_0 t193 from by repeat (first | (with_reducible first | exact HI0.out | apply IsS152.alloc | apply IsS152.drewN | apply IsS152.drew | apply IsS152.set_1 | refine IsS152.far ?_ NB0_173.out _ | refine IsS152.far ?_ NB0_194.out _) | exact HI0.out)) (by (with_reducible repeat (first | apply Kd.R_alloc | apply Kd.R_drewN | apply Kd.R_drew)); exact (Kd.R_mono (Kd.R_far (p := ⟨gb194, 3, none⟩) (Kd.R_far (p := ⟨gb194, 2, none⟩) (Kd.R_far (p := ⟨gb194, 1, none⟩) (Kd.R_far (p := ⟨gb194, 0, none⟩) (Kd.R_types HO186.out BK194.out (by decide)) (fun _ hk => hk.2) (.int .i64 (wrap64 ((rd y184 t187) - (Int.tmod (rd y184 t187) (ji13)))))) (fun _ hk => hk.2) (.int .i64 (rd y176 t179))) (fun _ hk => hk.2) (.int .i64 t190)) (fun _ hk => hk.2) (.int .i64 (wrap64 (4 + (wrap64 (t192 * 6)))))) (fun _ h_ => h_.1))) (by decide)) hk (fun _ h => h.2)) (fun _ h => h.1)); have n3_ := Aside0.mk (KeepBut.blk hk (g' := gb194) (o := .cells #[.int .i64 (wrap64 ((rd y184 t187) - (Int.tmod (rd y184 t187) (ji13)))), .int .i64 (rd y176 t179), .int .i64 t190, .int .i64 (wrap64 (4 + (wrap64 (t192 * 6))))] 65 (0, 0)) (by (with_reducible repeat (first | refine blk_drewN ?_ _ | refine blk_drew ?_ | refine blk_alloc ?_ _)); refine blk_put (cs := #[.int .i64 (wrap64 ((rd y184 t187) - (Int.tmod (rd y184 t187) (ji13)))), .int .i64 (rd y176 t179), .int .i64 t190, .int .i64 0]) ?_ 3 _ rfl; (with_reducible repeat (first | refine blk_drewN ?_ _ | refine blk_drew ?_ | refine blk_alloc ?_ _)); refine blk_put (cs := #[.int .i64 (wrap64 ((rd y184 t187) - (Int.tmod (rd y184 t187) (ji13)))), .int .i64 (rd y176 t179), .int .i64 0, .int .i64 0]) ?_ 2 _ rfl; (with_reducible repeat (first | refine blk_drewN ?_ _ | refine blk_drew ?_ | refine blk_alloc ?_ _)); refine blk_put (cs := #[.int .i64 (wrap64 ((rd y184 t187) - (Int.tmod (rd y184 t187) (ji13)))), .int .i64 0, .int .i64 0, .int .i64 0]) ?_ 1 _ rfl; (with_reducible repeat (first | refine blk_drewN ?_ _ | refine blk_drew ?_ | refine blk_alloc ?_ _)); refine blk_put (cs := #[.int .i64 0, .int .i64 0, .int .i64 0, .int .i64 0]) ?_ 0 _ rfl; (with_reducible repeat (first | refine blk_drewN ?_ _ | refine blk_drew ?_ | refine blk_alloc ?_ _)); exact BK194.out) NB194_0.out (by simp)); have n4_ := Aside0.mk (KeepBut.trans (by repeat (first | (with_reducible first | exact HK.out | apply KeepBut.set_ | apply keep_drewN | apply keep_drew | apply keep_alloc | refine keep_far ?_ GW173.out _ | refine keep_far ?_ GW194.out _) | exact HK.out)) hk (.inl rfl)); have n5_ := Aside0.mk (hb); have n6_ := Aside0.mk (hi); clear BK173; clear HO178; clear HO186; clear BK194; clear HK; clear HB; clear HI0; have BK173 := n0_; have HO178 := n1_; have HO186 := n2_; have BK194 := n3_; have HK := n4_; have HB := n5_; have HI0 := n6_; clear n0_ n1_ n2_ n3_ n4_ n5_ n6_; (try clear hb); (try clear hb2); (try clear hk); (try clear hi)))
              (try simp only [Act.put, List.setIfInBounds_toArray, List.set_cons_zero, List.set_cons_succ])
              go_cut [] (fun wc => ∃ (kq : Nat) (x1001_17 : Int) (x195000_17 : Int) (x195001_17 : Int) (x195003_17 : Int), Aside0 (spec_l20Route.j0 kq s0_0 x1001_17 x195000_17 x195001_17 t190 x195003_17 = some (r1, r2, r3, r4, r5)) ∧ Aside0 (kq ≤ k) ∧ Aside0 (wc.heap[gb173]? = some (.cells #[.int .i64 0, .int .i64 0, .int .i64 0, .int .i64 0] 65 (0, 0))) ∧ Aside0 (wc.heap[gb194]? = some (.cells #[.int .i64 x195000_17, .int .i64 x195001_17, .int .i64 t190, .int .i64 x195003_17] 65 (0, 0))) ∧ Aside0 (IsS152 w0 wc g s0_0 x1001_17) ∧ Aside0 (KeepBut w wc g none) ∧ Aside0 (Below w0.heap.size w0 wc))
              case first =>
                have H := HC18.out
                clear HC18
                by_cases c40 : t195 = true
                · subst c40
                  have H1 : ((spec_l20Rd_pick.f k s0_0 t196 3).bind fun bt197 => (if bt197.1 = 0 then ((spec_l20Rd_pick.f k s0_0 bt197.2 2).bind fun bt199 => (spec_l20Route.j0 k s0_0 bt199.2 (wrap64 ((rd y184 t187) - (Int.tmod (rd y184 t187) (ji13)))) (wrap64 (17 - (wrap64 (bt199.1 * 18)))) t190 (wrap64 (4 + (wrap64 (t192 * 6)))))) else (if bt197.1 = 1 then ((spec_l20Rd_pick.f k s0_0 bt197.2 2).bind fun bt201 => (spec_l20Route.j0 k s0_0 bt201.2 (wrap64 ((rd y184 t187) - (Int.tmod (rd y184 t187) (ji13)))) (rd y176 t179) t190 (wrap64 (bt201.1 * 49)))) else (spec_l20Route.j0 k s0_0 bt197.2 (wrap64 ((wrap64 ((rd y184 t187) - (Int.tmod (rd y184 t187) (ji13)))) + 1)) (rd y176 t179) t190 (wrap64 (4 + (wrap64 (t192 * 6)))))))) = some (r1, r2, r3, r4, r5) := by rw [if_pos rfl] at H; exact H
                  clear H
                  have H := H1
                  clear H1
                  replace H := Option.bind_eq_some_iff.mp H
                  obtain ⟨⟨t197, t198⟩, A410, H⟩ := H
                  replace H : (if t197 = 0 then ((spec_l20Rd_pick.f k s0_0 t198 2).bind fun bt199 => (spec_l20Route.j0 k s0_0 bt199.2 (wrap64 ((rd y184 t187) - (Int.tmod (rd y184 t187) (ji13)))) (wrap64 (17 - (wrap64 (bt199.1 * 18)))) t190 (wrap64 (4 + (wrap64 (t192 * 6)))))) else (if t197 = 1 then ((spec_l20Rd_pick.f k s0_0 t198 2).bind fun bt201 => (spec_l20Route.j0 k s0_0 bt201.2 (wrap64 ((rd y184 t187) - (Int.tmod (rd y184 t187) (ji13)))) (rd y176 t179) t190 (wrap64 (bt201.1 * 49)))) else (spec_l20Route.j0 k s0_0 t198 (wrap64 ((wrap64 ((rd y184 t187) - (Int.tmod (rd y184 t187) (ji13)))) + 1)) (rd y176 t179) t190 (wrap64 (4 + (wrap64 (t192 * 6))))))) = some (r1, r2, r3, r4, r5) := H
                  have A41 := Aside0.mk A410
                  clear A410
                  by_cases c42 : t197 = 0
                  · rw [if_pos c42] at H
                    have c42b0 : (t197 == 0) = true := beq_iff_eq.mpr c42
                    have c42b1 : (t197 != 0) = false := bne_eq_false_iff_eq.mpr c42
                    clear c42
                    (first | rw [c42b0] | (simp only [i64_w, i32_w]; rw [c42b0]) | skip)
                    replace H := Option.bind_eq_some_iff.mp H
                    obtain ⟨⟨t199, t200⟩, A430, H⟩ := H
                    replace H : (spec_l20Route.j0 k s0_0 t200 (wrap64 ((rd y184 t187) - (Int.tmod (rd y184 t187) (ji13)))) (wrap64 (17 - (wrap64 (t199 * 18)))) t190 (wrap64 (4 + (wrap64 (t192 * 6))))) = some (r1, r2, r3, r4, r5) := H
                    have A43 := Aside0.mk A430
                    clear A430
                    have H' := Aside0.mk H
                    clear H
                    go_wp2_with (first | ((with_reducible refine gate_callee (f := 103) rfl ?_); refine goesL_ (some 42) rfl rfl Try.func103 (by kernel_rfl) rfl #[.pointer (some ⟨g, 0, none⟩), .int .i64 3] rfl (by (try simp only [List.map_toArray, List.map_cons, List.map_nil]); first | done | rfl | (simp only [List.length_drop, List.length_take]; rfl)) ?_; (with_reducible refine (spec_l20Rd_pick.calls k g s0_0 t196 3 t197 t198 w0 _ ?side1 ?side2 A41.out).mono ?_); (case side1 => repeat (first | (with_reducible first | exact HI0.out | apply IsS152.alloc | apply IsS152.drewN | apply IsS152.drew | apply IsS152.set_1 | refine IsS152.far ?_ NB0_173.out _ | refine IsS152.far ?_ NB0_194.out _) | exact HI0.out)); (case side2 => repeat (first | (with_reducible first | exact HB.out | apply below_alloc | apply pw_below_drewN | apply below_drew1 | refine below_set ?_ (IsS152.ge HI0.out) | refine below_set ?_ GE173.out | refine below_set ?_ GE194.out) | exact HB.out)); rintro e w44 ⟨rfl, hi, hb, hk⟩; refine ⟨_, rfl, ?_⟩; have n0_ := Aside0.mk (KeepBut.blk hk (g' := gb173) (o := .cells #[.int .i64 0, .int .i64 0, .int .i64 0, .int .i64 0] 65 (0, 0)) (by (with_reducible repeat (first | refine blk_drewN ?_ _ | refine blk_drew ?_ | refine blk_alloc ?_ _)); exact BK173.out) NB173_0.out (by simp)); have n1_ := Aside0.mk (Kd.R_mono (Kd.R_keep (IsS152.apart (show IsS152 w0 _ g s0_0 t196 from by repeat (first | (with_reducible first | exact HI0.out | apply IsS152.alloc | apply IsS152.drewN | apply IsS152.drew | apply IsS152.set_1 | refine IsS152.far ?_ NB0_173.out _ | refine IsS152.far ?_ NB0_194.out _) | exact HI0.out)) (by (with_reducible repeat (first | apply Kd.R_alloc | apply Kd.R_drewN | apply Kd.R_drew)); exact HO178.out) (by decide)) hk (fun _ h => h.2)) (fun _ h => h.1)); have n2_ := Aside0.mk (Kd.R_mono (Kd.R_keep (IsS152.apart (show IsS152 w0 _ g s0_0 t196 from by repeat (first | (with_reducible first | exact HI0.out | apply IsS152.alloc | apply IsS152.drewN | apply IsS152.drew | apply IsS152.set_1 | refine IsS152.far ?_ NB0_173.out _ | refine IsS152.far ?_ NB0_194.out _) | exact HI0.out)) (by (with_reducible repeat (first | apply Kd.R_alloc | apply Kd.R_drewN | apply Kd.R_drew)); exact HO186.out) (by decide)) hk (fun _ h => h.2)) (fun _ h => h.1)); have n3_ := Aside0.mk (KeepBut.blk hk (g' := gb194) (o := .cells #[.int .i64 (wrap64 ((rd y184 t187) - (Int.tmod (rd y184 t187) (ji13)))), .int .i64 (rd y176 t179), .int .i64 t190, .int .i64 (wrap64 (4 + (wrap64 (t192 * 6))))] 65 (0, 0)) (by (with_reducible repeat (first | refine blk_drewN ?_ _ | refine blk_drew ?_ | refine blk_alloc ?_ _)); exact BK194.out) NB194_0.out (by simp)); have n4_ := Aside0.mk (KeepBut.trans (by repeat (first | (with_reducible first | exact HK.out | apply KeepBut.set_ | apply keep_drewN | apply keep_drew | apply keep_alloc | refine keep_far ?_ GW173.out _ | refine keep_far ?_ GW194.out _) | exact HK.out)) hk (.inl rfl)); have n5_ := Aside0.mk (hb); have n6_ := Aside0.mk (hi); clear BK173; clear HO178; clear HO186; clear BK194; clear HK; clear HB; clear HI0; have BK173 := n0_; have HO178 := n1_; have HO186 := n2_; have BK194 := n3_; have HK := n4_; have HB := n5_; have HI0 := n6_; clear n0_ n1_ n2_ n3_ n4_ n5_ n6_; (try clear hb); (try clear hb2); (try clear hk); (try clear hi)) | ((with_reducible refine gate_callee (f := 103) rfl ?_); refine goesL_ (some 50) rfl rfl Try.func103 (by kernel_rfl) rfl #[.pointer (some ⟨g, 0, none⟩), .int .i64 2] rfl (by (try simp only [List.map_toArray, List.map_cons, List.map_nil]); first | done | rfl | (simp only [List.length_drop, List.length_take]; rfl)) ?_; (with_reducible refine (spec_l20Rd_pick.calls k g s0_0 t198 2 t199 t200 w0 _ ?side1 ?side2 A43.out).mono ?_); (case side1 => repeat (first | (with_reducible first | exact HI0.out | apply IsS152.alloc | apply IsS152.drewN | apply IsS152.drew | apply IsS152.set_1 | refine IsS152.far ?_ NB0_173.out _ | refine IsS152.far ?_ NB0_194.out _) | exact HI0.out)); (case side2 => repeat (first | (with_reducible first | exact HB.out | apply below_alloc | apply pw_below_drewN | apply below_drew1 | refine below_set ?_ (IsS152.ge HI0.out) | refine below_set ?_ GE173.out | refine below_set ?_ GE194.out) | exact HB.out)); rintro e w45 ⟨rfl, hi, hb, hk⟩; refine ⟨_, rfl, ?_⟩; have n0_ := Aside0.mk (KeepBut.blk hk (g' := gb173) (o := .cells #[.int .i64 0, .int .i64 0, .int .i64 0, .int .i64 0] 65 (0, 0)) (by (with_reducible repeat (first | refine blk_drewN ?_ _ | refine blk_drew ?_ | refine blk_alloc ?_ _)); exact BK173.out) NB173_0.out (by simp)); have n1_ := Aside0.mk (Kd.R_mono (Kd.R_keep (IsS152.apart (show IsS152 w0 _ g s0_0 t198 from by repeat (first | (with_reducible first | exact HI0.out | apply IsS152.alloc | apply IsS152.drewN | apply IsS152.drew | apply IsS152.set_1 | refine IsS152.far ?_ NB0_173.out _ | refine IsS152.far ?_ NB0_194.out _) | exact HI0.out)) (by (with_reducible repeat (first | apply Kd.R_alloc | apply Kd.R_drewN | apply Kd.R_drew)); exact HO178.out) (by decide)) hk (fun _ h => h.2)) (fun _ h => h.1)); have n2_ := Aside0.mk (Kd.R_mono (Kd.R_keep (IsS152.apart (show IsS152 w0 _ g s0_0 t198 from by repeat (first | (with_reducible first | exact HI0.out | apply IsS152.alloc | apply IsS152.drewN | apply IsS152.drew | apply IsS152.set_1 | refine IsS152.far ?_ NB0_173.out _ | refine IsS152.far ?_ NB0_194.out _) | exact HI0.out)) (by (with_reducible repeat (first | apply Kd.R_alloc | apply Kd.R_drewN | apply Kd.R_drew)); exact HO186.out) (by decide)) hk (fun _ h => h.2)) (fun _ h => h.1)); have n3_ := Aside0.mk (KeepBut.blk hk (g' := gb194) (o := .cells #[.int .i64 (wrap64 ((rd y184 t187) - (Int.tmod (rd y184 t187) (ji13)))), .int .i64 (rd y176 t179), .int .i64 t190, .int .i64 (wrap64 (4 + (wrap64 (t192 * 6))))] 65 (0, 0)) (by (with_reducible repeat (first | refine blk_drewN ?_ _ | refine blk_drew ?_ | refine blk_alloc ?_ _)); exact BK194.out) NB194_0.out (by simp)); have n4_ := Aside0.mk (KeepBut.trans (by repeat (first | (with_reducible first | exact HK.out | apply KeepBut.set_ | apply keep_drewN | apply keep_drew | apply keep_alloc | refine keep_far ?_ GW173.out _ | refine keep_far ?_ GW194.out _) | exact HK.out)) hk (.inl rfl)); have n5_ := Aside0.mk (hb); have n6_ := Aside0.mk (hi); clear BK173; clear HO178; clear HO186; clear BK194; clear HK; clear HB; clear HI0; have BK173 := n0_; have HO178 := n1_; have HO186 := n2_; have BK194 := n3_; have HK := n4_; have HB := n5_; have HI0 := n6_; clear n0_ n1_ n2_ n3_ n4_ n5_ n6_; (try clear hb); (try clear hb2); (try clear hk); (try clear hi); have hnb46 := NB194_173.out; have hnc46 := NB173_194.out; have hnb47 := NB194_0.out; have hnc47 := NB0_194.out; have hcz48_0 : w45.cell? ⟨gb194, 0, none⟩ = some (.int .i64 (wrap64 ((rd y184 t187) - (Int.tmod (rd y184 t187) (ji13))))) := (blk_cell BK194.out 0).trans rfl; have hcz48_1 : w45.cell? ⟨gb194, 1, none⟩ = some (.int .i64 (rd y176 t179)) := (blk_cell BK194.out 1).trans rfl; have hcz48_2 : w45.cell? ⟨gb194, 2, none⟩ = some (.int .i64 t190) := (blk_cell BK194.out 2).trans rfl; have hcz48_3 : w45.cell? ⟨gb194, 3, none⟩ = some (.int .i64 (wrap64 (4 + (wrap64 (t192 * 6))))) := (blk_cell BK194.out 3).trans rfl; have hfz48_0 := blk_frozen BK194.out 0; have hfz48_1 := blk_frozen BK194.out 1; have hfz48_2 := blk_frozen BK194.out 2; have hfz48_3 := blk_frozen BK194.out 3))
                    go_meet
                    case rel => exact ⟨_, (t200), (wrap64 ((rd y184 t187) - (Int.tmod (rd y184 t187) (ji13)))), (wrap64 (17 - (wrap64 (t199 * 18)))), (wrap64 (4 + (wrap64 (t192 * 6)))), H', ⟨by first | omega | exact Nat.le_refl _⟩, ⟨by (with_reducible repeat (first | refine blk_drewN ?_ _ | refine blk_drew ?_ | refine blk_alloc ?_ _)); refine blk_far ?_ NB173_194.out _; (with_reducible repeat (first | refine blk_drewN ?_ _ | refine blk_drew ?_ | refine blk_alloc ?_ _)); exact BK173.out⟩, ⟨by (with_reducible repeat (first | refine blk_drewN ?_ _ | refine blk_drew ?_ | refine blk_alloc ?_ _)); refine blk_put (cs := #[.int .i64 (wrap64 ((rd y184 t187) - (Int.tmod (rd y184 t187) (ji13)))), .int .i64 (rd y176 t179), .int .i64 t190, .int .i64 (wrap64 (4 + (wrap64 (t192 * 6))))]) ?_ 1 _ rfl; (with_reducible repeat (first | refine blk_drewN ?_ _ | refine blk_drew ?_ | refine blk_alloc ?_ _)); exact BK194.out⟩, ⟨by repeat (first | (with_reducible first | exact HI0.out | apply IsS152.alloc | apply IsS152.drewN | apply IsS152.drew | apply IsS152.set_1 | refine IsS152.far ?_ NB0_173.out _ | refine IsS152.far ?_ NB0_194.out _) | exact HI0.out)⟩, ⟨by repeat (first | (with_reducible first | exact HK.out | apply KeepBut.set_ | apply keep_drewN | apply keep_drew | apply keep_alloc | refine keep_far ?_ GW173.out _ | refine keep_far ?_ GW194.out _) | exact HK.out)⟩, ⟨by repeat (first | (with_reducible first | exact HB.out | apply below_alloc | apply pw_below_drewN | apply below_drew1 | refine below_set ?_ (IsS152.ge HI0.out) | refine below_set ?_ GE173.out | refine below_set ?_ GE194.out) | exact HB.out)⟩⟩
                  · rw [if_neg c42] at H
                    have c42b0 : (t197 == 0) = false := beq_eq_false_iff_ne.mpr c42
                    have c42b1 : (t197 != 0) = true := bne_iff_ne.mpr c42
                    (first | rw [c42b0] | (simp only [i64_w, i32_w]; rw [c42b0]) | skip)
                    by_cases c49 : t197 = 1
                    · rw [if_pos c49] at H
                      have c49b0 : (t197 == 1) = true := beq_iff_eq.mpr c49
                      have c49b1 : (t197 != 1) = false := bne_eq_false_iff_eq.mpr c49
                      clear c49
                      replace H := Option.bind_eq_some_iff.mp H
                      obtain ⟨⟨t201, t202⟩, A500, H⟩ := H
                      replace H : (spec_l20Route.j0 k s0_0 t202 (wrap64 ((rd y184 t187) - (Int.tmod (rd y184 t187) (ji13)))) (rd y176 t179) t190 (wrap64 (t201 * 49))) = some (r1, r2, r3, r4, r5) := H
                      have A50 := Aside0.mk A500
                      clear A500
                      have H' := Aside0.mk H
                      clear H
                      go_wp2_with (first | ((with_reducible refine gate_callee (f := 103) rfl ?_); refine goesL_ (some 42) rfl rfl Try.func103 (by kernel_rfl) rfl #[.pointer (some ⟨g, 0, none⟩), .int .i64 3] rfl (by (try simp only [List.map_toArray, List.map_cons, List.map_nil]); first | done | rfl | (simp only [List.length_drop, List.length_take]; rfl)) ?_; (with_reducible refine (spec_l20Rd_pick.calls k g s0_0 t196 3 t197 t198 w0 _ ?side1 ?side2 A41.out).mono ?_); (case side1 => repeat (first | (with_reducible first | exact HI0.out | apply IsS152.alloc | apply IsS152.drewN | apply IsS152.drew | apply IsS152.set_1 | refine IsS152.far ?_ NB0_173.out _ | refine IsS152.far ?_ NB0_194.out _) | exact HI0.out)); (case side2 => repeat (first | (with_reducible first | exact HB.out | apply below_alloc | apply pw_below_drewN | apply below_drew1 | refine below_set ?_ (IsS152.ge HI0.out) | refine below_set ?_ GE173.out | refine below_set ?_ GE194.out) | exact HB.out)); rintro e w51 ⟨rfl, hi, hb, hk⟩; refine ⟨_, rfl, ?_⟩; have n0_ := Aside0.mk (KeepBut.blk hk (g' := gb173) (o := .cells #[.int .i64 0, .int .i64 0, .int .i64 0, .int .i64 0] 65 (0, 0)) (by (with_reducible repeat (first | refine blk_drewN ?_ _ | refine blk_drew ?_ | refine blk_alloc ?_ _)); exact BK173.out) NB173_0.out (by simp)); have n1_ := Aside0.mk (Kd.R_mono (Kd.R_keep (IsS152.apart (show IsS152 w0 _ g s0_0 t196 from by repeat (first | (with_reducible first | exact HI0.out | apply IsS152.alloc | apply IsS152.drewN | apply IsS152.drew | apply IsS152.set_1 | refine IsS152.far ?_ NB0_173.out _ | refine IsS152.far ?_ NB0_194.out _) | exact HI0.out)) (by (with_reducible repeat (first | apply Kd.R_alloc | apply Kd.R_drewN | apply Kd.R_drew)); exact HO178.out) (by decide)) hk (fun _ h => h.2)) (fun _ h => h.1)); have n2_ := Aside0.mk (Kd.R_mono (Kd.R_keep (IsS152.apart (show IsS152 w0 _ g s0_0 t196 from by repeat (first | (with_reducible first | exact HI0.out | apply IsS152.alloc | apply IsS152.drewN | apply IsS152.drew | apply IsS152.set_1 | refine IsS152.far ?_ NB0_173.out _ | refine IsS152.far ?_ NB0_194.out _) | exact HI0.out)) (by (with_reducible repeat (first | apply Kd.R_alloc | apply Kd.R_drewN | apply Kd.R_drew)); exact HO186.out) (by decide)) hk (fun _ h => h.2)) (fun _ h => h.1)); have n3_ := Aside0.mk (KeepBut.blk hk (g' := gb194) (o := .cells #[.int .i64 (wrap64 ((rd y184 t187) - (Int.tmod (rd y184 t187) (ji13)))), .int .i64 (rd y176 t179), .int .i64 t190, .int .i64 (wrap64 (4 + (wrap64 (t192 * 6))))] 65 (0, 0)) (by (with_reducible repeat (first | refine blk_drewN ?_ _ | refine blk_drew ?_ | refine blk_alloc ?_ _)); exact BK194.out) NB194_0.out (by simp)); have n4_ := Aside0.mk (KeepBut.trans (by repeat (first | (with_reducible first | exact HK.out | apply KeepBut.set_ | apply keep_drewN | apply keep_drew | apply keep_alloc | refine keep_far ?_ GW173.out _ | refine keep_far ?_ GW194.out _) | exact HK.out)) hk (.inl rfl)); have n5_ := Aside0.mk (hb); have n6_ := Aside0.mk (hi); clear BK173; clear HO178; clear HO186; clear BK194; clear HK; clear HB; clear HI0; have BK173 := n0_; have HO178 := n1_; have HO186 := n2_; have BK194 := n3_; have HK := n4_; have HB := n5_; have HI0 := n6_; clear n0_ n1_ n2_ n3_ n4_ n5_ n6_; (try clear hb); (try clear hb2); (try clear hk); (try clear hi)) | ((with_reducible refine gate_callee (f := 103) rfl ?_); refine goesL_ (some 57) rfl rfl Try.func103 (by kernel_rfl) rfl #[.pointer (some ⟨g, 0, none⟩), .int .i64 2] rfl (by (try simp only [List.map_toArray, List.map_cons, List.map_nil]); first | done | rfl | (simp only [List.length_drop, List.length_take]; rfl)) ?_; (with_reducible refine (spec_l20Rd_pick.calls k g s0_0 t198 2 t201 t202 w0 _ ?side1 ?side2 A50.out).mono ?_); (case side1 => repeat (first | (with_reducible first | exact HI0.out | apply IsS152.alloc | apply IsS152.drewN | apply IsS152.drew | apply IsS152.set_1 | refine IsS152.far ?_ NB0_173.out _ | refine IsS152.far ?_ NB0_194.out _) | exact HI0.out)); (case side2 => repeat (first | (with_reducible first | exact HB.out | apply below_alloc | apply pw_below_drewN | apply below_drew1 | refine below_set ?_ (IsS152.ge HI0.out) | refine below_set ?_ GE173.out | refine below_set ?_ GE194.out) | exact HB.out)); rintro e w52 ⟨rfl, hi, hb, hk⟩; refine ⟨_, rfl, ?_⟩; have n0_ := Aside0.mk (KeepBut.blk hk (g' := gb173) (o := .cells #[.int .i64 0, .int .i64 0, .int .i64 0, .int .i64 0] 65 (0, 0)) (by (with_reducible repeat (first | refine blk_drewN ?_ _ | refine blk_drew ?_ | refine blk_alloc ?_ _)); exact BK173.out) NB173_0.out (by simp)); have n1_ := Aside0.mk (Kd.R_mono (Kd.R_keep (IsS152.apart (show IsS152 w0 _ g s0_0 t198 from by repeat (first | (with_reducible first | exact HI0.out | apply IsS152.alloc | apply IsS152.drewN | apply IsS152.drew | apply IsS152.set_1 | refine IsS152.far ?_ NB0_173.out _ | refine IsS152.far ?_ NB0_194.out _) | exact HI0.out)) (by (with_reducible repeat (first | apply Kd.R_alloc | apply Kd.R_drewN | apply Kd.R_drew)); exact HO178.out) (by decide)) hk (fun _ h => h.2)) (fun _ h => h.1)); have n2_ := Aside0.mk (Kd.R_mono (Kd.R_keep (IsS152.apart (show IsS152 w0 _ g s0_0 t198 from by repeat (first | (with_reducible first | exact HI0.out | apply IsS152.alloc | apply IsS152.drewN | apply IsS152.drew | apply IsS152.set_1 | refine IsS152.far ?_ NB0_173.out _ | refine IsS152.far ?_ NB0_194.out _) | exact HI0.out)) (by (with_reducible repeat (first | apply Kd.R_alloc | apply Kd.R_drewN | apply Kd.R_drew)); exact HO186.out) (by decide)) hk (fun _ h => h.2)) (fun _ h => h.1)); have n3_ := Aside0.mk (KeepBut.blk hk (g' := gb194) (o := .cells #[.int .i64 (wrap64 ((rd y184 t187) - (Int.tmod (rd y184 t187) (ji13)))), .int .i64 (rd y176 t179), .int .i64 t190, .int .i64 (wrap64 (4 + (wrap64 (t192 * 6))))] 65 (0, 0)) (by (with_reducible repeat (first | refine blk_drewN ?_ _ | refine blk_drew ?_ | refine blk_alloc ?_ _)); exact BK194.out) NB194_0.out (by simp)); have n4_ := Aside0.mk (KeepBut.trans (by repeat (first | (with_reducible first | exact HK.out | apply KeepBut.set_ | apply keep_drewN | apply keep_drew | apply keep_alloc | refine keep_far ?_ GW173.out _ | refine keep_far ?_ GW194.out _) | exact HK.out)) hk (.inl rfl)); have n5_ := Aside0.mk (hb); have n6_ := Aside0.mk (hi); clear BK173; clear HO178; clear HO186; clear BK194; clear HK; clear HB; clear HI0; have BK173 := n0_; have HO178 := n1_; have HO186 := n2_; have BK194 := n3_; have HK := n4_; have HB := n5_; have HI0 := n6_; clear n0_ n1_ n2_ n3_ n4_ n5_ n6_; (try clear hb); (try clear hb2); (try clear hk); (try clear hi); have hnb53 := NB194_173.out; have hnc53 := NB173_194.out; have hnb54 := NB194_0.out; have hnc54 := NB0_194.out; have hcz55_0 : w52.cell? ⟨gb194, 0, none⟩ = some (.int .i64 (wrap64 ((rd y184 t187) - (Int.tmod (rd y184 t187) (ji13))))) := (blk_cell BK194.out 0).trans rfl; have hcz55_1 : w52.cell? ⟨gb194, 1, none⟩ = some (.int .i64 (rd y176 t179)) := (blk_cell BK194.out 1).trans rfl; have hcz55_2 : w52.cell? ⟨gb194, 2, none⟩ = some (.int .i64 t190) := (blk_cell BK194.out 2).trans rfl; have hcz55_3 : w52.cell? ⟨gb194, 3, none⟩ = some (.int .i64 (wrap64 (4 + (wrap64 (t192 * 6))))) := (blk_cell BK194.out 3).trans rfl; have hfz55_0 := blk_frozen BK194.out 0; have hfz55_1 := blk_frozen BK194.out 1; have hfz55_2 := blk_frozen BK194.out 2; have hfz55_3 := blk_frozen BK194.out 3))
                      go_meet
                      case rel => exact ⟨_, (t202), (wrap64 ((rd y184 t187) - (Int.tmod (rd y184 t187) (ji13)))), (rd y176 t179), (wrap64 (t201 * 49)), H', ⟨by first | omega | exact Nat.le_refl _⟩, ⟨by (with_reducible repeat (first | refine blk_drewN ?_ _ | refine blk_drew ?_ | refine blk_alloc ?_ _)); refine blk_far ?_ NB173_194.out _; (with_reducible repeat (first | refine blk_drewN ?_ _ | refine blk_drew ?_ | refine blk_alloc ?_ _)); exact BK173.out⟩, ⟨by (with_reducible repeat (first | refine blk_drewN ?_ _ | refine blk_drew ?_ | refine blk_alloc ?_ _)); refine blk_put (cs := #[.int .i64 (wrap64 ((rd y184 t187) - (Int.tmod (rd y184 t187) (ji13)))), .int .i64 (rd y176 t179), .int .i64 t190, .int .i64 (wrap64 (4 + (wrap64 (t192 * 6))))]) ?_ 3 _ rfl; (with_reducible repeat (first | refine blk_drewN ?_ _ | refine blk_drew ?_ | refine blk_alloc ?_ _)); exact BK194.out⟩, ⟨by repeat (first | (with_reducible first | exact HI0.out | apply IsS152.alloc | apply IsS152.drewN | apply IsS152.drew | apply IsS152.set_1 | refine IsS152.far ?_ NB0_173.out _ | refine IsS152.far ?_ NB0_194.out _) | exact HI0.out)⟩, ⟨by repeat (first | (with_reducible first | exact HK.out | apply KeepBut.set_ | apply keep_drewN | apply keep_drew | apply keep_alloc | refine keep_far ?_ GW173.out _ | refine keep_far ?_ GW194.out _) | exact HK.out)⟩, ⟨by repeat (first | (with_reducible first | exact HB.out | apply below_alloc | apply pw_below_drewN | apply below_drew1 | refine below_set ?_ (IsS152.ge HI0.out) | refine below_set ?_ GE173.out | refine below_set ?_ GE194.out) | exact HB.out)⟩⟩
                    · rw [if_neg c49] at H
                      have c49b0 : (t197 == 1) = false := beq_eq_false_iff_ne.mpr c49
                      have c49b1 : (t197 != 1) = true := bne_iff_ne.mpr c49
                      have H' := Aside0.mk H
                      clear H
                      go_wp2_with (first | ((with_reducible refine gate_callee (f := 103) rfl ?_); refine goesL_ (some 42) rfl rfl Try.func103 (by kernel_rfl) rfl #[.pointer (some ⟨g, 0, none⟩), .int .i64 3] rfl (by (try simp only [List.map_toArray, List.map_cons, List.map_nil]); first | done | rfl | (simp only [List.length_drop, List.length_take]; rfl)) ?_; (with_reducible refine (spec_l20Rd_pick.calls k g s0_0 t196 3 t197 t198 w0 _ ?side1 ?side2 A41.out).mono ?_); (case side1 => repeat (first | (with_reducible first | exact HI0.out | apply IsS152.alloc | apply IsS152.drewN | apply IsS152.drew | apply IsS152.set_1 | refine IsS152.far ?_ NB0_173.out _ | refine IsS152.far ?_ NB0_194.out _) | exact HI0.out)); (case side2 => repeat (first | (with_reducible first | exact HB.out | apply below_alloc | apply pw_below_drewN | apply below_drew1 | refine below_set ?_ (IsS152.ge HI0.out) | refine below_set ?_ GE173.out | refine below_set ?_ GE194.out) | exact HB.out)); rintro e w56 ⟨rfl, hi, hb, hk⟩; refine ⟨_, rfl, ?_⟩; have n0_ := Aside0.mk (KeepBut.blk hk (g' := gb173) (o := .cells #[.int .i64 0, .int .i64 0, .int .i64 0, .int .i64 0] 65 (0, 0)) (by (with_reducible repeat (first | refine blk_drewN ?_ _ | refine blk_drew ?_ | refine blk_alloc ?_ _)); exact BK173.out) NB173_0.out (by simp)); have n1_ := Aside0.mk (Kd.R_mono (Kd.R_keep (IsS152.apart (show IsS152 w0 _ g s0_0 t196 from by repeat (first | (with_reducible first | exact HI0.out | apply IsS152.alloc | apply IsS152.drewN | apply IsS152.drew | apply IsS152.set_1 | refine IsS152.far ?_ NB0_173.out _ | refine IsS152.far ?_ NB0_194.out _) | exact HI0.out)) (by (with_reducible repeat (first | apply Kd.R_alloc | apply Kd.R_drewN | apply Kd.R_drew)); exact HO178.out) (by decide)) hk (fun _ h => h.2)) (fun _ h => h.1)); have n2_ := Aside0.mk (Kd.R_mono (Kd.R_keep (IsS152.apart (show IsS152 w0 _ g s0_0 t196 from by repeat (first | (with_reducible first | exact HI0.out | apply IsS152.alloc | apply IsS152.drewN | apply IsS152.drew | apply IsS152.set_1 | refine IsS152.far ?_ NB0_173.out _ | refine IsS152.far ?_ NB0_194.out _) | exact HI0.out)) (by (with_reducible repeat (first | apply Kd.R_alloc | apply Kd.R_drewN | apply Kd.R_drew)); exact HO186.out) (by decide)) hk (fun _ h => h.2)) (fun _ h => h.1)); have n3_ := Aside0.mk (KeepBut.blk hk (g' := gb194) (o := .cells #[.int .i64 (wrap64 ((rd y184 t187) - (Int.tmod (rd y184 t187) (ji13)))), .int .i64 (rd y176 t179), .int .i64 t190, .int .i64 (wrap64 (4 + (wrap64 (t192 * 6))))] 65 (0, 0)) (by (with_reducible repeat (first | refine blk_drewN ?_ _ | refine blk_drew ?_ | refine blk_alloc ?_ _)); exact BK194.out) NB194_0.out (by simp)); have n4_ := Aside0.mk (KeepBut.trans (by repeat (first | (with_reducible first | exact HK.out | apply KeepBut.set_ | apply keep_drewN | apply keep_drew | apply keep_alloc | refine keep_far ?_ GW173.out _ | refine keep_far ?_ GW194.out _) | exact HK.out)) hk (.inl rfl)); have n5_ := Aside0.mk (hb); have n6_ := Aside0.mk (hi); clear BK173; clear HO178; clear HO186; clear BK194; clear HK; clear HB; clear HI0; have BK173 := n0_; have HO178 := n1_; have HO186 := n2_; have BK194 := n3_; have HK := n4_; have HB := n5_; have HI0 := n6_; clear n0_ n1_ n2_ n3_ n4_ n5_ n6_; (try clear hb); (try clear hb2); (try clear hk); (try clear hi); have hnb57 := NB194_173.out; have hnc57 := NB173_194.out; have hnb58 := NB194_0.out; have hnc58 := NB0_194.out; have hcz59_0 : w56.cell? ⟨gb194, 0, none⟩ = some (.int .i64 (wrap64 ((rd y184 t187) - (Int.tmod (rd y184 t187) (ji13))))) := (blk_cell BK194.out 0).trans rfl; have hcz59_1 : w56.cell? ⟨gb194, 1, none⟩ = some (.int .i64 (rd y176 t179)) := (blk_cell BK194.out 1).trans rfl; have hcz59_2 : w56.cell? ⟨gb194, 2, none⟩ = some (.int .i64 t190) := (blk_cell BK194.out 2).trans rfl; have hcz59_3 : w56.cell? ⟨gb194, 3, none⟩ = some (.int .i64 (wrap64 (4 + (wrap64 (t192 * 6))))) := (blk_cell BK194.out 3).trans rfl; have hfz59_0 := blk_frozen BK194.out 0; have hfz59_1 := blk_frozen BK194.out 1; have hfz59_2 := blk_frozen BK194.out 2; have hfz59_3 := blk_frozen BK194.out 3))
                      go_meet
                      case rel => exact ⟨_, (t198), (wrap64 ((wrap64 ((rd y184 t187) - (Int.tmod (rd y184 t187) (ji13)))) + 1)), (rd y176 t179), (wrap64 (4 + (wrap64 (t192 * 6)))), H', ⟨by first | omega | exact Nat.le_refl _⟩, ⟨by (with_reducible repeat (first | refine blk_drewN ?_ _ | refine blk_drew ?_ | refine blk_alloc ?_ _)); refine blk_far ?_ NB173_194.out _; (with_reducible repeat (first | refine blk_drewN ?_ _ | refine blk_drew ?_ | refine blk_alloc ?_ _)); exact BK173.out⟩, ⟨by (with_reducible repeat (first | refine blk_drewN ?_ _ | refine blk_drew ?_ | refine blk_alloc ?_ _)); refine blk_put (cs := #[.int .i64 (wrap64 ((rd y184 t187) - (Int.tmod (rd y184 t187) (ji13)))), .int .i64 (rd y176 t179), .int .i64 t190, .int .i64 (wrap64 (4 + (wrap64 (t192 * 6))))]) ?_ 0 _ rfl; (with_reducible repeat (first | refine blk_drewN ?_ _ | refine blk_drew ?_ | refine blk_alloc ?_ _)); exact BK194.out⟩, ⟨by repeat (first | (with_reducible first | exact HI0.out | apply IsS152.alloc | apply IsS152.drewN | apply IsS152.drew | apply IsS152.set_1 | refine IsS152.far ?_ NB0_173.out _ | refine IsS152.far ?_ NB0_194.out _) | exact HI0.out)⟩, ⟨by repeat (first | (with_reducible first | exact HK.out | apply KeepBut.set_ | apply keep_drewN | apply keep_drew | apply keep_alloc | refine keep_far ?_ GW173.out _ | refine keep_far ?_ GW194.out _) | exact HK.out)⟩, ⟨by repeat (first | (with_reducible first | exact HB.out | apply below_alloc | apply pw_below_drewN | apply below_drew1 | refine below_set ?_ (IsS152.ge HI0.out) | refine below_set ?_ GE173.out | refine below_set ?_ GE194.out) | exact HB.out)⟩⟩
                · replace c40 := Bool.eq_false_iff.mpr c40
                  subst c40
                  have H1 : (spec_l20Route.j0 k s0_0 t196 (wrap64 ((rd y184 t187) - (Int.tmod (rd y184 t187) (ji13)))) (rd y176 t179) t190 (wrap64 (4 + (wrap64 (t192 * 6))))) = some (r1, r2, r3, r4, r5) := by rw [if_neg (show ¬ (false = true) by decide)] at H; exact H
                  clear H
                  have H := H1
                  clear H1
                  have H' := Aside0.mk H
                  clear H
                  go_wp2
                  go_meet
                  case rel => exact ⟨_, (t196), (wrap64 ((rd y184 t187) - (Int.tmod (rd y184 t187) (ji13)))), (rd y176 t179), (wrap64 (4 + (wrap64 (t192 * 6)))), H', ⟨by first | omega | exact Nat.le_refl _⟩, ⟨by (with_reducible repeat (first | refine blk_drewN ?_ _ | refine blk_drew ?_ | refine blk_alloc ?_ _)); exact BK173.out⟩, ⟨by (with_reducible repeat (first | refine blk_drewN ?_ _ | refine blk_drew ?_ | refine blk_alloc ?_ _)); exact BK194.out⟩, ⟨by repeat (first | (with_reducible first | exact HI0.out | apply IsS152.alloc | apply IsS152.drewN | apply IsS152.drew | apply IsS152.set_1 | refine IsS152.far ?_ NB0_173.out _ | refine IsS152.far ?_ NB0_194.out _) | exact HI0.out)⟩, ⟨by repeat (first | (with_reducible first | exact HK.out | apply KeepBut.set_ | apply keep_drewN | apply keep_drew | apply keep_alloc | refine keep_far ?_ GW173.out _ | refine keep_far ?_ GW194.out _) | exact HK.out)⟩, ⟨by repeat (first | (with_reducible first | exact HB.out | apply below_alloc | apply pw_below_drewN | apply below_drew1 | refine below_set ?_ (IsS152.ge HI0.out) | refine below_set ?_ GE173.out | refine below_set ?_ GE194.out) | exact HB.out)⟩⟩
              case rest =>
                clear HC18
                try clear c1
                try clear p2
                try clear c4
                try clear c5
                try clear p6
                try clear c10
                try clear c12
                try clear c40
                try clear c42
                try clear c42b0
                try clear c42b1
                try clear c46
                try clear c47
                try clear c49
                try clear c49b0
                try clear c49b1
                try clear c53
                try clear c54
                try clear c57
                try clear c58
                try clear hcz48_0
                try clear hcz48_1
                try clear hcz48_2
                try clear hcz48_3
                try clear hcz55_0
                try clear hcz55_1
                try clear hcz55_2
                try clear hcz55_3
                try clear hcz59_0
                try clear hcz59_1
                try clear hcz59_2
                try clear hcz59_3
                try clear hfz48_0
                try clear hfz48_1
                try clear hfz48_2
                try clear hfz48_3
                try clear hfz55_0
                try clear hfz55_1
                try clear hfz55_2
                try clear hfz55_3
                try clear hfz59_0
                try clear hfz59_1
                try clear hfz59_2
                try clear hfz59_3
                obtain ⟨kq, x1001_17, x195000_17, x195001_17, x195003_17, HA, HJ17, BK173, BK194, HI0, HK, HB⟩ := hcut
                cases kq with
                | zero => exact absurd HA.out (by simp [spec_l20Route.j0])
                | succ kj17 =>
                  have H := HA.out
                  clear HA
                  simp only [spec_l20Route.j0] at H
                  simp only [Option.some.injEq, Prod.mk.injEq] at H
                  obtain ⟨rfl, rfl, rfl, rfl, rfl⟩ := H
                  have hnb60 := NB194_173.out
                  have hnc60 := NB173_194.out
                  have hnb61 := NB194_0.out
                  have hnc61 := NB0_194.out
                  have hcz62_0 : wc.cell? ⟨gb194, 0, none⟩ = some (.int .i64 x195000_17) := (blk_cell BK194.out 0).trans rfl
                  have hcz62_1 : wc.cell? ⟨gb194, 1, none⟩ = some (.int .i64 x195001_17) := (blk_cell BK194.out 1).trans rfl
                  have hcz62_2 : wc.cell? ⟨gb194, 2, none⟩ = some (.int .i64 t190) := (blk_cell BK194.out 2).trans rfl
                  have hcz62_3 : wc.cell? ⟨gb194, 3, none⟩ = some (.int .i64 x195003_17) := (blk_cell BK194.out 3).trans rfl
                  have hfz62_0 := blk_frozen BK194.out 0
                  have hfz62_1 := blk_frozen BK194.out 1
                  have hfz62_2 := blk_frozen BK194.out 2
                  have hfz62_3 := blk_frozen BK194.out 3
                  have hnb63 := NB173_0.out
                  have hnc63 := NB0_173.out
                  have hcz64_0 : wc.cell? ⟨gb173, 0, none⟩ = some (.int .i64 0) := (blk_cell BK173.out 0).trans rfl
                  have hcz64_1 : wc.cell? ⟨gb173, 1, none⟩ = some (.int .i64 0) := (blk_cell BK173.out 1).trans rfl
                  have hcz64_2 : wc.cell? ⟨gb173, 2, none⟩ = some (.int .i64 0) := (blk_cell BK173.out 2).trans rfl
                  have hcz64_3 : wc.cell? ⟨gb173, 3, none⟩ = some (.int .i64 0) := (blk_cell BK173.out 3).trans rfl
                  have hfz64_0 := blk_frozen BK173.out 0
                  have hfz64_1 := blk_frozen BK173.out 1
                  have hfz64_2 := blk_frozen BK173.out 2
                  have hfz64_3 := blk_frozen BK173.out 3
                  go_wp2
                  refine bodyPost_ret (results_cell_row rfl _ _ gb173 65 #[.int .i64 x195000_17, .int .i64 x195001_17, .int .i64 t190, .int .i64 x195003_17] (0, 0) _ rfl (by (with_reducible repeat (first | refine blk_drewN ?_ _ | refine blk_drew ?_ | refine blk_alloc ?_ _)); refine blk_put (cs := #[.int .i64 x195000_17, .int .i64 x195001_17, .int .i64 t190, .int .i64 0]) ?_ 3 _ rfl; (with_reducible repeat (first | refine blk_drewN ?_ _ | refine blk_drew ?_ | refine blk_alloc ?_ _)); refine blk_put (cs := #[.int .i64 x195000_17, .int .i64 x195001_17, .int .i64 0, .int .i64 0]) ?_ 2 _ rfl; (with_reducible repeat (first | refine blk_drewN ?_ _ | refine blk_drew ?_ | refine blk_alloc ?_ _)); refine blk_put (cs := #[.int .i64 x195000_17, .int .i64 0, .int .i64 0, .int .i64 0]) ?_ 1 _ rfl; (with_reducible repeat (first | refine blk_drewN ?_ _ | refine blk_drew ?_ | refine blk_alloc ?_ _)); refine blk_put (cs := #[.int .i64 0, .int .i64 0, .int .i64 0, .int .i64 0]) ?_ 0 _ rfl; (with_reducible repeat (first | refine blk_drewN ?_ _ | refine blk_drew ?_ | refine blk_alloc ?_ _)); exact BK173.out) Try.underlying65 rfl (by kernel_rfl)) rfl ?_
                  exact ⟨by first | rfl | (simp [errW_none, errW_some] <;> rfl) | (simp only [← hji11, ← hji13]; first | rfl | (simp [errW_none, errW_some] <;> rfl)) | (simp [*, errW_none, errW_some] <;> rfl), by repeat (first | (with_reducible first | exact HI0.out | apply IsS152.alloc | apply IsS152.drewN | apply IsS152.drew | apply IsS152.set_1 | refine IsS152.far ?_ NB0_173.out _ | refine IsS152.far ?_ NB0_194.out _) | exact HI0.out), by repeat (first | (with_reducible first | exact HB.out | apply below_alloc | apply pw_below_drewN | apply below_drew1 | refine below_set ?_ (IsS152.ge HI0.out) | refine below_set ?_ GE173.out | refine below_set ?_ GE194.out) | exact HB.out), by repeat (first | (with_reducible first | exact HK.out | apply KeepBut.set_ | apply keep_drewN | apply keep_drew | apply keep_alloc | refine keep_far ?_ GW173.out _ | refine keep_far ?_ GW194.out _) | exact HK.out)⟩
          · rw [if_neg c12] at H
            exact absurd H (by simp)
        · rw [if_neg c10] at H
          exact absurd H (by simp)
      · rw [if_neg c9] at H
        exact absurd H (by simp)
    · rw [if_neg c6] at H
      exact absurd H (by simp)
  · rw [if_neg c5] at H
    exact absurd H (by simp)

end Go.Proofs.Ytdplboenlcppkaa.PFnRouteTo

/- The machine side of some functions: each comes to its pure answer (written by a program of this session with the kit's print). No condition. -/
import Derived.Test.YtibfeacgnadiaaaPFnPacketOkx0
import Derived.Test.YtibfeacgnadiaaaPFnPacketOkx1
import Derived.Test.YtibfeacgnadiaaaPFnPacketOkx2
namespace Go.Proofs.Ytibfeacgnadiaaa.PFnPacketOk
open Go.RowKit Go.Proofs.YtibfeacgnadiaaaW.PrintWords Go.Proofs.YtibfeacgnadiaaaW.PrintLast Go.Proofs.YtibfeacgnadiaaaW.PrintMore
attribute [local go_sem] max2_int min2_int max_two min_two max_three min_three max_four min_four   -- for this text's walks alone
set_option linter.unusedVariables false
set_option linter.unusedSimpArgs false

/-! ### spec_l20Packet: function 61 -/
mutual
def spec_l20Packet.j0 : Nat → Int → List Int → Int → Int → Int → Int → Int → Int → Int → Bool → Bool → List Int → Option (Int × Int × Int × Int × Int × Int × Bool × Bool × List Int × Int)
  | 0, _, _, _, _, _, _, _, _, _, _, _, _ => none
  | k + 1, x1, x1000, x1001, x154000, x154001, x154002, x154003, x154004, x154005, x154006, x154007, x154008 => (spec_l20Rd_odd.f k x1000 x1001 x1).bind fun bt160 => (if bt160.1 = true then ((spec_l20Rd_pick.f k x1000 bt160.2 5).bind fun bt162 => (if bt162.1 = 0 then ((spec_l20Rd_pick.f k x1000 bt162.2 2).bind fun bt164 => (spec_l20Packet.j1 k x1000 bt164.2 x154000 (wrap64 (65536 - (wrap64 (bt164.1 * 65540)))) x154002 x154003 x154004 x154005 x154006 x154007 x154008)) else (if bt162.1 = 1 then ((spec_l20Rd_pick.f k x1000 bt162.2 2).bind fun bt166 => (spec_l20Packet.j1 k x1000 bt166.2 x154000 x154001 x154002 (wrap64 (256 - (wrap64 (bt166.1 * 300)))) x154004 x154005 x154006 x154007 x154008)) else (if bt162.1 = 2 then (if 49 ≤ 281474976710656 then (spec_l20Packet.j1 k x1000 bt162.2 x154000 x154001 x154002 x154003 x154004 x154005 x154006 x154007 (List.replicate 49 0)) else (none)) else (if bt162.1 = 3 then (spec_l20Packet.j1 k x1000 bt162.2 x154000 x154001 x154002 x154003 x154004 x154005 true x154007 ([] : List Int)) else (spec_l20Packet.j1 k x1000 bt162.2 x154000 x154001 x154002 x154003 x154004 3 x154006 true x154008)))))) else (spec_l20Packet.j1 k x1000 bt160.2 x154000 x154001 x154002 x154003 x154004 x154005 x154006 x154007 x154008))
def spec_l20Packet.j1 : Nat → List Int → Int → Int → Int → Int → Int → Int → Int → Bool → Bool → List Int → Option (Int × Int × Int × Int × Int × Int × Bool × Bool × List Int × Int)
  | 0, _, _, _, _, _, _, _, _, _, _, _ => none
  | k + 1, x1000, x1001, x154000, x154001, x154002, x154003, x154004, x154005, x154006, x154007, x154008 => some (x154000, x154001, x154002, x154003, x154004, x154005, x154006, x154007, x154008, x1001)
end
def spec_l20Packet.f (k : Nat) (s0_0 : List Int) (s0_1 : Int) (a1 : Int) : Option (Int × Int × Int × Int × Int × Int × Bool × Bool × List Int × Int) := (spec_l20Rd_pick.f k s0_0 s0_1 5).bind fun bt137 => ((spec_l20Rd_pick.f k s0_0 bt137.2 5).bind fun bt139 => ((spec_l20Rd_pick.f k s0_0 bt139.2 4).bind fun bt141 => ((spec_l20Rd_pick.f k s0_0 bt141.2 6).bind fun bt143 => ((spec_l20Rd_pick.f k s0_0 bt143.2 4).bind fun bt145 => ((spec_l20Rd_pick.f k s0_0 bt145.2 12).bind fun bt147 => ((spec_l20Rd_bytes.f k s0_0 bt147.2 bt147.1).bind fun bt149 => ((spec_l20Rd_pick.f k s0_0 bt149.2 4).bind fun bt154 => (if bt154.1 = 0 then (spec_l20Packet.j0 k a1 s0_0 bt154.2 bt137.1 bt139.1 bt141.1 bt143.1 bt145.1 0 false true bt149.1) else (if bt154.1 = 1 then ((spec_l20Rd_pick.f k s0_0 bt154.2 20).bind fun bt156 => (if (bt149.1.length : Int) > 0 then ((spec_l20Rd_pick.f k s0_0 bt156.2 2).bind fun bt158 => (spec_l20Packet.j0 k a1 s0_0 bt158.2 bt137.1 bt139.1 bt141.1 bt143.1 bt145.1 bt156.1 (bt158.1 == 0) false bt149.1)) else (spec_l20Packet.j0 k a1 s0_0 bt156.2 bt137.1 bt139.1 bt141.1 bt143.1 bt145.1 bt156.1 false false bt149.1))) else (spec_l20Packet.j0 k a1 s0_0 bt154.2 bt137.1 bt139.1 bt141.1 bt143.1 bt145.1 0 false false bt149.1))))))))))
theorem spec_l20Packet.mono_l : ∀ k, (∀ y0 y1 y2 y3 y4 y5 y6 y7 y8 y9 y10 y11, LeO (spec_l20Packet.j0 k y0 y1 y2 y3 y4 y5 y6 y7 y8 y9 y10 y11) (spec_l20Packet.j0 (k + 1) y0 y1 y2 y3 y4 y5 y6 y7 y8 y9 y10 y11)) ∧ (∀ y0 y1 y2 y3 y4 y5 y6 y7 y8 y9 y10, LeO (spec_l20Packet.j1 k y0 y1 y2 y3 y4 y5 y6 y7 y8 y9 y10) (spec_l20Packet.j1 (k + 1) y0 y1 y2 y3 y4 y5 y6 y7 y8 y9 y10))
  | 0 => ⟨fun _ _ _ _ _ _ _ _ _ _ _ _ r h => by simp [spec_l20Packet.j0] at h, fun _ _ _ _ _ _ _ _ _ _ _ r h => by simp [spec_l20Packet.j1] at h⟩
  | k + 1 => by
    obtain ⟨ih0, ih1⟩ := spec_l20Packet.mono_l k
    refine ⟨?_, ?_⟩
    · intro y0 y1 y2 y3 y4 y5 y6 y7 y8 y9 y10 y11
      unfold spec_l20Packet.j0
      repeat' first
      | (with_reducible exact ih0 _ _ _ _ _ _ _ _ _ _ _ _)
      | (with_reducible exact ih1 _ _ _ _ _ _ _ _ _ _ _)
      | (with_reducible exact spec_l20Rd_bytes.mono _ _ _ _)
      | (with_reducible exact spec_l20Rd_odd.mono _ _ _ _)
      | (with_reducible exact spec_l20Rd_pick.mono _ _ _ _)
      | (with_reducible exact LeO.refl _)
      | (with_reducible exact LeO.none _)
      | (with_reducible refine LeO.ite ?_ ?_)
      | (with_reducible refine LeO.bind ?_ (fun _ => ?_))
      | exact ih0 _ _ _ _ _ _ _ _ _ _ _ _
      | exact ih1 _ _ _ _ _ _ _ _ _ _ _
      | exact spec_l20Rd_bytes.mono _ _ _ _
      | exact spec_l20Rd_odd.mono _ _ _ _
      | exact spec_l20Rd_pick.mono _ _ _ _
      | exact LeO.none _
      | refine LeO.ite ?_ ?_
      | refine LeO.bind ?_ (fun _ => ?_)
    · intro y0 y1 y2 y3 y4 y5 y6 y7 y8 y9 y10
      unfold spec_l20Packet.j1
      repeat' first
      | (with_reducible exact ih0 _ _ _ _ _ _ _ _ _ _ _ _)
      | (with_reducible exact ih1 _ _ _ _ _ _ _ _ _ _ _)
      | (with_reducible exact spec_l20Rd_bytes.mono _ _ _ _)
      | (with_reducible exact spec_l20Rd_odd.mono _ _ _ _)
      | (with_reducible exact spec_l20Rd_pick.mono _ _ _ _)
      | (with_reducible exact LeO.refl _)
      | (with_reducible exact LeO.none _)
      | (with_reducible refine LeO.ite ?_ ?_)
      | (with_reducible refine LeO.bind ?_ (fun _ => ?_))
      | exact ih0 _ _ _ _ _ _ _ _ _ _ _ _
      | exact ih1 _ _ _ _ _ _ _ _ _ _ _
      | exact spec_l20Rd_bytes.mono _ _ _ _
      | exact spec_l20Rd_odd.mono _ _ _ _
      | exact spec_l20Rd_pick.mono _ _ _ _
      | exact LeO.none _
      | refine LeO.ite ?_ ?_
      | refine LeO.bind ?_ (fun _ => ?_)
theorem spec_l20Packet.mono : ∀ a0 a1 a2 k, LeO (spec_l20Packet.f k a0 a1 a2) (spec_l20Packet.f (k + 1) a0 a1 a2) := by
  intro a0 a1 a2 k
  obtain ⟨ih0, ih1⟩ := spec_l20Packet.mono_l k
  unfold spec_l20Packet.f
  repeat' first
      | (with_reducible exact ih0 _ _ _ _ _ _ _ _ _ _ _ _)
      | (with_reducible exact ih1 _ _ _ _ _ _ _ _ _ _ _)
      | (with_reducible exact spec_l20Rd_bytes.mono _ _ _ _)
      | (with_reducible exact spec_l20Rd_odd.mono _ _ _ _)
      | (with_reducible exact spec_l20Rd_pick.mono _ _ _ _)
      | (with_reducible exact LeO.refl _)
      | (with_reducible exact LeO.none _)
      | (with_reducible refine LeO.ite ?_ ?_)
      | (with_reducible refine LeO.bind ?_ (fun _ => ?_))
      | exact ih0 _ _ _ _ _ _ _ _ _ _ _ _
      | exact ih1 _ _ _ _ _ _ _ _ _ _ _
      | exact spec_l20Rd_bytes.mono _ _ _ _
      | exact spec_l20Rd_odd.mono _ _ _ _
      | exact spec_l20Rd_pick.mono _ _ _ _
      | exact LeO.none _
      | refine LeO.ite ?_ ?_
      | refine LeO.bind ?_ (fun _ => ?_)
set_option maxHeartbeats 8000000 in
set_option maxRecDepth 100000 in
theorem spec_l20Packet.calls (k : Nat) (g : Nat) (s0_0 : List Int) (s0_1 : Int) (a1 : Int) (r1 : Int) (r2 : Int) (r3 : Int) (r4 : Int) (r5 : Int) (r6 : Int) (r7 : Bool) (r8 : Bool) (r9 : List Int) (r10 : Int) (w0 w : World) (hI : IsS95 w0 w g s0_0 s0_1) (hB : Below w0.heap.size w0 w) (h : spec_l20Packet.f k s0_0 s0_1 a1 = some (r1, r2, r3, r4, r5, r6, r7, r8, r9, r10)) :
    Calls Try.prog 61 #[.pointer (some ⟨g, 0, none⟩), .int .i64 a1] w fun e w' => ∃ v8_ : Value, e = .returned (.agg #[.int .i64 r1, .int .i64 r2, .int .i64 r3, .int .i64 r4, .int .i64 r5, .int .i64 r6, .bool r7, .bool r8, v8_]) ∧ Kd.R (Kd.int .u8) 5 w' w.heap.size (fun _ => True) v8_ r9 ∧ IsS95 w0 w' g s0_0 r10 ∧ Below w0.heap.size w0 w' ∧ KeepBut w w' g none := by
  have hu27 := Try.underlying27
  have HI0 := Aside0.mk hI
  have HK := Aside0.mk (KeepBut.refl w g none)
  have HL := Aside0.mk hB.size
  clear hI
  have HW0 := Aside0.mk hB.size
  have HB := Aside0.mk hB
  clear hB
  have H : ((spec_l20Rd_pick.f k s0_0 s0_1 5).bind fun bt137 => ((spec_l20Rd_pick.f k s0_0 bt137.2 5).bind fun bt139 => ((spec_l20Rd_pick.f k s0_0 bt139.2 4).bind fun bt141 => ((spec_l20Rd_pick.f k s0_0 bt141.2 6).bind fun bt143 => ((spec_l20Rd_pick.f k s0_0 bt143.2 4).bind fun bt145 => ((spec_l20Rd_pick.f k s0_0 bt145.2 12).bind fun bt147 => ((spec_l20Rd_bytes.f k s0_0 bt147.2 bt147.1).bind fun bt149 => ((spec_l20Rd_pick.f k s0_0 bt149.2 4).bind fun bt154 => (if bt154.1 = 0 then (spec_l20Packet.j0 k a1 s0_0 bt154.2 bt137.1 bt139.1 bt141.1 bt143.1 bt145.1 0 false true bt149.1) else (if bt154.1 = 1 then ((spec_l20Rd_pick.f k s0_0 bt154.2 20).bind fun bt156 => (if (bt149.1.length : Int) > 0 then ((spec_l20Rd_pick.f k s0_0 bt156.2 2).bind fun bt158 => (spec_l20Packet.j0 k a1 s0_0 bt158.2 bt137.1 bt139.1 bt141.1 bt143.1 bt145.1 bt156.1 (bt158.1 == 0) false bt149.1)) else (spec_l20Packet.j0 k a1 s0_0 bt156.2 bt137.1 bt139.1 bt141.1 bt143.1 bt145.1 bt156.1 false false bt149.1))) else (spec_l20Packet.j0 k a1 s0_0 bt154.2 bt137.1 bt139.1 bt141.1 bt143.1 bt145.1 0 false false bt149.1))))))))))) = some (r1, r2, r3, r4, r5, r6, r7, r8, r9, r10) := h
  clear h
  replace H := Option.bind_eq_some_iff.mp H
  obtain ⟨⟨t137, t138⟩, A30, H⟩ := H
  replace H : ((spec_l20Rd_pick.f k s0_0 t138 5).bind fun bt139 => ((spec_l20Rd_pick.f k s0_0 bt139.2 4).bind fun bt141 => ((spec_l20Rd_pick.f k s0_0 bt141.2 6).bind fun bt143 => ((spec_l20Rd_pick.f k s0_0 bt143.2 4).bind fun bt145 => ((spec_l20Rd_pick.f k s0_0 bt145.2 12).bind fun bt147 => ((spec_l20Rd_bytes.f k s0_0 bt147.2 bt147.1).bind fun bt149 => ((spec_l20Rd_pick.f k s0_0 bt149.2 4).bind fun bt154 => (if bt154.1 = 0 then (spec_l20Packet.j0 k a1 s0_0 bt154.2 t137 bt139.1 bt141.1 bt143.1 bt145.1 0 false true bt149.1) else (if bt154.1 = 1 then ((spec_l20Rd_pick.f k s0_0 bt154.2 20).bind fun bt156 => (if (bt149.1.length : Int) > 0 then ((spec_l20Rd_pick.f k s0_0 bt156.2 2).bind fun bt158 => (spec_l20Packet.j0 k a1 s0_0 bt158.2 t137 bt139.1 bt141.1 bt143.1 bt145.1 bt156.1 (bt158.1 == 0) false bt149.1)) else (spec_l20Packet.j0 k a1 s0_0 bt156.2 t137 bt139.1 bt141.1 bt143.1 bt145.1 bt156.1 false false bt149.1))) else (spec_l20Packet.j0 k a1 s0_0 bt154.2 t137 bt139.1 bt141.1 bt143.1 bt145.1 0 false false bt149.1)))))))))) = some (r1, r2, r3, r4, r5, r6, r7, r8, r9, r10) := H
  have A3 := Aside0.mk A30
  clear A30
  replace H := Option.bind_eq_some_iff.mp H
  obtain ⟨⟨t139, t140⟩, A40, H⟩ := H
  replace H : ((spec_l20Rd_pick.f k s0_0 t140 4).bind fun bt141 => ((spec_l20Rd_pick.f k s0_0 bt141.2 6).bind fun bt143 => ((spec_l20Rd_pick.f k s0_0 bt143.2 4).bind fun bt145 => ((spec_l20Rd_pick.f k s0_0 bt145.2 12).bind fun bt147 => ((spec_l20Rd_bytes.f k s0_0 bt147.2 bt147.1).bind fun bt149 => ((spec_l20Rd_pick.f k s0_0 bt149.2 4).bind fun bt154 => (if bt154.1 = 0 then (spec_l20Packet.j0 k a1 s0_0 bt154.2 t137 t139 bt141.1 bt143.1 bt145.1 0 false true bt149.1) else (if bt154.1 = 1 then ((spec_l20Rd_pick.f k s0_0 bt154.2 20).bind fun bt156 => (if (bt149.1.length : Int) > 0 then ((spec_l20Rd_pick.f k s0_0 bt156.2 2).bind fun bt158 => (spec_l20Packet.j0 k a1 s0_0 bt158.2 t137 t139 bt141.1 bt143.1 bt145.1 bt156.1 (bt158.1 == 0) false bt149.1)) else (spec_l20Packet.j0 k a1 s0_0 bt156.2 t137 t139 bt141.1 bt143.1 bt145.1 bt156.1 false false bt149.1))) else (spec_l20Packet.j0 k a1 s0_0 bt154.2 t137 t139 bt141.1 bt143.1 bt145.1 0 false false bt149.1))))))))) = some (r1, r2, r3, r4, r5, r6, r7, r8, r9, r10) := H
  have A4 := Aside0.mk A40
  clear A40
  replace H := Option.bind_eq_some_iff.mp H
  obtain ⟨⟨t141, t142⟩, A50, H⟩ := H
  replace H : ((spec_l20Rd_pick.f k s0_0 t142 6).bind fun bt143 => ((spec_l20Rd_pick.f k s0_0 bt143.2 4).bind fun bt145 => ((spec_l20Rd_pick.f k s0_0 bt145.2 12).bind fun bt147 => ((spec_l20Rd_bytes.f k s0_0 bt147.2 bt147.1).bind fun bt149 => ((spec_l20Rd_pick.f k s0_0 bt149.2 4).bind fun bt154 => (if bt154.1 = 0 then (spec_l20Packet.j0 k a1 s0_0 bt154.2 t137 t139 t141 bt143.1 bt145.1 0 false true bt149.1) else (if bt154.1 = 1 then ((spec_l20Rd_pick.f k s0_0 bt154.2 20).bind fun bt156 => (if (bt149.1.length : Int) > 0 then ((spec_l20Rd_pick.f k s0_0 bt156.2 2).bind fun bt158 => (spec_l20Packet.j0 k a1 s0_0 bt158.2 t137 t139 t141 bt143.1 bt145.1 bt156.1 (bt158.1 == 0) false bt149.1)) else (spec_l20Packet.j0 k a1 s0_0 bt156.2 t137 t139 t141 bt143.1 bt145.1 bt156.1 false false bt149.1))) else (spec_l20Packet.j0 k a1 s0_0 bt154.2 t137 t139 t141 bt143.1 bt145.1 0 false false bt149.1)))))))) = some (r1, r2, r3, r4, r5, r6, r7, r8, r9, r10) := H
  have A5 := Aside0.mk A50
  clear A50
  replace H := Option.bind_eq_some_iff.mp H
  obtain ⟨⟨t143, t144⟩, A60, H⟩ := H
  replace H : ((spec_l20Rd_pick.f k s0_0 t144 4).bind fun bt145 => ((spec_l20Rd_pick.f k s0_0 bt145.2 12).bind fun bt147 => ((spec_l20Rd_bytes.f k s0_0 bt147.2 bt147.1).bind fun bt149 => ((spec_l20Rd_pick.f k s0_0 bt149.2 4).bind fun bt154 => (if bt154.1 = 0 then (spec_l20Packet.j0 k a1 s0_0 bt154.2 t137 t139 t141 t143 bt145.1 0 false true bt149.1) else (if bt154.1 = 1 then ((spec_l20Rd_pick.f k s0_0 bt154.2 20).bind fun bt156 => (if (bt149.1.length : Int) > 0 then ((spec_l20Rd_pick.f k s0_0 bt156.2 2).bind fun bt158 => (spec_l20Packet.j0 k a1 s0_0 bt158.2 t137 t139 t141 t143 bt145.1 bt156.1 (bt158.1 == 0) false bt149.1)) else (spec_l20Packet.j0 k a1 s0_0 bt156.2 t137 t139 t141 t143 bt145.1 bt156.1 false false bt149.1))) else (spec_l20Packet.j0 k a1 s0_0 bt154.2 t137 t139 t141 t143 bt145.1 0 false false bt149.1))))))) = some (r1, r2, r3, r4, r5, r6, r7, r8, r9, r10) := H
  have A6 := Aside0.mk A60
  clear A60
  replace H := Option.bind_eq_some_iff.mp H
  obtain ⟨⟨t145, t146⟩, A70, H⟩ := H
  replace H : ((spec_l20Rd_pick.f k s0_0 t146 12).bind fun bt147 => ((spec_l20Rd_bytes.f k s0_0 bt147.2 bt147.1).bind fun bt149 => ((spec_l20Rd_pick.f k s0_0 bt149.2 4).bind fun bt154 => (if bt154.1 = 0 then (spec_l20Packet.j0 k a1 s0_0 bt154.2 t137 t139 t141 t143 t145 0 false true bt149.1) else (if bt154.1 = 1 then ((spec_l20Rd_pick.f k s0_0 bt154.2 20).bind fun bt156 => (if (bt149.1.length : Int) > 0 then ((spec_l20Rd_pick.f k s0_0 bt156.2 2).bind fun bt158 => (spec_l20Packet.j0 k a1 s0_0 bt158.2 t137 t139 t141 t143 t145 bt156.1 (bt158.1 == 0) false bt149.1)) else (spec_l20Packet.j0 k a1 s0_0 bt156.2 t137 t139 t141 t143 t145 bt156.1 false false bt149.1))) else (spec_l20Packet.j0 k a1 s0_0 bt154.2 t137 t139 t141 t143 t145 0 false false bt149.1)))))) = some (r1, r2, r3, r4, r5, r6, r7, r8, r9, r10) := H
  have A7 := Aside0.mk A70
  clear A70
  replace H := Option.bind_eq_some_iff.mp H
  obtain ⟨⟨t147, t148⟩, A80, H⟩ := H
  replace H : ((spec_l20Rd_bytes.f k s0_0 t148 t147).bind fun bt149 => ((spec_l20Rd_pick.f k s0_0 bt149.2 4).bind fun bt154 => (if bt154.1 = 0 then (spec_l20Packet.j0 k a1 s0_0 bt154.2 t137 t139 t141 t143 t145 0 false true bt149.1) else (if bt154.1 = 1 then ((spec_l20Rd_pick.f k s0_0 bt154.2 20).bind fun bt156 => (if (bt149.1.length : Int) > 0 then ((spec_l20Rd_pick.f k s0_0 bt156.2 2).bind fun bt158 => (spec_l20Packet.j0 k a1 s0_0 bt158.2 t137 t139 t141 t143 t145 bt156.1 (bt158.1 == 0) false bt149.1)) else (spec_l20Packet.j0 k a1 s0_0 bt156.2 t137 t139 t141 t143 t145 bt156.1 false false bt149.1))) else (spec_l20Packet.j0 k a1 s0_0 bt154.2 t137 t139 t141 t143 t145 0 false false bt149.1))))) = some (r1, r2, r3, r4, r5, r6, r7, r8, r9, r10) := H
  have A8 := Aside0.mk A80
  clear A80
  replace H := Option.bind_eq_some_iff.mp H
  obtain ⟨⟨t149, t152⟩, A90, H⟩ := H
  replace H : ((spec_l20Rd_pick.f k s0_0 t152 4).bind fun bt154 => (if bt154.1 = 0 then (spec_l20Packet.j0 k a1 s0_0 bt154.2 t137 t139 t141 t143 t145 0 false true t149) else (if bt154.1 = 1 then ((spec_l20Rd_pick.f k s0_0 bt154.2 20).bind fun bt156 => (if (t149.length : Int) > 0 then ((spec_l20Rd_pick.f k s0_0 bt156.2 2).bind fun bt158 => (spec_l20Packet.j0 k a1 s0_0 bt158.2 t137 t139 t141 t143 t145 bt156.1 (bt158.1 == 0) false t149)) else (spec_l20Packet.j0 k a1 s0_0 bt156.2 t137 t139 t141 t143 t145 bt156.1 false false t149))) else (spec_l20Packet.j0 k a1 s0_0 bt154.2 t137 t139 t141 t143 t145 0 false false t149)))) = some (r1, r2, r3, r4, r5, r6, r7, r8, r9, r10) := H
  have A9 := Aside0.mk A90
  clear A90
  replace H := Option.bind_eq_some_iff.mp H
  obtain ⟨⟨t154, t155⟩, A100, H⟩ := H
  replace H : (if t154 = 0 then (spec_l20Packet.j0 k a1 s0_0 t155 t137 t139 t141 t143 t145 0 false true t149) else (if t154 = 1 then ((spec_l20Rd_pick.f k s0_0 t155 20).bind fun bt156 => (if (t149.length : Int) > 0 then ((spec_l20Rd_pick.f k s0_0 bt156.2 2).bind fun bt158 => (spec_l20Packet.j0 k a1 s0_0 bt158.2 t137 t139 t141 t143 t145 bt156.1 (bt158.1 == 0) false t149)) else (spec_l20Packet.j0 k a1 s0_0 bt156.2 t137 t139 t141 t143 t145 bt156.1 false false t149))) else (spec_l20Packet.j0 k a1 s0_0 t155 t137 t139 t141 t143 t145 0 false false t149))) = some (r1, r2, r3, r4, r5, r6, r7, r8, r9, r10) := H
  have A10 := Aside0.mk A100
  clear A100
  have HC11 := Aside0.mk H
  clear H
  go_enter Try.func61, Try.ntmps61
  go_upto_block 0 with (first | ((with_reducible refine gate_dst (N := 4) rfl ?_); refine box_event ?hg (N := 4) ?hd (cs := #[.int .i64 0, .int .i64 0, .int .i64 0, .int .i64 0, .int .i64 0, .int .i64 0, .bool false, .bool false, .slice none 0 0]) (t := 27) ?hr ?_; (case hd => rfl); (case hg => rfl); (case hr => first | (go_simp; done) | (go_simp; rfl)); intro gb136 hg w12 hbox hb; have n0_ := Aside0.mk (IsS95.below (by repeat (first | (with_reducible first | exact HI0.out | apply IsS95.alloc | apply IsS95.drewN | apply IsS95.drew | apply IsS95.set_1) | exact HI0.out)) hb); have n1_ := Aside0.mk (KeepBut.trans (by repeat (first | (with_reducible first | exact HK.out | apply KeepBut.set_ | apply keep_drewN | apply keep_drew | apply keep_alloc) | exact HK.out)) (KeepBut.of_below hb g none) (.inl rfl)); have n2_ := Aside0.mk (below_step (by repeat (first | (with_reducible first | exact HB.out | apply below_alloc | apply pw_below_drewN | apply below_drew1 | refine below_set ?_ (IsS95.ge HI0.out)) | exact HB.out)) hb); have n3_ := Aside0.mk (hbox); have n4_ := Aside0.mk ((by rw [hg]; exact (keep_size (w := w) (g := g) (row := none) (by repeat (first | (with_reducible first | exact HK.out | apply KeepBut.set_ | apply keep_drewN | apply keep_drew | apply keep_alloc) | exact HK.out))) : w.heap.size ≤ gb136)); have n5_ := Aside0.mk ((Nat.le_trans HW0.out (by rw [hg]; exact (keep_size (w := w) (g := g) (row := none) (by repeat (first | (with_reducible first | exact HK.out | apply KeepBut.set_ | apply keep_drewN | apply keep_drew | apply keep_alloc) | exact HK.out))) : w.heap.size ≤ gb136) : w0.heap.size ≤ gb136)); have n6_ := Aside0.mk ((by rw [hg]; exact Nat.ne_of_lt (IsS95.lt (show IsS95 w0 _ g s0_0 s0_1 from by repeat (first | (with_reducible first | exact HI0.out | apply IsS95.alloc | apply IsS95.drewN | apply IsS95.drew | apply IsS95.set_1) | exact HI0.out))) : g ≠ gb136)); have n7_ := Aside0.mk ((by rw [hg]; exact Nat.ne_of_gt (IsS95.lt (show IsS95 w0 _ g s0_0 s0_1 from by repeat (first | (with_reducible first | exact HI0.out | apply IsS95.alloc | apply IsS95.drewN | apply IsS95.drew | apply IsS95.set_1) | exact HI0.out))) : gb136 ≠ g)); clear HI0; clear HK; clear HB; have HI0 := n0_; have HK := n1_; have HB := n2_; have BK136 := n3_; have GW136 := n4_; have GE136 := n5_; have NB0_136 := n6_; have NB136_0 := n7_; clear n0_ n1_ n2_ n3_ n4_ n5_ n6_ n7_; clear hb hbox hg) | ((with_reducible refine gate_callee (f := 68) rfl ?_); refine goesL_ (some 7) rfl rfl Try.func68 (by kernel_rfl) rfl #[.pointer (some ⟨g, 0, none⟩), .int .i64 5] rfl (by (try simp only [List.map_toArray, List.map_cons, List.map_nil]); first | done | rfl | (simp only [List.length_drop, List.length_take]; rfl)) ?_; (with_reducible refine (spec_l20Rd_pick.calls k g s0_0 s0_1 5 t137 t138 w0 _ ?side1 ?side2 A3.out).mono ?_); (case side1 => repeat (first | (with_reducible first | exact HI0.out | apply IsS95.alloc | apply IsS95.drewN | apply IsS95.drew | apply IsS95.set_1 | refine IsS95.far ?_ NB0_136.out _) | exact HI0.out)); (case side2 => repeat (first | (with_reducible first | exact HB.out | apply below_alloc | apply pw_below_drewN | apply below_drew1 | refine below_set ?_ (IsS95.ge HI0.out) | refine below_set ?_ GE136.out) | exact HB.out)); rintro e w13 ⟨rfl, hi, hb, hk⟩; refine ⟨_, rfl, ?_⟩; have n0_ := Aside0.mk (KeepBut.blk hk (g' := gb136) (o := .cells #[.int .i64 0, .int .i64 0, .int .i64 0, .int .i64 0, .int .i64 0, .int .i64 0, .bool false, .bool false, .slice none 0 0] 27 (0, 0)) (by (with_reducible repeat (first | refine blk_drewN ?_ _ | refine blk_drew ?_ | refine blk_alloc ?_ _)); exact BK136.out) NB136_0.out (by simp)); have n1_ := Aside0.mk (KeepBut.trans (by repeat (first | (with_reducible first | exact HK.out | apply KeepBut.set_ | apply keep_drewN | apply keep_drew | apply keep_alloc | refine keep_far ?_ GW136.out _) | exact HK.out)) hk (.inl rfl)); have n2_ := Aside0.mk (hb); have n3_ := Aside0.mk (hi); clear BK136; clear HK; clear HB; clear HI0; have BK136 := n0_; have HK := n1_; have HB := n2_; have HI0 := n3_; clear n0_ n1_ n2_ n3_; (try clear hb); (try clear hb2); (try clear hk); (try clear hi)) | ((with_reducible refine gate_callee (f := 68) rfl ?_); refine goesL_ (some 9) rfl rfl Try.func68 (by kernel_rfl) rfl #[.pointer (some ⟨g, 0, none⟩), .int .i64 5] rfl (by (try simp only [List.map_toArray, List.map_cons, List.map_nil]); first | done | rfl | (simp only [List.length_drop, List.length_take]; rfl)) ?_; (with_reducible refine (spec_l20Rd_pick.calls k g s0_0 t138 5 t139 t140 w0 _ ?side1 ?side2 A4.out).mono ?_); (case side1 => repeat (first | (with_reducible first | exact HI0.out | apply IsS95.alloc | apply IsS95.drewN | apply IsS95.drew | apply IsS95.set_1 | refine IsS95.far ?_ NB0_136.out _) | exact HI0.out)); (case side2 => repeat (first | (with_reducible first | exact HB.out | apply below_alloc | apply pw_below_drewN | apply below_drew1 | refine below_set ?_ (IsS95.ge HI0.out) | refine below_set ?_ GE136.out) | exact HB.out)); rintro e w14 ⟨rfl, hi, hb, hk⟩; refine ⟨_, rfl, ?_⟩; have n0_ := Aside0.mk (KeepBut.blk hk (g' := gb136) (o := .cells #[.int .i64 0, .int .i64 0, .int .i64 0, .int .i64 0, .int .i64 0, .int .i64 0, .bool false, .bool false, .slice none 0 0] 27 (0, 0)) (by (with_reducible repeat (first | refine blk_drewN ?_ _ | refine blk_drew ?_ | refine blk_alloc ?_ _)); exact BK136.out) NB136_0.out (by simp)); have n1_ := Aside0.mk (KeepBut.trans (by repeat (first | (with_reducible first | exact HK.out | apply KeepBut.set_ | apply keep_drewN | apply keep_drew | apply keep_alloc | refine keep_far ?_ GW136.out _) | exact HK.out)) hk (.inl rfl)); have n2_ := Aside0.mk (hb); have n3_ := Aside0.mk (hi); clear BK136; clear HK; clear HB; clear HI0; have BK136 := n0_; have HK := n1_; have HB := n2_; have HI0 := n3_; clear n0_ n1_ n2_ n3_; (try clear hb); (try clear hb2); (try clear hk); (try clear hi)) | ((with_reducible refine gate_callee (f := 68) rfl ?_); refine goesL_ (some 11) rfl rfl Try.func68 (by kernel_rfl) rfl #[.pointer (some ⟨g, 0, none⟩), .int .i64 4] rfl (by (try simp only [List.map_toArray, List.map_cons, List.map_nil]); first | done | rfl | (simp only [List.length_drop, List.length_take]; rfl)) ?_; (with_reducible refine (spec_l20Rd_pick.calls k g s0_0 t140 4 t141 t142 w0 _ ?side1 ?side2 A5.out).mono ?_); (case side1 => repeat (first | (with_reducible first | exact HI0.out | apply IsS95.alloc | apply IsS95.drewN | apply IsS95.drew | apply IsS95.set_1 | refine IsS95.far ?_ NB0_136.out _) | exact HI0.out)); (case side2 => repeat (first | (with_reducible first | exact HB.out | apply below_alloc | apply pw_below_drewN | apply below_drew1 | refine below_set ?_ (IsS95.ge HI0.out) | refine below_set ?_ GE136.out) | exact HB.out)); rintro e w15 ⟨rfl, hi, hb, hk⟩; refine ⟨_, rfl, ?_⟩; have n0_ := Aside0.mk (KeepBut.blk hk (g' := gb136) (o := .cells #[.int .i64 0, .int .i64 0, .int .i64 0, .int .i64 0, .int .i64 0, .int .i64 0, .bool false, .bool false, .slice none 0 0] 27 (0, 0)) (by (with_reducible repeat (first | refine blk_drewN ?_ _ | refine blk_drew ?_ | refine blk_alloc ?_ _)); exact BK136.out) NB136_0.out (by simp)); have n1_ := Aside0.mk (KeepBut.trans (by repeat (first | (with_reducible first | exact HK.out | apply KeepBut.set_ | apply keep_drewN | apply keep_drew | apply keep_alloc | refine keep_far ?_ GW136.out _) | exact HK.out)) hk (.inl rfl)); have n2_ := Aside0.mk (hb); have n3_ := Aside0.mk (hi); clear BK136; clear HK; clear HB; clear HI0; have BK136 := n0_; have HK := n1_; have HB := n2_; have HI0 := n3_; clear n0_ n1_ n2_ n3_; (try clear hb); (try clear hb2); (try clear hk); (try clear hi)) | ((with_reducible refine gate_callee (f := 68) rfl ?_); refine goesL_ (some 13) rfl rfl Try.func68 (by kernel_rfl) rfl #[.pointer (some ⟨g, 0, none⟩), .int .i64 6] rfl (by (try simp only [List.map_toArray, List.map_cons, List.map_nil]); first | done | rfl | (simp only [List.length_drop, List.length_take]; rfl)) ?_; (with_reducible refine (spec_l20Rd_pick.calls k g s0_0 t142 6 t143 t144 w0 _ ?side1 ?side2 A6.out).mono ?_); (case side1 => repeat (first | (with_reducible first | exact HI0.out | apply IsS95.alloc | apply IsS95.drewN | apply IsS95.drew | apply IsS95.set_1 | refine IsS95.far ?_ NB0_136.out _) | exact HI0.out)); (case side2 => repeat (first | (with_reducible first | exact HB.out | apply below_alloc | apply pw_below_drewN | apply below_drew1 | refine below_set ?_ (IsS95.ge HI0.out) | refine below_set ?_ GE136.out) | exact HB.out)); rintro e w16 ⟨rfl, hi, hb, hk⟩; refine ⟨_, rfl, ?_⟩; have n0_ := Aside0.mk (KeepBut.blk hk (g' := gb136) (o := .cells #[.int .i64 0, .int .i64 0, .int .i64 0, .int .i64 0, .int .i64 0, .int .i64 0, .bool false, .bool false, .slice none 0 0] 27 (0, 0)) (by (with_reducible repeat (first | refine blk_drewN ?_ _ | refine blk_drew ?_ | refine blk_alloc ?_ _)); exact BK136.out) NB136_0.out (by simp)); have n1_ := Aside0.mk (KeepBut.trans (by repeat (first | (with_reducible first | exact HK.out | apply KeepBut.set_ | apply keep_drewN | apply keep_drew | apply keep_alloc | refine keep_far ?_ GW136.out _) | exact HK.out)) hk (.inl rfl)); have n2_ := Aside0.mk (hb); have n3_ := Aside0.mk (hi); clear BK136; clear HK; clear HB; clear HI0; have BK136 := n0_; have HK := n1_; have HB := n2_; have HI0 := n3_; clear n0_ n1_ n2_ n3_; (try clear hb); (try clear hb2); (try clear hk); (try clear hi)) | ((with_reducible refine gate_callee (f := 68) rfl ?_); refine goesL_ (some 15) rfl rfl Try.func68 (by kernel_rfl) rfl #[.pointer (some ⟨g, 0, none⟩), .int .i64 4] rfl (by (try simp only [List.map_toArray, List.map_cons, List.map_nil]); first | done | rfl | (simp only [List.length_drop, List.length_take]; rfl)) ?_; (with_reducible refine (spec_l20Rd_pick.calls k g s0_0 t144 4 t145 t146 w0 _ ?side1 ?side2 A7.out).mono ?_); (case side1 => repeat (first | (with_reducible first | exact HI0.out | apply IsS95.alloc | apply IsS95.drewN | apply IsS95.drew | apply IsS95.set_1 | refine IsS95.far ?_ NB0_136.out _) | exact HI0.out)); (case side2 => repeat (first | (with_reducible first | exact HB.out | apply below_alloc | apply pw_below_drewN | apply below_drew1 | refine below_set ?_ (IsS95.ge HI0.out) | refine below_set ?_ GE136.out) | exact HB.out)); rintro e w17 ⟨rfl, hi, hb, hk⟩; refine ⟨_, rfl, ?_⟩; have n0_ := Aside0.mk (KeepBut.blk hk (g' := gb136) (o := .cells #[.int .i64 0, .int .i64 0, .int .i64 0, .int .i64 0, .int .i64 0, .int .i64 0, .bool false, .bool false, .slice none 0 0] 27 (0, 0)) (by (with_reducible repeat (first | refine blk_drewN ?_ _ | refine blk_drew ?_ | refine blk_alloc ?_ _)); exact BK136.out) NB136_0.out (by simp)); have n1_ := Aside0.mk (KeepBut.trans (by repeat (first | (with_reducible first | exact HK.out | apply KeepBut.set_ | apply keep_drewN | apply keep_drew | apply keep_alloc | refine keep_far ?_ GW136.out _) | exact HK.out)) hk (.inl rfl)); have n2_ := Aside0.mk (hb); have n3_ := Aside0.mk (hi); clear BK136; clear HK; clear HB; clear HI0; have BK136 := n0_; have HK := n1_; have HB := n2_; have HI0 := n3_; clear n0_ n1_ n2_ n3_; (try clear hb); (try clear hb2); (try clear hk); (try clear hi)) | ((with_reducible refine gate_callee (f := 68) rfl ?_); refine goesL_ (some 18) rfl rfl Try.func68 (by kernel_rfl) rfl #[.pointer (some ⟨g, 0, none⟩), .int .i64 12] rfl (by (try simp only [List.map_toArray, List.map_cons, List.map_nil]); first | done | rfl | (simp only [List.length_drop, List.length_take]; rfl)) ?_; (with_reducible refine (spec_l20Rd_pick.calls k g s0_0 t146 12 t147 t148 w0 _ ?side1 ?side2 A8.out).mono ?_); (case side1 => repeat (first | (with_reducible first | exact HI0.out | apply IsS95.alloc | apply IsS95.drewN | apply IsS95.drew | apply IsS95.set_1 | refine IsS95.far ?_ NB0_136.out _) | exact HI0.out)); (case side2 => repeat (first | (with_reducible first | exact HB.out | apply below_alloc | apply pw_below_drewN | apply below_drew1 | refine below_set ?_ (IsS95.ge HI0.out) | refine below_set ?_ GE136.out) | exact HB.out)); rintro e w18 ⟨rfl, hi, hb, hk⟩; refine ⟨_, rfl, ?_⟩; have n0_ := Aside0.mk (KeepBut.blk hk (g' := gb136) (o := .cells #[.int .i64 0, .int .i64 0, .int .i64 0, .int .i64 0, .int .i64 0, .int .i64 0, .bool false, .bool false, .slice none 0 0] 27 (0, 0)) (by (with_reducible repeat (first | refine blk_drewN ?_ _ | refine blk_drew ?_ | refine blk_alloc ?_ _)); exact BK136.out) NB136_0.out (by simp)); have n1_ := Aside0.mk (KeepBut.trans (by repeat (first | (with_reducible first | exact HK.out | apply KeepBut.set_ | apply keep_drewN | apply keep_drew | apply keep_alloc | refine keep_far ?_ GW136.out _) | exact HK.out)) hk (.inl rfl)); have n2_ := Aside0.mk (hb); have n3_ := Aside0.mk (hi); clear BK136; clear HK; clear HB; clear HI0; have BK136 := n0_; have HK := n1_; have HB := n2_; have HI0 := n3_; clear n0_ n1_ n2_ n3_; (try clear hb); (try clear hb2); (try clear hk); (try clear hi)) | ((with_reducible refine gate_callee (f := 67) rfl ?_); refine goesL_ (some 19) rfl rfl Try.func67 (by kernel_rfl) rfl #[.pointer (some ⟨g, 0, none⟩), .int .i64 t147] rfl (by (try simp only [List.map_toArray, List.map_cons, List.map_nil]); first | done | rfl | (simp only [List.length_drop, List.length_take]; rfl)) ?_; (with_reducible refine (spec_l20Rd_bytes.calls k g s0_0 t148 t147 t149 t152 w0 _ ?side1 ?side2 A9.out).mono ?_); (case side1 => repeat (first | (with_reducible first | exact HI0.out | apply IsS95.alloc | apply IsS95.drewN | apply IsS95.drew | apply IsS95.set_1 | refine IsS95.far ?_ NB0_136.out _) | exact HI0.out)); (case side2 => repeat (first | (with_reducible first | exact HB.out | apply below_alloc | apply pw_below_drewN | apply below_drew1 | refine below_set ?_ (IsS95.ge HI0.out) | refine below_set ?_ GE136.out) | exact HB.out)); rintro e w19 ⟨v150, rfl, ho0, hi, hb, hk⟩; refine ⟨_, rfl, ?_⟩; have n0_ := Aside0.mk (KeepBut.blk hk (g' := gb136) (o := .cells #[.int .i64 0, .int .i64 0, .int .i64 0, .int .i64 0, .int .i64 0, .int .i64 0, .bool false, .bool false, .slice none 0 0] 27 (0, 0)) (by (with_reducible repeat (first | refine blk_drewN ?_ _ | refine blk_drew ?_ | refine blk_alloc ?_ _)); exact BK136.out) NB136_0.out (by simp)); have n1_ := Aside0.mk (Kd.R_lower ho0 (keep_size (w := w) (g := g) (row := none) (by repeat (first | (with_reducible first | exact HK.out | apply KeepBut.set_ | apply keep_drewN | apply keep_drew | apply keep_alloc | refine keep_far ?_ GW136.out _) | exact HK.out)))); have n2_ := Aside0.mk (KeepBut.trans (by repeat (first | (with_reducible first | exact HK.out | apply KeepBut.set_ | apply keep_drewN | apply keep_drew | apply keep_alloc | refine keep_far ?_ GW136.out _) | exact HK.out)) hk (.inl rfl)); have n3_ := Aside0.mk (hb); have n4_ := Aside0.mk (hi); clear BK136; clear HK; clear HB; clear HI0; have BK136 := n0_; have HO151 := n1_; have HK := n2_; have HB := n3_; have HI0 := n4_; clear n0_ n1_ n2_ n3_ n4_; (try clear hb); (try clear hb2); (try clear hk); (try clear hi); (try clear ho0); obtain ⟨Ao20, co20, eo20⟩ := Kd.R_slice HO151.out; subst eo20) | ((with_reducible refine gate_dst (N := 5) rfl ?_); refine box_event ?hg (N := 5) ?hd (cs := #[.int .i64 0, .int .i64 0, .int .i64 0, .int .i64 0, .int .i64 0, .int .i64 0, .bool false, .bool false, .slice none 0 0]) (t := 27) ?hr ?_; (case hd => rfl); (case hg => rfl); (case hr => first | (go_simp; done) | (go_simp; rfl)); intro gb153 hg w21 hbox hb; have n0_ := Aside0.mk (Kd.R_below (by (with_reducible repeat (first | apply Kd.R_alloc | apply Kd.R_drewN | apply Kd.R_drew)); exact HO151.out) hb); have n1_ := Aside0.mk (IsS95.below (by repeat (first | (with_reducible first | exact HI0.out | apply IsS95.alloc | apply IsS95.drewN | apply IsS95.drew | apply IsS95.set_1 | refine IsS95.far ?_ NB0_136.out _) | exact HI0.out)) hb); have n2_ := Aside0.mk (blk_below (g := gb136) (o := .cells #[.int .i64 0, .int .i64 0, .int .i64 0, .int .i64 0, .int .i64 0, .int .i64 0, .bool false, .bool false, .slice none 0 0] 27 (0, 0)) (by (with_reducible repeat (first | refine blk_drewN ?_ _ | refine blk_drew ?_ | refine blk_alloc ?_ _)); exact BK136.out) hb); have n3_ := Aside0.mk (KeepBut.trans (by repeat (first | (with_reducible first | exact HK.out | apply KeepBut.set_ | apply keep_drewN | apply keep_drew | apply keep_alloc | refine keep_far ?_ GW136.out _) | exact HK.out)) (KeepBut.of_below hb g none) (.inl rfl)); have n4_ := Aside0.mk (below_step (by repeat (first | (with_reducible first | exact HB.out | apply below_alloc | apply pw_below_drewN | apply below_drew1 | refine below_set ?_ (IsS95.ge HI0.out) | refine below_set ?_ GE136.out) | exact HB.out)) hb); have n5_ := Aside0.mk (hbox); have n6_ := Aside0.mk ((by rw [hg]; exact (keep_size (w := w) (g := g) (row := none) (by repeat (first | (with_reducible first | exact HK.out | apply KeepBut.set_ | apply keep_drewN | apply keep_drew | apply keep_alloc | refine keep_far ?_ GW136.out _) | exact HK.out))) : w.heap.size ≤ gb153)); have n7_ := Aside0.mk ((Nat.le_trans HW0.out (by rw [hg]; exact (keep_size (w := w) (g := g) (row := none) (by repeat (first | (with_reducible first | exact HK.out | apply KeepBut.set_ | apply keep_drewN | apply keep_drew | apply keep_alloc | refine keep_far ?_ GW136.out _) | exact HK.out))) : w.heap.size ≤ gb153) : w0.heap.size ≤ gb153)); have n8_ := Aside0.mk ((by rw [hg]; exact Nat.ne_of_lt (blk_lt (g := gb136) (o := .cells #[.int .i64 0, .int .i64 0, .int .i64 0, .int .i64 0, .int .i64 0, .int .i64 0, .bool false, .bool false, .slice none 0 0] 27 (0, 0)) (by (with_reducible repeat (first | refine blk_drewN ?_ _ | refine blk_drew ?_ | refine blk_alloc ?_ _)); exact BK136.out)) : gb136 ≠ gb153)); have n9_ := Aside0.mk ((by rw [hg]; exact Nat.ne_of_gt (blk_lt (g := gb136) (o := .cells #[.int .i64 0, .int .i64 0, .int .i64 0, .int .i64 0, .int .i64 0, .int .i64 0, .bool false, .bool false, .slice none 0 0] 27 (0, 0)) (by (with_reducible repeat (first | refine blk_drewN ?_ _ | refine blk_drew ?_ | refine blk_alloc ?_ _)); exact BK136.out)) : gb153 ≠ gb136)); have n10_ := Aside0.mk ((by rw [hg]; exact Nat.ne_of_lt (IsS95.lt (show IsS95 w0 _ g s0_0 t152 from by repeat (first | (with_reducible first | exact HI0.out | apply IsS95.alloc | apply IsS95.drewN | apply IsS95.drew | apply IsS95.set_1 | refine IsS95.far ?_ NB0_136.out _) | exact HI0.out))) : g ≠ gb153)); have n11_ := Aside0.mk ((by rw [hg]; exact Nat.ne_of_gt (IsS95.lt (show IsS95 w0 _ g s0_0 t152 from by repeat (first | (with_reducible first | exact HI0.out | apply IsS95.alloc | apply IsS95.drewN | apply IsS95.drew | apply IsS95.set_1 | refine IsS95.far ?_ NB0_136.out _) | exact HI0.out))) : gb153 ≠ g)); clear HO151; clear HI0; clear BK136; clear HK; clear HB; have HO151 := n0_; have HI0 := n1_; have BK136 := n2_; have HK := n3_; have HB := n4_; have BK153 := n5_; have GW153 := n6_; have GE153 := n7_; have NB136_153 := n8_; have NB153_136 := n9_; have NB0_153 := n10_; have NB153_0 := n11_; clear n0_ n1_ n2_ n3_ n4_ n5_ n6_ n7_ n8_ n9_ n10_ n11_; clear hb hbox hg; have hnb22 := NB153_136.out; have hnc22 := NB136_153.out; have hnb23 := NB153_0.out; have hnc23 := NB0_153.out; have hcz24_0 : w21.cell? ⟨gb153, 0, none⟩ = some (.int .i64 0) := (blk_cell BK153.out 0).trans rfl; have hcz24_1 : w21.cell? ⟨gb153, 1, none⟩ = some (.int .i64 0) := (blk_cell BK153.out 1).trans rfl; have hcz24_2 : w21.cell? ⟨gb153, 2, none⟩ = some (.int .i64 0) := (blk_cell BK153.out 2).trans rfl; have hcz24_3 : w21.cell? ⟨gb153, 3, none⟩ = some (.int .i64 0) := (blk_cell BK153.out 3).trans rfl; have hcz24_4 : w21.cell? ⟨gb153, 4, none⟩ = some (.int .i64 0) := (blk_cell BK153.out 4).trans rfl; have hcz24_5 : w21.cell? ⟨gb153, 5, none⟩ = some (.int .i64 0) := (blk_cell BK153.out 5).trans rfl; have hcz24_6 : w21.cell? ⟨gb153, 6, none⟩ = some (.bool false) := (blk_cell BK153.out 6).trans rfl; have hcz24_7 : w21.cell? ⟨gb153, 7, none⟩ = some (.bool false) := (blk_cell BK153.out 7).trans rfl; have hcz24_8 : w21.cell? ⟨gb153, 8, none⟩ = some (.slice none 0 0) := (blk_cell BK153.out 8).trans rfl; have hfz24_0 := blk_frozen BK153.out 0; have hfz24_1 := blk_frozen BK153.out 1; have hfz24_2 := blk_frozen BK153.out 2; have hfz24_3 := blk_frozen BK153.out 3; have hfz24_4 := blk_frozen BK153.out 4; have hfz24_5 := blk_frozen BK153.out 5; have hfz24_6 := blk_frozen BK153.out 6; have hfz24_7 := blk_frozen BK153.out 7; have hfz24_8 := blk_frozen BK153.out 8) | ((with_reducible refine gate_callee (f := 68) rfl ?_); refine goesL_ (some 22) rfl rfl Try.func68 (by kernel_rfl) rfl #[.pointer (some ⟨g, 0, none⟩), .int .i64 4] rfl (by (try simp only [List.map_toArray, List.map_cons, List.map_nil]); first | done | rfl | (simp only [List.length_drop, List.length_take]; rfl)) ?_; (with_reducible refine (spec_l20Rd_pick.calls k g s0_0 t152 4 t154 t155 w0 _ ?side1 ?side2 A10.out).mono ?_); (case side1 => repeat (first | (with_reducible first | exact HI0.out | apply IsS95.alloc | apply IsS95.drewN | apply IsS95.drew | apply IsS95.set_1 | refine IsS95.far ?_ NB0_136.out _ | refine IsS95.far ?_ NB0_153.out _) | exact HI0.out)); (case side2 => repeat (first | (with_reducible first | exact HB.out | apply below_alloc | apply pw_below_drewN | apply below_drew1 | refine below_set ?_ (IsS95.ge HI0.out) | refine below_set ?_ GE136.out | refine below_set ?_ GE153.out) | exact HB.out)); rintro e w25 ⟨rfl, hi, hb, hk⟩; refine ⟨_, rfl, ?_⟩; have n0_ := Aside0.mk (KeepBut.blk hk (g' := gb136) (o := .cells #[.int .i64 0, .int .i64 0, .int .i64 0, .int .i64 0, .int .i64 0, .int .i64 0, .bool false, .bool false, .slice none 0 0] 27 (0, 0)) (by (with_reducible repeat (first | refine blk_drewN ?_ _ | refine blk_drew ?_ | refine blk_alloc ?_ _)); refine blk_far ?_ NB136_153.out _; (with_reducible repeat (first | refine blk_drewN ?_ _ | refine blk_drew ?_ | refine blk_alloc ?_ _)); refine blk_far ?_ NB136_153.out _; (with_reducible repeat (first | refine blk_drewN ?_ _ | refine blk_drew ?_ | refine blk_alloc ?_ _)); refine blk_far ?_ NB136_153.out _; (with_reducible repeat (first | refine blk_drewN ?_ _ | refine blk_drew ?_ | refine blk_alloc ?_ _)); refine blk_far ?_ NB136_153.out _; (with_reducible repeat (first | refine blk_drewN ?_ _ | refine blk_drew ?_ | refine blk_alloc ?_ _)); refine blk_far ?_ NB136_153.out _; (with_reducible repeat (first | refine blk_drewN ?_ _ | refine blk_drew ?_ | refine blk_alloc ?_ _)); refine blk_far ?_ NB136_153.out _; (with_reducible repeat (first | refine blk_drewN ?_ _ | refine blk_drew ?_ | refine blk_alloc ?_ _)); refine blk_far ?_ NB136_153.out _; (with_reducible repeat (first | refine blk_drewN ?_ _ | refine blk_drew ?_ | refine blk_alloc ?_ _)); refine blk_far ?_ NB136_153.out _; (with_reducible repeat (first | refine blk_drewN ?_ _ | refine blk_drew ?_ | refine blk_alloc ?_ _)); refine blk_far ?_ NB136_153.out _; (with_reducible repeat (first | refine blk_drewN ?_ _ | refine blk_drew ?_ | refine blk_alloc ?_ _)); exact BK136.out) NB136_0.out (by simp)); have n1_ := Aside0.mk (Kd.R_mono (Kd.R_keep (IsS95.apart (show IsS95 w0 _ g s0_0 t152 from by repeat (first | (with_reducible first | exact HI0.out | apply IsS95.alloc | apply IsS95.drewN | apply IsS95.drew | apply IsS95.set_1 | refine IsS95.far ?_ NB0_136.out _ | refine IsS95.far ?_ NB0_153.out _) | exact HI0.out)) (by (with_reducible repeat (first | apply Kd.R_alloc | apply Kd.R_drewN | apply Kd.R_drew)); exact (Kd.R_mono (Kd.R_far (p := ⟨gb153, 8, none⟩) (Kd.R_far (p := ⟨gb153, 7, none⟩) (Kd.R_far (p := ⟨gb153, 6, none⟩) (Kd.R_far (p := ⟨gb153, 5, none⟩) (Kd.R_far (p := ⟨gb153, 4, none⟩) (Kd.R_far (p := ⟨gb153, 3, none⟩) (Kd.R_far (p := ⟨gb153, 2, none⟩) (Kd.R_far (p := ⟨gb153, 1, none⟩) (Kd.R_far (p := ⟨gb153, 0, none⟩) (Kd.R_types HO151.out BK153.out (by decide)) (fun _ hk => by first | exact hk.2 | trivial | ((try simp only [ne_eq] at hk); simp only [hk, ne_eq, not_false_eq_true, and_self])) (.int .i64 t137)) (fun _ hk => by first | exact hk.2 | trivial | ((try simp only [ne_eq] at hk); simp only [hk, ne_eq, not_false_eq_true, and_self])) (.int .i64 t139)) (fun _ hk => by first | exact hk.2 | trivial | ((try simp only [ne_eq] at hk); simp only [hk, ne_eq, not_false_eq_true, and_self])) (.int .i64 t141)) (fun _ hk => by first | exact hk.2 | trivial | ((try simp only [ne_eq] at hk); simp only [hk, ne_eq, not_false_eq_true, and_self])) (.int .i64 t143)) (fun _ hk => by first | exact hk.2 | trivial | ((try simp only [ne_eq] at hk); simp only [hk, ne_eq, not_false_eq_true, and_self])) (.int .i64 t145)) (fun _ hk => by first | exact hk.2 | trivial | ((try simp only [ne_eq] at hk); simp only [hk, ne_eq, not_false_eq_true, and_self])) (.int .i64 0)) (fun _ hk => by first | exact hk.2 | trivial | ((try simp only [ne_eq] at hk); simp only [hk, ne_eq, not_false_eq_true, and_self])) (.bool false)) (fun _ hk => by first | exact hk.2 | trivial | ((try simp only [ne_eq] at hk); simp only [hk, ne_eq, not_false_eq_true, and_self])) (.bool false)) (fun _ hk => by first | exact hk.2 | trivial | ((try simp only [ne_eq] at hk); simp only [hk, ne_eq, not_false_eq_true, and_self])) (.slice Ao20 t149.length co20)) (fun _ h_ => by first | exact h_.1 | ((try simp only [ne_eq] at h_); simp only [h_, ne_eq, not_false_eq_true, and_self])))) (by decide)) hk (fun _ h => h.2)) (fun _ h => h.1)); have n2_ := Aside0.mk (KeepBut.blk hk (g' := gb153) (o := .cells #[.int .i64 t137, .int .i64 t139, .int .i64 t141, .int .i64 t143, .int .i64 t145, .int .i64 0, .bool false, .bool false, .slice Ao20 t149.length co20] 27 (0, 0)) (by (with_reducible repeat (first | refine blk_drewN ?_ _ | refine blk_drew ?_ | refine blk_alloc ?_ _)); refine blk_put (cs := #[.int .i64 t137, .int .i64 t139, .int .i64 t141, .int .i64 t143, .int .i64 t145, .int .i64 0, .bool false, .bool false, .slice none 0 0]) ?_ 8 _ rfl; (with_reducible repeat (first | refine blk_drewN ?_ _ | refine blk_drew ?_ | refine blk_alloc ?_ _)); refine blk_put (cs := #[.int .i64 t137, .int .i64 t139, .int .i64 t141, .int .i64 t143, .int .i64 t145, .int .i64 0, .bool false, .bool false, .slice none 0 0]) ?_ 7 _ rfl; (with_reducible repeat (first | refine blk_drewN ?_ _ | refine blk_drew ?_ | refine blk_alloc ?_ _)); refine blk_put (cs := #[.int .i64 t137, .int .i64 t139, .int .i64 t141, .int .i64 t143, .int .i64 t145, .int .i64 0, .bool false, .bool false, .slice none 0 0]) ?_ 6 _ rfl; (with_reducible repeat (first | refine blk_drewN ?_ _ | refine blk_drew ?_ | refine blk_alloc ?_ _)); refine blk_put (cs := #[.int .i64 t137, .int .i64 t139, .int .i64 t141, .int .i64 t143, .int .i64 t145, .int .i64 0, .bool false, .bool false, .slice none 0 0]) ?_ 5 _ rfl; (with_reducible repeat (first | refine blk_drewN ?_ _ | refine blk_drew ?_ | refine blk_alloc ?_ _)); refine blk_put (cs := #[.int .i64 t137, .int .i64 t139, .int .i64 t141, .int .i64 t143, .int .i64 0, .int .i64 0, .bool false, .bool false, .slice none 0 0]) ?_ 4 _ rfl; (with_reducible repeat (first | refine blk_drewN ?_ _ | refine blk_drew ?_ | refine blk_alloc ?_ _)); refine blk_put (cs := #[.int .i64 t137, .int .i64 t139, .int .i64 t141, .int .i64 0, .int .i64 0, .int .i64 0, .bool false, .bool false, .slice none 0 0]) ?_ 3 _ rfl; (with_reducible repeat (first | refine blk_drewN ?_ _ | refine blk_drew ?_ | refine blk_alloc ?_ _)); refine blk_put (cs := #[.int .i64 t137, .int .i64 t139, .int .i64 0, .int .i64 0, .int .i64 0, .int .i64 0, .bool false, .bool false, .slice none 0 0]) ?_ 2 _ rfl; (with_reducible repeat (first | refine blk_drewN ?_ _ | refine blk_drew ?_ | refine blk_alloc ?_ _)); refine blk_put (cs := #[.int .i64 t137, .int .i64 0, .int .i64 0, .int .i64 0, .int .i64 0, .int .i64 0, .bool false, .bool false, .slice none 0 0]) ?_ 1 _ rfl; (with_reducible repeat (first | refine blk_drewN ?_ _ | refine blk_drew ?_ | refine blk_alloc ?_ _)); refine blk_put (cs := #[.int .i64 0, .int .i64 0, .int .i64 0, .int .i64 0, .int .i64 0, .int .i64 0, .bool false, .bool false, .slice none 0 0]) ?_ 0 _ rfl; (with_reducible repeat (first | refine blk_drewN ?_ _ | refine blk_drew ?_ | refine blk_alloc ?_ _)); exact BK153.out) NB153_0.out (by simp)); have n3_ := Aside0.mk (KeepBut.trans (by repeat (first | (with_reducible first | exact HK.out | apply KeepBut.set_ | apply keep_drewN | apply keep_drew | apply keep_alloc | refine keep_far ?_ GW136.out _ | refine keep_far ?_ GW153.out _) | exact HK.out)) hk (.inl rfl)); have n4_ := Aside0.mk (hb); have n5_ := Aside0.mk (hi); clear BK136; clear HO151; clear BK153; clear HK; clear HB; clear HI0; have BK136 := n0_; have HO151 := n1_; have BK153 := n2_; have HK := n3_; have HB := n4_; have HI0 := n5_; clear n0_ n1_ n2_ n3_ n4_ n5_; (try clear hb); (try clear hb2); (try clear hk); (try clear hi)))
  (try simp only [Act.put, List.setIfInBounds_toArray, List.set_cons_zero, List.set_cons_succ])
  go_cut [] (fun wc => ∃ (kq : Nat) (x1001_10 : Int) (x154005_10 : Int) (x154006_10 : Bool) (x154007_10 : Bool), Aside0 (spec_l20Packet.j0 kq a1 s0_0 x1001_10 t137 t139 t141 t143 t145 x154005_10 x154006_10 x154007_10 t149 = some (r1, r2, r3, r4, r5, r6, r7, r8, r9, r10)) ∧ Aside0 (kq ≤ k) ∧ Aside0 (Kd.R (Kd.int .u8) 5 wc w.heap.size (fun _ => True) (.slice Ao20 t149.length co20) t149) ∧ Aside0 (wc.heap[gb136]? = some (.cells #[.int .i64 0, .int .i64 0, .int .i64 0, .int .i64 0, .int .i64 0, .int .i64 0, .bool false, .bool false, (.slice none 0 0)] 27 (0, 0))) ∧ Aside0 (wc.heap[gb153]? = some (.cells #[.int .i64 t137, .int .i64 t139, .int .i64 t141, .int .i64 t143, .int .i64 t145, .int .i64 x154005_10, .bool x154006_10, .bool x154007_10, (.slice Ao20 t149.length co20)] 27 (0, 0))) ∧ Aside0 (IsS95 w0 wc g s0_0 x1001_10) ∧ Aside0 (KeepBut w wc g none) ∧ Aside0 (Below w0.heap.size w0 wc))
  case first =>
    have H := HC11.out
    clear HC11
    by_cases c26 : t154 = 0
    · rw [if_pos c26] at H
      have c26b0 : (t154 == 0) = true := beq_iff_eq.mpr c26
      have c26b1 : (t154 != 0) = false := bne_eq_false_iff_eq.mpr c26
      clear c26
      (first | rw [c26b0] | (simp only [i64_w, i32_w]; rw [c26b0]) | skip)
      have H' := Aside0.mk H
      clear H
      have hnb27 := NB153_136.out
      have hnc27 := NB136_153.out
      have hnb28 := NB153_0.out
      have hnc28 := NB0_153.out
      have hcz29_0 : w25.cell? ⟨gb153, 0, none⟩ = some (.int .i64 t137) := (blk_cell BK153.out 0).trans rfl
      have hcz29_1 : w25.cell? ⟨gb153, 1, none⟩ = some (.int .i64 t139) := (blk_cell BK153.out 1).trans rfl
      have hcz29_2 : w25.cell? ⟨gb153, 2, none⟩ = some (.int .i64 t141) := (blk_cell BK153.out 2).trans rfl
      have hcz29_3 : w25.cell? ⟨gb153, 3, none⟩ = some (.int .i64 t143) := (blk_cell BK153.out 3).trans rfl
      have hcz29_4 : w25.cell? ⟨gb153, 4, none⟩ = some (.int .i64 t145) := (blk_cell BK153.out 4).trans rfl
      have hcz29_5 : w25.cell? ⟨gb153, 5, none⟩ = some (.int .i64 0) := (blk_cell BK153.out 5).trans rfl
      have hcz29_6 : w25.cell? ⟨gb153, 6, none⟩ = some (.bool false) := (blk_cell BK153.out 6).trans rfl
      have hcz29_7 : w25.cell? ⟨gb153, 7, none⟩ = some (.bool false) := (blk_cell BK153.out 7).trans rfl
      have hcz29_8 : w25.cell? ⟨gb153, 8, none⟩ = some (.slice Ao20 t149.length co20) := (blk_cell BK153.out 8).trans rfl
      have hfz29_0 := blk_frozen BK153.out 0
      have hfz29_1 := blk_frozen BK153.out 1
      have hfz29_2 := blk_frozen BK153.out 2
      have hfz29_3 := blk_frozen BK153.out 3
      have hfz29_4 := blk_frozen BK153.out 4
      have hfz29_5 := blk_frozen BK153.out 5
      have hfz29_6 := blk_frozen BK153.out 6
      have hfz29_7 := blk_frozen BK153.out 7
      have hfz29_8 := blk_frozen BK153.out 8
      go_wp2
      go_meet
      case rel => exact ⟨_, (t155), (0), (false), (true), H', ⟨by first | omega | exact Nat.le_refl _⟩, ⟨by (with_reducible repeat (first | apply Kd.R_alloc | apply Kd.R_drewN | apply Kd.R_drew)); exact Kd.R_mono (Kd.R_far (p := ⟨gb153, 7, none⟩) (Kd.R_types HO151.out BK153.out (by decide)) (fun _ hk => by first | exact hk.2 | trivial | ((try simp only [ne_eq] at hk); simp only [hk, ne_eq, not_false_eq_true, and_self])) (.bool true)) (fun _ hk => trivial)⟩, ⟨by (with_reducible repeat (first | refine blk_drewN ?_ _ | refine blk_drew ?_ | refine blk_alloc ?_ _)); refine blk_far ?_ NB136_153.out _; (with_reducible repeat (first | refine blk_drewN ?_ _ | refine blk_drew ?_ | refine blk_alloc ?_ _)); exact BK136.out⟩, ⟨by (with_reducible repeat (first | refine blk_drewN ?_ _ | refine blk_drew ?_ | refine blk_alloc ?_ _)); refine blk_put (cs := #[.int .i64 t137, .int .i64 t139, .int .i64 t141, .int .i64 t143, .int .i64 t145, .int .i64 0, .bool false, .bool false, .slice Ao20 t149.length co20]) ?_ 7 _ rfl; (with_reducible repeat (first | refine blk_drewN ?_ _ | refine blk_drew ?_ | refine blk_alloc ?_ _)); exact BK153.out⟩, ⟨by repeat (first | (with_reducible first | exact HI0.out | apply IsS95.alloc | apply IsS95.drewN | apply IsS95.drew | apply IsS95.set_1 | refine IsS95.far ?_ NB0_136.out _ | refine IsS95.far ?_ NB0_153.out _) | exact HI0.out)⟩, ⟨by repeat (first | (with_reducible first | exact HK.out | apply KeepBut.set_ | apply keep_drewN | apply keep_drew | apply keep_alloc | refine keep_far ?_ GW136.out _ | refine keep_far ?_ GW153.out _) | exact HK.out)⟩, ⟨by repeat (first | (with_reducible first | exact HB.out | apply below_alloc | apply pw_below_drewN | apply below_drew1 | refine below_set ?_ (IsS95.ge HI0.out) | refine below_set ?_ GE136.out | refine below_set ?_ GE153.out) | exact HB.out)⟩⟩
    · rw [if_neg c26] at H
      have c26b0 : (t154 == 0) = false := beq_eq_false_iff_ne.mpr c26
      have c26b1 : (t154 != 0) = true := bne_iff_ne.mpr c26
      (first | rw [c26b0] | (simp only [i64_w, i32_w]; rw [c26b0]) | skip)
      by_cases c30 : t154 = 1
      · rw [if_pos c30] at H
        have c30b0 : (t154 == 1) = true := beq_iff_eq.mpr c30
        have c30b1 : (t154 != 1) = false := bne_eq_false_iff_eq.mpr c30
        clear c30
        replace H := Option.bind_eq_some_iff.mp H
        obtain ⟨⟨t156, t157⟩, A310, H⟩ := H
        replace H : (if (t149.length : Int) > 0 then ((spec_l20Rd_pick.f k s0_0 t157 2).bind fun bt158 => (spec_l20Packet.j0 k a1 s0_0 bt158.2 t137 t139 t141 t143 t145 t156 (bt158.1 == 0) false t149)) else (spec_l20Packet.j0 k a1 s0_0 t157 t137 t139 t141 t143 t145 t156 false false t149)) = some (r1, r2, r3, r4, r5, r6, r7, r8, r9, r10) := H
        have A31 := Aside0.mk A310
        clear A310
        by_cases c32 : (t149.length : Int) > 0
        · rw [if_pos c32] at H
          have c32b0 : decide (0 < (t149.length : Int)) = true := decide_eq_true c32
          have c32b1 : decide (0 < t149.length) = true := decide_eq_true (by omega)
          clear c32
          replace H := Option.bind_eq_some_iff.mp H
          obtain ⟨⟨t158, t159⟩, A330, H⟩ := H
          replace H : (spec_l20Packet.j0 k a1 s0_0 t159 t137 t139 t141 t143 t145 t156 (t158 == 0) false t149) = some (r1, r2, r3, r4, r5, r6, r7, r8, r9, r10) := H
          have A33 := Aside0.mk A330
          clear A330
          have H' := Aside0.mk H
          clear H
          go_wp2_with (first | ((with_reducible refine gate_callee (f := 68) rfl ?_); refine goesL_ (some 29) rfl rfl Try.func68 (by kernel_rfl) rfl #[.pointer (some ⟨g, 0, none⟩), .int .i64 20] rfl (by (try simp only [List.map_toArray, List.map_cons, List.map_nil]); first | done | rfl | (simp only [List.length_drop, List.length_take]; rfl)) ?_; (with_reducible refine (spec_l20Rd_pick.calls k g s0_0 t155 20 t156 t157 w0 _ ?side1 ?side2 A31.out).mono ?_); (case side1 => repeat (first | (with_reducible first | exact HI0.out | apply IsS95.alloc | apply IsS95.drewN | apply IsS95.drew | apply IsS95.set_1 | refine IsS95.far ?_ NB0_136.out _ | refine IsS95.far ?_ NB0_153.out _) | exact HI0.out)); (case side2 => repeat (first | (with_reducible first | exact HB.out | apply below_alloc | apply pw_below_drewN | apply below_drew1 | refine below_set ?_ (IsS95.ge HI0.out) | refine below_set ?_ GE136.out | refine below_set ?_ GE153.out) | exact HB.out)); rintro e w34 ⟨rfl, hi, hb, hk⟩; refine ⟨_, rfl, ?_⟩; have n0_ := Aside0.mk (KeepBut.blk hk (g' := gb136) (o := .cells #[.int .i64 0, .int .i64 0, .int .i64 0, .int .i64 0, .int .i64 0, .int .i64 0, .bool false, .bool false, .slice none 0 0] 27 (0, 0)) (by (with_reducible repeat (first | refine blk_drewN ?_ _ | refine blk_drew ?_ | refine blk_alloc ?_ _)); exact BK136.out) NB136_0.out (by simp)); have n1_ := Aside0.mk (Kd.R_mono (Kd.R_keep (IsS95.apart (show IsS95 w0 _ g s0_0 t155 from by repeat (first | (with_reducible first | exact HI0.out | apply IsS95.alloc | apply IsS95.drewN | apply IsS95.drew | apply IsS95.set_1 | refine IsS95.far ?_ NB0_136.out _ | refine IsS95.far ?_ NB0_153.out _) | exact HI0.out)) (by (with_reducible repeat (first | apply Kd.R_alloc | apply Kd.R_drewN | apply Kd.R_drew)); exact HO151.out) (by decide)) hk (fun _ h => h.2)) (fun _ h => h.1)); have n2_ := Aside0.mk (KeepBut.blk hk (g' := gb153) (o := .cells #[.int .i64 t137, .int .i64 t139, .int .i64 t141, .int .i64 t143, .int .i64 t145, .int .i64 0, .bool false, .bool false, .slice Ao20 t149.length co20] 27 (0, 0)) (by (with_reducible repeat (first | refine blk_drewN ?_ _ | refine blk_drew ?_ | refine blk_alloc ?_ _)); exact BK153.out) NB153_0.out (by simp)); have n3_ := Aside0.mk (KeepBut.trans (by repeat (first | (with_reducible first | exact HK.out | apply KeepBut.set_ | apply keep_drewN | apply keep_drew | apply keep_alloc | refine keep_far ?_ GW136.out _ | refine keep_far ?_ GW153.out _) | exact HK.out)) hk (.inl rfl)); have n4_ := Aside0.mk (hb); have n5_ := Aside0.mk (hi); clear BK136; clear HO151; clear BK153; clear HK; clear HB; clear HI0; have BK136 := n0_; have HO151 := n1_; have BK153 := n2_; have HK := n3_; have HB := n4_; have HI0 := n5_; clear n0_ n1_ n2_ n3_ n4_ n5_; (try clear hb); (try clear hb2); (try clear hk); (try clear hi); have hnb35 := NB153_136.out; have hnc35 := NB136_153.out; have hnb36 := NB153_0.out; have hnc36 := NB0_153.out; have hcz37_0 : w34.cell? ⟨gb153, 0, none⟩ = some (.int .i64 t137) := (blk_cell BK153.out 0).trans rfl; have hcz37_1 : w34.cell? ⟨gb153, 1, none⟩ = some (.int .i64 t139) := (blk_cell BK153.out 1).trans rfl; have hcz37_2 : w34.cell? ⟨gb153, 2, none⟩ = some (.int .i64 t141) := (blk_cell BK153.out 2).trans rfl; have hcz37_3 : w34.cell? ⟨gb153, 3, none⟩ = some (.int .i64 t143) := (blk_cell BK153.out 3).trans rfl; have hcz37_4 : w34.cell? ⟨gb153, 4, none⟩ = some (.int .i64 t145) := (blk_cell BK153.out 4).trans rfl; have hcz37_5 : w34.cell? ⟨gb153, 5, none⟩ = some (.int .i64 0) := (blk_cell BK153.out 5).trans rfl; have hcz37_6 : w34.cell? ⟨gb153, 6, none⟩ = some (.bool false) := (blk_cell BK153.out 6).trans rfl; have hcz37_7 : w34.cell? ⟨gb153, 7, none⟩ = some (.bool false) := (blk_cell BK153.out 7).trans rfl; have hcz37_8 : w34.cell? ⟨gb153, 8, none⟩ = some (.slice Ao20 t149.length co20) := (blk_cell BK153.out 8).trans rfl; have hfz37_0 := blk_frozen BK153.out 0; have hfz37_1 := blk_frozen BK153.out 1; have hfz37_2 := blk_frozen BK153.out 2; have hfz37_3 := blk_frozen BK153.out 3; have hfz37_4 := blk_frozen BK153.out 4; have hfz37_5 := blk_frozen BK153.out 5; have hfz37_6 := blk_frozen BK153.out 6; have hfz37_7 := blk_frozen BK153.out 7; have hfz37_8 := blk_frozen BK153.out 8) | (go_at_call 68; (with_reducible refine (spec_l20Rd_pick.calls k g s0_0 t157 2 t158 t159 w0 _ ?side1 ?side2 A33.out).mono ?_); (case side1 => repeat (first | (with_reducible first | exact HI0.out | apply IsS95.alloc | apply IsS95.drewN | apply IsS95.drew | apply IsS95.set_1 | refine IsS95.far ?_ NB0_136.out _ | refine IsS95.far ?_ NB0_153.out _) | exact HI0.out)); (case side2 => repeat (first | (with_reducible first | exact HB.out | apply below_alloc | apply pw_below_drewN | apply below_drew1 | refine below_set ?_ (IsS95.ge HI0.out) | refine below_set ?_ GE136.out | refine below_set ?_ GE153.out) | exact HB.out)); rintro e w38 ⟨rfl, hi, hb, hk⟩; have n0_ := Aside0.mk (KeepBut.blk hk (g' := gb136) (o := .cells #[.int .i64 0, .int .i64 0, .int .i64 0, .int .i64 0, .int .i64 0, .int .i64 0, .bool false, .bool false, .slice none 0 0] 27 (0, 0)) (by (with_reducible repeat (first | refine blk_drewN ?_ _ | refine blk_drew ?_ | refine blk_alloc ?_ _)); refine blk_far ?_ NB136_153.out _; (with_reducible repeat (first | refine blk_drewN ?_ _ | refine blk_drew ?_ | refine blk_alloc ?_ _)); exact BK136.out) NB136_0.out (by simp)); have n1_ := Aside0.mk (Kd.R_mono (Kd.R_keep (IsS95.apart (show IsS95 w0 _ g s0_0 t157 from by repeat (first | (with_reducible first | exact HI0.out | apply IsS95.alloc | apply IsS95.drewN | apply IsS95.drew | apply IsS95.set_1 | refine IsS95.far ?_ NB0_136.out _ | refine IsS95.far ?_ NB0_153.out _) | exact HI0.out)) (by (with_reducible repeat (first | apply Kd.R_alloc | apply Kd.R_drewN | apply Kd.R_drew)); exact (Kd.R_mono (Kd.R_far (p := ⟨gb153, 5, none⟩) (Kd.R_types HO151.out BK153.out (by decide)) (fun _ hk => by first | exact hk.2 | trivial | ((try simp only [ne_eq] at hk); simp only [hk, ne_eq, not_false_eq_true, and_self])) (.int .i64 t156)) (fun _ h_ => by first | exact h_.1 | ((try simp only [ne_eq] at h_); simp only [h_, ne_eq, not_false_eq_true, and_self])))) (by decide)) hk (fun _ h => h.2)) (fun _ h => h.1)); have n2_ := Aside0.mk (KeepBut.blk hk (g' := gb153) (o := .cells #[.int .i64 t137, .int .i64 t139, .int .i64 t141, .int .i64 t143, .int .i64 t145, .int .i64 t156, .bool false, .bool false, .slice Ao20 t149.length co20] 27 (0, 0)) (by (with_reducible repeat (first | refine blk_drewN ?_ _ | refine blk_drew ?_ | refine blk_alloc ?_ _)); refine blk_put (cs := #[.int .i64 t137, .int .i64 t139, .int .i64 t141, .int .i64 t143, .int .i64 t145, .int .i64 0, .bool false, .bool false, .slice Ao20 t149.length co20]) ?_ 5 _ rfl; (with_reducible repeat (first | refine blk_drewN ?_ _ | refine blk_drew ?_ | refine blk_alloc ?_ _)); exact BK153.out) NB153_0.out (by simp)); have n3_ := Aside0.mk (KeepBut.trans (by repeat (first | (with_reducible first | exact HK.out | apply KeepBut.set_ | apply keep_drewN | apply keep_drew | apply keep_alloc | refine keep_far ?_ GW136.out _ | refine keep_far ?_ GW153.out _) | exact HK.out)) hk (.inl rfl)); have n4_ := Aside0.mk (hb); have n5_ := Aside0.mk (hi); clear BK136; clear HO151; clear BK153; clear HK; clear HB; clear HI0; have BK136 := n0_; have HO151 := n1_; have BK153 := n2_; have HK := n3_; have HB := n4_; have HI0 := n5_; clear n0_ n1_ n2_ n3_ n4_ n5_; (try clear hb); (try clear hb2); (try clear hk); (try clear hi); have hcz39_0 : w38.cell? ⟨gb153, 0, none⟩ = some (.int .i64 t137) := (blk_cell BK153.out 0).trans rfl; have hcz39_1 : w38.cell? ⟨gb153, 1, none⟩ = some (.int .i64 t139) := (blk_cell BK153.out 1).trans rfl; have hcz39_2 : w38.cell? ⟨gb153, 2, none⟩ = some (.int .i64 t141) := (blk_cell BK153.out 2).trans rfl; have hcz39_3 : w38.cell? ⟨gb153, 3, none⟩ = some (.int .i64 t143) := (blk_cell BK153.out 3).trans rfl; have hcz39_4 : w38.cell? ⟨gb153, 4, none⟩ = some (.int .i64 t145) := (blk_cell BK153.out 4).trans rfl; have hcz39_5 : w38.cell? ⟨gb153, 5, none⟩ = some (.int .i64 t156) := (blk_cell BK153.out 5).trans rfl; have hcz39_6 : w38.cell? ⟨gb153, 6, none⟩ = some (.bool false) := (blk_cell BK153.out 6).trans rfl; have hcz39_7 : w38.cell? ⟨gb153, 7, none⟩ = some (.bool false) := (blk_cell BK153.out 7).trans rfl; have hcz39_8 : w38.cell? ⟨gb153, 8, none⟩ = some (.slice Ao20 t149.length co20) := (blk_cell BK153.out 8).trans rfl; have hfz39_0 := blk_frozen BK153.out 0; have hfz39_1 := blk_frozen BK153.out 1; have hfz39_2 := blk_frozen BK153.out 2; have hfz39_3 := blk_frozen BK153.out 3; have hfz39_4 := blk_frozen BK153.out 4; have hfz39_5 := blk_frozen BK153.out 5; have hfz39_6 := blk_frozen BK153.out 6; have hfz39_7 := blk_frozen BK153.out 7; have hfz39_8 := blk_frozen BK153.out 8))
          go_meet
          case rel => exact ⟨_, (t159), (t156), ((t158 == 0)), (false), H', ⟨by first | omega | exact Nat.le_refl _⟩, ⟨by (with_reducible repeat (first | apply Kd.R_alloc | apply Kd.R_drewN | apply Kd.R_drew)); exact Kd.R_mono (Kd.R_far (p := ⟨gb153, 6, none⟩) (Kd.R_types HO151.out BK153.out (by decide)) (fun _ hk => by first | exact hk.2 | trivial | ((try simp only [ne_eq] at hk); simp only [hk, ne_eq, not_false_eq_true, and_self])) (.bool (t158 == 0))) (fun _ hk => trivial)⟩, ⟨by (with_reducible repeat (first | refine blk_drewN ?_ _ | refine blk_drew ?_ | refine blk_alloc ?_ _)); refine blk_far ?_ NB136_153.out _; (with_reducible repeat (first | refine blk_drewN ?_ _ | refine blk_drew ?_ | refine blk_alloc ?_ _)); exact BK136.out⟩, ⟨by (with_reducible repeat (first | refine blk_drewN ?_ _ | refine blk_drew ?_ | refine blk_alloc ?_ _)); refine blk_put (cs := #[.int .i64 t137, .int .i64 t139, .int .i64 t141, .int .i64 t143, .int .i64 t145, .int .i64 t156, .bool false, .bool false, .slice Ao20 t149.length co20]) ?_ 6 _ rfl; (with_reducible repeat (first | refine blk_drewN ?_ _ | refine blk_drew ?_ | refine blk_alloc ?_ _)); exact BK153.out⟩, ⟨by repeat (first | (with_reducible first | exact HI0.out | apply IsS95.alloc | apply IsS95.drewN | apply IsS95.drew | apply IsS95.set_1 | refine IsS95.far ?_ NB0_136.out _ | refine IsS95.far ?_ NB0_153.out _) | exact HI0.out)⟩, ⟨by repeat (first | (with_reducible first | exact HK.out | apply KeepBut.set_ | apply keep_drewN | apply keep_drew | apply keep_alloc | refine keep_far ?_ GW136.out _ | refine keep_far ?_ GW153.out _) | exact HK.out)⟩, ⟨by repeat (first | (with_reducible first | exact HB.out | apply below_alloc | apply pw_below_drewN | apply below_drew1 | refine below_set ?_ (IsS95.ge HI0.out) | refine below_set ?_ GE136.out | refine below_set ?_ GE153.out) | exact HB.out)⟩⟩
        · rw [if_neg c32] at H
          have c32b0 : decide (0 < (t149.length : Int)) = false := decide_eq_false c32
          have c32b1 : decide (0 < t149.length) = false := decide_eq_false (by omega)
          clear c32
          have H' := Aside0.mk H
          clear H
          go_wp2_with (first | ((with_reducible refine gate_callee (f := 68) rfl ?_); refine goesL_ (some 29) rfl rfl Try.func68 (by kernel_rfl) rfl #[.pointer (some ⟨g, 0, none⟩), .int .i64 20] rfl (by (try simp only [List.map_toArray, List.map_cons, List.map_nil]); first | done | rfl | (simp only [List.length_drop, List.length_take]; rfl)) ?_; (with_reducible refine (spec_l20Rd_pick.calls k g s0_0 t155 20 t156 t157 w0 _ ?side1 ?side2 A31.out).mono ?_); (case side1 => repeat (first | (with_reducible first | exact HI0.out | apply IsS95.alloc | apply IsS95.drewN | apply IsS95.drew | apply IsS95.set_1 | refine IsS95.far ?_ NB0_136.out _ | refine IsS95.far ?_ NB0_153.out _) | exact HI0.out)); (case side2 => repeat (first | (with_reducible first | exact HB.out | apply below_alloc | apply pw_below_drewN | apply below_drew1 | refine below_set ?_ (IsS95.ge HI0.out) | refine below_set ?_ GE136.out | refine below_set ?_ GE153.out) | exact HB.out)); rintro e w40 ⟨rfl, hi, hb, hk⟩; refine ⟨_, rfl, ?_⟩; have n0_ := Aside0.mk (KeepBut.blk hk (g' := gb136) (o := .cells #[.int .i64 0, .int .i64 0, .int .i64 0, .int .i64 0, .int .i64 0, .int .i64 0, .bool false, .bool false, .slice none 0 0] 27 (0, 0)) (by (with_reducible repeat (first | refine blk_drewN ?_ _ | refine blk_drew ?_ | refine blk_alloc ?_ _)); exact BK136.out) NB136_0.out (by simp)); have n1_ := Aside0.mk (Kd.R_mono (Kd.R_keep (IsS95.apart (show IsS95 w0 _ g s0_0 t155 from by repeat (first | (with_reducible first | exact HI0.out | apply IsS95.alloc | apply IsS95.drewN | apply IsS95.drew | apply IsS95.set_1 | refine IsS95.far ?_ NB0_136.out _ | refine IsS95.far ?_ NB0_153.out _) | exact HI0.out)) (by (with_reducible repeat (first | apply Kd.R_alloc | apply Kd.R_drewN | apply Kd.R_drew)); exact HO151.out) (by decide)) hk (fun _ h => h.2)) (fun _ h => h.1)); have n2_ := Aside0.mk (KeepBut.blk hk (g' := gb153) (o := .cells #[.int .i64 t137, .int .i64 t139, .int .i64 t141, .int .i64 t143, .int .i64 t145, .int .i64 0, .bool false, .bool false, .slice Ao20 t149.length co20] 27 (0, 0)) (by (with_reducible repeat (first | refine blk_drewN ?_ _ | refine blk_drew ?_ | refine blk_alloc ?_ _)); exact BK153.out) NB153_0.out (by simp)); have n3_ := Aside0.mk (KeepBut.trans (by repeat (first | (with_reducible first | exact HK.out | apply KeepBut.set_ | apply keep_drewN | apply keep_drew | apply keep_alloc | refine keep_far ?_ GW136.out _ | refine keep_far ?_ GW153.out _) | exact HK.out)) hk (.inl rfl)); have n4_ := Aside0.mk (hb); have n5_ := Aside0.mk (hi); clear BK136; clear HO151; clear BK153; clear HK; clear HB; clear HI0; have BK136 := n0_; have HO151 := n1_; have BK153 := n2_; have HK := n3_; have HB := n4_; have HI0 := n5_; clear n0_ n1_ n2_ n3_ n4_ n5_; (try clear hb); (try clear hb2); (try clear hk); (try clear hi); have hnb41 := NB153_136.out; have hnc41 := NB136_153.out; have hnb42 := NB153_0.out; have hnc42 := NB0_153.out; have hcz43_0 : w40.cell? ⟨gb153, 0, none⟩ = some (.int .i64 t137) := (blk_cell BK153.out 0).trans rfl; have hcz43_1 : w40.cell? ⟨gb153, 1, none⟩ = some (.int .i64 t139) := (blk_cell BK153.out 1).trans rfl; have hcz43_2 : w40.cell? ⟨gb153, 2, none⟩ = some (.int .i64 t141) := (blk_cell BK153.out 2).trans rfl; have hcz43_3 : w40.cell? ⟨gb153, 3, none⟩ = some (.int .i64 t143) := (blk_cell BK153.out 3).trans rfl; have hcz43_4 : w40.cell? ⟨gb153, 4, none⟩ = some (.int .i64 t145) := (blk_cell BK153.out 4).trans rfl; have hcz43_5 : w40.cell? ⟨gb153, 5, none⟩ = some (.int .i64 0) := (blk_cell BK153.out 5).trans rfl; have hcz43_6 : w40.cell? ⟨gb153, 6, none⟩ = some (.bool false) := (blk_cell BK153.out 6).trans rfl; have hcz43_7 : w40.cell? ⟨gb153, 7, none⟩ = some (.bool false) := (blk_cell BK153.out 7).trans rfl; have hcz43_8 : w40.cell? ⟨gb153, 8, none⟩ = some (.slice Ao20 t149.length co20) := (blk_cell BK153.out 8).trans rfl; have hfz43_0 := blk_frozen BK153.out 0; have hfz43_1 := blk_frozen BK153.out 1; have hfz43_2 := blk_frozen BK153.out 2; have hfz43_3 := blk_frozen BK153.out 3; have hfz43_4 := blk_frozen BK153.out 4; have hfz43_5 := blk_frozen BK153.out 5; have hfz43_6 := blk_frozen BK153.out 6; have hfz43_7 := blk_frozen BK153.out 7; have hfz43_8 := blk_frozen BK153.out 8))
          go_meet
          case rel => exact ⟨_, (t157), (t156), (false), (false), H', ⟨by first | omega | exact Nat.le_refl _⟩, ⟨by (with_reducible repeat (first | apply Kd.R_alloc | apply Kd.R_drewN | apply Kd.R_drew)); exact Kd.R_mono (Kd.R_far (p := ⟨gb153, 6, none⟩) (Kd.R_far (p := ⟨gb153, 5, none⟩) (Kd.R_types HO151.out BK153.out (by decide)) (fun _ hk => by first | exact hk.2 | trivial | ((try simp only [ne_eq] at hk); simp only [hk, ne_eq, not_false_eq_true, and_self])) (.int .i64 t156)) (fun _ hk => by first | exact hk.2 | trivial | ((try simp only [ne_eq] at hk); simp only [hk, ne_eq, not_false_eq_true, and_self])) (.bool false)) (fun _ hk => trivial)⟩, ⟨by (with_reducible repeat (first | refine blk_drewN ?_ _ | refine blk_drew ?_ | refine blk_alloc ?_ _)); refine blk_far ?_ NB136_153.out _; (with_reducible repeat (first | refine blk_drewN ?_ _ | refine blk_drew ?_ | refine blk_alloc ?_ _)); refine blk_far ?_ NB136_153.out _; (with_reducible repeat (first | refine blk_drewN ?_ _ | refine blk_drew ?_ | refine blk_alloc ?_ _)); exact BK136.out⟩, ⟨by (with_reducible repeat (first | refine blk_drewN ?_ _ | refine blk_drew ?_ | refine blk_alloc ?_ _)); refine blk_put (cs := #[.int .i64 t137, .int .i64 t139, .int .i64 t141, .int .i64 t143, .int .i64 t145, .int .i64 t156, .bool false, .bool false, .slice Ao20 t149.length co20]) ?_ 6 _ rfl; (with_reducible repeat (first | refine blk_drewN ?_ _ | refine blk_drew ?_ | refine blk_alloc ?_ _)); refine blk_put (cs := #[.int .i64 t137, .int .i64 t139, .int .i64 t141, .int .i64 t143, .int .i64 t145, .int .i64 0, .bool false, .bool false, .slice Ao20 t149.length co20]) ?_ 5 _ rfl; (with_reducible repeat (first | refine blk_drewN ?_ _ | refine blk_drew ?_ | refine blk_alloc ?_ _)); exact BK153.out⟩, ⟨by repeat (first | (with_reducible first | exact HI0.out | apply IsS95.alloc | apply IsS95.drewN | apply IsS95.drew | apply IsS95.set_1 | refine IsS95.far ?_ NB0_136.out _ | refine IsS95.far ?_ NB0_153.out _) | exact HI0.out)⟩, ⟨by repeat (first | (with_reducible first | exact HK.out | apply KeepBut.set_ | apply keep_drewN | apply keep_drew | apply keep_alloc | refine keep_far ?_ GW136.out _ | refine keep_far ?_ GW153.out _) | exact HK.out)⟩, ⟨by repeat (first | (with_reducible first | exact HB.out | apply below_alloc | apply pw_below_drewN | apply below_drew1 | refine below_set ?_ (IsS95.ge HI0.out) | refine below_set ?_ GE136.out | refine below_set ?_ GE153.out) | exact HB.out)⟩⟩
      · rw [if_neg c30] at H
        have c30b0 : (t154 == 1) = false := beq_eq_false_iff_ne.mpr c30
        have c30b1 : (t154 != 1) = true := bne_iff_ne.mpr c30
        have H' := Aside0.mk H
        clear H
        go_wp2
        go_meet
        case rel => exact ⟨_, (t155), (0), (false), (false), H', ⟨by first | omega | exact Nat.le_refl _⟩, ⟨by (with_reducible repeat (first | apply Kd.R_alloc | apply Kd.R_drewN | apply Kd.R_drew)); exact HO151.out⟩, ⟨by (with_reducible repeat (first | refine blk_drewN ?_ _ | refine blk_drew ?_ | refine blk_alloc ?_ _)); exact BK136.out⟩, ⟨by (with_reducible repeat (first | refine blk_drewN ?_ _ | refine blk_drew ?_ | refine blk_alloc ?_ _)); exact BK153.out⟩, ⟨by repeat (first | (with_reducible first | exact HI0.out | apply IsS95.alloc | apply IsS95.drewN | apply IsS95.drew | apply IsS95.set_1 | refine IsS95.far ?_ NB0_136.out _ | refine IsS95.far ?_ NB0_153.out _) | exact HI0.out)⟩, ⟨by repeat (first | (with_reducible first | exact HK.out | apply KeepBut.set_ | apply keep_drewN | apply keep_drew | apply keep_alloc | refine keep_far ?_ GW136.out _ | refine keep_far ?_ GW153.out _) | exact HK.out)⟩, ⟨by repeat (first | (with_reducible first | exact HB.out | apply below_alloc | apply pw_below_drewN | apply below_drew1 | refine below_set ?_ (IsS95.ge HI0.out) | refine below_set ?_ GE136.out | refine below_set ?_ GE153.out) | exact HB.out)⟩⟩
  case rest =>
    clear HC11
    try clear c2
    try clear p2
    try clear c3
    try clear c4
    try clear c6
    try clear c22
    try clear c23
    try clear c26
    try clear c26b0
    try clear c26b1
    try clear c27
    try clear c28
    try clear c30
    try clear c30b0
    try clear c30b1
    try clear c32
    try clear c32b0
    try clear c32b1
    try clear c35
    try clear c36
    try clear c41
    try clear c42
    try clear hcz24_0
    try clear hcz24_1
    try clear hcz24_2
    try clear hcz24_3
    try clear hcz24_4
    try clear hcz24_5
    try clear hcz24_6
    try clear hcz24_7
    try clear hcz24_8
    try clear hcz29_0
    try clear hcz29_1
    try clear hcz29_2
    try clear hcz29_3
    try clear hcz29_4
    try clear hcz29_5
    try clear hcz29_6
    try clear hcz29_7
    try clear hcz29_8
    try clear hcz37_0
    try clear hcz37_1
    try clear hcz37_2
    try clear hcz37_3
    try clear hcz37_4
    try clear hcz37_5
    try clear hcz37_6
    try clear hcz37_7
    try clear hcz37_8
    try clear hcz39_0
    try clear hcz39_1
    try clear hcz39_2
    try clear hcz39_3
    try clear hcz39_4
    try clear hcz39_5
    try clear hcz39_6
    try clear hcz39_7
    try clear hcz39_8
    try clear hcz43_0
    try clear hcz43_1
    try clear hcz43_2
    try clear hcz43_3
    try clear hcz43_4
    try clear hcz43_5
    try clear hcz43_6
    try clear hcz43_7
    try clear hcz43_8
    try clear hfz24_0
    try clear hfz24_1
    try clear hfz24_2
    try clear hfz24_3
    try clear hfz24_4
    try clear hfz24_5
    try clear hfz24_6
    try clear hfz24_7
    try clear hfz24_8
    try clear hfz29_0
    try clear hfz29_1
    try clear hfz29_2
    try clear hfz29_3
    try clear hfz29_4
    try clear hfz29_5
    try clear hfz29_6
    try clear hfz29_7
    try clear hfz29_8
    try clear hfz37_0
    try clear hfz37_1
    try clear hfz37_2
    try clear hfz37_3
    try clear hfz37_4
    try clear hfz37_5
    try clear hfz37_6
    try clear hfz37_7
    try clear hfz37_8
    try clear hfz39_0
    try clear hfz39_1
    try clear hfz39_2
    try clear hfz39_3
    try clear hfz39_4
    try clear hfz39_5
    try clear hfz39_6
    try clear hfz39_7
    try clear hfz39_8
    try clear hfz43_0
    try clear hfz43_1
    try clear hfz43_2
    try clear hfz43_3
    try clear hfz43_4
    try clear hfz43_5
    try clear hfz43_6
    try clear hfz43_7
    try clear hfz43_8
    obtain ⟨kq, x1001_10, x154005_10, x154006_10, x154007_10, HA, HJ10, HO_154008, BK136, BK153, HI0, HK, HB⟩ := hcut
    cases kq with
    | zero => exact absurd HA.out (by simp [spec_l20Packet.j0])
    | succ kj10 =>
      have H := HA.out
      clear HA
      simp only [spec_l20Packet.j0] at H
      replace H := Option.bind_eq_some_iff.mp H
      obtain ⟨⟨t160, t161⟩, A440, H⟩ := H
      replace H : (if t160 = true then ((spec_l20Rd_pick.f kj10 s0_0 t161 5).bind fun bt162 => (if bt162.1 = 0 then ((spec_l20Rd_pick.f kj10 s0_0 bt162.2 2).bind fun bt164 => (spec_l20Packet.j1 kj10 s0_0 bt164.2 t137 (wrap64 (65536 - (wrap64 (bt164.1 * 65540)))) t141 t143 t145 x154005_10 x154006_10 x154007_10 t149)) else (if bt162.1 = 1 then ((spec_l20Rd_pick.f kj10 s0_0 bt162.2 2).bind fun bt166 => (spec_l20Packet.j1 kj10 s0_0 bt166.2 t137 t139 t141 (wrap64 (256 - (wrap64 (bt166.1 * 300)))) t145 x154005_10 x154006_10 x154007_10 t149)) else (if bt162.1 = 2 then (if 49 ≤ 281474976710656 then (spec_l20Packet.j1 kj10 s0_0 bt162.2 t137 t139 t141 t143 t145 x154005_10 x154006_10 x154007_10 (List.replicate 49 0)) else (none)) else (if bt162.1 = 3 then (spec_l20Packet.j1 kj10 s0_0 bt162.2 t137 t139 t141 t143 t145 x154005_10 true x154007_10 ([] : List Int)) else (spec_l20Packet.j1 kj10 s0_0 bt162.2 t137 t139 t141 t143 t145 3 x154006_10 true t149)))))) else (spec_l20Packet.j1 kj10 s0_0 t161 t137 t139 t141 t143 t145 x154005_10 x154006_10 x154007_10 t149)) = some (r1, r2, r3, r4, r5, r6, r7, r8, r9, r10) := H
      have A44 := Aside0.mk A440
      clear A440
      have HC45 := Aside0.mk H
      clear H
      go_upto_if 43 with (first | ((with_reducible refine gate_callee (f := 86) rfl ?_); refine goesL_ (some 43) rfl rfl Try.func86 (by kernel_rfl) rfl #[.pointer (some ⟨g, 0, none⟩), .int .i64 a1] rfl (by (try simp only [List.map_toArray, List.map_cons, List.map_nil]); first | done | rfl | (simp only [List.length_drop, List.length_take]; rfl)) ?_; (with_reducible refine (spec_l20Rd_odd.calls kj10 g s0_0 x1001_10 a1 t160 t161 w0 _ ?side1 ?side2 A44.out).mono ?_); (case side1 => repeat (first | (with_reducible first | exact HI0.out | apply IsS95.alloc | apply IsS95.drewN | apply IsS95.drew | apply IsS95.set_1 | refine IsS95.far ?_ NB0_136.out _ | refine IsS95.far ?_ NB0_153.out _) | exact HI0.out)); (case side2 => repeat (first | (with_reducible first | exact HB.out | apply below_alloc | apply pw_below_drewN | apply below_drew1 | refine below_set ?_ (IsS95.ge HI0.out) | refine below_set ?_ GE136.out | refine below_set ?_ GE153.out) | exact HB.out)); rintro e w46 ⟨rfl, hi, hb, hk⟩; refine ⟨_, rfl, ?_⟩; have n0_ := Aside0.mk (Kd.R_mono (Kd.R_keep (IsS95.apart (show IsS95 w0 _ g s0_0 x1001_10 from by repeat (first | (with_reducible first | exact HI0.out | apply IsS95.alloc | apply IsS95.drewN | apply IsS95.drew | apply IsS95.set_1 | refine IsS95.far ?_ NB0_136.out _ | refine IsS95.far ?_ NB0_153.out _) | exact HI0.out)) (by (with_reducible repeat (first | apply Kd.R_alloc | apply Kd.R_drewN | apply Kd.R_drew)); exact HO_154008.out) (by decide)) hk (fun _ h => h.2)) (fun _ h => h.1)); have n1_ := Aside0.mk (KeepBut.blk hk (g' := gb136) (o := .cells #[.int .i64 0, .int .i64 0, .int .i64 0, .int .i64 0, .int .i64 0, .int .i64 0, .bool false, .bool false, .slice none 0 0] 27 (0, 0)) (by (with_reducible repeat (first | refine blk_drewN ?_ _ | refine blk_drew ?_ | refine blk_alloc ?_ _)); exact BK136.out) NB136_0.out (by simp)); have n2_ := Aside0.mk (KeepBut.blk hk (g' := gb153) (o := .cells #[.int .i64 t137, .int .i64 t139, .int .i64 t141, .int .i64 t143, .int .i64 t145, .int .i64 x154005_10, .bool x154006_10, .bool x154007_10, .slice Ao20 t149.length co20] 27 (0, 0)) (by (with_reducible repeat (first | refine blk_drewN ?_ _ | refine blk_drew ?_ | refine blk_alloc ?_ _)); exact BK153.out) NB153_0.out (by simp)); have n3_ := Aside0.mk (KeepBut.trans (by repeat (first | (with_reducible first | exact HK.out | apply KeepBut.set_ | apply keep_drewN | apply keep_drew | apply keep_alloc | refine keep_far ?_ GW136.out _ | refine keep_far ?_ GW153.out _) | exact HK.out)) hk (.inl rfl)); have n4_ := Aside0.mk (hb); have n5_ := Aside0.mk (hi); clear HO_154008; clear BK136; clear BK153; clear HK; clear HB; clear HI0; have HO_154008 := n0_; have BK136 := n1_; have BK153 := n2_; have HK := n3_; have HB := n4_; have HI0 := n5_; clear n0_ n1_ n2_ n3_ n4_ n5_; (try clear hb); (try clear hb2); (try clear hk); (try clear hi)))
      (try simp only [Act.put, List.setIfInBounds_toArray, List.set_cons_zero, List.set_cons_succ])
      go_cut [] (fun wc => ∃ (kq : Nat) (x1001_44 : Int) (x154001_44 : Int) (x154003_44 : Int) (x154005_44 : Int) (x154006_44 : Bool) (x154007_44 : Bool) (x154008_44 : List Int) (u154008 : Value), Aside0 (spec_l20Packet.j1 kq s0_0 x1001_44 t137 x154001_44 t141 x154003_44 t145 x154005_44 x154006_44 x154007_44 x154008_44 = some (r1, r2, r3, r4, r5, r6, r7, r8, r9, r10)) ∧ Aside0 (kq ≤ kj10) ∧ Aside0 (Kd.R (Kd.int .u8) 5 wc w.heap.size (fun _ => True) u154008 x154008_44) ∧ Aside0 (wc.heap[gb136]? = some (.cells #[.int .i64 0, .int .i64 0, .int .i64 0, .int .i64 0, .int .i64 0, .int .i64 0, .bool false, .bool false, (.slice none 0 0)] 27 (0, 0))) ∧ Aside0 (wc.heap[gb153]? = some (.cells #[.int .i64 t137, .int .i64 x154001_44, .int .i64 t141, .int .i64 x154003_44, .int .i64 t145, .int .i64 x154005_44, .bool x154006_44, .bool x154007_44, u154008] 27 (0, 0))) ∧ Aside0 (IsS95 w0 wc g s0_0 x1001_44) ∧ Aside0 (KeepBut w wc g none) ∧ Aside0 (Below w0.heap.size w0 wc))
      case first =>
        have H := HC45.out
        clear HC45
        by_cases c47 : t160 = true
        · subst c47
          have H1 : ((spec_l20Rd_pick.f kj10 s0_0 t161 5).bind fun bt162 => (if bt162.1 = 0 then ((spec_l20Rd_pick.f kj10 s0_0 bt162.2 2).bind fun bt164 => (spec_l20Packet.j1 kj10 s0_0 bt164.2 t137 (wrap64 (65536 - (wrap64 (bt164.1 * 65540)))) t141 t143 t145 x154005_10 x154006_10 x154007_10 t149)) else (if bt162.1 = 1 then ((spec_l20Rd_pick.f kj10 s0_0 bt162.2 2).bind fun bt166 => (spec_l20Packet.j1 kj10 s0_0 bt166.2 t137 t139 t141 (wrap64 (256 - (wrap64 (bt166.1 * 300)))) t145 x154005_10 x154006_10 x154007_10 t149)) else (if bt162.1 = 2 then (if 49 ≤ 281474976710656 then (spec_l20Packet.j1 kj10 s0_0 bt162.2 t137 t139 t141 t143 t145 x154005_10 x154006_10 x154007_10 (List.replicate 49 0)) else (none)) else (if bt162.1 = 3 then (spec_l20Packet.j1 kj10 s0_0 bt162.2 t137 t139 t141 t143 t145 x154005_10 true x154007_10 ([] : List Int)) else (spec_l20Packet.j1 kj10 s0_0 bt162.2 t137 t139 t141 t143 t145 3 x154006_10 true t149)))))) = some (r1, r2, r3, r4, r5, r6, r7, r8, r9, r10) := by rw [if_pos rfl] at H; exact H
          clear H
          have H := H1
          clear H1
          replace H := Option.bind_eq_some_iff.mp H
          obtain ⟨⟨t162, t163⟩, A480, H⟩ := H
          replace H : (if t162 = 0 then ((spec_l20Rd_pick.f kj10 s0_0 t163 2).bind fun bt164 => (spec_l20Packet.j1 kj10 s0_0 bt164.2 t137 (wrap64 (65536 - (wrap64 (bt164.1 * 65540)))) t141 t143 t145 x154005_10 x154006_10 x154007_10 t149)) else (if t162 = 1 then ((spec_l20Rd_pick.f kj10 s0_0 t163 2).bind fun bt166 => (spec_l20Packet.j1 kj10 s0_0 bt166.2 t137 t139 t141 (wrap64 (256 - (wrap64 (bt166.1 * 300)))) t145 x154005_10 x154006_10 x154007_10 t149)) else (if t162 = 2 then (if 49 ≤ 281474976710656 then (spec_l20Packet.j1 kj10 s0_0 t163 t137 t139 t141 t143 t145 x154005_10 x154006_10 x154007_10 (List.replicate 49 0)) else (none)) else (if t162 = 3 then (spec_l20Packet.j1 kj10 s0_0 t163 t137 t139 t141 t143 t145 x154005_10 true x154007_10 ([] : List Int)) else (spec_l20Packet.j1 kj10 s0_0 t163 t137 t139 t141 t143 t145 3 x154006_10 true t149))))) = some (r1, r2, r3, r4, r5, r6, r7, r8, r9, r10) := H
          have A48 := Aside0.mk A480
          clear A480
          by_cases c49 : t162 = 0
          · rw [if_pos c49] at H
            have c49b0 : (t162 == 0) = true := beq_iff_eq.mpr c49
            have c49b1 : (t162 != 0) = false := bne_eq_false_iff_eq.mpr c49
            clear c49
            (first | rw [c49b0] | (simp only [i64_w, i32_w]; rw [c49b0]) | skip)
            replace H := Option.bind_eq_some_iff.mp H
            obtain ⟨⟨t164, t165⟩, A500, H⟩ := H
            replace H : (spec_l20Packet.j1 kj10 s0_0 t165 t137 (wrap64 (65536 - (wrap64 (t164 * 65540)))) t141 t143 t145 x154005_10 x154006_10 x154007_10 t149) = some (r1, r2, r3, r4, r5, r6, r7, r8, r9, r10) := H
            have A50 := Aside0.mk A500
            clear A500
            have H' := Aside0.mk H
            clear H
            go_wp2_with (first | ((with_reducible refine gate_callee (f := 68) rfl ?_); refine goesL_ (some 45) rfl rfl Try.func68 (by kernel_rfl) rfl #[.pointer (some ⟨g, 0, none⟩), .int .i64 5] rfl (by (try simp only [List.map_toArray, List.map_cons, List.map_nil]); first | done | rfl | (simp only [List.length_drop, List.length_take]; rfl)) ?_; (with_reducible refine (spec_l20Rd_pick.calls kj10 g s0_0 t161 5 t162 t163 w0 _ ?side1 ?side2 A48.out).mono ?_); (case side1 => repeat (first | (with_reducible first | exact HI0.out | apply IsS95.alloc | apply IsS95.drewN | apply IsS95.drew | apply IsS95.set_1 | refine IsS95.far ?_ NB0_136.out _ | refine IsS95.far ?_ NB0_153.out _) | exact HI0.out)); (case side2 => repeat (first | (with_reducible first | exact HB.out | apply below_alloc | apply pw_below_drewN | apply below_drew1 | refine below_set ?_ (IsS95.ge HI0.out) | refine below_set ?_ GE136.out | refine below_set ?_ GE153.out) | exact HB.out)); rintro e w51 ⟨rfl, hi, hb, hk⟩; refine ⟨_, rfl, ?_⟩; have n0_ := Aside0.mk (Kd.R_mono (Kd.R_keep (IsS95.apart (show IsS95 w0 _ g s0_0 t161 from by repeat (first | (with_reducible first | exact HI0.out | apply IsS95.alloc | apply IsS95.drewN | apply IsS95.drew | apply IsS95.set_1 | refine IsS95.far ?_ NB0_136.out _ | refine IsS95.far ?_ NB0_153.out _) | exact HI0.out)) (by (with_reducible repeat (first | apply Kd.R_alloc | apply Kd.R_drewN | apply Kd.R_drew)); exact HO_154008.out) (by decide)) hk (fun _ h => h.2)) (fun _ h => h.1)); have n1_ := Aside0.mk (KeepBut.blk hk (g' := gb136) (o := .cells #[.int .i64 0, .int .i64 0, .int .i64 0, .int .i64 0, .int .i64 0, .int .i64 0, .bool false, .bool false, .slice none 0 0] 27 (0, 0)) (by (with_reducible repeat (first | refine blk_drewN ?_ _ | refine blk_drew ?_ | refine blk_alloc ?_ _)); exact BK136.out) NB136_0.out (by simp)); have n2_ := Aside0.mk (KeepBut.blk hk (g' := gb153) (o := .cells #[.int .i64 t137, .int .i64 t139, .int .i64 t141, .int .i64 t143, .int .i64 t145, .int .i64 x154005_10, .bool x154006_10, .bool x154007_10, .slice Ao20 t149.length co20] 27 (0, 0)) (by (with_reducible repeat (first | refine blk_drewN ?_ _ | refine blk_drew ?_ | refine blk_alloc ?_ _)); exact BK153.out) NB153_0.out (by simp)); have n3_ := Aside0.mk (KeepBut.trans (by repeat (first | (with_reducible first | exact HK.out | apply KeepBut.set_ | apply keep_drewN | apply keep_drew | apply keep_alloc | refine keep_far ?_ GW136.out _ | refine keep_far ?_ GW153.out _) | exact HK.out)) hk (.inl rfl)); have n4_ := Aside0.mk (hb); have n5_ := Aside0.mk (hi); clear HO_154008; clear BK136; clear BK153; clear HK; clear HB; clear HI0; have HO_154008 := n0_; have BK136 := n1_; have BK153 := n2_; have HK := n3_; have HB := n4_; have HI0 := n5_; clear n0_ n1_ n2_ n3_ n4_ n5_; (try clear hb); (try clear hb2); (try clear hk); (try clear hi)) | ((with_reducible refine gate_callee (f := 68) rfl ?_); refine goesL_ (some 51) rfl rfl Try.func68 (by kernel_rfl) rfl #[.pointer (some ⟨g, 0, none⟩), .int .i64 2] rfl (by (try simp only [List.map_toArray, List.map_cons, List.map_nil]); first | done | rfl | (simp only [List.length_drop, List.length_take]; rfl)) ?_; (with_reducible refine (spec_l20Rd_pick.calls kj10 g s0_0 t163 2 t164 t165 w0 _ ?side1 ?side2 A50.out).mono ?_); (case side1 => repeat (first | (with_reducible first | exact HI0.out | apply IsS95.alloc | apply IsS95.drewN | apply IsS95.drew | apply IsS95.set_1 | refine IsS95.far ?_ NB0_136.out _ | refine IsS95.far ?_ NB0_153.out _) | exact HI0.out)); (case side2 => repeat (first | (with_reducible first | exact HB.out | apply below_alloc | apply pw_below_drewN | apply below_drew1 | refine below_set ?_ (IsS95.ge HI0.out) | refine below_set ?_ GE136.out | refine below_set ?_ GE153.out) | exact HB.out)); rintro e w52 ⟨rfl, hi, hb, hk⟩; refine ⟨_, rfl, ?_⟩; have n0_ := Aside0.mk (Kd.R_mono (Kd.R_keep (IsS95.apart (show IsS95 w0 _ g s0_0 t163 from by repeat (first | (with_reducible first | exact HI0.out | apply IsS95.alloc | apply IsS95.drewN | apply IsS95.drew | apply IsS95.set_1 | refine IsS95.far ?_ NB0_136.out _ | refine IsS95.far ?_ NB0_153.out _) | exact HI0.out)) (by (with_reducible repeat (first | apply Kd.R_alloc | apply Kd.R_drewN | apply Kd.R_drew)); exact HO_154008.out) (by decide)) hk (fun _ h => h.2)) (fun _ h => h.1)); have n1_ := Aside0.mk (KeepBut.blk hk (g' := gb136) (o := .cells #[.int .i64 0, .int .i64 0, .int .i64 0, .int .i64 0, .int .i64 0, .int .i64 0, .bool false, .bool false, .slice none 0 0] 27 (0, 0)) (by (with_reducible repeat (first | refine blk_drewN ?_ _ | refine blk_drew ?_ | refine blk_alloc ?_ _)); exact BK136.out) NB136_0.out (by simp)); have n2_ := Aside0.mk (KeepBut.blk hk (g' := gb153) (o := .cells #[.int .i64 t137, .int .i64 t139, .int .i64 t141, .int .i64 t143, .int .i64 t145, .int .i64 x154005_10, .bool x154006_10, .bool x154007_10, .slice Ao20 t149.length co20] 27 (0, 0)) (by (with_reducible repeat (first | refine blk_drewN ?_ _ | refine blk_drew ?_ | refine blk_alloc ?_ _)); exact BK153.out) NB153_0.out (by simp)); have n3_ := Aside0.mk (KeepBut.trans (by repeat (first | (with_reducible first | exact HK.out | apply KeepBut.set_ | apply keep_drewN | apply keep_drew | apply keep_alloc | refine keep_far ?_ GW136.out _ | refine keep_far ?_ GW153.out _) | exact HK.out)) hk (.inl rfl)); have n4_ := Aside0.mk (hb); have n5_ := Aside0.mk (hi); clear HO_154008; clear BK136; clear BK153; clear HK; clear HB; clear HI0; have HO_154008 := n0_; have BK136 := n1_; have BK153 := n2_; have HK := n3_; have HB := n4_; have HI0 := n5_; clear n0_ n1_ n2_ n3_ n4_ n5_; (try clear hb); (try clear hb2); (try clear hk); (try clear hi); have hnb53 := NB153_136.out; have hnc53 := NB136_153.out; have hnb54 := NB153_0.out; have hnc54 := NB0_153.out; have hcz55_0 : w52.cell? ⟨gb153, 0, none⟩ = some (.int .i64 t137) := (blk_cell BK153.out 0).trans rfl; have hcz55_1 : w52.cell? ⟨gb153, 1, none⟩ = some (.int .i64 t139) := (blk_cell BK153.out 1).trans rfl; have hcz55_2 : w52.cell? ⟨gb153, 2, none⟩ = some (.int .i64 t141) := (blk_cell BK153.out 2).trans rfl; have hcz55_3 : w52.cell? ⟨gb153, 3, none⟩ = some (.int .i64 t143) := (blk_cell BK153.out 3).trans rfl; have hcz55_4 : w52.cell? ⟨gb153, 4, none⟩ = some (.int .i64 t145) := (blk_cell BK153.out 4).trans rfl; have hcz55_5 : w52.cell? ⟨gb153, 5, none⟩ = some (.int .i64 x154005_10) := (blk_cell BK153.out 5).trans rfl; have hcz55_6 : w52.cell? ⟨gb153, 6, none⟩ = some (.bool x154006_10) := (blk_cell BK153.out 6).trans rfl; have hcz55_7 : w52.cell? ⟨gb153, 7, none⟩ = some (.bool x154007_10) := (blk_cell BK153.out 7).trans rfl; have hcz55_8 : w52.cell? ⟨gb153, 8, none⟩ = some (.slice Ao20 t149.length co20) := (blk_cell BK153.out 8).trans rfl; have hfz55_0 := blk_frozen BK153.out 0; have hfz55_1 := blk_frozen BK153.out 1; have hfz55_2 := blk_frozen BK153.out 2; have hfz55_3 := blk_frozen BK153.out 3; have hfz55_4 := blk_frozen BK153.out 4; have hfz55_5 := blk_frozen BK153.out 5; have hfz55_6 := blk_frozen BK153.out 6; have hfz55_7 := blk_frozen BK153.out 7; have hfz55_8 := blk_frozen BK153.out 8))
            go_meet
            case rel => exact ⟨_, (t165), (wrap64 (65536 - (wrap64 (t164 * 65540)))), (t143), (x154005_10), (x154006_10), (x154007_10), (t149), (.slice Ao20 t149.length co20), H', ⟨by have := HJ10.out; first | omega | exact Nat.le_refl _⟩, ⟨by (with_reducible repeat (first | apply Kd.R_alloc | apply Kd.R_drewN | apply Kd.R_drew)); exact Kd.R_mono (Kd.R_far (p := ⟨gb153, 1, none⟩) (Kd.R_types HO_154008.out BK153.out (by decide)) (fun _ hk => by first | exact hk.2 | trivial | ((try simp only [ne_eq] at hk); simp only [hk, ne_eq, not_false_eq_true, and_self])) (.int .i64 (wrap64 (65536 - (wrap64 (t164 * 65540)))))) (fun _ hk => trivial)⟩, ⟨by (with_reducible repeat (first | refine blk_drewN ?_ _ | refine blk_drew ?_ | refine blk_alloc ?_ _)); refine blk_far ?_ NB136_153.out _; (with_reducible repeat (first | refine blk_drewN ?_ _ | refine blk_drew ?_ | refine blk_alloc ?_ _)); exact BK136.out⟩, ⟨by (with_reducible repeat (first | refine blk_drewN ?_ _ | refine blk_drew ?_ | refine blk_alloc ?_ _)); refine blk_put (cs := #[.int .i64 t137, .int .i64 t139, .int .i64 t141, .int .i64 t143, .int .i64 t145, .int .i64 x154005_10, .bool x154006_10, .bool x154007_10, .slice Ao20 t149.length co20]) ?_ 1 _ rfl; (with_reducible repeat (first | refine blk_drewN ?_ _ | refine blk_drew ?_ | refine blk_alloc ?_ _)); exact BK153.out⟩, ⟨by repeat (first | (with_reducible first | exact HI0.out | apply IsS95.alloc | apply IsS95.drewN | apply IsS95.drew | apply IsS95.set_1 | refine IsS95.far ?_ NB0_136.out _ | refine IsS95.far ?_ NB0_153.out _) | exact HI0.out)⟩, ⟨by repeat (first | (with_reducible first | exact HK.out | apply KeepBut.set_ | apply keep_drewN | apply keep_drew | apply keep_alloc | refine keep_far ?_ GW136.out _ | refine keep_far ?_ GW153.out _) | exact HK.out)⟩, ⟨by repeat (first | (with_reducible first | exact HB.out | apply below_alloc | apply pw_below_drewN | apply below_drew1 | refine below_set ?_ (IsS95.ge HI0.out) | refine below_set ?_ GE136.out | refine below_set ?_ GE153.out) | exact HB.out)⟩⟩
          · rw [if_neg c49] at H
            have c49b0 : (t162 == 0) = false := beq_eq_false_iff_ne.mpr c49
            have c49b1 : (t162 != 0) = true := bne_iff_ne.mpr c49
            (first | rw [c49b0] | (simp only [i64_w, i32_w]; rw [c49b0]) | skip)
            by_cases c56 : t162 = 1
            · rw [if_pos c56] at H
              have c56b0 : (t162 == 1) = true := beq_iff_eq.mpr c56
              have c56b1 : (t162 != 1) = false := bne_eq_false_iff_eq.mpr c56
              clear c56
              replace H := Option.bind_eq_some_iff.mp H
              obtain ⟨⟨t166, t167⟩, A570, H⟩ := H
              replace H : (spec_l20Packet.j1 kj10 s0_0 t167 t137 t139 t141 (wrap64 (256 - (wrap64 (t166 * 300)))) t145 x154005_10 x154006_10 x154007_10 t149) = some (r1, r2, r3, r4, r5, r6, r7, r8, r9, r10) := H
              have A57 := Aside0.mk A570
              clear A570
              have H' := Aside0.mk H
              clear H
              go_wp2_with (first | ((with_reducible refine gate_callee (f := 68) rfl ?_); refine goesL_ (some 45) rfl rfl Try.func68 (by kernel_rfl) rfl #[.pointer (some ⟨g, 0, none⟩), .int .i64 5] rfl (by (try simp only [List.map_toArray, List.map_cons, List.map_nil]); first | done | rfl | (simp only [List.length_drop, List.length_take]; rfl)) ?_; (with_reducible refine (spec_l20Rd_pick.calls kj10 g s0_0 t161 5 t162 t163 w0 _ ?side1 ?side2 A48.out).mono ?_); (case side1 => repeat (first | (with_reducible first | exact HI0.out | apply IsS95.alloc | apply IsS95.drewN | apply IsS95.drew | apply IsS95.set_1 | refine IsS95.far ?_ NB0_136.out _ | refine IsS95.far ?_ NB0_153.out _) | exact HI0.out)); (case side2 => repeat (first | (with_reducible first | exact HB.out | apply below_alloc | apply pw_below_drewN | apply below_drew1 | refine below_set ?_ (IsS95.ge HI0.out) | refine below_set ?_ GE136.out | refine below_set ?_ GE153.out) | exact HB.out)); rintro e w58 ⟨rfl, hi, hb, hk⟩; refine ⟨_, rfl, ?_⟩; have n0_ := Aside0.mk (Kd.R_mono (Kd.R_keep (IsS95.apart (show IsS95 w0 _ g s0_0 t161 from by repeat (first | (with_reducible first | exact HI0.out | apply IsS95.alloc | apply IsS95.drewN | apply IsS95.drew | apply IsS95.set_1 | refine IsS95.far ?_ NB0_136.out _ | refine IsS95.far ?_ NB0_153.out _) | exact HI0.out)) (by (with_reducible repeat (first | apply Kd.R_alloc | apply Kd.R_drewN | apply Kd.R_drew)); exact HO_154008.out) (by decide)) hk (fun _ h => h.2)) (fun _ h => h.1)); have n1_ := Aside0.mk (KeepBut.blk hk (g' := gb136) (o := .cells #[.int .i64 0, .int .i64 0, .int .i64 0, .int .i64 0, .int .i64 0, .int .i64 0, .bool false, .bool false, .slice none 0 0] 27 (0, 0)) (by (with_reducible repeat (first | refine blk_drewN ?_ _ | refine blk_drew ?_ | refine blk_alloc ?_ _)); exact BK136.out) NB136_0.out (by simp)); have n2_ := Aside0.mk (KeepBut.blk hk (g' := gb153) (o := .cells #[.int .i64 t137, .int .i64 t139, .int .i64 t141, .int .i64 t143, .int .i64 t145, .int .i64 x154005_10, .bool x154006_10, .bool x154007_10, .slice Ao20 t149.length co20] 27 (0, 0)) (by (with_reducible repeat (first | refine blk_drewN ?_ _ | refine blk_drew ?_ | refine blk_alloc ?_ _)); exact BK153.out) NB153_0.out (by simp)); have n3_ := Aside0.mk (KeepBut.trans (by repeat (first | (with_reducible first | exact HK.out | apply KeepBut.set_ | apply keep_drewN | apply keep_drew | apply keep_alloc | refine keep_far ?_ GW136.out _ | refine keep_far ?_ GW153.out _) | exact HK.out)) hk (.inl rfl)); have n4_ := Aside0.mk (hb); have n5_ := Aside0.mk (hi); clear HO_154008; clear BK136; clear BK153; clear HK; clear HB; clear HI0; have HO_154008 := n0_; have BK136 := n1_; have BK153 := n2_; have HK := n3_; have HB := n4_; have HI0 := n5_; clear n0_ n1_ n2_ n3_ n4_ n5_; (try clear hb); (try clear hb2); (try clear hk); (try clear hi)) | ((with_reducible refine gate_callee (f := 68) rfl ?_); refine goesL_ (some 58) rfl rfl Try.func68 (by kernel_rfl) rfl #[.pointer (some ⟨g, 0, none⟩), .int .i64 2] rfl (by (try simp only [List.map_toArray, List.map_cons, List.map_nil]); first | done | rfl | (simp only [List.length_drop, List.length_take]; rfl)) ?_; (with_reducible refine (spec_l20Rd_pick.calls kj10 g s0_0 t163 2 t166 t167 w0 _ ?side1 ?side2 A57.out).mono ?_); (case side1 => repeat (first | (with_reducible first | exact HI0.out | apply IsS95.alloc | apply IsS95.drewN | apply IsS95.drew | apply IsS95.set_1 | refine IsS95.far ?_ NB0_136.out _ | refine IsS95.far ?_ NB0_153.out _) | exact HI0.out)); (case side2 => repeat (first | (with_reducible first | exact HB.out | apply below_alloc | apply pw_below_drewN | apply below_drew1 | refine below_set ?_ (IsS95.ge HI0.out) | refine below_set ?_ GE136.out | refine below_set ?_ GE153.out) | exact HB.out)); rintro e w59 ⟨rfl, hi, hb, hk⟩; refine ⟨_, rfl, ?_⟩; have n0_ := Aside0.mk (Kd.R_mono (Kd.R_keep (IsS95.apart (show IsS95 w0 _ g s0_0 t163 from by repeat (first | (with_reducible first | exact HI0.out | apply IsS95.alloc | apply IsS95.drewN | apply IsS95.drew | apply IsS95.set_1 | refine IsS95.far ?_ NB0_136.out _ | refine IsS95.far ?_ NB0_153.out _) | exact HI0.out)) (by (with_reducible repeat (first | apply Kd.R_alloc | apply Kd.R_drewN | apply Kd.R_drew)); exact HO_154008.out) (by decide)) hk (fun _ h => h.2)) (fun _ h => h.1)); have n1_ := Aside0.mk (KeepBut.blk hk (g' := gb136) (o := .cells #[.int .i64 0, .int .i64 0, .int .i64 0, .int .i64 0, .int .i64 0, .int .i64 0, .bool false, .bool false, .slice none 0 0] 27 (0, 0)) (by (with_reducible repeat (first | refine blk_drewN ?_ _ | refine blk_drew ?_ | refine blk_alloc ?_ _)); exact BK136.out) NB136_0.out (by simp)); have n2_ := Aside0.mk (KeepBut.blk hk (g' := gb153) (o := .cells #[.int .i64 t137, .int .i64 t139, .int .i64 t141, .int .i64 t143, .int .i64 t145, .int .i64 x154005_10, .bool x154006_10, .bool x154007_10, .slice Ao20 t149.length co20] 27 (0, 0)) (by (with_reducible repeat (first | refine blk_drewN ?_ _ | refine blk_drew ?_ | refine blk_alloc ?_ _)); exact BK153.out) NB153_0.out (by simp)); have n3_ := Aside0.mk (KeepBut.trans (by repeat (first | (with_reducible first | exact HK.out | apply KeepBut.set_ | apply keep_drewN | apply keep_drew | apply keep_alloc | refine keep_far ?_ GW136.out _ | refine keep_far ?_ GW153.out _) | exact HK.out)) hk (.inl rfl)); have n4_ := Aside0.mk (hb); have n5_ := Aside0.mk (hi); clear HO_154008; clear BK136; clear BK153; clear HK; clear HB; clear HI0; have HO_154008 := n0_; have BK136 := n1_; have BK153 := n2_; have HK := n3_; have HB := n4_; have HI0 := n5_; clear n0_ n1_ n2_ n3_ n4_ n5_; (try clear hb); (try clear hb2); (try clear hk); (try clear hi); have hnb60 := NB153_136.out; have hnc60 := NB136_153.out; have hnb61 := NB153_0.out; have hnc61 := NB0_153.out; have hcz62_0 : w59.cell? ⟨gb153, 0, none⟩ = some (.int .i64 t137) := (blk_cell BK153.out 0).trans rfl; have hcz62_1 : w59.cell? ⟨gb153, 1, none⟩ = some (.int .i64 t139) := (blk_cell BK153.out 1).trans rfl; have hcz62_2 : w59.cell? ⟨gb153, 2, none⟩ = some (.int .i64 t141) := (blk_cell BK153.out 2).trans rfl; have hcz62_3 : w59.cell? ⟨gb153, 3, none⟩ = some (.int .i64 t143) := (blk_cell BK153.out 3).trans rfl; have hcz62_4 : w59.cell? ⟨gb153, 4, none⟩ = some (.int .i64 t145) := (blk_cell BK153.out 4).trans rfl; have hcz62_5 : w59.cell? ⟨gb153, 5, none⟩ = some (.int .i64 x154005_10) := (blk_cell BK153.out 5).trans rfl; have hcz62_6 : w59.cell? ⟨gb153, 6, none⟩ = some (.bool x154006_10) := (blk_cell BK153.out 6).trans rfl; have hcz62_7 : w59.cell? ⟨gb153, 7, none⟩ = some (.bool x154007_10) := (blk_cell BK153.out 7).trans rfl; have hcz62_8 : w59.cell? ⟨gb153, 8, none⟩ = some (.slice Ao20 t149.length co20) := (blk_cell BK153.out 8).trans rfl; have hfz62_0 := blk_frozen BK153.out 0; have hfz62_1 := blk_frozen BK153.out 1; have hfz62_2 := blk_frozen BK153.out 2; have hfz62_3 := blk_frozen BK153.out 3; have hfz62_4 := blk_frozen BK153.out 4; have hfz62_5 := blk_frozen BK153.out 5; have hfz62_6 := blk_frozen BK153.out 6; have hfz62_7 := blk_frozen BK153.out 7; have hfz62_8 := blk_frozen BK153.out 8))
              go_meet
              case rel => exact ⟨_, (t167), (t139), (wrap64 (256 - (wrap64 (t166 * 300)))), (x154005_10), (x154006_10), (x154007_10), (t149), (.slice Ao20 t149.length co20), H', ⟨by have := HJ10.out; first | omega | exact Nat.le_refl _⟩, ⟨by (with_reducible repeat (first | apply Kd.R_alloc | apply Kd.R_drewN | apply Kd.R_drew)); exact Kd.R_mono (Kd.R_far (p := ⟨gb153, 3, none⟩) (Kd.R_types HO_154008.out BK153.out (by decide)) (fun _ hk => by first | exact hk.2 | trivial | ((try simp only [ne_eq] at hk); simp only [hk, ne_eq, not_false_eq_true, and_self])) (.int .i64 (wrap64 (256 - (wrap64 (t166 * 300)))))) (fun _ hk => trivial)⟩, ⟨by (with_reducible repeat (first | refine blk_drewN ?_ _ | refine blk_drew ?_ | refine blk_alloc ?_ _)); refine blk_far ?_ NB136_153.out _; (with_reducible repeat (first | refine blk_drewN ?_ _ | refine blk_drew ?_ | refine blk_alloc ?_ _)); exact BK136.out⟩, ⟨by (with_reducible repeat (first | refine blk_drewN ?_ _ | refine blk_drew ?_ | refine blk_alloc ?_ _)); refine blk_put (cs := #[.int .i64 t137, .int .i64 t139, .int .i64 t141, .int .i64 t143, .int .i64 t145, .int .i64 x154005_10, .bool x154006_10, .bool x154007_10, .slice Ao20 t149.length co20]) ?_ 3 _ rfl; (with_reducible repeat (first | refine blk_drewN ?_ _ | refine blk_drew ?_ | refine blk_alloc ?_ _)); exact BK153.out⟩, ⟨by repeat (first | (with_reducible first | exact HI0.out | apply IsS95.alloc | apply IsS95.drewN | apply IsS95.drew | apply IsS95.set_1 | refine IsS95.far ?_ NB0_136.out _ | refine IsS95.far ?_ NB0_153.out _) | exact HI0.out)⟩, ⟨by repeat (first | (with_reducible first | exact HK.out | apply KeepBut.set_ | apply keep_drewN | apply keep_drew | apply keep_alloc | refine keep_far ?_ GW136.out _ | refine keep_far ?_ GW153.out _) | exact HK.out)⟩, ⟨by repeat (first | (with_reducible first | exact HB.out | apply below_alloc | apply pw_below_drewN | apply below_drew1 | refine below_set ?_ (IsS95.ge HI0.out) | refine below_set ?_ GE136.out | refine below_set ?_ GE153.out) | exact HB.out)⟩⟩
            · rw [if_neg c56] at H
              have c56b0 : (t162 == 1) = false := beq_eq_false_iff_ne.mpr c56
              have c56b1 : (t162 != 1) = true := bne_iff_ne.mpr c56
              by_cases c63 : t162 = 2
              · rw [if_pos c63] at H
                have c63b0 : (t162 == 2) = true := beq_iff_eq.mpr c63
                have c63b1 : (t162 != 2) = false := bne_eq_false_iff_eq.mpr c63
                clear c63
                by_cases c64 : 49 ≤ 281474976710656
                · rw [if_pos c64] at H
                  have c64b0 := eq_true c64
                  have c64b1 : decide (49 ≤ 281474976710656) = true := decide_eq_true c64
                  clear c64
                  obtain ⟨y168, hy168⟩ : ∃ y_ : List Int, y_ = (List.replicate 49 0) := ⟨_, rfl⟩
                  replace H : (spec_l20Packet.j1 kj10 s0_0 t163 t137 t139 t141 t143 t145 x154005_10 x154006_10 x154007_10 y168) = some (r1, r2, r3, r4, r5, r6, r7, r8, r9, r10) := by first | (rw [hy168]; with_reducible exact H) | (have H2_ := (Option.bind_some _ _).symm.trans H; rw [hy168]; with_reducible exact H2_) | (have H2_ := (Option.bind_some _ _).symm.trans H; with_reducible exact H2_) | with_reducible exact H | (rw [hy168]; exact H) | exact H
                  have Ny168 := Aside0.mk hy168
                  clear hy168
                  have H' := Aside0.mk H
                  clear H
                  go_wp2_with (first | ((with_reducible refine gate_callee (f := 68) rfl ?_); refine goesL_ (some 45) rfl rfl Try.func68 (by kernel_rfl) rfl #[.pointer (some ⟨g, 0, none⟩), .int .i64 5] rfl (by (try simp only [List.map_toArray, List.map_cons, List.map_nil]); first | done | rfl | (simp only [List.length_drop, List.length_take]; rfl)) ?_; (with_reducible refine (spec_l20Rd_pick.calls kj10 g s0_0 t161 5 t162 t163 w0 _ ?side1 ?side2 A48.out).mono ?_); (case side1 => repeat (first | (with_reducible first | exact HI0.out | apply IsS95.alloc | apply IsS95.drewN | apply IsS95.drew | apply IsS95.set_1 | refine IsS95.far ?_ NB0_136.out _ | refine IsS95.far ?_ NB0_153.out _) | exact HI0.out)); (case side2 => repeat (first | (with_reducible first | exact HB.out | apply below_alloc | apply pw_below_drewN | apply below_drew1 | refine below_set ?_ (IsS95.ge HI0.out) | refine below_set ?_ GE136.out | refine below_set ?_ GE153.out) | exact HB.out)); rintro e w65 ⟨rfl, hi, hb, hk⟩; refine ⟨_, rfl, ?_⟩; have n0_ := Aside0.mk (Kd.R_mono (Kd.R_keep (IsS95.apart (show IsS95 w0 _ g s0_0 t161 from by repeat (first | (with_reducible first | exact HI0.out | apply IsS95.alloc | apply IsS95.drewN | apply IsS95.drew | apply IsS95.set_1 | refine IsS95.far ?_ NB0_136.out _ | refine IsS95.far ?_ NB0_153.out _) | exact HI0.out)) (by (with_reducible repeat (first | apply Kd.R_alloc | apply Kd.R_drewN | apply Kd.R_drew)); exact HO_154008.out) (by decide)) hk (fun _ h => h.2)) (fun _ h => h.1)); have n1_ := Aside0.mk (KeepBut.blk hk (g' := gb136) (o := .cells #[.int .i64 0, .int .i64 0, .int .i64 0, .int .i64 0, .int .i64 0, .int .i64 0, .bool false, .bool false, .slice none 0 0] 27 (0, 0)) (by (with_reducible repeat (first | refine blk_drewN ?_ _ | refine blk_drew ?_ | refine blk_alloc ?_ _)); exact BK136.out) NB136_0.out (by simp)); have n2_ := Aside0.mk (KeepBut.blk hk (g' := gb153) (o := .cells #[.int .i64 t137, .int .i64 t139, .int .i64 t141, .int .i64 t143, .int .i64 t145, .int .i64 x154005_10, .bool x154006_10, .bool x154007_10, .slice Ao20 t149.length co20] 27 (0, 0)) (by (with_reducible repeat (first | refine blk_drewN ?_ _ | refine blk_drew ?_ | refine blk_alloc ?_ _)); exact BK153.out) NB153_0.out (by simp)); have n3_ := Aside0.mk (KeepBut.trans (by repeat (first | (with_reducible first | exact HK.out | apply KeepBut.set_ | apply keep_drewN | apply keep_drew | apply keep_alloc | refine keep_far ?_ GW136.out _ | refine keep_far ?_ GW153.out _) | exact HK.out)) hk (.inl rfl)); have n4_ := Aside0.mk (hb); have n5_ := Aside0.mk (hi); clear HO_154008; clear BK136; clear BK153; clear HK; clear HB; clear HI0; have HO_154008 := n0_; have BK136 := n1_; have BK153 := n2_; have HK := n3_; have HB := n4_; have HI0 := n5_; clear n0_ n1_ n2_ n3_ n4_ n5_; (try clear hb); (try clear hb2); (try clear hk); (try clear hi)) | ((with_reducible refine gate_dst (N := 64) rfl ?_); refine Kd.R_make (Kd.int .u8) _ 5 rfl (N := 64) rfl 22 _ _ rfl 49 rfl rfl Try.underlying22 (.int .u8 0) 1 info5 rfl (by decide) (by omega) 0 (ok := fun _ => True) (okp := fun _ => True) rfl (fun _ hk => by first | exact hk | trivial | ((try simp only [ne_eq] at hk); simp only [hk, ne_eq, not_false_eq_true, and_self])) trivial (by omega) (by omega) (Below.refl _ _) (Nat.le_refl _) ?_; intro v169 w66 ho67 hb hg_ hnew_; clear hg_ hnew_; (first | rw [← Ny168.out] at ho67 | (simp only [Int.reduceToNat] at ho67; rw [← Ny168.out] at ho67)); have n0_ := Aside0.mk (Kd.R_elder' (by (with_reducible repeat (first | apply Kd.R_alloc | apply Kd.R_drewN | apply Kd.R_drew)); exact HO_154008.out) (Kd.R_base ho67) hb); have n1_ := Aside0.mk (Kd.R_lower (Kd.R_new' ho67 (Kd.R_lt (by (with_reducible repeat (first | apply Kd.R_alloc | apply Kd.R_drewN | apply Kd.R_drew)); exact HO_154008.out))) (keep_size (w := w) (g := g) (row := none) (by repeat (first | (with_reducible first | exact HK.out | apply KeepBut.set_ | apply keep_drewN | apply keep_drew | apply keep_alloc | refine keep_far ?_ GW136.out _ | refine keep_far ?_ GW153.out _) | exact HK.out)))); have n2_ := Aside0.mk (blk_below (g := gb136) (o := .cells #[.int .i64 0, .int .i64 0, .int .i64 0, .int .i64 0, .int .i64 0, .int .i64 0, .bool false, .bool false, .slice none 0 0] 27 (0, 0)) (by (with_reducible repeat (first | refine blk_drewN ?_ _ | refine blk_drew ?_ | refine blk_alloc ?_ _)); exact BK136.out) hb); have n3_ := Aside0.mk (blk_below (g := gb153) (o := .cells #[.int .i64 t137, .int .i64 t139, .int .i64 t141, .int .i64 t143, .int .i64 t145, .int .i64 x154005_10, .bool x154006_10, .bool x154007_10, .slice Ao20 t149.length co20] 27 (0, 0)) (by (with_reducible repeat (first | refine blk_drewN ?_ _ | refine blk_drew ?_ | refine blk_alloc ?_ _)); exact BK153.out) hb); have n4_ := Aside0.mk (IsS95.below (by repeat (first | (with_reducible first | exact HI0.out | apply IsS95.alloc | apply IsS95.drewN | apply IsS95.drew | apply IsS95.set_1 | refine IsS95.far ?_ NB0_136.out _ | refine IsS95.far ?_ NB0_153.out _) | exact HI0.out)) hb); have n5_ := Aside0.mk (KeepBut.trans (by repeat (first | (with_reducible first | exact HK.out | apply KeepBut.set_ | apply keep_drewN | apply keep_drew | apply keep_alloc | refine keep_far ?_ GW136.out _ | refine keep_far ?_ GW153.out _) | exact HK.out)) (KeepBut.of_below hb g none) (.inl rfl)); have n6_ := Aside0.mk (below_step (by repeat (first | (with_reducible first | exact HB.out | apply below_alloc | apply pw_below_drewN | apply below_drew1 | refine below_set ?_ (IsS95.ge HI0.out) | refine below_set ?_ GE136.out | refine below_set ?_ GE153.out) | exact HB.out)) hb); clear HO_154008; clear BK136; clear BK153; clear HI0; clear HK; clear HB; have HO_154008 := n0_; have HO170 := n1_; have BK136 := n2_; have BK153 := n3_; have HI0 := n4_; have HK := n5_; have HB := n6_; clear n0_ n1_ n2_ n3_ n4_ n5_ n6_; clear hb ho67; obtain ⟨Ao68, co68, eo68⟩ := Kd.R_slice HO170.out; subst eo68; have hnb69 := NB153_136.out; have hnc69 := NB136_153.out; have hnb70 := NB153_0.out; have hnc70 := NB0_153.out; have hcz71_0 : w66.cell? ⟨gb153, 0, none⟩ = some (.int .i64 t137) := (blk_cell BK153.out 0).trans rfl; have hcz71_1 : w66.cell? ⟨gb153, 1, none⟩ = some (.int .i64 t139) := (blk_cell BK153.out 1).trans rfl; have hcz71_2 : w66.cell? ⟨gb153, 2, none⟩ = some (.int .i64 t141) := (blk_cell BK153.out 2).trans rfl; have hcz71_3 : w66.cell? ⟨gb153, 3, none⟩ = some (.int .i64 t143) := (blk_cell BK153.out 3).trans rfl; have hcz71_4 : w66.cell? ⟨gb153, 4, none⟩ = some (.int .i64 t145) := (blk_cell BK153.out 4).trans rfl; have hcz71_5 : w66.cell? ⟨gb153, 5, none⟩ = some (.int .i64 x154005_10) := (blk_cell BK153.out 5).trans rfl; have hcz71_6 : w66.cell? ⟨gb153, 6, none⟩ = some (.bool x154006_10) := (blk_cell BK153.out 6).trans rfl; have hcz71_7 : w66.cell? ⟨gb153, 7, none⟩ = some (.bool x154007_10) := (blk_cell BK153.out 7).trans rfl; have hcz71_8 : w66.cell? ⟨gb153, 8, none⟩ = some (.slice Ao20 t149.length co20) := (blk_cell BK153.out 8).trans rfl; have hfz71_0 := blk_frozen BK153.out 0; have hfz71_1 := blk_frozen BK153.out 1; have hfz71_2 := blk_frozen BK153.out 2; have hfz71_3 := blk_frozen BK153.out 3; have hfz71_4 := blk_frozen BK153.out 4; have hfz71_5 := blk_frozen BK153.out 5; have hfz71_6 := blk_frozen BK153.out 6; have hfz71_7 := blk_frozen BK153.out 7; have hfz71_8 := blk_frozen BK153.out 8))
                  go_meet
                  case rel => exact ⟨_, (t163), (t139), (t143), (x154005_10), (x154006_10), (x154007_10), (y168), (.slice Ao68 y168.length co68), H', ⟨by have := HJ10.out; first | omega | exact Nat.le_refl _⟩, ⟨by (with_reducible repeat (first | apply Kd.R_alloc | apply Kd.R_drewN | apply Kd.R_drew)); exact Kd.R_mono (Kd.R_far (p := ⟨gb153, 8, none⟩) (Kd.R_types HO170.out BK153.out (by decide)) (fun _ hk => by first | exact hk.2 | trivial | ((try simp only [ne_eq] at hk); simp only [hk, ne_eq, not_false_eq_true, and_self])) (.slice Ao68 y168.length co68)) (fun _ hk => trivial)⟩, ⟨by (with_reducible repeat (first | refine blk_drewN ?_ _ | refine blk_drew ?_ | refine blk_alloc ?_ _)); refine blk_far ?_ NB136_153.out _; (with_reducible repeat (first | refine blk_drewN ?_ _ | refine blk_drew ?_ | refine blk_alloc ?_ _)); exact BK136.out⟩, ⟨by (with_reducible repeat (first | refine blk_drewN ?_ _ | refine blk_drew ?_ | refine blk_alloc ?_ _)); refine blk_put (cs := #[.int .i64 t137, .int .i64 t139, .int .i64 t141, .int .i64 t143, .int .i64 t145, .int .i64 x154005_10, .bool x154006_10, .bool x154007_10, .slice Ao20 t149.length co20]) ?_ 8 _ rfl; (with_reducible repeat (first | refine blk_drewN ?_ _ | refine blk_drew ?_ | refine blk_alloc ?_ _)); exact BK153.out⟩, ⟨by repeat (first | (with_reducible first | exact HI0.out | apply IsS95.alloc | apply IsS95.drewN | apply IsS95.drew | apply IsS95.set_1 | refine IsS95.far ?_ NB0_136.out _ | refine IsS95.far ?_ NB0_153.out _) | exact HI0.out)⟩, ⟨by repeat (first | (with_reducible first | exact HK.out | apply KeepBut.set_ | apply keep_drewN | apply keep_drew | apply keep_alloc | refine keep_far ?_ GW136.out _ | refine keep_far ?_ GW153.out _) | exact HK.out)⟩, ⟨by repeat (first | (with_reducible first | exact HB.out | apply below_alloc | apply pw_below_drewN | apply below_drew1 | refine below_set ?_ (IsS95.ge HI0.out) | refine below_set ?_ GE136.out | refine below_set ?_ GE153.out) | exact HB.out)⟩⟩
                · rw [if_neg c64] at H
                  exact absurd H (by simp)
              · rw [if_neg c63] at H
                have c63b0 : (t162 == 2) = false := beq_eq_false_iff_ne.mpr c63
                have c63b1 : (t162 != 2) = true := bne_iff_ne.mpr c63
                by_cases c72 : t162 = 3
                · rw [if_pos c72] at H
                  have c72b0 : (t162 == 3) = true := beq_iff_eq.mpr c72
                  have c72b1 : (t162 != 3) = false := bne_eq_false_iff_eq.mpr c72
                  clear c72
                  have H' := Aside0.mk H
                  clear H
                  go_wp2_with (first | ((with_reducible refine gate_callee (f := 68) rfl ?_); refine goesL_ (some 45) rfl rfl Try.func68 (by kernel_rfl) rfl #[.pointer (some ⟨g, 0, none⟩), .int .i64 5] rfl (by (try simp only [List.map_toArray, List.map_cons, List.map_nil]); first | done | rfl | (simp only [List.length_drop, List.length_take]; rfl)) ?_; (with_reducible refine (spec_l20Rd_pick.calls kj10 g s0_0 t161 5 t162 t163 w0 _ ?side1 ?side2 A48.out).mono ?_); (case side1 => repeat (first | (with_reducible first | exact HI0.out | apply IsS95.alloc | apply IsS95.drewN | apply IsS95.drew | apply IsS95.set_1 | refine IsS95.far ?_ NB0_136.out _ | refine IsS95.far ?_ NB0_153.out _) | exact HI0.out)); (case side2 => repeat (first | (with_reducible first | exact HB.out | apply below_alloc | apply pw_below_drewN | apply below_drew1 | refine below_set ?_ (IsS95.ge HI0.out) | refine below_set ?_ GE136.out | refine below_set ?_ GE153.out) | exact HB.out)); rintro e w73 ⟨rfl, hi, hb, hk⟩; refine ⟨_, rfl, ?_⟩; have n0_ := Aside0.mk (Kd.R_mono (Kd.R_keep (IsS95.apart (show IsS95 w0 _ g s0_0 t161 from by repeat (first | (with_reducible first | exact HI0.out | apply IsS95.alloc | apply IsS95.drewN | apply IsS95.drew | apply IsS95.set_1 | refine IsS95.far ?_ NB0_136.out _ | refine IsS95.far ?_ NB0_153.out _) | exact HI0.out)) (by (with_reducible repeat (first | apply Kd.R_alloc | apply Kd.R_drewN | apply Kd.R_drew)); exact HO_154008.out) (by decide)) hk (fun _ h => h.2)) (fun _ h => h.1)); have n1_ := Aside0.mk (KeepBut.blk hk (g' := gb136) (o := .cells #[.int .i64 0, .int .i64 0, .int .i64 0, .int .i64 0, .int .i64 0, .int .i64 0, .bool false, .bool false, .slice none 0 0] 27 (0, 0)) (by (with_reducible repeat (first | refine blk_drewN ?_ _ | refine blk_drew ?_ | refine blk_alloc ?_ _)); exact BK136.out) NB136_0.out (by simp)); have n2_ := Aside0.mk (KeepBut.blk hk (g' := gb153) (o := .cells #[.int .i64 t137, .int .i64 t139, .int .i64 t141, .int .i64 t143, .int .i64 t145, .int .i64 x154005_10, .bool x154006_10, .bool x154007_10, .slice Ao20 t149.length co20] 27 (0, 0)) (by (with_reducible repeat (first | refine blk_drewN ?_ _ | refine blk_drew ?_ | refine blk_alloc ?_ _)); exact BK153.out) NB153_0.out (by simp)); have n3_ := Aside0.mk (KeepBut.trans (by repeat (first | (with_reducible first | exact HK.out | apply KeepBut.set_ | apply keep_drewN | apply keep_drew | apply keep_alloc | refine keep_far ?_ GW136.out _ | refine keep_far ?_ GW153.out _) | exact HK.out)) hk (.inl rfl)); have n4_ := Aside0.mk (hb); have n5_ := Aside0.mk (hi); clear HO_154008; clear BK136; clear BK153; clear HK; clear HB; clear HI0; have HO_154008 := n0_; have BK136 := n1_; have BK153 := n2_; have HK := n3_; have HB := n4_; have HI0 := n5_; clear n0_ n1_ n2_ n3_ n4_ n5_; (try clear hb); (try clear hb2); (try clear hk); (try clear hi); have hnb74 := NB153_136.out; have hnc74 := NB136_153.out; have hnb75 := NB153_0.out; have hnc75 := NB0_153.out; have hcz76_0 : w73.cell? ⟨gb153, 0, none⟩ = some (.int .i64 t137) := (blk_cell BK153.out 0).trans rfl; have hcz76_1 : w73.cell? ⟨gb153, 1, none⟩ = some (.int .i64 t139) := (blk_cell BK153.out 1).trans rfl; have hcz76_2 : w73.cell? ⟨gb153, 2, none⟩ = some (.int .i64 t141) := (blk_cell BK153.out 2).trans rfl; have hcz76_3 : w73.cell? ⟨gb153, 3, none⟩ = some (.int .i64 t143) := (blk_cell BK153.out 3).trans rfl; have hcz76_4 : w73.cell? ⟨gb153, 4, none⟩ = some (.int .i64 t145) := (blk_cell BK153.out 4).trans rfl; have hcz76_5 : w73.cell? ⟨gb153, 5, none⟩ = some (.int .i64 x154005_10) := (blk_cell BK153.out 5).trans rfl; have hcz76_6 : w73.cell? ⟨gb153, 6, none⟩ = some (.bool x154006_10) := (blk_cell BK153.out 6).trans rfl; have hcz76_7 : w73.cell? ⟨gb153, 7, none⟩ = some (.bool x154007_10) := (blk_cell BK153.out 7).trans rfl; have hcz76_8 : w73.cell? ⟨gb153, 8, none⟩ = some (.slice Ao20 t149.length co20) := (blk_cell BK153.out 8).trans rfl; have hfz76_0 := blk_frozen BK153.out 0; have hfz76_1 := blk_frozen BK153.out 1; have hfz76_2 := blk_frozen BK153.out 2; have hfz76_3 := blk_frozen BK153.out 3; have hfz76_4 := blk_frozen BK153.out 4; have hfz76_5 := blk_frozen BK153.out 5; have hfz76_6 := blk_frozen BK153.out 6; have hfz76_7 := blk_frozen BK153.out 7; have hfz76_8 := blk_frozen BK153.out 8))
                  go_meet
                  case rel => exact ⟨_, (t163), (t139), (t143), (x154005_10), (true), (x154007_10), (([] : List Int)), (.slice none 0 0), H', ⟨by have := HJ10.out; first | omega | exact Nat.le_refl _⟩, ⟨by first | exact Kd.R_nil _ _ _ _ _ | exact Kd.N_nil _ _ _ _ _ | exact Kd.V_nil _ _ _ _ _ | exact Kd.Q_nil _ _ _ _ _ | exact Kd.S_nil _ _ _ _ _⟩, ⟨by (with_reducible repeat (first | refine blk_drewN ?_ _ | refine blk_drew ?_ | refine blk_alloc ?_ _)); refine blk_far ?_ NB136_153.out _; (with_reducible repeat (first | refine blk_drewN ?_ _ | refine blk_drew ?_ | refine blk_alloc ?_ _)); refine blk_far ?_ NB136_153.out _; (with_reducible repeat (first | refine blk_drewN ?_ _ | refine blk_drew ?_ | refine blk_alloc ?_ _)); exact BK136.out⟩, ⟨by (with_reducible repeat (first | refine blk_drewN ?_ _ | refine blk_drew ?_ | refine blk_alloc ?_ _)); refine blk_put (cs := #[.int .i64 t137, .int .i64 t139, .int .i64 t141, .int .i64 t143, .int .i64 t145, .int .i64 x154005_10, .bool true, .bool x154007_10, .slice Ao20 t149.length co20]) ?_ 8 _ rfl; (with_reducible repeat (first | refine blk_drewN ?_ _ | refine blk_drew ?_ | refine blk_alloc ?_ _)); refine blk_put (cs := #[.int .i64 t137, .int .i64 t139, .int .i64 t141, .int .i64 t143, .int .i64 t145, .int .i64 x154005_10, .bool x154006_10, .bool x154007_10, .slice Ao20 t149.length co20]) ?_ 6 _ rfl; (with_reducible repeat (first | refine blk_drewN ?_ _ | refine blk_drew ?_ | refine blk_alloc ?_ _)); exact BK153.out⟩, ⟨by repeat (first | (with_reducible first | exact HI0.out | apply IsS95.alloc | apply IsS95.drewN | apply IsS95.drew | apply IsS95.set_1 | refine IsS95.far ?_ NB0_136.out _ | refine IsS95.far ?_ NB0_153.out _) | exact HI0.out)⟩, ⟨by repeat (first | (with_reducible first | exact HK.out | apply KeepBut.set_ | apply keep_drewN | apply keep_drew | apply keep_alloc | refine keep_far ?_ GW136.out _ | refine keep_far ?_ GW153.out _) | exact HK.out)⟩, ⟨by repeat (first | (with_reducible first | exact HB.out | apply below_alloc | apply pw_below_drewN | apply below_drew1 | refine below_set ?_ (IsS95.ge HI0.out) | refine below_set ?_ GE136.out | refine below_set ?_ GE153.out) | exact HB.out)⟩⟩
                · rw [if_neg c72] at H
                  have c72b0 : (t162 == 3) = false := beq_eq_false_iff_ne.mpr c72
                  have c72b1 : (t162 != 3) = true := bne_iff_ne.mpr c72
                  have H' := Aside0.mk H
                  clear H
                  go_wp2_with (first | ((with_reducible refine gate_callee (f := 68) rfl ?_); refine goesL_ (some 45) rfl rfl Try.func68 (by kernel_rfl) rfl #[.pointer (some ⟨g, 0, none⟩), .int .i64 5] rfl (by (try simp only [List.map_toArray, List.map_cons, List.map_nil]); first | done | rfl | (simp only [List.length_drop, List.length_take]; rfl)) ?_; (with_reducible refine (spec_l20Rd_pick.calls kj10 g s0_0 t161 5 t162 t163 w0 _ ?side1 ?side2 A48.out).mono ?_); (case side1 => repeat (first | (with_reducible first | exact HI0.out | apply IsS95.alloc | apply IsS95.drewN | apply IsS95.drew | apply IsS95.set_1 | refine IsS95.far ?_ NB0_136.out _ | refine IsS95.far ?_ NB0_153.out _) | exact HI0.out)); (case side2 => repeat (first | (with_reducible first | exact HB.out | apply below_alloc | apply pw_below_drewN | apply below_drew1 | refine below_set ?_ (IsS95.ge HI0.out) | refine below_set ?_ GE136.out | refine below_set ?_ GE153.out) | exact HB.out)); rintro e w77 ⟨rfl, hi, hb, hk⟩; refine ⟨_, rfl, ?_⟩; have n0_ := Aside0.mk (Kd.R_mono (Kd.R_keep (IsS95.apart (show IsS95 w0 _ g s0_0 t161 from by repeat (first | (with_reducible first | exact HI0.out | apply IsS95.alloc | apply IsS95.drewN | apply IsS95.drew | apply IsS95.set_1 | refine IsS95.far ?_ NB0_136.out _ | refine IsS95.far ?_ NB0_153.out _) | exact HI0.out)) (by (with_reducible repeat (first | apply Kd.R_alloc | apply Kd.R_drewN | apply Kd.R_drew)); exact HO_154008.out) (by decide)) hk (fun _ h => h.2)) (fun _ h => h.1)); have n1_ := Aside0.mk (KeepBut.blk hk (g' := gb136) (o := .cells #[.int .i64 0, .int .i64 0, .int .i64 0, .int .i64 0, .int .i64 0, .int .i64 0, .bool false, .bool false, .slice none 0 0] 27 (0, 0)) (by (with_reducible repeat (first | refine blk_drewN ?_ _ | refine blk_drew ?_ | refine blk_alloc ?_ _)); exact BK136.out) NB136_0.out (by simp)); have n2_ := Aside0.mk (KeepBut.blk hk (g' := gb153) (o := .cells #[.int .i64 t137, .int .i64 t139, .int .i64 t141, .int .i64 t143, .int .i64 t145, .int .i64 x154005_10, .bool x154006_10, .bool x154007_10, .slice Ao20 t149.length co20] 27 (0, 0)) (by (with_reducible repeat (first | refine blk_drewN ?_ _ | refine blk_drew ?_ | refine blk_alloc ?_ _)); exact BK153.out) NB153_0.out (by simp)); have n3_ := Aside0.mk (KeepBut.trans (by repeat (first | (with_reducible first | exact HK.out | apply KeepBut.set_ | apply keep_drewN | apply keep_drew | apply keep_alloc | refine keep_far ?_ GW136.out _ | refine keep_far ?_ GW153.out _) | exact HK.out)) hk (.inl rfl)); have n4_ := Aside0.mk (hb); have n5_ := Aside0.mk (hi); clear HO_154008; clear BK136; clear BK153; clear HK; clear HB; clear HI0; have HO_154008 := n0_; have BK136 := n1_; have BK153 := n2_; have HK := n3_; have HB := n4_; have HI0 := n5_; clear n0_ n1_ n2_ n3_ n4_ n5_; (try clear hb); (try clear hb2); (try clear hk); (try clear hi); have hnb78 := NB153_136.out; have hnc78 := NB136_153.out; have hnb79 := NB153_0.out; have hnc79 := NB0_153.out; have hcz80_0 : w77.cell? ⟨gb153, 0, none⟩ = some (.int .i64 t137) := (blk_cell BK153.out 0).trans rfl; have hcz80_1 : w77.cell? ⟨gb153, 1, none⟩ = some (.int .i64 t139) := (blk_cell BK153.out 1).trans rfl; have hcz80_2 : w77.cell? ⟨gb153, 2, none⟩ = some (.int .i64 t141) := (blk_cell BK153.out 2).trans rfl; have hcz80_3 : w77.cell? ⟨gb153, 3, none⟩ = some (.int .i64 t143) := (blk_cell BK153.out 3).trans rfl; have hcz80_4 : w77.cell? ⟨gb153, 4, none⟩ = some (.int .i64 t145) := (blk_cell BK153.out 4).trans rfl; have hcz80_5 : w77.cell? ⟨gb153, 5, none⟩ = some (.int .i64 x154005_10) := (blk_cell BK153.out 5).trans rfl; have hcz80_6 : w77.cell? ⟨gb153, 6, none⟩ = some (.bool x154006_10) := (blk_cell BK153.out 6).trans rfl; have hcz80_7 : w77.cell? ⟨gb153, 7, none⟩ = some (.bool x154007_10) := (blk_cell BK153.out 7).trans rfl; have hcz80_8 : w77.cell? ⟨gb153, 8, none⟩ = some (.slice Ao20 t149.length co20) := (blk_cell BK153.out 8).trans rfl; have hfz80_0 := blk_frozen BK153.out 0; have hfz80_1 := blk_frozen BK153.out 1; have hfz80_2 := blk_frozen BK153.out 2; have hfz80_3 := blk_frozen BK153.out 3; have hfz80_4 := blk_frozen BK153.out 4; have hfz80_5 := blk_frozen BK153.out 5; have hfz80_6 := blk_frozen BK153.out 6; have hfz80_7 := blk_frozen BK153.out 7; have hfz80_8 := blk_frozen BK153.out 8))
                  go_meet
                  case rel => exact ⟨_, (t163), (t139), (t143), (3), (x154006_10), (true), (t149), (.slice Ao20 t149.length co20), H', ⟨by have := HJ10.out; first | omega | exact Nat.le_refl _⟩, ⟨by (with_reducible repeat (first | apply Kd.R_alloc | apply Kd.R_drewN | apply Kd.R_drew)); exact Kd.R_mono (Kd.R_far (p := ⟨gb153, 5, none⟩) (Kd.R_far (p := ⟨gb153, 7, none⟩) (Kd.R_types HO_154008.out BK153.out (by decide)) (fun _ hk => by first | exact hk.2 | trivial | ((try simp only [ne_eq] at hk); simp only [hk, ne_eq, not_false_eq_true, and_self])) (.bool true)) (fun _ hk => by first | exact hk.2 | trivial | ((try simp only [ne_eq] at hk); simp only [hk, ne_eq, not_false_eq_true, and_self])) (.int .i64 3)) (fun _ hk => trivial)⟩, ⟨by (with_reducible repeat (first | refine blk_drewN ?_ _ | refine blk_drew ?_ | refine blk_alloc ?_ _)); refine blk_far ?_ NB136_153.out _; (with_reducible repeat (first | refine blk_drewN ?_ _ | refine blk_drew ?_ | refine blk_alloc ?_ _)); refine blk_far ?_ NB136_153.out _; (with_reducible repeat (first | refine blk_drewN ?_ _ | refine blk_drew ?_ | refine blk_alloc ?_ _)); exact BK136.out⟩, ⟨by (with_reducible repeat (first | refine blk_drewN ?_ _ | refine blk_drew ?_ | refine blk_alloc ?_ _)); refine blk_put (cs := #[.int .i64 t137, .int .i64 t139, .int .i64 t141, .int .i64 t143, .int .i64 t145, .int .i64 x154005_10, .bool x154006_10, .bool true, .slice Ao20 t149.length co20]) ?_ 5 _ rfl; (with_reducible repeat (first | refine blk_drewN ?_ _ | refine blk_drew ?_ | refine blk_alloc ?_ _)); refine blk_put (cs := #[.int .i64 t137, .int .i64 t139, .int .i64 t141, .int .i64 t143, .int .i64 t145, .int .i64 x154005_10, .bool x154006_10, .bool x154007_10, .slice Ao20 t149.length co20]) ?_ 7 _ rfl; (with_reducible repeat (first | refine blk_drewN ?_ _ | refine blk_drew ?_ | refine blk_alloc ?_ _)); exact BK153.out⟩, ⟨by repeat (first | (with_reducible first | exact HI0.out | apply IsS95.alloc | apply IsS95.drewN | apply IsS95.drew | apply IsS95.set_1 | refine IsS95.far ?_ NB0_136.out _ | refine IsS95.far ?_ NB0_153.out _) | exact HI0.out)⟩, ⟨by repeat (first | (with_reducible first | exact HK.out | apply KeepBut.set_ | apply keep_drewN | apply keep_drew | apply keep_alloc | refine keep_far ?_ GW136.out _ | refine keep_far ?_ GW153.out _) | exact HK.out)⟩, ⟨by repeat (first | (with_reducible first | exact HB.out | apply below_alloc | apply pw_below_drewN | apply below_drew1 | refine below_set ?_ (IsS95.ge HI0.out) | refine below_set ?_ GE136.out | refine below_set ?_ GE153.out) | exact HB.out)⟩⟩
        · replace c47 := Bool.eq_false_iff.mpr c47
          subst c47
          have H1 : (spec_l20Packet.j1 kj10 s0_0 t161 t137 t139 t141 t143 t145 x154005_10 x154006_10 x154007_10 t149) = some (r1, r2, r3, r4, r5, r6, r7, r8, r9, r10) := by rw [if_neg (show ¬ (false = true) by decide)] at H; exact H
          clear H
          have H := H1
          clear H1
          have H' := Aside0.mk H
          clear H
          go_wp2
          go_meet
          case rel => exact ⟨_, (t161), (t139), (t143), (x154005_10), (x154006_10), (x154007_10), (t149), (.slice Ao20 t149.length co20), H', ⟨by have := HJ10.out; first | omega | exact Nat.le_refl _⟩, ⟨by (with_reducible repeat (first | apply Kd.R_alloc | apply Kd.R_drewN | apply Kd.R_drew)); exact HO_154008.out⟩, ⟨by (with_reducible repeat (first | refine blk_drewN ?_ _ | refine blk_drew ?_ | refine blk_alloc ?_ _)); exact BK136.out⟩, ⟨by (with_reducible repeat (first | refine blk_drewN ?_ _ | refine blk_drew ?_ | refine blk_alloc ?_ _)); exact BK153.out⟩, ⟨by repeat (first | (with_reducible first | exact HI0.out | apply IsS95.alloc | apply IsS95.drewN | apply IsS95.drew | apply IsS95.set_1 | refine IsS95.far ?_ NB0_136.out _ | refine IsS95.far ?_ NB0_153.out _) | exact HI0.out)⟩, ⟨by repeat (first | (with_reducible first | exact HK.out | apply KeepBut.set_ | apply keep_drewN | apply keep_drew | apply keep_alloc | refine keep_far ?_ GW136.out _ | refine keep_far ?_ GW153.out _) | exact HK.out)⟩, ⟨by repeat (first | (with_reducible first | exact HB.out | apply below_alloc | apply pw_below_drewN | apply below_drew1 | refine below_set ?_ (IsS95.ge HI0.out) | refine below_set ?_ GE136.out | refine below_set ?_ GE153.out) | exact HB.out)⟩⟩
      case rest =>
        clear HC45
        try clear c2
        try clear p2
        try clear c3
        try clear c4
        try clear c5
        try clear c6
        try clear p6
        try clear c7
        try clear c8
        try clear c22
        try clear c23
        try clear c26
        try clear c26b0
        try clear c26b1
        try clear c27
        try clear c28
        try clear c30
        try clear c30b0
        try clear c30b1
        try clear c32
        try clear c32b0
        try clear c32b1
        try clear c35
        try clear c36
        try clear c41
        try clear c42
        try clear c47
        try clear c49
        try clear c49b0
        try clear c49b1
        try clear c53
        try clear c54
        try clear c56
        try clear c56b0
        try clear c56b1
        try clear c60
        try clear c61
        try clear c63
        try clear c63b0
        try clear c63b1
        try clear c64
        try clear c64b0
        try clear c64b1
        try clear p64
        try clear c67
        try clear c68
        try clear c69
        try clear c70
        try clear c72
        try clear c72b0
        try clear c72b1
        try clear c74
        try clear c75
        try clear c78
        try clear c79
        try clear hcz24_0
        try clear hcz24_1
        try clear hcz24_2
        try clear hcz24_3
        try clear hcz24_4
        try clear hcz24_5
        try clear hcz24_6
        try clear hcz24_7
        try clear hcz24_8
        try clear hcz29_0
        try clear hcz29_1
        try clear hcz29_2
        try clear hcz29_3
        try clear hcz29_4
        try clear hcz29_5
        try clear hcz29_6
        try clear hcz29_7
        try clear hcz29_8
        try clear hcz37_0
        try clear hcz37_1
        try clear hcz37_2
        try clear hcz37_3
        try clear hcz37_4
        try clear hcz37_5
        try clear hcz37_6
        try clear hcz37_7
        try clear hcz37_8
        try clear hcz39_0
        try clear hcz39_1
        try clear hcz39_2
        try clear hcz39_3
        try clear hcz39_4
        try clear hcz39_5
        try clear hcz39_6
        try clear hcz39_7
        try clear hcz39_8
        try clear hcz43_0
        try clear hcz43_1
        try clear hcz43_2
        try clear hcz43_3
        try clear hcz43_4
        try clear hcz43_5
        try clear hcz43_6
        try clear hcz43_7
        try clear hcz43_8
        try clear hcz55_0
        try clear hcz55_1
        try clear hcz55_2
        try clear hcz55_3
        try clear hcz55_4
        try clear hcz55_5
        try clear hcz55_6
        try clear hcz55_7
        try clear hcz55_8
        try clear hcz62_0
        try clear hcz62_1
        try clear hcz62_2
        try clear hcz62_3
        try clear hcz62_4
        try clear hcz62_5
        try clear hcz62_6
        try clear hcz62_7
        try clear hcz62_8
        try clear hcz71_0
        try clear hcz71_1
        try clear hcz71_2
        try clear hcz71_3
        try clear hcz71_4
        try clear hcz71_5
        try clear hcz71_6
        try clear hcz71_7
        try clear hcz71_8
        try clear hcz76_0
        try clear hcz76_1
        try clear hcz76_2
        try clear hcz76_3
        try clear hcz76_4
        try clear hcz76_5
        try clear hcz76_6
        try clear hcz76_7
        try clear hcz76_8
        try clear hcz80_0
        try clear hcz80_1
        try clear hcz80_2
        try clear hcz80_3
        try clear hcz80_4
        try clear hcz80_5
        try clear hcz80_6
        try clear hcz80_7
        try clear hcz80_8
        try clear hfz24_0
        try clear hfz24_1
        try clear hfz24_2
        try clear hfz24_3
        try clear hfz24_4
        try clear hfz24_5
        try clear hfz24_6
        try clear hfz24_7
        try clear hfz24_8
        try clear hfz29_0
        try clear hfz29_1
        try clear hfz29_2
        try clear hfz29_3
        try clear hfz29_4
        try clear hfz29_5
        try clear hfz29_6
        try clear hfz29_7
        try clear hfz29_8
        try clear hfz37_0
        try clear hfz37_1
        try clear hfz37_2
        try clear hfz37_3
        try clear hfz37_4
        try clear hfz37_5
        try clear hfz37_6
        try clear hfz37_7
        try clear hfz37_8
        try clear hfz39_0
        try clear hfz39_1
        try clear hfz39_2
        try clear hfz39_3
        try clear hfz39_4
        try clear hfz39_5
        try clear hfz39_6
        try clear hfz39_7
        try clear hfz39_8
        try clear hfz43_0
        try clear hfz43_1
        try clear hfz43_2
        try clear hfz43_3
        try clear hfz43_4
        try clear hfz43_5
        try clear hfz43_6
        try clear hfz43_7
        try clear hfz43_8
        try clear hfz55_0
        try clear hfz55_1
        try clear hfz55_2
        try clear hfz55_3
        try clear hfz55_4
        try clear hfz55_5
        try clear hfz55_6
        try clear hfz55_7
        try clear hfz55_8
        try clear hfz62_0
        try clear hfz62_1
        try clear hfz62_2
        try clear hfz62_3
        try clear hfz62_4
        try clear hfz62_5
        try clear hfz62_6
        try clear hfz62_7
        try clear hfz62_8
        try clear hfz71_0
        try clear hfz71_1
        try clear hfz71_2
        try clear hfz71_3
        try clear hfz71_4
        try clear hfz71_5
        try clear hfz71_6
        try clear hfz71_7
        try clear hfz71_8
        try clear hfz76_0
        try clear hfz76_1
        try clear hfz76_2
        try clear hfz76_3
        try clear hfz76_4
        try clear hfz76_5
        try clear hfz76_6
        try clear hfz76_7
        try clear hfz76_8
        try clear hfz80_0
        try clear hfz80_1
        try clear hfz80_2
        try clear hfz80_3
        try clear hfz80_4
        try clear hfz80_5
        try clear hfz80_6
        try clear hfz80_7
        try clear hfz80_8
        try clear p2
        obtain ⟨kq, x1001_44, x154001_44, x154003_44, x154005_44, x154006_44, x154007_44, x154008_44, u154008, HA, HJ44, HO_154008, BK136, BK153, HI0, HK, HB⟩ := hcut
        cases kq with
        | zero => exact absurd HA.out (by simp [spec_l20Packet.j1])
        | succ kj44 =>
          have H := HA.out
          clear HA
          simp only [spec_l20Packet.j1] at H
          simp only [Option.some.injEq, Prod.mk.injEq] at H
          obtain ⟨rfl, rfl, rfl, rfl, rfl, rfl, rfl, rfl, rfl, rfl⟩ := H
          have hnb81 := NB153_136.out
          have hnc81 := NB136_153.out
          have hnb82 := NB153_0.out
          have hnc82 := NB0_153.out
          have hcz83_0 : wc.cell? ⟨gb153, 0, none⟩ = some (.int .i64 t137) := (blk_cell BK153.out 0).trans rfl
          have hcz83_1 : wc.cell? ⟨gb153, 1, none⟩ = some (.int .i64 x154001_44) := (blk_cell BK153.out 1).trans rfl
          have hcz83_2 : wc.cell? ⟨gb153, 2, none⟩ = some (.int .i64 t141) := (blk_cell BK153.out 2).trans rfl
          have hcz83_3 : wc.cell? ⟨gb153, 3, none⟩ = some (.int .i64 x154003_44) := (blk_cell BK153.out 3).trans rfl
          have hcz83_4 : wc.cell? ⟨gb153, 4, none⟩ = some (.int .i64 t145) := (blk_cell BK153.out 4).trans rfl
          have hcz83_5 : wc.cell? ⟨gb153, 5, none⟩ = some (.int .i64 x154005_44) := (blk_cell BK153.out 5).trans rfl
          have hcz83_6 : wc.cell? ⟨gb153, 6, none⟩ = some (.bool x154006_44) := (blk_cell BK153.out 6).trans rfl
          have hcz83_7 : wc.cell? ⟨gb153, 7, none⟩ = some (.bool x154007_44) := (blk_cell BK153.out 7).trans rfl
          have hcz83_8 : wc.cell? ⟨gb153, 8, none⟩ = some (u154008) := (blk_cell BK153.out 8).trans rfl
          have hfz83_0 := blk_frozen BK153.out 0
          have hfz83_1 := blk_frozen BK153.out 1
          have hfz83_2 := blk_frozen BK153.out 2
          have hfz83_3 := blk_frozen BK153.out 3
          have hfz83_4 := blk_frozen BK153.out 4
          have hfz83_5 := blk_frozen BK153.out 5
          have hfz83_6 := blk_frozen BK153.out 6
          have hfz83_7 := blk_frozen BK153.out 7
          have hfz83_8 := blk_frozen BK153.out 8
          have hnb84 := NB136_0.out
          have hnc84 := NB0_136.out
          have hcz85_0 : wc.cell? ⟨gb136, 0, none⟩ = some (.int .i64 0) := (blk_cell BK136.out 0).trans rfl
          have hcz85_1 : wc.cell? ⟨gb136, 1, none⟩ = some (.int .i64 0) := (blk_cell BK136.out 1).trans rfl
          have hcz85_2 : wc.cell? ⟨gb136, 2, none⟩ = some (.int .i64 0) := (blk_cell BK136.out 2).trans rfl
          have hcz85_3 : wc.cell? ⟨gb136, 3, none⟩ = some (.int .i64 0) := (blk_cell BK136.out 3).trans rfl
          have hcz85_4 : wc.cell? ⟨gb136, 4, none⟩ = some (.int .i64 0) := (blk_cell BK136.out 4).trans rfl
          have hcz85_5 : wc.cell? ⟨gb136, 5, none⟩ = some (.int .i64 0) := (blk_cell BK136.out 5).trans rfl
          have hcz85_6 : wc.cell? ⟨gb136, 6, none⟩ = some (.bool false) := (blk_cell BK136.out 6).trans rfl
          have hcz85_7 : wc.cell? ⟨gb136, 7, none⟩ = some (.bool false) := (blk_cell BK136.out 7).trans rfl
          have hcz85_8 : wc.cell? ⟨gb136, 8, none⟩ = some (.slice none 0 0) := (blk_cell BK136.out 8).trans rfl
          have hfz85_0 := blk_frozen BK136.out 0
          have hfz85_1 := blk_frozen BK136.out 1
          have hfz85_2 := blk_frozen BK136.out 2
          have hfz85_3 := blk_frozen BK136.out 3
          have hfz85_4 := blk_frozen BK136.out 4
          have hfz85_5 := blk_frozen BK136.out 5
          have hfz85_6 := blk_frozen BK136.out 6
          have hfz85_7 := blk_frozen BK136.out 7
          have hfz85_8 := blk_frozen BK136.out 8
          obtain ⟨Ao86, co86, eo86⟩ := Kd.R_slice HO_154008.out
          subst eo86
          go_wp2
          refine bodyPost_ret (results_cell_row rfl _ _ gb136 27 #[.int .i64 t137, .int .i64 x154001_44, .int .i64 t141, .int .i64 x154003_44, .int .i64 t145, .int .i64 x154005_44, .bool x154006_44, .bool x154007_44, .slice Ao86 x154008_44.length co86] (0, 0) _ rfl (by (with_reducible repeat (first | refine blk_drewN ?_ _ | refine blk_drew ?_ | refine blk_alloc ?_ _)); refine blk_put (cs := #[.int .i64 t137, .int .i64 x154001_44, .int .i64 t141, .int .i64 x154003_44, .int .i64 t145, .int .i64 x154005_44, .bool x154006_44, .bool x154007_44, .slice none 0 0]) ?_ 8 _ rfl; (with_reducible repeat (first | refine blk_drewN ?_ _ | refine blk_drew ?_ | refine blk_alloc ?_ _)); refine blk_put (cs := #[.int .i64 t137, .int .i64 x154001_44, .int .i64 t141, .int .i64 x154003_44, .int .i64 t145, .int .i64 x154005_44, .bool x154006_44, .bool false, .slice none 0 0]) ?_ 7 _ rfl; (with_reducible repeat (first | refine blk_drewN ?_ _ | refine blk_drew ?_ | refine blk_alloc ?_ _)); refine blk_put (cs := #[.int .i64 t137, .int .i64 x154001_44, .int .i64 t141, .int .i64 x154003_44, .int .i64 t145, .int .i64 x154005_44, .bool false, .bool false, .slice none 0 0]) ?_ 6 _ rfl; (with_reducible repeat (first | refine blk_drewN ?_ _ | refine blk_drew ?_ | refine blk_alloc ?_ _)); refine blk_put (cs := #[.int .i64 t137, .int .i64 x154001_44, .int .i64 t141, .int .i64 x154003_44, .int .i64 t145, .int .i64 0, .bool false, .bool false, .slice none 0 0]) ?_ 5 _ rfl; (with_reducible repeat (first | refine blk_drewN ?_ _ | refine blk_drew ?_ | refine blk_alloc ?_ _)); refine blk_put (cs := #[.int .i64 t137, .int .i64 x154001_44, .int .i64 t141, .int .i64 x154003_44, .int .i64 0, .int .i64 0, .bool false, .bool false, .slice none 0 0]) ?_ 4 _ rfl; (with_reducible repeat (first | refine blk_drewN ?_ _ | refine blk_drew ?_ | refine blk_alloc ?_ _)); refine blk_put (cs := #[.int .i64 t137, .int .i64 x154001_44, .int .i64 t141, .int .i64 0, .int .i64 0, .int .i64 0, .bool false, .bool false, .slice none 0 0]) ?_ 3 _ rfl; (with_reducible repeat (first | refine blk_drewN ?_ _ | refine blk_drew ?_ | refine blk_alloc ?_ _)); refine blk_put (cs := #[.int .i64 t137, .int .i64 x154001_44, .int .i64 0, .int .i64 0, .int .i64 0, .int .i64 0, .bool false, .bool false, .slice none 0 0]) ?_ 2 _ rfl; (with_reducible repeat (first | refine blk_drewN ?_ _ | refine blk_drew ?_ | refine blk_alloc ?_ _)); refine blk_put (cs := #[.int .i64 t137, .int .i64 0, .int .i64 0, .int .i64 0, .int .i64 0, .int .i64 0, .bool false, .bool false, .slice none 0 0]) ?_ 1 _ rfl; (with_reducible repeat (first | refine blk_drewN ?_ _ | refine blk_drew ?_ | refine blk_alloc ?_ _)); refine blk_put (cs := #[.int .i64 0, .int .i64 0, .int .i64 0, .int .i64 0, .int .i64 0, .int .i64 0, .bool false, .bool false, .slice none 0 0]) ?_ 0 _ rfl; (with_reducible repeat (first | refine blk_drewN ?_ _ | refine blk_drew ?_ | refine blk_alloc ?_ _)); exact BK136.out) Try.underlying27 rfl (by kernel_rfl)) rfl ?_
          exact ⟨_, by first | rfl | (simp [errW_none, errW_some] <;> rfl) | (simp [*, errW_none, errW_some] <;> rfl), by (with_reducible repeat (first | apply Kd.R_alloc | apply Kd.R_drewN | apply Kd.R_drew)); exact Kd.R_mono (Kd.R_far (p := ⟨gb136, 8, none⟩) (Kd.R_far (p := ⟨gb136, 7, none⟩) (Kd.R_far (p := ⟨gb136, 6, none⟩) (Kd.R_far (p := ⟨gb136, 5, none⟩) (Kd.R_far (p := ⟨gb136, 4, none⟩) (Kd.R_far (p := ⟨gb136, 3, none⟩) (Kd.R_far (p := ⟨gb136, 2, none⟩) (Kd.R_far (p := ⟨gb136, 1, none⟩) (Kd.R_far (p := ⟨gb136, 0, none⟩) (Kd.R_types HO_154008.out BK136.out (by decide)) (fun _ hk => by first | exact hk.2 | trivial | ((try simp only [ne_eq] at hk); simp only [hk, ne_eq, not_false_eq_true, and_self])) (.int .i64 t137)) (fun _ hk => by first | exact hk.2 | trivial | ((try simp only [ne_eq] at hk); simp only [hk, ne_eq, not_false_eq_true, and_self])) (.int .i64 x154001_44)) (fun _ hk => by first | exact hk.2 | trivial | ((try simp only [ne_eq] at hk); simp only [hk, ne_eq, not_false_eq_true, and_self])) (.int .i64 t141)) (fun _ hk => by first | exact hk.2 | trivial | ((try simp only [ne_eq] at hk); simp only [hk, ne_eq, not_false_eq_true, and_self])) (.int .i64 x154003_44)) (fun _ hk => by first | exact hk.2 | trivial | ((try simp only [ne_eq] at hk); simp only [hk, ne_eq, not_false_eq_true, and_self])) (.int .i64 t145)) (fun _ hk => by first | exact hk.2 | trivial | ((try simp only [ne_eq] at hk); simp only [hk, ne_eq, not_false_eq_true, and_self])) (.int .i64 x154005_44)) (fun _ hk => by first | exact hk.2 | trivial | ((try simp only [ne_eq] at hk); simp only [hk, ne_eq, not_false_eq_true, and_self])) (.bool x154006_44)) (fun _ hk => by first | exact hk.2 | trivial | ((try simp only [ne_eq] at hk); simp only [hk, ne_eq, not_false_eq_true, and_self])) (.bool x154007_44)) (fun _ hk => by first | exact hk.2 | trivial | ((try simp only [ne_eq] at hk); simp only [hk, ne_eq, not_false_eq_true, and_self])) (.slice Ao86 x154008_44.length co86)) (fun _ hk => trivial), by repeat (first | (with_reducible first | exact HI0.out | apply IsS95.alloc | apply IsS95.drewN | apply IsS95.drew | apply IsS95.set_1 | refine IsS95.far ?_ NB0_136.out _ | refine IsS95.far ?_ NB0_153.out _) | exact HI0.out), by repeat (first | (with_reducible first | exact HB.out | apply below_alloc | apply pw_below_drewN | apply below_drew1 | refine below_set ?_ (IsS95.ge HI0.out) | refine below_set ?_ GE136.out | refine below_set ?_ GE153.out) | exact HB.out), by repeat (first | (with_reducible first | exact HK.out | apply KeepBut.set_ | apply keep_drewN | apply keep_drew | apply keep_alloc | refine keep_far ?_ GW136.out _ | refine keep_far ?_ GW153.out _) | exact HK.out)⟩

/-! ### spec_l20Open: function 62 -/
def spec_l20Open.f (l0 : List Int) : Option (List Int × Int) := if (l0.length : Int) > 2000 then (if 2000 ≤ (l0.length : Int) then (some (l0.take 2000, 0)) else (none)) else (some (l0, 0))
set_option maxHeartbeats 8000000 in
set_option maxRecDepth 100000 in
theorem spec_l20Open.calls (A0 : Option Addr) (c0 : Nat) (l0 : List Int) (r1 : List Int) (r2 : Int) (w0 w : World) (hB : Below w0.heap.size w0 w) (hr0 : Kd.C (Kd.int .u8) w0 A0 l0.length l0) (hc0 : l0.length ≤ c0) (h : spec_l20Open.f l0 = some (r1, r2)) :
    Calls Try.prog 62 #[.slice A0 l0.length c0] w fun e w' => ∃ g_ : Nat, e = .returned (.pointer (some ⟨g_, 0, none⟩)) ∧ IsS95 w0 w' g_ r1 r2 ∧ Below w0.heap.size w0 w' ∧ Below w.heap.size w w' := by
  have hu95 := Try.underlying95
  have HR0 := Aside0.mk hr0
  have HC0 := Aside0.mk hc0
  clear hr0 hc0
  have HBW := Aside0.mk (Below.refl w.heap.size w)
  have HW0 := Aside0.mk hB.size
  have HB := Aside0.mk hB
  clear hB
  have H : (if (l0.length : Int) > 2000 then (if 2000 ≤ (l0.length : Int) then (some (l0.take 2000, 0)) else (none)) else (some (l0, 0))) = some (r1, r2) := h
  clear h
  by_cases c2 : (l0.length : Int) > 2000
  · rw [if_pos c2] at H
    have c2b0 : decide (2000 < (l0.length : Int)) = true := decide_eq_true c2
    have c2b1 : decide (2000 < l0.length) = true := decide_eq_true (by omega)
    clear c2
    by_cases c3 : 2000 ≤ (l0.length : Int)
    · rw [if_pos c3] at H
      have c3b0 := eq_true c3
      have c3b1 : decide (2000 ≤ (l0.length : Int)) = true := decide_eq_true c3
      clear c3
      simp only [Option.some.injEq, Prod.mk.injEq] at H
      obtain ⟨rfl, rfl⟩ := H
      obtain ⟨i04, hi04, _, hsz4, _⟩ := info_parts info5
      obtain ⟨hcut4, hA4, hC4⟩ := print_take_of (P := Try.prog) (Value.int .u8) 0 22 5 .i64 Try.underlying22 hi04 hsz4 A0 c0 l0 2000 (by omega) (of_decide_eq_true (by first | (with_reducible assumption) | assumption)) HC0.out
      have HR171 := Aside0.mk (Kd.C_of_reads (h1 := fun _ => rfl) (hA4 _ (Kd.reads_of_C HR0.out)))
      have HC171 := Aside0.mk hC4
      clear hA4 hC4 hi04 hsz4
      go_enter Try.func62, Try.ntmps62
      go_wp2_with (first | ((with_reducible refine gate_dst (N := 10) rfl ?_); refine box_event ?hg (N := 10) ?hd (cs := #[.slice A0 (l0.take 2000).length c0, .int .i64 0]) (t := 95) ?hr ?_; (case hd => rfl); (case hg => rfl); (case hr => first | (go_simp; done) | (go_simp; rfl)); intro gb172 hg w5 hbox hb; have n0_ := Aside0.mk (below_step HBW.out hb); have n1_ := Aside0.mk (below_step (by repeat (first | (with_reducible first | exact HB.out | apply below_alloc | apply pw_below_drewN | apply below_drew1) | exact HB.out)) hb); have n2_ := Aside0.mk (hbox); have n3_ := Aside0.mk ((by rw [hg]; exact (below_size (by repeat (first | (with_reducible first | exact HBW.out | apply below_alloc | apply pw_below_drewN | apply below_drew1) | exact HBW.out))) : w.heap.size ≤ gb172)); have n4_ := Aside0.mk ((Nat.le_trans HW0.out (by rw [hg]; exact (below_size (by repeat (first | (with_reducible first | exact HBW.out | apply below_alloc | apply pw_below_drewN | apply below_drew1) | exact HBW.out))) : w.heap.size ≤ gb172) : w0.heap.size ≤ gb172)); clear HBW; clear HB; have HBW := n0_; have HB := n1_; have BK172 := n2_; have GW172 := n3_; have GE172 := n4_; clear n0_ n1_ n2_ n3_ n4_; clear hb hbox hg))
      go_ret
      exact ⟨_, rfl, (show IsS95 w0 _ gb172 (l0.take 2000) 0 from ⟨_, _, by (with_reducible repeat (first | refine blk_drewN ?_ _ | refine blk_drew ?_ | refine blk_alloc ?_ _)); exact BK172.out, GE172.out, HR171.out⟩), by repeat (first | (with_reducible first | exact HB.out | apply below_alloc | apply pw_below_drewN | apply below_drew1 | refine below_set ?_ GE172.out) | exact HB.out), by repeat (first | (with_reducible first | exact HBW.out | apply below_alloc | apply pw_below_drewN | apply below_drew1 | refine below_set ?_ GW172.out) | exact HBW.out)⟩
    · rw [if_neg c3] at H
      exact absurd H (by simp)
  · rw [if_neg c2] at H
    have c2b0 : decide (2000 < (l0.length : Int)) = false := decide_eq_false c2
    have c2b1 : decide (2000 < l0.length) = false := decide_eq_false (by omega)
    clear c2
    simp only [Option.some.injEq, Prod.mk.injEq] at H
    obtain ⟨rfl, rfl⟩ := H
    go_enter Try.func62, Try.ntmps62
    go_wp2_with (first | ((with_reducible refine gate_dst (N := 10) rfl ?_); refine box_event ?hg (N := 10) ?hd (cs := #[.slice A0 l0.length c0, .int .i64 0]) (t := 95) ?hr ?_; (case hd => rfl); (case hg => rfl); (case hr => first | (go_simp; done) | (go_simp; rfl)); intro gb173 hg w6 hbox hb; have n0_ := Aside0.mk (below_step HBW.out hb); have n1_ := Aside0.mk (below_step (by repeat (first | (with_reducible first | exact HB.out | apply below_alloc | apply pw_below_drewN | apply below_drew1) | exact HB.out)) hb); have n2_ := Aside0.mk (hbox); have n3_ := Aside0.mk ((by rw [hg]; exact (below_size (by repeat (first | (with_reducible first | exact HBW.out | apply below_alloc | apply pw_below_drewN | apply below_drew1) | exact HBW.out))) : w.heap.size ≤ gb173)); have n4_ := Aside0.mk ((Nat.le_trans HW0.out (by rw [hg]; exact (below_size (by repeat (first | (with_reducible first | exact HBW.out | apply below_alloc | apply pw_below_drewN | apply below_drew1) | exact HBW.out))) : w.heap.size ≤ gb173) : w0.heap.size ≤ gb173)); clear HBW; clear HB; have HBW := n0_; have HB := n1_; have BK173 := n2_; have GW173 := n3_; have GE173 := n4_; clear n0_ n1_ n2_ n3_ n4_; clear hb hbox hg))
    go_ret
    exact ⟨_, rfl, (show IsS95 w0 _ gb173 l0 0 from ⟨_, _, by (with_reducible repeat (first | refine blk_drewN ?_ _ | refine blk_drew ?_ | refine blk_alloc ?_ _)); exact BK173.out, GE173.out, HR0.out⟩), by repeat (first | (with_reducible first | exact HB.out | apply below_alloc | apply pw_below_drewN | apply below_drew1 | refine below_set ?_ GE173.out) | exact HB.out), by repeat (first | (with_reducible first | exact HBW.out | apply below_alloc | apply pw_below_drewN | apply below_drew1 | refine below_set ?_ GW173.out) | exact HBW.out)⟩

/-! ### spec_DrawPacketOk: function 20 -/
def spec_DrawPacketOk.f (k : Nat) (l0 : List Int) : Option (Int × Int × Int × Int × Int × Int × Bool × Bool × List Int) := (spec_l20Open.f l0).bind fun bt175 => ((spec_l20Packet.f k bt175.1 bt175.2 2).bind fun bt178 => (some (bt178.1, bt178.2.1, bt178.2.2.1, bt178.2.2.2.1, bt178.2.2.2.2.1, bt178.2.2.2.2.2.1, bt178.2.2.2.2.2.2.1, bt178.2.2.2.2.2.2.2.1, bt178.2.2.2.2.2.2.2.2.1)))
theorem spec_DrawPacketOk.mono : ∀ a0 k, LeO (spec_DrawPacketOk.f k a0) (spec_DrawPacketOk.f (k + 1) a0) := by
  intro a0 k
  unfold spec_DrawPacketOk.f
  repeat' first
      | (with_reducible exact spec_l20Packet.mono _ _ _ _)
      | (with_reducible exact LeO.refl _)
      | (with_reducible exact LeO.none _)
      | (with_reducible refine LeO.ite ?_ ?_)
      | (with_reducible refine LeO.bind ?_ (fun _ => ?_))
      | exact spec_l20Packet.mono _ _ _ _
      | exact LeO.none _
      | refine LeO.ite ?_ ?_
      | refine LeO.bind ?_ (fun _ => ?_)
set_option maxHeartbeats 8000000 in
set_option maxRecDepth 100000 in
theorem spec_DrawPacketOk.calls (k : Nat) (A0 : Option Addr) (c0 : Nat) (l0 : List Int) (r1 : Int) (r2 : Int) (r3 : Int) (r4 : Int) (r5 : Int) (r6 : Int) (r7 : Bool) (r8 : Bool) (r9 : List Int) (w : World) (hr0 : Kd.C (Kd.int .u8) w A0 l0.length l0) (hc0 : l0.length ≤ c0) (h : spec_DrawPacketOk.f k l0 = some (r1, r2, r3, r4, r5, r6, r7, r8, r9)) :
    Calls Try.prog 20 #[.slice A0 l0.length c0] w fun e w' => ∃ v8_ : Value, e = .returned (.agg #[.int .i64 r1, .int .i64 r2, .int .i64 r3, .int .i64 r4, .int .i64 r5, .int .i64 r6, .bool r7, .bool r8, v8_]) ∧ Kd.R (Kd.int .u8) 5 w' w.heap.size (fun _ => True) v8_ r9 ∧ Below w.heap.size w w' := by
  have hu27 := Try.underlying27
  have HR0 := Aside0.mk hr0
  have HC0 := Aside0.mk hc0
  clear hr0 hc0
  have HB := Aside0.mk (Below.refl w.heap.size w)
  have H : ((spec_l20Open.f l0).bind fun bt175 => ((spec_l20Packet.f k bt175.1 bt175.2 2).bind fun bt178 => (some (bt178.1, bt178.2.1, bt178.2.2.1, bt178.2.2.2.1, bt178.2.2.2.2.1, bt178.2.2.2.2.2.1, bt178.2.2.2.2.2.2.1, bt178.2.2.2.2.2.2.2.1, bt178.2.2.2.2.2.2.2.2.1)))) = some (r1, r2, r3, r4, r5, r6, r7, r8, r9) := h
  clear h
  replace H := Option.bind_eq_some_iff.mp H
  obtain ⟨⟨t175, t176⟩, A20, H⟩ := H
  replace H : ((spec_l20Packet.f k t175 t176 2).bind fun bt178 => (some (bt178.1, bt178.2.1, bt178.2.2.1, bt178.2.2.2.1, bt178.2.2.2.2.1, bt178.2.2.2.2.2.1, bt178.2.2.2.2.2.2.1, bt178.2.2.2.2.2.2.2.1, bt178.2.2.2.2.2.2.2.2.1))) = some (r1, r2, r3, r4, r5, r6, r7, r8, r9) := H
  have A2 := Aside0.mk A20
  clear A20
  replace H := Option.bind_eq_some_iff.mp H
  obtain ⟨⟨t178, t179, t180, t181, t182, t183, t184, t185, t186, t189⟩, A30, H⟩ := H
  replace H : (some (t178, t179, t180, t181, t182, t183, t184, t185, t186)) = some (r1, r2, r3, r4, r5, r6, r7, r8, r9) := H
  have A3 := Aside0.mk A30
  clear A30
  simp only [Option.some.injEq, Prod.mk.injEq] at H
  obtain ⟨rfl, rfl, rfl, rfl, rfl, rfl, rfl, rfl, rfl⟩ := H
  go_enter Try.func20, Try.ntmps20
  go_wp2_with (first | ((with_reducible refine gate_dst (N := 2) rfl ?_); refine box_event ?hg (N := 2) ?hd (cs := #[.int .i64 0, .int .i64 0, .int .i64 0, .int .i64 0, .int .i64 0, .int .i64 0, .bool false, .bool false, .slice none 0 0]) (t := 27) ?hr ?_; (case hd => rfl); (case hg => rfl); (case hr => first | (go_simp; done) | (go_simp; rfl)); intro gb174 hg w4 hbox hb; have n0_ := Aside0.mk (below_step (by repeat (first | (with_reducible first | exact HB.out | apply below_alloc | apply pw_below_drewN | apply below_drew1) | exact HB.out)) hb); have n1_ := Aside0.mk (hbox); have n2_ := Aside0.mk ((by rw [hg]; exact (below_size (by repeat (first | (with_reducible first | exact HB.out | apply below_alloc | apply pw_below_drewN | apply below_drew1) | exact HB.out))) : w.heap.size ≤ gb174)); have n3_ := Aside0.mk ((by rw [hg]; exact (below_size (by repeat (first | (with_reducible first | exact HB.out | apply below_alloc | apply pw_below_drewN | apply below_drew1) | exact HB.out))) : w.heap.size ≤ gb174)); clear HB; have HB := n0_; have BK174 := n1_; have GW174 := n2_; have GE174 := n3_; clear n0_ n1_ n2_ n3_; clear hb hbox hg) | ((with_reducible refine gate_callee (f := 62) rfl ?_); refine goesL_ (some 4) rfl rfl Try.func62 (by kernel_rfl) rfl #[.slice A0 l0.length c0] rfl (by (try simp only [List.map_toArray, List.map_cons, List.map_nil]); first | done | rfl | (simp only [List.length_drop, List.length_take]; rfl)) ?_; (with_reducible refine (spec_l20Open.calls _ _ l0 t175 t176 w _ ?side1 ?side2 ?side3 A2.out).mono ?_); (case side1 => repeat (first | (with_reducible first | exact HB.out | apply below_alloc | apply pw_below_drewN | apply below_drew1 | refine below_set ?_ GE174.out) | exact HB.out)); (case side2 => exact HR0.out); (case side3 => exact HC0.out); rintro e w5 ⟨g177, rfl, hi, hb, hb2⟩; refine ⟨_, rfl, ?_⟩; have n0_ := Aside0.mk (blk_below (g := gb174) (o := .cells #[.int .i64 0, .int .i64 0, .int .i64 0, .int .i64 0, .int .i64 0, .int .i64 0, .bool false, .bool false, .slice none 0 0] 27 (0, 0)) (by (with_reducible repeat (first | refine blk_drewN ?_ _ | refine blk_drew ?_ | refine blk_alloc ?_ _)); exact BK174.out) hb2); have n1_ := Aside0.mk (hb); have n2_ := Aside0.mk (hi); have n3_ := Aside0.mk (IsS95.ne_blk hi (blk_below (g := gb174) (o := .cells #[.int .i64 0, .int .i64 0, .int .i64 0, .int .i64 0, .int .i64 0, .int .i64 0, .bool false, .bool false, .slice none 0 0] 27 (0, 0)) (by (with_reducible repeat (first | refine blk_drewN ?_ _ | refine blk_drew ?_ | refine blk_alloc ?_ _)); exact BK174.out) hb2) (by decide)); have n4_ := Aside0.mk (Ne.symm (IsS95.ne_blk hi (blk_below (g := gb174) (o := .cells #[.int .i64 0, .int .i64 0, .int .i64 0, .int .i64 0, .int .i64 0, .int .i64 0, .bool false, .bool false, .slice none 0 0] 27 (0, 0)) (by (with_reducible repeat (first | refine blk_drewN ?_ _ | refine blk_drew ?_ | refine blk_alloc ?_ _)); exact BK174.out) hb2) (by decide))); clear BK174; clear HB; have BK174 := n0_; have HB := n1_; have HI177 := n2_; have NB177_174 := n3_; have NB174_177 := n4_; clear n0_ n1_ n2_ n3_ n4_; (try clear hb); (try clear hb2); (try clear hk); (try clear hi)) | ((with_reducible refine gate_callee (f := 61) rfl ?_); refine goesL_ (some 5) rfl rfl Try.func61 (by kernel_rfl) rfl #[.pointer (some ⟨g177, 0, none⟩), .int .i64 2] rfl (by (try simp only [List.map_toArray, List.map_cons, List.map_nil]); first | done | rfl | (simp only [List.length_drop, List.length_take]; rfl)) ?_; (with_reducible refine (spec_l20Packet.calls k g177 t175 t176 2 t178 t179 t180 t181 t182 t183 t184 t185 t186 t189 w _ ?side1 ?side2 A3.out).mono ?_); (case side1 => repeat (first | (with_reducible first | exact HI177.out | apply IsS95.alloc | apply IsS95.drewN | apply IsS95.drew | apply IsS95.set_1 | refine IsS95.far ?_ NB177_174.out _) | exact HI177.out)); (case side2 => repeat (first | (with_reducible first | exact HB.out | apply below_alloc | apply pw_below_drewN | apply below_drew1 | refine below_set ?_ (IsS95.ge HI177.out) | refine below_set ?_ GE174.out) | exact HB.out)); rintro e w6 ⟨v187, rfl, ho0, hi, hb, hk⟩; refine ⟨_, rfl, ?_⟩; have n0_ := Aside0.mk (KeepBut.blk hk (g' := gb174) (o := .cells #[.int .i64 0, .int .i64 0, .int .i64 0, .int .i64 0, .int .i64 0, .int .i64 0, .bool false, .bool false, .slice none 0 0] 27 (0, 0)) (by (with_reducible repeat (first | refine blk_drewN ?_ _ | refine blk_drew ?_ | refine blk_alloc ?_ _)); exact BK174.out) NB174_177.out (by simp)); have n1_ := Aside0.mk (Kd.R_lower ho0 (below_size (by repeat (first | (with_reducible first | exact HB.out | apply below_alloc | apply pw_below_drewN | apply below_drew1 | refine below_set ?_ (IsS95.ge HI177.out) | refine below_set ?_ GE174.out) | exact HB.out)))); have n2_ := Aside0.mk (hb); have n3_ := Aside0.mk (hi); clear BK174; clear HB; clear HI177; have BK174 := n0_; have HO188 := n1_; have HB := n2_; have HI177 := n3_; clear n0_ n1_ n2_ n3_; (try clear hb); (try clear hb2); (try clear hk); (try clear hi); (try clear ho0); have hnb7 := NB174_177.out; have hnc7 := NB177_174.out; have hcz8_0 : w6.cell? ⟨gb174, 0, none⟩ = some (.int .i64 0) := (blk_cell BK174.out 0).trans rfl; have hcz8_1 : w6.cell? ⟨gb174, 1, none⟩ = some (.int .i64 0) := (blk_cell BK174.out 1).trans rfl; have hcz8_2 : w6.cell? ⟨gb174, 2, none⟩ = some (.int .i64 0) := (blk_cell BK174.out 2).trans rfl; have hcz8_3 : w6.cell? ⟨gb174, 3, none⟩ = some (.int .i64 0) := (blk_cell BK174.out 3).trans rfl; have hcz8_4 : w6.cell? ⟨gb174, 4, none⟩ = some (.int .i64 0) := (blk_cell BK174.out 4).trans rfl; have hcz8_5 : w6.cell? ⟨gb174, 5, none⟩ = some (.int .i64 0) := (blk_cell BK174.out 5).trans rfl; have hcz8_6 : w6.cell? ⟨gb174, 6, none⟩ = some (.bool false) := (blk_cell BK174.out 6).trans rfl; have hcz8_7 : w6.cell? ⟨gb174, 7, none⟩ = some (.bool false) := (blk_cell BK174.out 7).trans rfl; have hcz8_8 : w6.cell? ⟨gb174, 8, none⟩ = some (.slice none 0 0) := (blk_cell BK174.out 8).trans rfl; have hfz8_0 := blk_frozen BK174.out 0; have hfz8_1 := blk_frozen BK174.out 1; have hfz8_2 := blk_frozen BK174.out 2; have hfz8_3 := blk_frozen BK174.out 3; have hfz8_4 := blk_frozen BK174.out 4; have hfz8_5 := blk_frozen BK174.out 5; have hfz8_6 := blk_frozen BK174.out 6; have hfz8_7 := blk_frozen BK174.out 7; have hfz8_8 := blk_frozen BK174.out 8; obtain ⟨Ao9, co9, eo9⟩ := Kd.R_slice HO188.out; subst eo9))
  refine bodyPost_ret (results_cell_row rfl _ _ gb174 27 #[.int .i64 t178, .int .i64 t179, .int .i64 t180, .int .i64 t181, .int .i64 t182, .int .i64 t183, .bool t184, .bool t185, .slice Ao9 t186.length co9] (0, 0) _ rfl (by (with_reducible repeat (first | refine blk_drewN ?_ _ | refine blk_drew ?_ | refine blk_alloc ?_ _)); refine blk_put (cs := #[.int .i64 t178, .int .i64 t179, .int .i64 t180, .int .i64 t181, .int .i64 t182, .int .i64 t183, .bool t184, .bool t185, .slice none 0 0]) ?_ 8 _ rfl; (with_reducible repeat (first | refine blk_drewN ?_ _ | refine blk_drew ?_ | refine blk_alloc ?_ _)); refine blk_put (cs := #[.int .i64 t178, .int .i64 t179, .int .i64 t180, .int .i64 t181, .int .i64 t182, .int .i64 t183, .bool t184, .bool false, .slice none 0 0]) ?_ 7 _ rfl; (with_reducible repeat (first | refine blk_drewN ?_ _ | refine blk_drew ?_ | refine blk_alloc ?_ _)); refine blk_put (cs := #[.int .i64 t178, .int .i64 t179, .int .i64 t180, .int .i64 t181, .int .i64 t182, .int .i64 t183, .bool false, .bool false, .slice none 0 0]) ?_ 6 _ rfl; (with_reducible repeat (first | refine blk_drewN ?_ _ | refine blk_drew ?_ | refine blk_alloc ?_ _)); refine blk_put (cs := #[.int .i64 t178, .int .i64 t179, .int .i64 t180, .int .i64 t181, .int .i64 t182, .int .i64 0, .bool false, .bool false, .slice none 0 0]) ?_ 5 _ rfl; (with_reducible repeat (first | refine blk_drewN ?_ _ | refine blk_drew ?_ | refine blk_alloc ?_ _)); refine blk_put (cs := #[.int .i64 t178, .int .i64 t179, .int .i64 t180, .int .i64 t181, .int .i64 0, .int .i64 0, .bool false, .bool false, .slice none 0 0]) ?_ 4 _ rfl; (with_reducible repeat (first | refine blk_drewN ?_ _ | refine blk_drew ?_ | refine blk_alloc ?_ _)); refine blk_put (cs := #[.int .i64 t178, .int .i64 t179, .int .i64 t180, .int .i64 0, .int .i64 0, .int .i64 0, .bool false, .bool false, .slice none 0 0]) ?_ 3 _ rfl; (with_reducible repeat (first | refine blk_drewN ?_ _ | refine blk_drew ?_ | refine blk_alloc ?_ _)); refine blk_put (cs := #[.int .i64 t178, .int .i64 t179, .int .i64 0, .int .i64 0, .int .i64 0, .int .i64 0, .bool false, .bool false, .slice none 0 0]) ?_ 2 _ rfl; (with_reducible repeat (first | refine blk_drewN ?_ _ | refine blk_drew ?_ | refine blk_alloc ?_ _)); refine blk_put (cs := #[.int .i64 t178, .int .i64 0, .int .i64 0, .int .i64 0, .int .i64 0, .int .i64 0, .bool false, .bool false, .slice none 0 0]) ?_ 1 _ rfl; (with_reducible repeat (first | refine blk_drewN ?_ _ | refine blk_drew ?_ | refine blk_alloc ?_ _)); refine blk_put (cs := #[.int .i64 0, .int .i64 0, .int .i64 0, .int .i64 0, .int .i64 0, .int .i64 0, .bool false, .bool false, .slice none 0 0]) ?_ 0 _ rfl; (with_reducible repeat (first | refine blk_drewN ?_ _ | refine blk_drew ?_ | refine blk_alloc ?_ _)); exact BK174.out) Try.underlying27 rfl (by kernel_rfl)) rfl ?_
  exact ⟨_, by first | rfl | (simp [errW_none, errW_some] <;> rfl) | (simp [*, errW_none, errW_some] <;> rfl), by (with_reducible repeat (first | apply Kd.R_alloc | apply Kd.R_drewN | apply Kd.R_drew)); exact Kd.R_mono (Kd.R_far (p := ⟨gb174, 8, none⟩) (Kd.R_far (p := ⟨gb174, 7, none⟩) (Kd.R_far (p := ⟨gb174, 6, none⟩) (Kd.R_far (p := ⟨gb174, 5, none⟩) (Kd.R_far (p := ⟨gb174, 4, none⟩) (Kd.R_far (p := ⟨gb174, 3, none⟩) (Kd.R_far (p := ⟨gb174, 2, none⟩) (Kd.R_far (p := ⟨gb174, 1, none⟩) (Kd.R_far (p := ⟨gb174, 0, none⟩) (Kd.R_types HO188.out BK174.out (by decide)) (fun _ hk => by first | exact hk.2 | trivial | ((try simp only [ne_eq] at hk); simp only [hk, ne_eq, not_false_eq_true, and_self])) (.int .i64 t178)) (fun _ hk => by first | exact hk.2 | trivial | ((try simp only [ne_eq] at hk); simp only [hk, ne_eq, not_false_eq_true, and_self])) (.int .i64 t179)) (fun _ hk => by first | exact hk.2 | trivial | ((try simp only [ne_eq] at hk); simp only [hk, ne_eq, not_false_eq_true, and_self])) (.int .i64 t180)) (fun _ hk => by first | exact hk.2 | trivial | ((try simp only [ne_eq] at hk); simp only [hk, ne_eq, not_false_eq_true, and_self])) (.int .i64 t181)) (fun _ hk => by first | exact hk.2 | trivial | ((try simp only [ne_eq] at hk); simp only [hk, ne_eq, not_false_eq_true, and_self])) (.int .i64 t182)) (fun _ hk => by first | exact hk.2 | trivial | ((try simp only [ne_eq] at hk); simp only [hk, ne_eq, not_false_eq_true, and_self])) (.int .i64 t183)) (fun _ hk => by first | exact hk.2 | trivial | ((try simp only [ne_eq] at hk); simp only [hk, ne_eq, not_false_eq_true, and_self])) (.bool t184)) (fun _ hk => by first | exact hk.2 | trivial | ((try simp only [ne_eq] at hk); simp only [hk, ne_eq, not_false_eq_true, and_self])) (.bool t185)) (fun _ hk => by first | exact hk.2 | trivial | ((try simp only [ne_eq] at hk); simp only [hk, ne_eq, not_false_eq_true, and_self])) (.slice Ao9 t186.length co9)) (fun _ hk => trivial), by repeat (first | (with_reducible first | exact HB.out | apply below_alloc | apply pw_below_drewN | apply below_drew1 | refine below_set ?_ (IsS95.ge HI177.out) | refine below_set ?_ GE174.out) | exact HB.out)⟩

end Go.Proofs.Ytibfeacgnadiaaa.PFnPacketOk

/- The machine side of some functions: each comes to its pure answer (written by a program of this session with the kit's print). No condition. -/
import Derived.Test.YtdbmmkhaeghjaaaPFnPartsOkx0
import Derived.Test.YtdbmmkhaeghjaaaPFnPartsOkx5
import Derived.Test.YtdbmmkhaeghjaaaPFnPartsOkx6
namespace Go.Proofs.Ytdbmmkhaeghjaaa.PFnPartsOk
open Go.RowKit Go.Proofs.YtdbmmkhaeghjaaaUFnPartsOk.PrintWords Go.Proofs.YtdbmmkhaeghjaaaUFnPartsOk.PrintLast Go.Proofs.YtdbmmkhaeghjaaaUFnPartsOk.PrintMore
attribute [local go_sem] max2_int min2_int max_two min_two max_three min_three max_four min_four   -- for this text's walks alone
set_option linter.unusedVariables false
set_option linter.unusedSimpArgs false

/-! ### spec_PartsOk: function 6 -/
mutual
def spec_PartsOk.l0 : Nat → List (S36) → Int → Option (Bool)
 | 0, _, _ => none
 | k + 1, x0, x3 => if x3 < (x0.length : Int) then (if 0 ≤ x3 then ((spec_PartOk.f k ((rd_T36 x0 x3).f0) ((rd_T36 x0 x3).f1)).bind fun t229 => (if t229 = true then (spec_PartsOk.l1 k x0 x3 0) else (some false))) else (none)) else (some (decide ((x0.length : Int) ≤ 3)))
def spec_PartsOk.l1 : Nat → List (S36) → Int → Int → Option (Bool)
 | 0, _, _, _ => none
 | k + 1, x0, x3, x4 => if x4 < x3 then (if 0 ≤ x4 then (if x4 < (x0.length : Int) then (if 0 < (((rd_T36 x0 x4).f0).length : Int) then (if 0 ≤ x3 then (if x3 < (x0.length : Int) then (if 0 < (((rd_T36 x0 x3).f0).length : Int) then ((spec_l5Same.f ((rd_T29 ((rd_T36 x0 x4).f0) 0).f0) ((rd_T29 ((rd_T36 x0 x4).f0) 0).f1) ((rd_T29 ((rd_T36 x0 x4).f0) 0).f2) ((rd_T29 ((rd_T36 x0 x4).f0) 0).f3) ((rd_T29 ((rd_T36 x0 x4).f0) 0).f4) ((rd_T29 ((rd_T36 x0 x4).f0) 0).f5) ((rd_T29 ((rd_T36 x0 x4).f0) 0).f6) ((rd_T29 ((rd_T36 x0 x4).f0) 0).f7) ((rd_T29 ((rd_T36 x0 x4).f0) 0).f8) ((rd_T29 ((rd_T36 x0 x3).f0) 0).f0) ((rd_T29 ((rd_T36 x0 x3).f0) 0).f1) ((rd_T29 ((rd_T36 x0 x3).f0) 0).f2) ((rd_T29 ((rd_T36 x0 x3).f0) 0).f3) ((rd_T29 ((rd_T36 x0 x3).f0) 0).f4) ((rd_T29 ((rd_T36 x0 x3).f0) 0).f5) ((rd_T29 ((rd_T36 x0 x3).f0) 0).f6) ((rd_T29 ((rd_T36 x0 x3).f0) 0).f7) ((rd_T29 ((rd_T36 x0 x3).f0) 0).f8)).bind fun t234 => (if t234 = true then (some false) else (spec_PartsOk.l1 k x0 x3 (wrap64 (x4 + 1))))) else (none)) else (none)) else (none)) else (none)) else (none)) else (none)) else (spec_PartsOk.l0 k x0 (wrap64 (x3 + 1)))
end
def spec_PartsOk.f (k : Nat) (l0 : List (S36)) : Option (Bool) := spec_PartsOk.l0 k l0 0
theorem spec_PartsOk.mono_l : ∀ k, (∀ y0 y1, LeO (spec_PartsOk.l0 k y0 y1) (spec_PartsOk.l0 (k + 1) y0 y1)) ∧ (∀ y0 y1 y2, LeO (spec_PartsOk.l1 k y0 y1 y2) (spec_PartsOk.l1 (k + 1) y0 y1 y2))
 | 0 => ⟨fun _ _ r h => by simp [spec_PartsOk.l0] at h, fun _ _ _ r h => by simp [spec_PartsOk.l1] at h⟩
 | k + 1 => by
  obtain ⟨ih0, ih1⟩ := spec_PartsOk.mono_l k;refine ⟨?_, ?_⟩
  ·intro y0 y1
   unfold spec_PartsOk.l0
   repeat' first
   | (with_reducible exact ih0 _ _)
   | (with_reducible exact ih1 _ _ _)
   | (with_reducible exact spec_PartOk.mono _ _ _)
   | (with_reducible exact LeO.refl _)
   | (with_reducible exact LeO.none _)
   | (with_reducible refine LeO.ite ?_ ?_)
   | (with_reducible refine LeO.bind ?_ (fun _ => ?_))
   | exact ih0 _ _
   | exact ih1 _ _ _
   | exact spec_PartOk.mono _ _ _
   | exact LeO.none _
   | refine LeO.ite ?_ ?_
   | refine LeO.bind ?_ (fun _ => ?_)
  ·intro y0 y1 y2
   unfold spec_PartsOk.l1
   repeat' first
   | (with_reducible exact ih0 _ _)
   | (with_reducible exact ih1 _ _ _)
   | (with_reducible exact spec_PartOk.mono _ _ _)
   | (with_reducible exact LeO.refl _)
   | (with_reducible exact LeO.none _)
   | (with_reducible refine LeO.ite ?_ ?_)
   | (with_reducible refine LeO.bind ?_ (fun _ => ?_))
   | exact ih0 _ _
   | exact ih1 _ _ _
   | exact spec_PartOk.mono _ _ _
   | exact LeO.none _
   | refine LeO.ite ?_ ?_
   | refine LeO.bind ?_ (fun _ => ?_)
theorem spec_PartsOk.mono : ∀ a0 k, LeO (spec_PartsOk.f k a0) (spec_PartsOk.f (k + 1) a0) := by
 intro a0 k;obtain ⟨ih0, ih1⟩ := spec_PartsOk.mono_l k
 unfold spec_PartsOk.f
 repeat' first
   | (with_reducible exact ih0 _ _)
   | (with_reducible exact ih1 _ _ _)
   | (with_reducible exact spec_PartOk.mono _ _ _)
   | (with_reducible exact LeO.refl _)
   | (with_reducible exact LeO.none _)
   | (with_reducible refine LeO.ite ?_ ?_)
   | (with_reducible refine LeO.bind ?_ (fun _ => ?_))
   | exact ih0 _ _
   | exact ih1 _ _ _
   | exact spec_PartOk.mono _ _ _
   | exact LeO.none _
   | refine LeO.ite ?_ ?_
   | refine LeO.bind ?_ (fun _ => ?_)
def spec_PartsOk.T9 : Bool × List (List Nat × List Nat) := (true, [([], []), ([], []), ([0, 1], [0, 1]), ([2], [2]), ([3], [3]), ([4], [4]), ([5], [5]), ([], []), ([], []), ([7, 8], [7, 8]), ([9], [9]), ([10], [10]), ([11], [11]), ([12], [12]), ([6, 13], [6, 13])])
def spec_PartsOk.B9 : List Nat := [0, 0, 3, 7, 15, 31, 63, 0, 0, 384, 896, 1920, 3968, 8064, 16383]
theorem spec_PartsOk.tab9 : rtab .any (opsOf Try.f6 9) = spec_PartsOk.T9 := by kernel_rfl
theorem spec_PartsOk.bits9 : waitsOk spec_PartsOk.T9.2 spec_PartsOk.B9 = true := by kernel_rfl
set_option maxHeartbeats 8000000 in
set_option maxRecDepth 100000 in
theorem spec_PartsOk.calls (k : Nat) (A0 : Option Addr) (c0 : Nat) (l0 : List (S36)) (r : Bool) (w : World) (hr0 : Kd.C k36 w A0 l0.length l0) (hc0 : l0.length ≤ c0) (h : spec_PartsOk.f k l0 = some r) :
  Calls Try.prog 6 #[.slice A0 l0.length c0] w fun e w' => e = .returned (.bool r) ∧ Below w.heap.size w w' := by
 have hu36 := Try.underlying36;have hu29 := Try.underlying29;have HR0 := Aside0.mk hr0;have HC0 := Aside0.mk hc0;clear hr0 hc0;have HB := Aside0.mk (Below.refl w.heap.size w);have H : (spec_PartsOk.l0 k l0 0) = some r := h;clear h;have H' := Aside0.mk H;clear H
 go_enter Try.func6, Try.ntmps6
 go_wp2
 go_loopg [3] k (fun kq v3 w' => ∃ (x3_1 : Int), v3 = .int .i64 x3_1 ∧ Aside0 (spec_PartsOk.l0 kq l0 x3_1 = some r) ∧ Aside0 (kq ≤ k) ∧ Aside0 (Below w.heap.size w w'))
 case atStart => exact ⟨(0), z1, H', ⟨Nat.le_refl _⟩, ⟨zB HB⟩⟩
 case round =>
  clear H';obtain ⟨x3_1, rfl, HA, HK1, HB⟩ := hrel
  cases gk with
  | zero => exact absurd HA.out (by simp [spec_PartsOk.l0])
  | succ k1 =>
   have H := HA.out;clear HA;simp only [spec_PartsOk.l0] at H
   by_cases c2 : x3_1 < (l0.length : Int)
   ·rw [if_pos c2] at H
    have c2b0 : decide (x3_1 < (l0.length : Int)) = true := decide_eq_true c2;clear c2
    by_cases c3 : 0 ≤ x3_1
    ·rw [if_pos c3] at H
     have c3b0 : decide (0 ≤ x3_1) = true := decide_eq_true c3;clear c3;replace H := zf H;obtain ⟨t229, A4, H⟩ := H
     by_cases c5 : t229 = true
     ·subst c5
      rw [if_pos rfl] at H;have H' := Aside0.mk H;clear H;have p228 : 0 ≤ (x3_1 : Int) := of_decide_eq_true (by first | (with_reducible assumption) | assumption);have q228 : x3_1 < (l0.length : Int) := of_decide_eq_true (by first | (with_reducible assumption) | assumption);obtain ⟨ad228, A228_0, c228_0, e228, hx228_0, hx228_1, hl228_0, hi228_0⟩ := at_T36 HR0.out x3_1 p228 q228
      cases e228
      replace hx228_0 := zk HB.out hx228_0;replace hx228_1 := zk HB.out hx228_1;have HR228_0 := Aside0.mk hi228_0;have HC228_0 := Aside0.mk hl228_0;clear hi228_0 hl228_0;replace p228 := eq_true p228;replace q228 := eq_true q228
      go_wp2_with (first | ((with_reducible refine gate_callee (f := 14) rfl ?_); refine goesL_ (some 15) rfl rfl Try.func14 (by kernel_rfl) rfl #[.agg #[.slice A228_0 ((rd_T36 l0 x3_1).f0).length c228_0, .int .i64 ((rd_T36 l0 x3_1).f1)]] rfl zM ?_; (with_reducible refine (spec_PartOk.calls k1 _ _ ((rd_T36 l0 x3_1).f0) ((rd_T36 l0 x3_1).f1) true _ ?side1 ?side2 A4.out).mono ?_); (case side1 => exact zC HR228_0 HB); (case side2 => exact HC228_0.out); rintro e w6 ⟨rfl, hb⟩; refine ⟨_, rfl, ?_⟩; replace HB := zbb HB hb; (try clear hb); (try clear hb2); (try clear hk); (try clear hi)))
      go_loopg [4] k1 (fun kq v4 w' => ∃ (x4_2 : Int), v4 = .int .i64 x4_2 ∧ Aside0 (spec_PartsOk.l1 kq l0 x3_1 x4_2 = some r) ∧ Aside0 (kq ≤ k1) ∧ Aside0 (Below w.heap.size w w'))
      case atStart => exact ⟨(0), z1, H', ⟨Nat.le_refl _⟩, ⟨zB HB⟩⟩
      case round =>
       clear H'
       try clear c2
       try clear c2b0
       try clear c3
       try clear c3b0
       try clear c5
       try clear hx228_0
       try clear hx228_1
       try clear p228
       try clear q228
       obtain ⟨x4_2, rfl, HA, HK2, HB⟩ := hrel
       cases gk with
       | zero => exact absurd HA.out (by simp [spec_PartsOk.l1])
       | succ k2 =>
        have H := HA.out;clear HA;simp only [spec_PartsOk.l1] at H
        by_cases c7 : x4_2 < x3_1
        ·rw [if_pos c7] at H
         have c7b0 : decide (x4_2 < x3_1) = true := decide_eq_true c7;clear c7
         by_cases c8 : 0 ≤ x4_2
         ·rw [if_pos c8] at H
          have c8b0 : decide (0 ≤ x4_2) = true := decide_eq_true c8;clear c8
          by_cases c9 : x4_2 < (l0.length : Int)
          ·rw [if_pos c9] at H
           have c9b0 : decide (x4_2 < (l0.length : Int)) = true := decide_eq_true c9;clear c9
           by_cases c10 : 0 < (((rd_T36 l0 x4_2).f0).length : Int)
           ·rw [if_pos c10] at H
            have c10b0 : decide (0 < (((rd_T36 l0 x4_2).f0).length : Int)) = true := decide_eq_true c10;have c10b1 : decide (0 < ((rd_T36 l0 x4_2).f0).length) = true := decide_eq_true (by omega);clear c10
            by_cases c11 : 0 ≤ x3_1
            ·rw [if_pos c11] at H
             have c11b0 : decide (0 ≤ x3_1) = true := decide_eq_true c11;clear c11
             by_cases c12 : x3_1 < (l0.length : Int)
             ·rw [if_pos c12] at H
              have c12b0 : decide (x3_1 < (l0.length : Int)) = true := decide_eq_true c12;clear c12
              by_cases c13 : 0 < (((rd_T36 l0 x3_1).f0).length : Int)
              ·rw [if_pos c13] at H
               have c13b0 : decide (0 < (((rd_T36 l0 x3_1).f0).length : Int)) = true := decide_eq_true c13;have c13b1 : decide (0 < ((rd_T36 l0 x3_1).f0).length) = true := decide_eq_true (by omega);clear c13;replace H := zf H;obtain ⟨t234, A14, H⟩ := H
               by_cases c15 : t234 = true
               ·subst c15
                rw [if_pos rfl] at H;obtain rfl := Option.some.inj H
                try go_wp2
                replace HB := Aside0.mk (below_drew1 HB.out);have p230 : 0 ≤ (x4_2 : Int) := of_decide_eq_true (by first | (with_reducible assumption) | assumption);have q230 : x4_2 < (l0.length : Int) := of_decide_eq_true (by first | (with_reducible assumption) | assumption);obtain ⟨ad230, A230_0, c230_0, e230, hx230_0, hx230_1, hl230_0, hi230_0⟩ := at_T36 HR0.out x4_2 p230 q230;have hw230_1 := hx230_1;have hw230_0 := hx230_0;obtain rfl : ad228 = ad230 := (by injection e230);replace hx230_0 := zk HB.out hx230_0;replace hx230_1 := zk HB.out hx230_1;have HR230_0 := Aside0.mk hi230_0;have HC230_0 := Aside0.mk hl230_0;clear hi230_0 hl230_0;replace p230 := eq_true p230;replace q230 := eq_true q230;have p231 : 0 ≤ (0 : Int) := (by omega);have q231 : 0 < (((rd_T36 l0 x4_2).f0).length : Int) := of_decide_eq_true (by first | (with_reducible assumption) | assumption);obtain ⟨ad231, A231_8, c231_8, e231, hx231_0, hx231_1, hx231_2, hx231_3, hx231_4, hx231_5, hx231_6, hx231_7, hx231_8, hl231_8, hi231_8⟩ := at_T29 HR230_0.out 0 p231 q231;have hw231_8 := hx231_8;have hw231_7 := hx231_7;have hw231_6 := hx231_6;have hw231_5 := hx231_5;have hw231_4 := hx231_4;have hw231_3 := hx231_3;have hw231_2 := hx231_2;have hw231_1 := hx231_1;have hw231_0 := hx231_0;(try rw [show ((0 : Int)).toNat = 0 from rfl] at hw231_8 hw231_7 hw231_6 hw231_5 hw231_4 hw231_3 hw231_2 hw231_1 hw231_0);(try rw [show 0 * 9 = 0 from rfl] at hw231_8 hw231_7 hw231_6 hw231_5 hw231_4 hw231_3 hw231_2 hw231_1 hw231_0);(try rw [Addr.add_zero'] at hw231_8 hw231_7 hw231_6 hw231_5 hw231_4 hw231_3 hw231_2 hw231_1 hw231_0)
                cases e231
                have qi231 : (0 < ((rd_T36 l0 x4_2).f0).length) = True := eq_true (by omega);(try rw [show ((0 : Int)).toNat = 0 from rfl] at hx231_0 hx231_1 hx231_2 hx231_3 hx231_4 hx231_5 hx231_6 hx231_7 hx231_8);(try rw [show 0 * 9 = 0 from rfl] at hx231_0 hx231_1 hx231_2 hx231_3 hx231_4 hx231_5 hx231_6 hx231_7 hx231_8);(try rw [Addr.add_zero'] at hx231_0 hx231_1 hx231_2 hx231_3 hx231_4 hx231_5 hx231_6 hx231_7 hx231_8);replace hx231_0 := zk HB.out hx231_0;replace hx231_1 := zk HB.out hx231_1;replace hx231_2 := zk HB.out hx231_2;replace hx231_3 := zk HB.out hx231_3;replace hx231_4 := zk HB.out hx231_4;replace hx231_5 := zk HB.out hx231_5;replace hx231_6 := zk HB.out hx231_6;replace hx231_7 := zk HB.out hx231_7;replace hx231_8 := zk HB.out hx231_8;have HR231_8 := Aside0.mk hi231_8;have HC231_8 := Aside0.mk hl231_8;clear hi231_8 hl231_8;replace p231 := eq_true p231;replace q231 := eq_true q231;have p232 : 0 ≤ (x3_1 : Int) := of_decide_eq_true (by first | (with_reducible assumption) | assumption);have q232 : x3_1 < (l0.length : Int) := of_decide_eq_true (by first | (with_reducible assumption) | assumption);obtain ⟨ad232, A232_0, c232_0, e232, hx232_0, hx232_1, hl232_0, hi232_0⟩ := at_T36 HR0.out x3_1 p232 q232;have hw232_1 := hx232_1;have hw232_0 := hx232_0;obtain rfl : ad228 = ad232 := (by injection e232);replace hx232_0 := zk HB.out hx232_0;replace hx232_1 := zk HB.out hx232_1;have HR232_0 := Aside0.mk hi232_0;have HC232_0 := Aside0.mk hl232_0;clear hi232_0 hl232_0;replace p232 := eq_true p232;replace q232 := eq_true q232;have p233 : 0 ≤ (0 : Int) := (by omega);have q233 : 0 < (((rd_T36 l0 x3_1).f0).length : Int) := of_decide_eq_true (by first | (with_reducible assumption) | assumption);obtain ⟨ad233, A233_8, c233_8, e233, hx233_0, hx233_1, hx233_2, hx233_3, hx233_4, hx233_5, hx233_6, hx233_7, hx233_8, hl233_8, hi233_8⟩ := at_T29 HR232_0.out 0 p233 q233;have hw233_8 := hx233_8;have hw233_7 := hx233_7;have hw233_6 := hx233_6;have hw233_5 := hx233_5;have hw233_4 := hx233_4;have hw233_3 := hx233_3;have hw233_2 := hx233_2;have hw233_1 := hx233_1;have hw233_0 := hx233_0;(try rw [show ((0 : Int)).toNat = 0 from rfl] at hw233_8 hw233_7 hw233_6 hw233_5 hw233_4 hw233_3 hw233_2 hw233_1 hw233_0);(try rw [show 0 * 9 = 0 from rfl] at hw233_8 hw233_7 hw233_6 hw233_5 hw233_4 hw233_3 hw233_2 hw233_1 hw233_0);(try rw [Addr.add_zero'] at hw233_8 hw233_7 hw233_6 hw233_5 hw233_4 hw233_3 hw233_2 hw233_1 hw233_0)
                cases e233
                have qi233 : (0 < ((rd_T36 l0 x3_1).f0).length) = True := eq_true (by omega);(try rw [show ((0 : Int)).toNat = 0 from rfl] at hx233_0 hx233_1 hx233_2 hx233_3 hx233_4 hx233_5 hx233_6 hx233_7 hx233_8);(try rw [show 0 * 9 = 0 from rfl] at hx233_0 hx233_1 hx233_2 hx233_3 hx233_4 hx233_5 hx233_6 hx233_7 hx233_8);(try rw [Addr.add_zero'] at hx233_0 hx233_1 hx233_2 hx233_3 hx233_4 hx233_5 hx233_6 hx233_7 hx233_8);replace hx233_0 := zk HB.out hx233_0;replace hx233_1 := zk HB.out hx233_1;replace hx233_2 := zk HB.out hx233_2;replace hx233_3 := zk HB.out hx233_3;replace hx233_4 := zk HB.out hx233_4;replace hx233_5 := zk HB.out hx233_5;replace hx233_6 := zk HB.out hx233_6;replace hx233_7 := zk HB.out hx233_7;replace hx233_8 := zk HB.out hx233_8;have HR233_8 := Aside0.mk hi233_8;have HC233_8 := Aside0.mk hl233_8;clear hi233_8 hl233_8;replace p233 := eq_true p233;replace q233 := eq_true q233;refine start_ (n := 15) (S := fun w' => w'.cell? (ad228.add ((x4_2).toNat * 2)) = some (.slice (some ad231) ((rd_T36 l0 x4_2).f0).length c230_0) ∧ w'.cell? ⟨(ad228.add ((x4_2).toNat * 2)).block, (ad228.add ((x4_2).toNat * 2)).off + 1, none⟩ = some (.int .i64 ((rd_T36 l0 x4_2).f1)) ∧ w'.cell? ad231 = some (.int .i64 ((rd_T29 ((rd_T36 l0 x4_2).f0) 0).f0)) ∧ w'.cell? ⟨ad231.block, ad231.off + 1, none⟩ = some (.int .i64 ((rd_T29 ((rd_T36 l0 x4_2).f0) 0).f1)) ∧ w'.cell? ⟨ad231.block, ad231.off + 2, none⟩ = some (.int .i64 ((rd_T29 ((rd_T36 l0 x4_2).f0) 0).f2)) ∧ w'.cell? ⟨ad231.block, ad231.off + 3, none⟩ = some (.int .i64 ((rd_T29 ((rd_T36 l0 x4_2).f0) 0).f3)) ∧ w'.cell? ⟨ad231.block, ad231.off + 4, none⟩ = some (.int .i64 ((rd_T29 ((rd_T36 l0 x4_2).f0) 0).f4)) ∧ w'.cell? ⟨ad231.block, ad231.off + 5, none⟩ = some (.int .i64 ((rd_T29 ((rd_T36 l0 x4_2).f0) 0).f5)) ∧ w'.cell? ⟨ad231.block, ad231.off + 6, none⟩ = some (.bool ((rd_T29 ((rd_T36 l0 x4_2).f0) 0).f6)) ∧ w'.cell? ⟨ad231.block, ad231.off + 7, none⟩ = some (.bool ((rd_T29 ((rd_T36 l0 x4_2).f0) 0).f7)) ∧ w'.cell? ⟨ad231.block, ad231.off + 8, none⟩ = some (.slice A231_8 ((rd_T29 ((rd_T36 l0 x4_2).f0) 0).f8).length c231_8) ∧ w'.cell? (ad228.add ((x3_1).toNat * 2)) = some (.slice (some ad233) ((rd_T36 l0 x3_1).f0).length c232_0) ∧ w'.cell? ⟨(ad228.add ((x3_1).toNat * 2)).block, (ad228.add ((x3_1).toNat * 2)).off + 1, none⟩ = some (.int .i64 ((rd_T36 l0 x3_1).f1)) ∧ w'.cell? ad233 = some (.int .i64 ((rd_T29 ((rd_T36 l0 x3_1).f0) 0).f0)) ∧ w'.cell? ⟨ad233.block, ad233.off + 1, none⟩ = some (.int .i64 ((rd_T29 ((rd_T36 l0 x3_1).f0) 0).f1)) ∧ w'.cell? ⟨ad233.block, ad233.off + 2, none⟩ = some (.int .i64 ((rd_T29 ((rd_T36 l0 x3_1).f0) 0).f2)) ∧ w'.cell? ⟨ad233.block, ad233.off + 3, none⟩ = some (.int .i64 ((rd_T29 ((rd_T36 l0 x3_1).f0) 0).f3)) ∧ w'.cell? ⟨ad233.block, ad233.off + 4, none⟩ = some (.int .i64 ((rd_T29 ((rd_T36 l0 x3_1).f0) 0).f4)) ∧ w'.cell? ⟨ad233.block, ad233.off + 5, none⟩ = some (.int .i64 ((rd_T29 ((rd_T36 l0 x3_1).f0) 0).f5)) ∧ w'.cell? ⟨ad233.block, ad233.off + 6, none⟩ = some (.bool ((rd_T29 ((rd_T36 l0 x3_1).f0) 0).f6)) ∧ w'.cell? ⟨ad233.block, ad233.off + 7, none⟩ = some (.bool ((rd_T29 ((rd_T36 l0 x3_1).f0) 0).f7)) ∧ w'.cell? ⟨ad233.block, ad233.off + 8, none⟩ = some (.slice A233_8 ((rd_T29 ((rd_T36 l0 x3_1).f0) 0).f8).length c233_8)) (ds := []) (bitsA 15 0) (by kernel_rfl) rfl rfl zH (fun hHeld => ?_); refine with_tabW spec_PartsOk.tab9 spec_PartsOk.bits9 (fun HT_ HW_ => ?_)
                generalize wr.drew = w16 at HB HR230_0 HR231_8 HR232_0 HR233_8 hx230_0 hx230_1 hx231_0 hx231_1 hx231_2 hx231_3 hx231_4 hx231_5 hx231_6 hx231_7 hx231_8 hx232_0 hx232_1 hx233_0 hx233_1 hx233_2 hx233_3 hx233_4 hx233_5 hx233_6 hx233_7 hx233_8 hHeld ⊢
                refine zp (i := 0) (N := some 22) (bitsA 15 1) HT_ ?_;refine zp (i := 1) (N := some 23) (bitsA 15 3) HT_ ?_;refine zp (i := 2) (N := some 24) (bitsA 15 7) HT_ ?_;refine zp (i := 3) (N := some 25) (bitsA 15 15) HT_ ?_;refine zp (i := 7) (N := some 29) (bitsA 15 143) HT_ ?_;refine zp (i := 8) (N := some 30) (bitsA 15 399) HT_ ?_;refine zp (i := 9) (N := some 31) (bitsA 15 911) HT_ ?_;refine zp (i := 10) (N := some 32) (bitsA 15 1935) HT_ ?_;refine zt (i := 4) (N := some 26) (bitsA 15 1951) HT_ HW_ hHeld ?_;refine zp (i := 5) (N := some 27) (bitsA 15 1983) HT_ ?_;refine zt (i := 6) (N := some 28) (bitsA 15 2047) HT_ HW_ hHeld ?_;refine zt (i := 11) (N := some 33) (bitsA 15 4095) HT_ HW_ hHeld ?_;refine zp (i := 12) (N := some 34) (bitsA 15 8191) HT_ ?_;refine zt (i := 13) (N := some 35) (bitsA 15 16383) HT_ HW_ hHeld ?_;refine zone (i := 14) (N := some 36) (bitsA 15 32767) HT_ (fun K hK => ?_);refine goes_ Try.func15 (by kernel_rfl) rfl #[.agg #[.int .i64 ((rd_T29 ((rd_T36 l0 x4_2).f0) 0).f0), .int .i64 ((rd_T29 ((rd_T36 l0 x4_2).f0) 0).f1), .int .i64 ((rd_T29 ((rd_T36 l0 x4_2).f0) 0).f2), .int .i64 ((rd_T29 ((rd_T36 l0 x4_2).f0) 0).f3), .int .i64 ((rd_T29 ((rd_T36 l0 x4_2).f0) 0).f4), .int .i64 ((rd_T29 ((rd_T36 l0 x4_2).f0) 0).f5), .bool ((rd_T29 ((rd_T36 l0 x4_2).f0) 0).f6), .bool ((rd_T29 ((rd_T36 l0 x4_2).f0) 0).f7), .slice A231_8 ((rd_T29 ((rd_T36 l0 x4_2).f0) 0).f8).length c231_8], .agg #[.int .i64 ((rd_T29 ((rd_T36 l0 x3_1).f0) 0).f0), .int .i64 ((rd_T29 ((rd_T36 l0 x3_1).f0) 0).f1), .int .i64 ((rd_T29 ((rd_T36 l0 x3_1).f0) 0).f2), .int .i64 ((rd_T29 ((rd_T36 l0 x3_1).f0) 0).f3), .int .i64 ((rd_T29 ((rd_T36 l0 x3_1).f0) 0).f4), .int .i64 ((rd_T29 ((rd_T36 l0 x3_1).f0) 0).f5), .bool ((rd_T29 ((rd_T36 l0 x3_1).f0) 0).f6), .bool ((rd_T29 ((rd_T36 l0 x3_1).f0) 0).f7), .slice A233_8 ((rd_T29 ((rd_T36 l0 x3_1).f0) 0).f8).length c233_8]] (by rfl) rfl rfl zM ?_
                with_reducible refine (spec_l5Same.calls ((rd_T29 ((rd_T36 l0 x4_2).f0) 0).f0) ((rd_T29 ((rd_T36 l0 x4_2).f0) 0).f1) ((rd_T29 ((rd_T36 l0 x4_2).f0) 0).f2) ((rd_T29 ((rd_T36 l0 x4_2).f0) 0).f3) ((rd_T29 ((rd_T36 l0 x4_2).f0) 0).f4) ((rd_T29 ((rd_T36 l0 x4_2).f0) 0).f5) ((rd_T29 ((rd_T36 l0 x4_2).f0) 0).f6) ((rd_T29 ((rd_T36 l0 x4_2).f0) 0).f7) _ _ ((rd_T29 ((rd_T36 l0 x4_2).f0) 0).f8) ((rd_T29 ((rd_T36 l0 x3_1).f0) 0).f0) ((rd_T29 ((rd_T36 l0 x3_1).f0) 0).f1) ((rd_T29 ((rd_T36 l0 x3_1).f0) 0).f2) ((rd_T29 ((rd_T36 l0 x3_1).f0) 0).f3) ((rd_T29 ((rd_T36 l0 x3_1).f0) 0).f4) ((rd_T29 ((rd_T36 l0 x3_1).f0) 0).f5) ((rd_T29 ((rd_T36 l0 x3_1).f0) 0).f6) ((rd_T29 ((rd_T36 l0 x3_1).f0) 0).f7) _ _ ((rd_T29 ((rd_T36 l0 x3_1).f0) 0).f8) true _ ?side1 ?side2 ?side3 ?side4 A14.out).mono ?_
                (case side1 => exact zC HR231_8 HB)
                (case side2 => exact HC231_8.out)
                (case side3 => exact zC HR233_8 HB)
                (case side4 => exact HC233_8.out)
                rintro e w17 ⟨rfl, hb⟩
                refine ⟨_, rfl, ?_⟩;replace HB := zbb HB hb;(try clear hb);(try clear hb2);(try clear hk);(try clear hi);refine hK.out _ _ zH (fun hHeld => ?_);clear hK K;refine znorm ?_;refine done_ (done_of HT_.out (by kernel_rfl)) ?_
                try go_wp2
                go_ret;exact ⟨by first | rfl | (simp <;> rfl) | (simp [*] <;> rfl), zB HB⟩
               ·replace c15 := Bool.eq_false_iff.mpr c15
                subst c15
                rw [if_neg (show ¬ (false = true) by decide)] at H;have H' := Aside0.mk H;clear H
                try go_wp2
                replace HB := Aside0.mk (below_drew1 HB.out);have p230 : 0 ≤ (x4_2 : Int) := of_decide_eq_true (by first | (with_reducible assumption) | assumption);have q230 : x4_2 < (l0.length : Int) := of_decide_eq_true (by first | (with_reducible assumption) | assumption);obtain ⟨ad230, A230_0, c230_0, e230, hx230_0, hx230_1, hl230_0, hi230_0⟩ := at_T36 HR0.out x4_2 p230 q230;have hw230_1 := hx230_1;have hw230_0 := hx230_0;obtain rfl : ad228 = ad230 := (by injection e230);replace hx230_0 := zk HB.out hx230_0;replace hx230_1 := zk HB.out hx230_1;have HR230_0 := Aside0.mk hi230_0;have HC230_0 := Aside0.mk hl230_0;clear hi230_0 hl230_0;replace p230 := eq_true p230;replace q230 := eq_true q230;have p231 : 0 ≤ (0 : Int) := (by omega);have q231 : 0 < (((rd_T36 l0 x4_2).f0).length : Int) := of_decide_eq_true (by first | (with_reducible assumption) | assumption);obtain ⟨ad231, A231_8, c231_8, e231, hx231_0, hx231_1, hx231_2, hx231_3, hx231_4, hx231_5, hx231_6, hx231_7, hx231_8, hl231_8, hi231_8⟩ := at_T29 HR230_0.out 0 p231 q231;have hw231_8 := hx231_8;have hw231_7 := hx231_7;have hw231_6 := hx231_6;have hw231_5 := hx231_5;have hw231_4 := hx231_4;have hw231_3 := hx231_3;have hw231_2 := hx231_2;have hw231_1 := hx231_1;have hw231_0 := hx231_0;(try rw [show ((0 : Int)).toNat = 0 from rfl] at hw231_8 hw231_7 hw231_6 hw231_5 hw231_4 hw231_3 hw231_2 hw231_1 hw231_0);(try rw [show 0 * 9 = 0 from rfl] at hw231_8 hw231_7 hw231_6 hw231_5 hw231_4 hw231_3 hw231_2 hw231_1 hw231_0);(try rw [Addr.add_zero'] at hw231_8 hw231_7 hw231_6 hw231_5 hw231_4 hw231_3 hw231_2 hw231_1 hw231_0)
                cases e231
                have qi231 : (0 < ((rd_T36 l0 x4_2).f0).length) = True := eq_true (by omega);(try rw [show ((0 : Int)).toNat = 0 from rfl] at hx231_0 hx231_1 hx231_2 hx231_3 hx231_4 hx231_5 hx231_6 hx231_7 hx231_8);(try rw [show 0 * 9 = 0 from rfl] at hx231_0 hx231_1 hx231_2 hx231_3 hx231_4 hx231_5 hx231_6 hx231_7 hx231_8);(try rw [Addr.add_zero'] at hx231_0 hx231_1 hx231_2 hx231_3 hx231_4 hx231_5 hx231_6 hx231_7 hx231_8);replace hx231_0 := zk HB.out hx231_0;replace hx231_1 := zk HB.out hx231_1;replace hx231_2 := zk HB.out hx231_2;replace hx231_3 := zk HB.out hx231_3;replace hx231_4 := zk HB.out hx231_4;replace hx231_5 := zk HB.out hx231_5;replace hx231_6 := zk HB.out hx231_6;replace hx231_7 := zk HB.out hx231_7;replace hx231_8 := zk HB.out hx231_8;have HR231_8 := Aside0.mk hi231_8;have HC231_8 := Aside0.mk hl231_8;clear hi231_8 hl231_8;replace p231 := eq_true p231;replace q231 := eq_true q231;have p232 : 0 ≤ (x3_1 : Int) := of_decide_eq_true (by first | (with_reducible assumption) | assumption);have q232 : x3_1 < (l0.length : Int) := of_decide_eq_true (by first | (with_reducible assumption) | assumption);obtain ⟨ad232, A232_0, c232_0, e232, hx232_0, hx232_1, hl232_0, hi232_0⟩ := at_T36 HR0.out x3_1 p232 q232;have hw232_1 := hx232_1;have hw232_0 := hx232_0;obtain rfl : ad228 = ad232 := (by injection e232);replace hx232_0 := zk HB.out hx232_0;replace hx232_1 := zk HB.out hx232_1;have HR232_0 := Aside0.mk hi232_0;have HC232_0 := Aside0.mk hl232_0;clear hi232_0 hl232_0;replace p232 := eq_true p232;replace q232 := eq_true q232;have p233 : 0 ≤ (0 : Int) := (by omega);have q233 : 0 < (((rd_T36 l0 x3_1).f0).length : Int) := of_decide_eq_true (by first | (with_reducible assumption) | assumption);obtain ⟨ad233, A233_8, c233_8, e233, hx233_0, hx233_1, hx233_2, hx233_3, hx233_4, hx233_5, hx233_6, hx233_7, hx233_8, hl233_8, hi233_8⟩ := at_T29 HR232_0.out 0 p233 q233;have hw233_8 := hx233_8;have hw233_7 := hx233_7;have hw233_6 := hx233_6;have hw233_5 := hx233_5;have hw233_4 := hx233_4;have hw233_3 := hx233_3;have hw233_2 := hx233_2;have hw233_1 := hx233_1;have hw233_0 := hx233_0;(try rw [show ((0 : Int)).toNat = 0 from rfl] at hw233_8 hw233_7 hw233_6 hw233_5 hw233_4 hw233_3 hw233_2 hw233_1 hw233_0);(try rw [show 0 * 9 = 0 from rfl] at hw233_8 hw233_7 hw233_6 hw233_5 hw233_4 hw233_3 hw233_2 hw233_1 hw233_0);(try rw [Addr.add_zero'] at hw233_8 hw233_7 hw233_6 hw233_5 hw233_4 hw233_3 hw233_2 hw233_1 hw233_0)
                cases e233
                have qi233 : (0 < ((rd_T36 l0 x3_1).f0).length) = True := eq_true (by omega);(try rw [show ((0 : Int)).toNat = 0 from rfl] at hx233_0 hx233_1 hx233_2 hx233_3 hx233_4 hx233_5 hx233_6 hx233_7 hx233_8);(try rw [show 0 * 9 = 0 from rfl] at hx233_0 hx233_1 hx233_2 hx233_3 hx233_4 hx233_5 hx233_6 hx233_7 hx233_8);(try rw [Addr.add_zero'] at hx233_0 hx233_1 hx233_2 hx233_3 hx233_4 hx233_5 hx233_6 hx233_7 hx233_8);replace hx233_0 := zk HB.out hx233_0;replace hx233_1 := zk HB.out hx233_1;replace hx233_2 := zk HB.out hx233_2;replace hx233_3 := zk HB.out hx233_3;replace hx233_4 := zk HB.out hx233_4;replace hx233_5 := zk HB.out hx233_5;replace hx233_6 := zk HB.out hx233_6;replace hx233_7 := zk HB.out hx233_7;replace hx233_8 := zk HB.out hx233_8;have HR233_8 := Aside0.mk hi233_8;have HC233_8 := Aside0.mk hl233_8;clear hi233_8 hl233_8;replace p233 := eq_true p233;replace q233 := eq_true q233;refine start_ (n := 15) (S := fun w' => w'.cell? (ad228.add ((x4_2).toNat * 2)) = some (.slice (some ad231) ((rd_T36 l0 x4_2).f0).length c230_0) ∧ w'.cell? ⟨(ad228.add ((x4_2).toNat * 2)).block, (ad228.add ((x4_2).toNat * 2)).off + 1, none⟩ = some (.int .i64 ((rd_T36 l0 x4_2).f1)) ∧ w'.cell? ad231 = some (.int .i64 ((rd_T29 ((rd_T36 l0 x4_2).f0) 0).f0)) ∧ w'.cell? ⟨ad231.block, ad231.off + 1, none⟩ = some (.int .i64 ((rd_T29 ((rd_T36 l0 x4_2).f0) 0).f1)) ∧ w'.cell? ⟨ad231.block, ad231.off + 2, none⟩ = some (.int .i64 ((rd_T29 ((rd_T36 l0 x4_2).f0) 0).f2)) ∧ w'.cell? ⟨ad231.block, ad231.off + 3, none⟩ = some (.int .i64 ((rd_T29 ((rd_T36 l0 x4_2).f0) 0).f3)) ∧ w'.cell? ⟨ad231.block, ad231.off + 4, none⟩ = some (.int .i64 ((rd_T29 ((rd_T36 l0 x4_2).f0) 0).f4)) ∧ w'.cell? ⟨ad231.block, ad231.off + 5, none⟩ = some (.int .i64 ((rd_T29 ((rd_T36 l0 x4_2).f0) 0).f5)) ∧ w'.cell? ⟨ad231.block, ad231.off + 6, none⟩ = some (.bool ((rd_T29 ((rd_T36 l0 x4_2).f0) 0).f6)) ∧ w'.cell? ⟨ad231.block, ad231.off + 7, none⟩ = some (.bool ((rd_T29 ((rd_T36 l0 x4_2).f0) 0).f7)) ∧ w'.cell? ⟨ad231.block, ad231.off + 8, none⟩ = some (.slice A231_8 ((rd_T29 ((rd_T36 l0 x4_2).f0) 0).f8).length c231_8) ∧ w'.cell? (ad228.add ((x3_1).toNat * 2)) = some (.slice (some ad233) ((rd_T36 l0 x3_1).f0).length c232_0) ∧ w'.cell? ⟨(ad228.add ((x3_1).toNat * 2)).block, (ad228.add ((x3_1).toNat * 2)).off + 1, none⟩ = some (.int .i64 ((rd_T36 l0 x3_1).f1)) ∧ w'.cell? ad233 = some (.int .i64 ((rd_T29 ((rd_T36 l0 x3_1).f0) 0).f0)) ∧ w'.cell? ⟨ad233.block, ad233.off + 1, none⟩ = some (.int .i64 ((rd_T29 ((rd_T36 l0 x3_1).f0) 0).f1)) ∧ w'.cell? ⟨ad233.block, ad233.off + 2, none⟩ = some (.int .i64 ((rd_T29 ((rd_T36 l0 x3_1).f0) 0).f2)) ∧ w'.cell? ⟨ad233.block, ad233.off + 3, none⟩ = some (.int .i64 ((rd_T29 ((rd_T36 l0 x3_1).f0) 0).f3)) ∧ w'.cell? ⟨ad233.block, ad233.off + 4, none⟩ = some (.int .i64 ((rd_T29 ((rd_T36 l0 x3_1).f0) 0).f4)) ∧ w'.cell? ⟨ad233.block, ad233.off + 5, none⟩ = some (.int .i64 ((rd_T29 ((rd_T36 l0 x3_1).f0) 0).f5)) ∧ w'.cell? ⟨ad233.block, ad233.off + 6, none⟩ = some (.bool ((rd_T29 ((rd_T36 l0 x3_1).f0) 0).f6)) ∧ w'.cell? ⟨ad233.block, ad233.off + 7, none⟩ = some (.bool ((rd_T29 ((rd_T36 l0 x3_1).f0) 0).f7)) ∧ w'.cell? ⟨ad233.block, ad233.off + 8, none⟩ = some (.slice A233_8 ((rd_T29 ((rd_T36 l0 x3_1).f0) 0).f8).length c233_8)) (ds := []) (bitsA 15 0) (by kernel_rfl) rfl rfl zH (fun hHeld => ?_); refine with_tabW spec_PartsOk.tab9 spec_PartsOk.bits9 (fun HT_ HW_ => ?_)
                generalize wr.drew = w18 at HB HR230_0 HR231_8 HR232_0 HR233_8 hx230_0 hx230_1 hx231_0 hx231_1 hx231_2 hx231_3 hx231_4 hx231_5 hx231_6 hx231_7 hx231_8 hx232_0 hx232_1 hx233_0 hx233_1 hx233_2 hx233_3 hx233_4 hx233_5 hx233_6 hx233_7 hx233_8 hHeld ⊢
                refine zp (i := 0) (N := some 22) (bitsA 15 1) HT_ ?_;refine zp (i := 1) (N := some 23) (bitsA 15 3) HT_ ?_;refine zp (i := 2) (N := some 24) (bitsA 15 7) HT_ ?_;refine zp (i := 3) (N := some 25) (bitsA 15 15) HT_ ?_;refine zp (i := 7) (N := some 29) (bitsA 15 143) HT_ ?_;refine zp (i := 8) (N := some 30) (bitsA 15 399) HT_ ?_;refine zp (i := 9) (N := some 31) (bitsA 15 911) HT_ ?_;refine zp (i := 10) (N := some 32) (bitsA 15 1935) HT_ ?_;refine zt (i := 4) (N := some 26) (bitsA 15 1951) HT_ HW_ hHeld ?_;refine zp (i := 5) (N := some 27) (bitsA 15 1983) HT_ ?_;refine zt (i := 6) (N := some 28) (bitsA 15 2047) HT_ HW_ hHeld ?_;refine zt (i := 11) (N := some 33) (bitsA 15 4095) HT_ HW_ hHeld ?_;refine zp (i := 12) (N := some 34) (bitsA 15 8191) HT_ ?_;refine zt (i := 13) (N := some 35) (bitsA 15 16383) HT_ HW_ hHeld ?_;refine zone (i := 14) (N := some 36) (bitsA 15 32767) HT_ (fun K hK => ?_);refine goes_ Try.func15 (by kernel_rfl) rfl #[.agg #[.int .i64 ((rd_T29 ((rd_T36 l0 x4_2).f0) 0).f0), .int .i64 ((rd_T29 ((rd_T36 l0 x4_2).f0) 0).f1), .int .i64 ((rd_T29 ((rd_T36 l0 x4_2).f0) 0).f2), .int .i64 ((rd_T29 ((rd_T36 l0 x4_2).f0) 0).f3), .int .i64 ((rd_T29 ((rd_T36 l0 x4_2).f0) 0).f4), .int .i64 ((rd_T29 ((rd_T36 l0 x4_2).f0) 0).f5), .bool ((rd_T29 ((rd_T36 l0 x4_2).f0) 0).f6), .bool ((rd_T29 ((rd_T36 l0 x4_2).f0) 0).f7), .slice A231_8 ((rd_T29 ((rd_T36 l0 x4_2).f0) 0).f8).length c231_8], .agg #[.int .i64 ((rd_T29 ((rd_T36 l0 x3_1).f0) 0).f0), .int .i64 ((rd_T29 ((rd_T36 l0 x3_1).f0) 0).f1), .int .i64 ((rd_T29 ((rd_T36 l0 x3_1).f0) 0).f2), .int .i64 ((rd_T29 ((rd_T36 l0 x3_1).f0) 0).f3), .int .i64 ((rd_T29 ((rd_T36 l0 x3_1).f0) 0).f4), .int .i64 ((rd_T29 ((rd_T36 l0 x3_1).f0) 0).f5), .bool ((rd_T29 ((rd_T36 l0 x3_1).f0) 0).f6), .bool ((rd_T29 ((rd_T36 l0 x3_1).f0) 0).f7), .slice A233_8 ((rd_T29 ((rd_T36 l0 x3_1).f0) 0).f8).length c233_8]] (by rfl) rfl rfl zM ?_
                with_reducible refine (spec_l5Same.calls ((rd_T29 ((rd_T36 l0 x4_2).f0) 0).f0) ((rd_T29 ((rd_T36 l0 x4_2).f0) 0).f1) ((rd_T29 ((rd_T36 l0 x4_2).f0) 0).f2) ((rd_T29 ((rd_T36 l0 x4_2).f0) 0).f3) ((rd_T29 ((rd_T36 l0 x4_2).f0) 0).f4) ((rd_T29 ((rd_T36 l0 x4_2).f0) 0).f5) ((rd_T29 ((rd_T36 l0 x4_2).f0) 0).f6) ((rd_T29 ((rd_T36 l0 x4_2).f0) 0).f7) _ _ ((rd_T29 ((rd_T36 l0 x4_2).f0) 0).f8) ((rd_T29 ((rd_T36 l0 x3_1).f0) 0).f0) ((rd_T29 ((rd_T36 l0 x3_1).f0) 0).f1) ((rd_T29 ((rd_T36 l0 x3_1).f0) 0).f2) ((rd_T29 ((rd_T36 l0 x3_1).f0) 0).f3) ((rd_T29 ((rd_T36 l0 x3_1).f0) 0).f4) ((rd_T29 ((rd_T36 l0 x3_1).f0) 0).f5) ((rd_T29 ((rd_T36 l0 x3_1).f0) 0).f6) ((rd_T29 ((rd_T36 l0 x3_1).f0) 0).f7) _ _ ((rd_T29 ((rd_T36 l0 x3_1).f0) 0).f8) false _ ?side1 ?side2 ?side3 ?side4 A14.out).mono ?_
                (case side1 => exact zC HR231_8 HB)
                (case side2 => exact HC231_8.out)
                (case side3 => exact zC HR233_8 HB)
                (case side4 => exact HC233_8.out)
                rintro e w19 ⟨rfl, hb⟩
                refine ⟨_, rfl, ?_⟩;replace HB := zbb HB hb;(try clear hb);(try clear hb2);(try clear hk);(try clear hi);refine hK.out _ _ zH (fun hHeld => ?_);clear hK K;refine znorm ?_;refine done_ (done_of HT_.out (by kernel_rfl)) ?_
                try go_wp2
                go_roundg k2
                case measure => have := HK1.out; have := HK2.out; omega
                case rel => exact ⟨(wrap64 (x4_2 + 1)), z1, H', ⟨by have := HK1.out; have := HK2.out; omega⟩, ⟨zB HB⟩⟩
              ·rw [if_neg c13] at H
               exact absurd H (by simp)
             ·rw [if_neg c12] at H
              exact absurd H (by simp)
            ·rw [if_neg c11] at H
             exact absurd H (by simp)
           ·rw [if_neg c10] at H
            exact absurd H (by simp)
          ·rw [if_neg c9] at H
           exact absurd H (by simp)
         ·rw [if_neg c8] at H
          exact absurd H (by simp)
        ·rw [if_neg c7] at H
         have c7b0 : decide (x4_2 < x3_1) = false := decide_eq_false c7;clear c7;have H' := Aside0.mk H;clear H
         go_wp2
         go_roundg k2
         case measure => have := HK1.out; have := HK2.out; omega
         case rel => exact ⟨(wrap64 (x3_1 + 1)), z1, H', ⟨by have := HK1.out; have := HK2.out; omega⟩, ⟨zB HB⟩⟩
     ·replace c5 := Bool.eq_false_iff.mpr c5
      subst c5
      rw [if_neg (show ¬ (false = true) by decide)] at H;obtain rfl := Option.some.inj H;have p228 : 0 ≤ (x3_1 : Int) := of_decide_eq_true (by first | (with_reducible assumption) | assumption);have q228 : x3_1 < (l0.length : Int) := of_decide_eq_true (by first | (with_reducible assumption) | assumption);obtain ⟨ad228, A228_0, c228_0, e228, hx228_0, hx228_1, hl228_0, hi228_0⟩ := at_T36 HR0.out x3_1 p228 q228
      cases e228
      replace hx228_0 := zk HB.out hx228_0;replace hx228_1 := zk HB.out hx228_1;have HR228_0 := Aside0.mk hi228_0;have HC228_0 := Aside0.mk hl228_0;clear hi228_0 hl228_0;replace p228 := eq_true p228;replace q228 := eq_true q228
      go_wp2_with (first | ((with_reducible refine gate_callee (f := 14) rfl ?_); refine goesL_ (some 15) rfl rfl Try.func14 (by kernel_rfl) rfl #[.agg #[.slice A228_0 ((rd_T36 l0 x3_1).f0).length c228_0, .int .i64 ((rd_T36 l0 x3_1).f1)]] rfl zM ?_; (with_reducible refine (spec_PartOk.calls k1 _ _ ((rd_T36 l0 x3_1).f0) ((rd_T36 l0 x3_1).f1) false _ ?side1 ?side2 A4.out).mono ?_); (case side1 => exact zC HR228_0 HB); (case side2 => exact HC228_0.out); rintro e w20 ⟨rfl, hb⟩; refine ⟨_, rfl, ?_⟩; replace HB := zbb HB hb; (try clear hb); (try clear hb2); (try clear hk); (try clear hi)))
      go_ret;exact ⟨by first | rfl | (simp <;> rfl) | (simp [*] <;> rfl), zB HB⟩
    ·rw [if_neg c3] at H
     exact absurd H (by simp)
   ·rw [if_neg c2] at H
    have c2b0 : decide (x3_1 < (l0.length : Int)) = false := decide_eq_false c2;clear c2;obtain rfl := Option.some.inj H
    go_wp2
    go_ret;exact ⟨by first | rfl | (simp <;> rfl) | (simp [*] <;> rfl), zB HB⟩

end Go.Proofs.Ytdbmmkhaeghjaaa.PFnPartsOk

/- The machine side of some functions: each comes to its pure answer (written by a program of this session with the kit's print). No condition. -/
import Derived.Test.YtdbmmkhaeghjaaaPFnPartsOkx0
import Derived.Test.YtdbmmkhaeghjaaaPFnPartsOkx15
namespace Go.Proofs.Ytdbmmkhaeghjaaa.PFnPartsOk
open Go.RowKit Go.Proofs.YtdbmmkhaeghjaaaUFnPartsOk.PrintWords Go.Proofs.YtdbmmkhaeghjaaaUFnPartsOk.PrintLast Go.Proofs.YtdbmmkhaeghjaaaUFnPartsOk.PrintMore
attribute [local go_sem] max2_int min2_int max_two min_two max_three min_three max_four min_four   -- for this text's walks alone
set_option linter.unusedVariables false
set_option linter.unusedSimpArgs false

/-! ### impl_PartOk: function 10 -/
mutual
def impl_PartOk.l0 : Nat → Int → List (S29) → Int → Int → List (S29) → Int → Option (Bool)
 | 0, _, _, _, _, _, _ => none
 | k + 1, x3, x8, x9, x10, x602000, x602001 => if x10 < x9 then (if 0 ≤ x10 then (if x10 < (x8.length : Int) then ((impl_PacketOk.f ((rd_T29 x8 x10).f0) ((rd_T29 x8 x10).f1) ((rd_T29 x8 x10).f2) ((rd_T29 x8 x10).f3) ((rd_T29 x8 x10).f4) ((rd_T29 x8 x10).f5) ((rd_T29 x8 x10).f6) ((rd_T29 x8 x10).f7) ((rd_T29 x8 x10).f8)).bind fun t605 => (if t605 = true then (if 0 < (x602000.length : Int) then ((impl_Packet_same.f ((rd_T29 x8 x10).f0) ((rd_T29 x8 x10).f1) ((rd_T29 x8 x10).f2) ((rd_T29 x8 x10).f3) ((rd_T29 x8 x10).f4) ((rd_T29 x8 x10).f5) ((rd_T29 x8 x10).f6) ((rd_T29 x8 x10).f7) ((rd_T29 x8 x10).f8) ((rd_T29 x602000 0).f0) ((rd_T29 x602000 0).f1) ((rd_T29 x602000 0).f2) ((rd_T29 x602000 0).f3) ((rd_T29 x602000 0).f4) ((rd_T29 x602000 0).f5) ((rd_T29 x602000 0).f6) ((rd_T29 x602000 0).f7) ((rd_T29 x602000 0).f8)).bind fun t607 => (impl_PartOk.j1 k x3 x10 x8 x9 x10 (!t607) x602000 x602001 ((rd_T29 x8 x10).f0) ((rd_T29 x8 x10).f1) ((rd_T29 x8 x10).f2) ((rd_T29 x8 x10).f3) ((rd_T29 x8 x10).f4) ((rd_T29 x8 x10).f5) ((rd_T29 x8 x10).f6) ((rd_T29 x8 x10).f7) ((rd_T29 x8 x10).f8))) else (none)) else (impl_PartOk.j1 k x3 x10 x8 x9 x10 true x602000 x602001 ((rd_T29 x8 x10).f0) ((rd_T29 x8 x10).f1) ((rd_T29 x8 x10).f2) ((rd_T29 x8 x10).f3) ((rd_T29 x8 x10).f4) ((rd_T29 x8 x10).f5) ((rd_T29 x8 x10).f6) ((rd_T29 x8 x10).f7) ((rd_T29 x8 x10).f8)))) else (none)) else (none)) else (if (x602000.length : Int) > 0 then (if x3 ≤ 48 then ((impl_in.f x602001 0 1000000).bind fun t602 => (some t602)) else (some false)) else (some false))
def impl_PartOk.j1 : Nat → Int → Int → List (S29) → Int → Int → Bool → List (S29) → Int → Int → Int → Int → Int → Int → Int → Bool → Bool → List Int → Option (Bool)
 | 0, _, _, _, _, _, _, _, _, _, _, _, _, _, _, _, _, _ => none
 | k + 1, x3, x4, x8, x9, x10, x26, x602000, x602001, x605000, x605001, x605002, x605003, x605004, x605005, x605006, x605007, x605008 => if x26 = true then (some false) else (if x4 > 0 then (if 0 ≤ (wrap64 (x4 - 1)) then (if (wrap64 (x4 - 1)) < (x602000.length : Int) then (if x605005 < (wrap64 (((rd_T29 x602000 (wrap64 (x4 - 1))).f5) + (((rd_T29 x602000 (wrap64 (x4 - 1))).f8).length : Int))) then (some false) else (if ((rd_T29 x602000 (wrap64 (x4 - 1))).f6 = true) then (impl_PartOk.l0 k (wrap64 (x3 + (x605008.length : Int))) x8 x9 (wrap64 (x10 + 1)) x602000 x602001) else (some false))) else (none)) else (none)) else (impl_PartOk.l0 k (wrap64 (x3 + (x605008.length : Int))) x8 x9 (wrap64 (x10 + 1)) x602000 x602001))
end
def impl_PartOk.f (k : Nat) (l0_0 : List (S29)) (a0_1 : Int) : Option (Bool) := impl_PartOk.l0 k 0 l0_0 (l0_0.length : Int) 0 l0_0 a0_1
theorem impl_PartOk.mono_l : ∀ k, (∀ y0 y1 y2 y3 y4 y5, LeO (impl_PartOk.l0 k y0 y1 y2 y3 y4 y5) (impl_PartOk.l0 (k + 1) y0 y1 y2 y3 y4 y5)) ∧ (∀ y0 y1 y2 y3 y4 y5 y6 y7 y8 y9 y10 y11 y12 y13 y14 y15 y16, LeO (impl_PartOk.j1 k y0 y1 y2 y3 y4 y5 y6 y7 y8 y9 y10 y11 y12 y13 y14 y15 y16) (impl_PartOk.j1 (k + 1) y0 y1 y2 y3 y4 y5 y6 y7 y8 y9 y10 y11 y12 y13 y14 y15 y16))
 | 0 => ⟨fun _ _ _ _ _ _ r h => by simp [impl_PartOk.l0] at h, fun _ _ _ _ _ _ _ _ _ _ _ _ _ _ _ _ _ r h => by simp [impl_PartOk.j1] at h⟩
 | k + 1 => by
  obtain ⟨ih0, ih1⟩ := impl_PartOk.mono_l k;refine ⟨?_, ?_⟩
  ·intro y0 y1 y2 y3 y4 y5
   unfold impl_PartOk.l0
   repeat' first
   | (with_reducible exact ih0 _ _ _ _ _ _)
   | (with_reducible exact ih1 _ _ _ _ _ _ _ _ _ _ _ _ _ _ _ _ _)
   | (with_reducible exact LeO.refl _)
   | (with_reducible exact LeO.none _)
   | (with_reducible refine LeO.ite ?_ ?_)
   | (with_reducible refine LeO.bind ?_ (fun _ => ?_))
   | exact ih0 _ _ _ _ _ _
   | exact ih1 _ _ _ _ _ _ _ _ _ _ _ _ _ _ _ _ _
   | exact LeO.none _
   | refine LeO.ite ?_ ?_
   | refine LeO.bind ?_ (fun _ => ?_)
  ·intro y0 y1 y2 y3 y4 y5 y6 y7 y8 y9 y10 y11 y12 y13 y14 y15 y16
   unfold impl_PartOk.j1
   repeat' first
   | (with_reducible exact ih0 _ _ _ _ _ _)
   | (with_reducible exact ih1 _ _ _ _ _ _ _ _ _ _ _ _ _ _ _ _ _)
   | (with_reducible exact LeO.refl _)
   | (with_reducible exact LeO.none _)
   | (with_reducible refine LeO.ite ?_ ?_)
   | (with_reducible refine LeO.bind ?_ (fun _ => ?_))
   | exact ih0 _ _ _ _ _ _
   | exact ih1 _ _ _ _ _ _ _ _ _ _ _ _ _ _ _ _ _
   | exact LeO.none _
   | refine LeO.ite ?_ ?_
   | refine LeO.bind ?_ (fun _ => ?_)
theorem impl_PartOk.mono : ∀ a0 a1 k, LeO (impl_PartOk.f k a0 a1) (impl_PartOk.f (k + 1) a0 a1) := by
 intro a0 a1 k;obtain ⟨ih0, ih1⟩ := impl_PartOk.mono_l k
 unfold impl_PartOk.f
 repeat' first
   | (with_reducible exact ih0 _ _ _ _ _ _)
   | (with_reducible exact ih1 _ _ _ _ _ _ _ _ _ _ _ _ _ _ _ _ _)
   | (with_reducible exact LeO.refl _)
   | (with_reducible exact LeO.none _)
   | (with_reducible refine LeO.ite ?_ ?_)
   | (with_reducible refine LeO.bind ?_ (fun _ => ?_))
   | exact ih0 _ _ _ _ _ _
   | exact ih1 _ _ _ _ _ _ _ _ _ _ _ _ _ _ _ _ _
   | exact LeO.none _
   | refine LeO.ite ?_ ?_
   | refine LeO.bind ?_ (fun _ => ?_)
def impl_PartOk.T5 : Bool × List (List Nat × List Nat) := (true, [([], []), ([0], [0]), ([1], [1]), ([2, 1], [2]), ([3], [3]), ([3], [3]), ([5, 3], [3, 5]), ([6, 3], [3, 6]), ([7, 3], [3, 7]), ([4, 8, 3, 3], [3, 4, 8]), ([9, 3], [3, 9]), ([3, 10], [3, 10])])
def impl_PartOk.B5 : List Nat := [0, 1, 3, 7, 15, 15, 47, 111, 239, 511, 1023, 2047]
theorem impl_PartOk.tab5 : rtab .any (opsOf Try.f10 5) = impl_PartOk.T5 := by kernel_rfl
theorem impl_PartOk.bits5 : waitsOk impl_PartOk.T5.2 impl_PartOk.B5 = true := by kernel_rfl
set_option maxHeartbeats 8000000 in
set_option maxRecDepth 100000 in
theorem impl_PartOk.calls (k : Nat) (A0_0 : Option Addr) (c0_0 : Nat) (l0_0 : List (S29)) (a0_1 : Int) (r : Bool) (w : World) (hr0_0 : Kd.C k29 w A0_0 l0_0.length l0_0) (hc0_0 : l0_0.length ≤ c0_0) (h : impl_PartOk.f k l0_0 a0_1 = some r) :
  Calls Try.prog 10 #[.agg #[.slice A0_0 l0_0.length c0_0, .int .i64 a0_1]] w fun e w' => e = .returned (.bool r) ∧ Below w.heap.size w w' := by
 have hu36 := Try.underlying36;have hu29 := Try.underlying29;have HR0_0 := Aside0.mk hr0_0;have HC0_0 := Aside0.mk hc0_0;clear hr0_0 hc0_0;have HB := Aside0.mk (Below.refl w.heap.size w);have H : (impl_PartOk.l0 k 0 l0_0 (l0_0.length : Int) 0 l0_0 a0_1) = some r := h;clear h;have H' := Aside0.mk H;clear H
 go_enter Try.func10, Try.ntmps10
 go_wp2_with (first | ((with_reducible refine gate_dst (N := 1) rfl ?_); refine box_event (by rfl) (N := 1) (by rfl) (cs := #[.slice A0_0 l0_0.length c0_0, .int .i64 a0_1]) (t := 36) zr ?_; intro gb601 hg w2 hbox hb; have BK601 := Aside0.mk (hbox); have GW601 := zg HB hg; replace HB := zbb HB hb; have GE601 := GW601; clear hb hbox hg; obtain ⟨_, _, _, _⟩ := zc2 BK601.out))
 go_loopg [3, 10] k (fun kq v3 v10 w' => ∃ (x3_1 : Int) (x10_1 : Int), v3 = .int .i64 x3_1 ∧ v10 = .int .i64 x10_1 ∧ Aside0 (impl_PartOk.l0 kq x3_1 l0_0 (l0_0.length : Int) x10_1 l0_0 a0_1 = some r) ∧ Aside0 (kq ≤ k) ∧ Aside0 (w'.heap[gb601]? = some (.cells #[(.slice A0_0 l0_0.length c0_0), .int .i64 a0_1] 36 (0, 0))) ∧ Aside0 (Below w.heap.size w w'))
 case atStart => exact ⟨(0), (0), z1, z1, H', ⟨Nat.le_refl _⟩, ⟨zK BK601⟩, ⟨zB HB⟩⟩
 case round =>
  clear H'
  obtain ⟨x3_1, x10_1, rfl, rfl, HA, HK1, BK601, HB⟩ := hrel
  cases gk with
  | zero => exact absurd HA.out (by simp [impl_PartOk.l0])
  | succ k1 =>
   have H := HA.out;clear HA;simp only [impl_PartOk.l0] at H
   by_cases c4 : x10_1 < (l0_0.length : Int)
   ·rw [if_pos c4] at H
    have c4b0 : decide (x10_1 < (l0_0.length : Int)) = true := decide_eq_true c4;clear c4
    by_cases c5 : 0 ≤ x10_1
    ·rw [if_pos c5] at H
     have c5b0 : decide (0 ≤ x10_1) = true := decide_eq_true c5;clear c5
     by_cases c6 : x10_1 < (l0_0.length : Int)
     ·rw [if_pos c6] at H
      have c6b0 : decide (x10_1 < (l0_0.length : Int)) = true := decide_eq_true c6;clear c6;have HC7 := Aside0.mk H;clear H;have p603 : 0 ≤ (x10_1 : Int) := of_decide_eq_true (by first | (with_reducible assumption) | assumption);have q603 : x10_1 < (l0_0.length : Int) := of_decide_eq_true (by first | (with_reducible assumption) | assumption);obtain ⟨ad603, A603_8, c603_8, e603, hx603_0, hx603_1, hx603_2, hx603_3, hx603_4, hx603_5, hx603_6, hx603_7, hx603_8, hl603_8, hi603_8⟩ := at_T29 HR0_0.out x10_1 p603 q603
      cases e603
      replace hx603_0 := zk HB.out hx603_0;replace hx603_1 := zk HB.out hx603_1;replace hx603_2 := zk HB.out hx603_2;replace hx603_3 := zk HB.out hx603_3;replace hx603_4 := zk HB.out hx603_4;replace hx603_5 := zk HB.out hx603_5;replace hx603_6 := zk HB.out hx603_6;replace hx603_7 := zk HB.out hx603_7;replace hx603_8 := zk HB.out hx603_8;have HR603_8 := Aside0.mk hi603_8;have HC603_8 := Aside0.mk hl603_8;clear hi603_8 hl603_8;replace p603 := eq_true p603;replace q603 := eq_true q603
      go_upto_region 5 with (first | ((with_reducible refine gate_dst (N := 5) rfl ?_); refine box_event (by rfl) (N := 5) (by rfl) (cs := #[.int .i64 0, .int .i64 0, .int .i64 0, .int .i64 0, .int .i64 0, .int .i64 0, .bool false, .bool false, .slice none 0 0]) (t := 29) zr ?_; intro gb604 hg w8 hbox hb; have BK604 := Aside0.mk (hbox); have GW604 := zg HB hg; replace HB := zbb HB hb; have GE604 := GW604; have NB601_604 := zlt BK601 hg; have NB604_601 := zgt BK601 hg; replace BK601 := zq BK601 hb; clear hb hbox hg; have hnb9 := NB604_601.out; have hnc9 := NB601_604.out; obtain ⟨_, _, _, _, _, _, _, _, _, _, _, _, _, _, _, _, _, _⟩ := zc9 BK604.out))
      (try simp only [Act.put, List.setIfInBounds_toArray, List.set_cons_zero, List.set_cons_succ])
      go_cut [26] (fun v26 wc => ∃ (kq : Nat) (x26_6 : Bool), v26 = .bool x26_6 ∧ Aside0 (impl_PartOk.j1 kq x3_1 x10_1 l0_0 (l0_0.length : Int) x10_1 x26_6 l0_0 a0_1 ((rd_T29 l0_0 x10_1).f0) ((rd_T29 l0_0 x10_1).f1) ((rd_T29 l0_0 x10_1).f2) ((rd_T29 l0_0 x10_1).f3) ((rd_T29 l0_0 x10_1).f4) ((rd_T29 l0_0 x10_1).f5) ((rd_T29 l0_0 x10_1).f6) ((rd_T29 l0_0 x10_1).f7) ((rd_T29 l0_0 x10_1).f8) = some r) ∧ Aside0 (kq ≤ k1) ∧ Aside0 (wc.heap[gb601]? = some (.cells #[(.slice (some ad603) l0_0.length c0_0), .int .i64 a0_1] 36 (0, 0))) ∧ Aside0 (wc.heap[gb604]? = some (.cells #[.int .i64 ((rd_T29 l0_0 x10_1).f0), .int .i64 ((rd_T29 l0_0 x10_1).f1), .int .i64 ((rd_T29 l0_0 x10_1).f2), .int .i64 ((rd_T29 l0_0 x10_1).f3), .int .i64 ((rd_T29 l0_0 x10_1).f4), .int .i64 ((rd_T29 l0_0 x10_1).f5), .bool ((rd_T29 l0_0 x10_1).f6), .bool ((rd_T29 l0_0 x10_1).f7), (.slice A603_8 ((rd_T29 l0_0 x10_1).f8).length c603_8)] 29 (0, 0))) ∧ Aside0 (Below w.heap.size w wc))
      case first =>
       have H := HC7.out;clear HC7;replace H := zf H;obtain ⟨t605, A11, H⟩ := H
       by_cases c12 : t605 = true
       ·subst c12
        rw [if_pos rfl] at H
        by_cases c13 : 0 < (l0_0.length : Int)
        ·rw [if_pos c13] at H
         have c13b0 : decide (0 < (l0_0.length : Int)) = true := decide_eq_true c13;have c13b1 : decide (0 < l0_0.length) = true := decide_eq_true (by omega);clear c13
         (first | rw [c13b0] | (simp only [i64_w, i32_w]; rw [c13b0]) | skip)
         replace H := zf H;obtain ⟨t607, A14, H⟩ := H;have H' := Aside0.mk H;clear H
         try go_wp2
         obtain ⟨w15, hw15_⟩ : ∃ w_ : World, w_ = (((((((((w8.setCell ⟨gb604, 0, none⟩ (.int .i64 ((rd_T29 l0_0 x10_1).f0))).setCell ⟨gb604, 1, none⟩ (.int .i64 ((rd_T29 l0_0 x10_1).f1))).setCell ⟨gb604, 2, none⟩ (.int .i64 ((rd_T29 l0_0 x10_1).f2))).setCell ⟨gb604, 3, none⟩ (.int .i64 ((rd_T29 l0_0 x10_1).f3))).setCell ⟨gb604, 4, none⟩ (.int .i64 ((rd_T29 l0_0 x10_1).f4))).setCell ⟨gb604, 5, none⟩ (.int .i64 ((rd_T29 l0_0 x10_1).f5))).setCell ⟨gb604, 6, none⟩ (.bool ((rd_T29 l0_0 x10_1).f6))).setCell ⟨gb604, 7, none⟩ (.bool ((rd_T29 l0_0 x10_1).f7))).setCell ⟨gb604, 8, none⟩ (.slice A603_8 ((rd_T29 l0_0 x10_1).f8).length c603_8)) := ⟨_, rfl⟩;have n0_ : Aside0 (w15.heap[gb601]? = some (.cells #[.slice (some ad603) l0_0.length c0_0, .int .i64 a0_1] 36 (0, 0))) := ⟨by rw [hw15_]; exact zfr NB601_604 (zfr NB601_604 (zfr NB601_604 (zfr NB601_604 (zfr NB601_604 (zfr NB601_604 (zfr NB601_604 (zfr NB601_604 (zfr NB601_604 (zK BK601)))))))))⟩;have n1_ : Aside0 (w15.heap[gb604]? = some (.cells #[.int .i64 ((rd_T29 l0_0 x10_1).f0), .int .i64 ((rd_T29 l0_0 x10_1).f1), .int .i64 ((rd_T29 l0_0 x10_1).f2), .int .i64 ((rd_T29 l0_0 x10_1).f3), .int .i64 ((rd_T29 l0_0 x10_1).f4), .int .i64 ((rd_T29 l0_0 x10_1).f5), .bool ((rd_T29 l0_0 x10_1).f6), .bool ((rd_T29 l0_0 x10_1).f7), .slice A603_8 ((rd_T29 l0_0 x10_1).f8).length c603_8] 29 (0, 0))) := ⟨by rw [hw15_]; exact zW (zpt (zpt (zpt (zpt (zpt (zpt (zpt (zpt (zpt (zK BK604))))))))))⟩;have n2_ : Aside0 (Below w.heap.size w w15) := ⟨by rw [hw15_]; exact zB HB⟩;(try clear BK601);(try clear BK604);(try clear HB)
         rw [← hw15_]; clear hw15_
         have BK601 := n0_;have BK604 := n1_;have HB := n2_;clear n0_ n1_ n2_;replace BK601 := Aside0.mk (blk_drew BK601.out); replace BK604 := Aside0.mk (blk_drew BK604.out); replace HB := Aside0.mk (below_drew1 HB.out);have p606 : 0 ≤ (0 : Int) := (by omega);have q606 : 0 < (l0_0.length : Int) := of_decide_eq_true (by first | (with_reducible assumption) | assumption);obtain ⟨ad606, A606_8, c606_8, e606, hx606_0, hx606_1, hx606_2, hx606_3, hx606_4, hx606_5, hx606_6, hx606_7, hx606_8, hl606_8, hi606_8⟩ := at_T29 HR0_0.out 0 p606 q606;have hw606_8 := hx606_8;have hw606_7 := hx606_7;have hw606_6 := hx606_6;have hw606_5 := hx606_5;have hw606_4 := hx606_4;have hw606_3 := hx606_3;have hw606_2 := hx606_2;have hw606_1 := hx606_1;have hw606_0 := hx606_0;(try rw [show ((0 : Int)).toNat = 0 from rfl] at hw606_8 hw606_7 hw606_6 hw606_5 hw606_4 hw606_3 hw606_2 hw606_1 hw606_0);(try rw [show 0 * 9 = 0 from rfl] at hw606_8 hw606_7 hw606_6 hw606_5 hw606_4 hw606_3 hw606_2 hw606_1 hw606_0);(try rw [Addr.add_zero'] at hw606_8 hw606_7 hw606_6 hw606_5 hw606_4 hw606_3 hw606_2 hw606_1 hw606_0);obtain rfl : ad603 = ad606 := (by injection e606);have qi606 : (0 < l0_0.length) = True := eq_true (by omega);(try rw [show ((0 : Int)).toNat = 0 from rfl] at hx606_0 hx606_1 hx606_2 hx606_3 hx606_4 hx606_5 hx606_6 hx606_7 hx606_8);(try rw [show 0 * 9 = 0 from rfl] at hx606_0 hx606_1 hx606_2 hx606_3 hx606_4 hx606_5 hx606_6 hx606_7 hx606_8);(try rw [Addr.add_zero'] at hx606_0 hx606_1 hx606_2 hx606_3 hx606_4 hx606_5 hx606_6 hx606_7 hx606_8);replace hx606_0 := zk HB.out hx606_0;replace hx606_1 := zk HB.out hx606_1;replace hx606_2 := zk HB.out hx606_2;replace hx606_3 := zk HB.out hx606_3;replace hx606_4 := zk HB.out hx606_4;replace hx606_5 := zk HB.out hx606_5;replace hx606_6 := zk HB.out hx606_6;replace hx606_7 := zk HB.out hx606_7;replace hx606_8 := zk HB.out hx606_8;have HR606_8 := Aside0.mk hi606_8;have HC606_8 := Aside0.mk hl606_8;clear hi606_8 hl606_8;replace p606 := eq_true p606;replace q606 := eq_true q606;refine start_ (n := 12) (S := fun w' => w'.cell? ⟨gb604, 0, none⟩ = some (.int .i64 ((rd_T29 l0_0 x10_1).f0)) ∧ w'.cell? ⟨gb604, 1, none⟩ = some (.int .i64 ((rd_T29 l0_0 x10_1).f1)) ∧ w'.cell? ⟨gb604, 2, none⟩ = some (.int .i64 ((rd_T29 l0_0 x10_1).f2)) ∧ w'.cell? ⟨gb604, 3, none⟩ = some (.int .i64 ((rd_T29 l0_0 x10_1).f3)) ∧ w'.cell? ⟨gb604, 4, none⟩ = some (.int .i64 ((rd_T29 l0_0 x10_1).f4)) ∧ w'.cell? ⟨gb604, 5, none⟩ = some (.int .i64 ((rd_T29 l0_0 x10_1).f5)) ∧ w'.cell? ⟨gb604, 6, none⟩ = some (.bool ((rd_T29 l0_0 x10_1).f6)) ∧ w'.cell? ⟨gb604, 7, none⟩ = some (.bool ((rd_T29 l0_0 x10_1).f7)) ∧ w'.cell? ⟨gb604, 8, none⟩ = some (.slice A603_8 ((rd_T29 l0_0 x10_1).f8).length c603_8) ∧ w'.cell? ⟨gb601, 0, none⟩ = some (.slice (some ad603) l0_0.length c0_0) ∧ w'.cell? ⟨gb601, 1, none⟩ = some (.int .i64 a0_1) ∧ w'.cell? ad603 = some (.int .i64 ((rd_T29 l0_0 0).f0)) ∧ w'.cell? ⟨ad603.block, ad603.off + 1, none⟩ = some (.int .i64 ((rd_T29 l0_0 0).f1)) ∧ w'.cell? ⟨ad603.block, ad603.off + 2, none⟩ = some (.int .i64 ((rd_T29 l0_0 0).f2)) ∧ w'.cell? ⟨ad603.block, ad603.off + 3, none⟩ = some (.int .i64 ((rd_T29 l0_0 0).f3)) ∧ w'.cell? ⟨ad603.block, ad603.off + 4, none⟩ = some (.int .i64 ((rd_T29 l0_0 0).f4)) ∧ w'.cell? ⟨ad603.block, ad603.off + 5, none⟩ = some (.int .i64 ((rd_T29 l0_0 0).f5)) ∧ w'.cell? ⟨ad603.block, ad603.off + 6, none⟩ = some (.bool ((rd_T29 l0_0 0).f6)) ∧ w'.cell? ⟨ad603.block, ad603.off + 7, none⟩ = some (.bool ((rd_T29 l0_0 0).f7)) ∧ w'.cell? ⟨ad603.block, ad603.off + 8, none⟩ = some (.slice A606_8 ((rd_T29 l0_0 0).f8).length c606_8)) (ds := []) (bitsA 12 0) (by kernel_rfl) rfl rfl zH (fun hHeld => ?_); refine with_tabW impl_PartOk.tab5 impl_PartOk.bits5 (fun HT_ HW_ => ?_)
         generalize w15.drew = w16 at BK601 BK604 HB HR606_8 hx606_0 hx606_1 hx606_2 hx606_3 hx606_4 hx606_5 hx606_6 hx606_7 hx606_8 hHeld ⊢
         refine zt (i := 0) (N := some 15) (bitsA 12 1) HT_ HW_ hHeld ?_;refine zone (i := 1) (N := some 16) (bitsA 12 3) HT_ (fun K hK => ?_);refine goes_ Try.func24 (by kernel_rfl) rfl #[.agg #[.int .i64 ((rd_T29 l0_0 x10_1).f0), .int .i64 ((rd_T29 l0_0 x10_1).f1), .int .i64 ((rd_T29 l0_0 x10_1).f2), .int .i64 ((rd_T29 l0_0 x10_1).f3), .int .i64 ((rd_T29 l0_0 x10_1).f4), .int .i64 ((rd_T29 l0_0 x10_1).f5), .bool ((rd_T29 l0_0 x10_1).f6), .bool ((rd_T29 l0_0 x10_1).f7), .slice A603_8 ((rd_T29 l0_0 x10_1).f8).length c603_8]] (by rfl) rfl rfl zM ?_
         with_reducible refine (impl_PacketOk.calls ((rd_T29 l0_0 x10_1).f0) ((rd_T29 l0_0 x10_1).f1) ((rd_T29 l0_0 x10_1).f2) ((rd_T29 l0_0 x10_1).f3) ((rd_T29 l0_0 x10_1).f4) ((rd_T29 l0_0 x10_1).f5) ((rd_T29 l0_0 x10_1).f6) ((rd_T29 l0_0 x10_1).f7) _ _ ((rd_T29 l0_0 x10_1).f8) true _ ?side1 ?side2 A11.out).mono ?_
         (case side1 => exact zC HR603_8 HB)
         (case side2 => exact HC603_8.out)
         rintro e w17 ⟨rfl, hb⟩
         refine ⟨_, rfl, ?_⟩;replace BK601 := zq BK601 hb; replace BK604 := zq BK604 hb; replace HB := zbb HB hb;(try clear hb);(try clear hb2);(try clear hk);(try clear hi);refine hK.out _ _ zH (fun hHeld => ?_);clear hK K;refine znorm ?_;refine zp (i := 2) (N := some 17) (bitsA 12 7) HT_ ?_;refine zp (i := 3) (N := some 18) (bitsA 12 15) HT_ ?_;refine zp (i := 5) (N := some 20) (bitsA 12 47) HT_ ?_;refine zt (i := 4) (N := some 19) (bitsA 12 63) HT_ HW_ hHeld ?_;refine zt (i := 6) (N := some 21) (bitsA 12 127) HT_ HW_ hHeld ?_;refine zp (i := 7) (N := some 22) (bitsA 12 255) HT_ ?_;refine zt (i := 8) (N := some 23) (bitsA 12 511) HT_ HW_ hHeld ?_;refine zone (i := 9) (N := some 24) (bitsA 12 1023) HT_ (fun K hK => ?_);refine goes_ Try.func13 (by kernel_rfl) rfl #[.agg #[.int .i64 ((rd_T29 l0_0 x10_1).f0), .int .i64 ((rd_T29 l0_0 x10_1).f1), .int .i64 ((rd_T29 l0_0 x10_1).f2), .int .i64 ((rd_T29 l0_0 x10_1).f3), .int .i64 ((rd_T29 l0_0 x10_1).f4), .int .i64 ((rd_T29 l0_0 x10_1).f5), .bool ((rd_T29 l0_0 x10_1).f6), .bool ((rd_T29 l0_0 x10_1).f7), .slice A603_8 ((rd_T29 l0_0 x10_1).f8).length c603_8], .agg #[.int .i64 ((rd_T29 l0_0 0).f0), .int .i64 ((rd_T29 l0_0 0).f1), .int .i64 ((rd_T29 l0_0 0).f2), .int .i64 ((rd_T29 l0_0 0).f3), .int .i64 ((rd_T29 l0_0 0).f4), .int .i64 ((rd_T29 l0_0 0).f5), .bool ((rd_T29 l0_0 0).f6), .bool ((rd_T29 l0_0 0).f7), .slice A606_8 ((rd_T29 l0_0 0).f8).length c606_8]] (by rfl) rfl rfl zM ?_
         with_reducible refine (impl_Packet_same.calls ((rd_T29 l0_0 x10_1).f0) ((rd_T29 l0_0 x10_1).f1) ((rd_T29 l0_0 x10_1).f2) ((rd_T29 l0_0 x10_1).f3) ((rd_T29 l0_0 x10_1).f4) ((rd_T29 l0_0 x10_1).f5) ((rd_T29 l0_0 x10_1).f6) ((rd_T29 l0_0 x10_1).f7) _ _ ((rd_T29 l0_0 x10_1).f8) ((rd_T29 l0_0 0).f0) ((rd_T29 l0_0 0).f1) ((rd_T29 l0_0 0).f2) ((rd_T29 l0_0 0).f3) ((rd_T29 l0_0 0).f4) ((rd_T29 l0_0 0).f5) ((rd_T29 l0_0 0).f6) ((rd_T29 l0_0 0).f7) _ _ ((rd_T29 l0_0 0).f8) t607 _ ?side1 ?side2 ?side3 ?side4 A14.out).mono ?_
         (case side1 => exact zC HR603_8 HB)
         (case side2 => exact HC603_8.out)
         (case side3 => exact zC HR606_8 HB)
         (case side4 => exact HC606_8.out)
         rintro e w18 ⟨rfl, hb⟩
         refine ⟨_, rfl, ?_⟩;replace BK601 := zq BK601 hb; replace BK604 := zq BK604 hb; replace HB := zbb HB hb;(try clear hb);(try clear hb2);(try clear hk);(try clear hi);refine hK.out _ _ zH (fun hHeld => ?_);clear hK K;refine znorm ?_;refine zp (i := 10) (N := some 25) (bitsA 12 2047) HT_ ?_;refine zp (i := 11) (N := some 26) (bitsA 12 4095) HT_ ?_;refine done_ (done_of HT_.out (by kernel_rfl)) ?_
         try go_wp2
         go_meet
         case rel => exact ⟨_, (!t607), z1, H', ⟨by have := HK1.out; first | omega | exact Nat.le_refl _⟩, ⟨zK BK601⟩, ⟨zK BK604⟩, ⟨zB HB⟩⟩
        ·rw [if_neg c13] at H
         exact absurd H (by simp)
       ·replace c12 := Bool.eq_false_iff.mpr c12
        subst c12
        rw [if_neg (show ¬ (false = true) by decide)] at H;have H' := Aside0.mk H;clear H
        try go_wp2
        obtain ⟨w19, hw19_⟩ : ∃ w_ : World, w_ = (((((((((w8.setCell ⟨gb604, 0, none⟩ (.int .i64 ((rd_T29 l0_0 x10_1).f0))).setCell ⟨gb604, 1, none⟩ (.int .i64 ((rd_T29 l0_0 x10_1).f1))).setCell ⟨gb604, 2, none⟩ (.int .i64 ((rd_T29 l0_0 x10_1).f2))).setCell ⟨gb604, 3, none⟩ (.int .i64 ((rd_T29 l0_0 x10_1).f3))).setCell ⟨gb604, 4, none⟩ (.int .i64 ((rd_T29 l0_0 x10_1).f4))).setCell ⟨gb604, 5, none⟩ (.int .i64 ((rd_T29 l0_0 x10_1).f5))).setCell ⟨gb604, 6, none⟩ (.bool ((rd_T29 l0_0 x10_1).f6))).setCell ⟨gb604, 7, none⟩ (.bool ((rd_T29 l0_0 x10_1).f7))).setCell ⟨gb604, 8, none⟩ (.slice A603_8 ((rd_T29 l0_0 x10_1).f8).length c603_8)) := ⟨_, rfl⟩;have n0_ : Aside0 (w19.heap[gb601]? = some (.cells #[.slice (some ad603) l0_0.length c0_0, .int .i64 a0_1] 36 (0, 0))) := ⟨by rw [hw19_]; exact zfr NB601_604 (zfr NB601_604 (zfr NB601_604 (zfr NB601_604 (zfr NB601_604 (zfr NB601_604 (zfr NB601_604 (zfr NB601_604 (zfr NB601_604 (zK BK601)))))))))⟩;have n1_ : Aside0 (w19.heap[gb604]? = some (.cells #[.int .i64 ((rd_T29 l0_0 x10_1).f0), .int .i64 ((rd_T29 l0_0 x10_1).f1), .int .i64 ((rd_T29 l0_0 x10_1).f2), .int .i64 ((rd_T29 l0_0 x10_1).f3), .int .i64 ((rd_T29 l0_0 x10_1).f4), .int .i64 ((rd_T29 l0_0 x10_1).f5), .bool ((rd_T29 l0_0 x10_1).f6), .bool ((rd_T29 l0_0 x10_1).f7), .slice A603_8 ((rd_T29 l0_0 x10_1).f8).length c603_8] 29 (0, 0))) := ⟨by rw [hw19_]; exact zW (zpt (zpt (zpt (zpt (zpt (zpt (zpt (zpt (zpt (zK BK604))))))))))⟩;have n2_ : Aside0 (Below w.heap.size w w19) := ⟨by rw [hw19_]; exact zB HB⟩;(try clear BK601);(try clear BK604);(try clear HB)
        rw [← hw19_]; clear hw19_
        have BK601 := n0_;have BK604 := n1_;have HB := n2_;clear n0_ n1_ n2_;replace BK601 := Aside0.mk (blk_drew BK601.out); replace BK604 := Aside0.mk (blk_drew BK604.out); replace HB := Aside0.mk (below_drew1 HB.out);refine start_ (n := 12) (S := fun w' => w'.cell? ⟨gb604, 0, none⟩ = some (.int .i64 ((rd_T29 l0_0 x10_1).f0)) ∧ w'.cell? ⟨gb604, 1, none⟩ = some (.int .i64 ((rd_T29 l0_0 x10_1).f1)) ∧ w'.cell? ⟨gb604, 2, none⟩ = some (.int .i64 ((rd_T29 l0_0 x10_1).f2)) ∧ w'.cell? ⟨gb604, 3, none⟩ = some (.int .i64 ((rd_T29 l0_0 x10_1).f3)) ∧ w'.cell? ⟨gb604, 4, none⟩ = some (.int .i64 ((rd_T29 l0_0 x10_1).f4)) ∧ w'.cell? ⟨gb604, 5, none⟩ = some (.int .i64 ((rd_T29 l0_0 x10_1).f5)) ∧ w'.cell? ⟨gb604, 6, none⟩ = some (.bool ((rd_T29 l0_0 x10_1).f6)) ∧ w'.cell? ⟨gb604, 7, none⟩ = some (.bool ((rd_T29 l0_0 x10_1).f7)) ∧ w'.cell? ⟨gb604, 8, none⟩ = some (.slice A603_8 ((rd_T29 l0_0 x10_1).f8).length c603_8)) (ds := []) (bitsA 12 0) (by kernel_rfl) rfl rfl zH (fun hHeld => ?_); refine with_tabW impl_PartOk.tab5 impl_PartOk.bits5 (fun HT_ HW_ => ?_)
        generalize w19.drew = w20 at BK601 BK604 HB hHeld ⊢
        refine zt (i := 0) (N := some 15) (bitsA 12 1) HT_ HW_ hHeld ?_;refine zone (i := 1) (N := some 16) (bitsA 12 3) HT_ (fun K hK => ?_);refine goes_ Try.func24 (by kernel_rfl) rfl #[.agg #[.int .i64 ((rd_T29 l0_0 x10_1).f0), .int .i64 ((rd_T29 l0_0 x10_1).f1), .int .i64 ((rd_T29 l0_0 x10_1).f2), .int .i64 ((rd_T29 l0_0 x10_1).f3), .int .i64 ((rd_T29 l0_0 x10_1).f4), .int .i64 ((rd_T29 l0_0 x10_1).f5), .bool ((rd_T29 l0_0 x10_1).f6), .bool ((rd_T29 l0_0 x10_1).f7), .slice A603_8 ((rd_T29 l0_0 x10_1).f8).length c603_8]] (by rfl) rfl rfl zM ?_
        with_reducible refine (impl_PacketOk.calls ((rd_T29 l0_0 x10_1).f0) ((rd_T29 l0_0 x10_1).f1) ((rd_T29 l0_0 x10_1).f2) ((rd_T29 l0_0 x10_1).f3) ((rd_T29 l0_0 x10_1).f4) ((rd_T29 l0_0 x10_1).f5) ((rd_T29 l0_0 x10_1).f6) ((rd_T29 l0_0 x10_1).f7) _ _ ((rd_T29 l0_0 x10_1).f8) false _ ?side1 ?side2 A11.out).mono ?_
        (case side1 => exact zC HR603_8 HB)
        (case side2 => exact HC603_8.out)
        rintro e w21 ⟨rfl, hb⟩
        refine ⟨_, rfl, ?_⟩;replace BK601 := zq BK601 hb; replace BK604 := zq BK604 hb; replace HB := zbb HB hb;(try clear hb);(try clear hb2);(try clear hk);(try clear hi);refine hK.out _ _ zH (fun hHeld => ?_);clear hK K;refine znorm ?_;refine zp (i := 2) (N := some 17) (bitsA 12 7) HT_ ?_;refine zp (i := 3) (N := some 18) (bitsA 12 15) HT_ ?_;refine zu (i := 4) (N := some 19) (bitsA 12 31) HT_ ?_;refine zu (i := 5) (N := some 20) (bitsA 12 63) HT_ ?_;refine zu (i := 6) (N := some 21) (bitsA 12 127) HT_ ?_;refine zu (i := 7) (N := some 22) (bitsA 12 255) HT_ ?_;refine zu (i := 8) (N := some 23) (bitsA 12 511) HT_ ?_;refine zu (i := 9) (N := some 24) (bitsA 12 1023) HT_ ?_;refine zu (i := 10) (N := some 25) (bitsA 12 2047) HT_ ?_;refine zp (i := 11) (N := some 26) (bitsA 12 4095) HT_ ?_;refine done_ (done_of HT_.out (by kernel_rfl)) ?_
        try go_wp2
        go_meet
        case rel => exact ⟨_, (true), z1, H', ⟨by have := HK1.out; first | omega | exact Nat.le_refl _⟩, ⟨zK BK601⟩, ⟨zK BK604⟩, ⟨zB HB⟩⟩
      case rest =>
       clear HC7
       try clear c4
       try clear c4b0
       try clear c5
       try clear c5b0
       try clear c6
       try clear c6b0
       try clear hx603_0
       try clear hx603_1
       try clear hx603_2
       try clear hx603_3
       try clear hx603_4
       try clear hx603_5
       try clear hx603_6
       try clear hx603_7
       try clear hx603_8
       try clear p603
       try clear q603
       obtain ⟨kq, x26_6, rfl, HA, HJ6, BK601, BK604, HB⟩ := hcut
       cases kq with
       | zero => exact absurd HA.out (by simp [impl_PartOk.j1])
       | succ kj6 =>
        have H := HA.out;clear HA;simp only [impl_PartOk.j1] at H
        by_cases c22 : x26_6 = true
        ·subst c22
         rw [if_pos rfl] at H;obtain rfl := Option.some.inj H
         go_wp2
         go_ret;exact ⟨by first | rfl | (simp <;> rfl) | (simp [*] <;> rfl), zB HB⟩
        ·replace c22 := Bool.eq_false_iff.mpr c22
         subst c22
         rw [if_neg (show ¬ (false = true) by decide)] at H
         by_cases c23 : x10_1 > 0
         ·rw [if_pos c23] at H
          have c23b0 : decide (0 < x10_1) = true := decide_eq_true c23;clear c23;obtain ⟨ji24, hji24⟩ : ∃ j_ : Int, (wrap64 (x10_1 - 1)) = j_ := ⟨_, rfl⟩
          (first | rw [hji24] at H | simp only [hji24] at H)
          have hji24w : (IntKind.i64.wrap (x10_1 - 1)) = ji24 := (i64_w _).trans hji24
          by_cases c25 : 0 ≤ (ji24)
          ·rw [if_pos c25] at H
           have c25b0 : decide (0 ≤ (ji24)) = true := decide_eq_true c25;clear c25
           by_cases c26 : (ji24) < (l0_0.length : Int)
           ·rw [if_pos c26] at H
            have c26b0 : decide ((ji24) < (l0_0.length : Int)) = true := decide_eq_true c26;clear c26
            by_cases c27 : ((rd_T29 l0_0 x10_1).f5) < (wrap64 (((rd_T29 l0_0 (ji24)).f5) + (((rd_T29 l0_0 (ji24)).f8).length : Int)))
            ·rw [if_pos c27] at H
             have c27b0 : decide (((rd_T29 l0_0 x10_1).f5) < (wrap64 (((rd_T29 l0_0 (ji24)).f5) + (((rd_T29 l0_0 (ji24)).f8).length : Int)))) = true := decide_eq_true c27;clear c27;obtain rfl := Option.some.inj H;have hnb28 := NB601_604.out;have hnc28 := NB604_601.out;obtain ⟨_, _, _, _⟩ := zc2 BK601.out;have p608 : 0 ≤ ((ji24) : Int) := of_decide_eq_true (by first | (with_reducible assumption) | assumption);have q608 : (ji24) < (l0_0.length : Int) := of_decide_eq_true (by first | (with_reducible assumption) | assumption);obtain ⟨ad608, A608_8, c608_8, e608, hx608_0, hx608_1, hx608_2, hx608_3, hx608_4, hx608_5, hx608_6, hx608_7, hx608_8, hl608_8, hi608_8⟩ := at_T29 HR0_0.out (ji24) p608 q608;obtain rfl : ad603 = ad608 := (by injection e608);replace hx608_0 := zk HB.out hx608_0;replace hx608_1 := zk HB.out hx608_1;replace hx608_2 := zk HB.out hx608_2;replace hx608_3 := zk HB.out hx608_3;replace hx608_4 := zk HB.out hx608_4;replace hx608_5 := zk HB.out hx608_5;replace hx608_6 := zk HB.out hx608_6;replace hx608_7 := zk HB.out hx608_7;replace hx608_8 := zk HB.out hx608_8;have HR608_8 := Aside0.mk hi608_8;have HC608_8 := Aside0.mk hl608_8;clear hi608_8 hl608_8;replace p608 := eq_true p608;replace q608 := eq_true q608
             go_wp2_with (first | ((with_reducible refine gate_dst (N := 6) rfl ?_); refine box_event (by rfl) (N := 6) (by rfl) (cs := #[.int .i64 0, .int .i64 0, .int .i64 0, .int .i64 0, .int .i64 0, .int .i64 0, .bool false, .bool false, .slice none 0 0]) (t := 29) zr ?_; intro gb609 hg w30 hbox hb; have BK609 := Aside0.mk (hbox); have GW609 := zg HB hg; replace HB := zbb HB hb; have GE609 := GW609; have NB601_609 := zlt BK601 hg; have NB609_601 := zgt BK601 hg; replace BK601 := zq BK601 hb; have NB604_609 := zlt BK604 hg; have NB609_604 := zgt BK604 hg; replace BK604 := zq BK604 hb; clear hb hbox hg; have hnb31 := NB609_601.out; have hnc31 := NB601_609.out; have hnb32 := NB609_604.out; have hnc32 := NB604_609.out; obtain ⟨_, _, _, _, _, _, _, _, _, _, _, _, _, _, _, _, _, _⟩ := zc9 BK609.out; obtain ⟨_, _, _, _, _, _, _, _, _, _, _, _, _, _, _, _, _, _⟩ := zc9 BK604.out))
             go_ret;exact ⟨by first | rfl | (simp <;> rfl) | (simp only [← hji24]; first | rfl | (simp <;> rfl)) | (simp [*] <;> rfl), zB HB⟩
            ·rw [if_neg c27] at H
             have c27b0 : decide (((rd_T29 l0_0 x10_1).f5) < (wrap64 (((rd_T29 l0_0 (ji24)).f5) + (((rd_T29 l0_0 (ji24)).f8).length : Int)))) = false := decide_eq_false c27;clear c27;obtain ⟨bq35, hbq35⟩ : ∃ b_ : Bool, b_ = ((rd_T29 l0_0 (ji24)).f6) := ⟨_, rfl⟩
             replace H : (if (bq35 = true) then (impl_PartOk.l0 kj6 (wrap64 (x3_1 + (((rd_T29 l0_0 x10_1).f8).length : Int))) l0_0 (l0_0.length : Int) (wrap64 (x10_1 + 1)) l0_0 a0_1) else (some false)) = some r := by rw [← hbq35] at H; exact H
             have Nbq35 := Aside0.mk hbq35;clear hbq35
             by_cases c36 : (bq35 = true)
             ·subst c36
              rw [if_pos rfl] at H;have H' := Aside0.mk H;clear H;have hnb37 := NB601_604.out;have hnc37 := NB604_601.out;obtain ⟨_, _, _, _⟩ := zc2 BK601.out;have p608 : 0 ≤ ((ji24) : Int) := of_decide_eq_true (by first | (with_reducible assumption) | assumption);have q608 : (ji24) < (l0_0.length : Int) := of_decide_eq_true (by first | (with_reducible assumption) | assumption);obtain ⟨ad608, A608_8, c608_8, e608, hx608_0, hx608_1, hx608_2, hx608_3, hx608_4, hx608_5, hx608_6, hx608_7, hx608_8, hl608_8, hi608_8⟩ := at_T29 HR0_0.out (ji24) p608 q608;(try rw [← Nbq35.out] at hx608_6);(try rw [← Nbq35.out] at hx608_7);obtain rfl : ad603 = ad608 := (by injection e608);replace hx608_0 := zk HB.out hx608_0;replace hx608_1 := zk HB.out hx608_1;replace hx608_2 := zk HB.out hx608_2;replace hx608_3 := zk HB.out hx608_3;replace hx608_4 := zk HB.out hx608_4;replace hx608_5 := zk HB.out hx608_5;replace hx608_6 := zk HB.out hx608_6;replace hx608_7 := zk HB.out hx608_7;replace hx608_8 := zk HB.out hx608_8;have HR608_8 := Aside0.mk hi608_8;have HC608_8 := Aside0.mk hl608_8;clear hi608_8 hl608_8;replace p608 := eq_true p608;replace q608 := eq_true q608
              go_wp2_with (first | ((with_reducible refine gate_dst (N := 6) rfl ?_); refine box_event (by rfl) (N := 6) (by rfl) (cs := #[.int .i64 0, .int .i64 0, .int .i64 0, .int .i64 0, .int .i64 0, .int .i64 0, .bool false, .bool false, .slice none 0 0]) (t := 29) zr ?_; intro gb609 hg w39 hbox hb; have BK609 := Aside0.mk (hbox); have GW609 := zg HB hg; replace HB := zbb HB hb; have GE609 := GW609; have NB601_609 := zlt BK601 hg; have NB609_601 := zgt BK601 hg; replace BK601 := zq BK601 hb; have NB604_609 := zlt BK604 hg; have NB609_604 := zgt BK604 hg; replace BK604 := zq BK604 hb; clear hb hbox hg; have hnb40 := NB609_601.out; have hnc40 := NB601_609.out; have hnb41 := NB609_604.out; have hnc41 := NB604_609.out; obtain ⟨_, _, _, _, _, _, _, _, _, _, _, _, _, _, _, _, _, _⟩ := zc9 BK609.out; obtain ⟨_, _, _, _, _, _, _, _, _, _, _, _, _, _, _, _, _, _⟩ := zc9 BK604.out))
              go_roundg kj6
              case measure => have := HK1.out; have := HJ6.out; omega
              case rel => exact ⟨(wrap64 (x3_1 + (((rd_T29 l0_0 x10_1).f8).length : Int))), (wrap64 (x10_1 + 1)), z1, z1, H', ⟨by have := HK1.out; have := HJ6.out; omega⟩, ⟨zfr NB601_609 (zfr NB601_609 (zfr NB601_609 (zfr NB601_609 (zfr NB601_609 (zfr NB601_609 (zfr NB601_609 (zfr NB601_609 (zfr NB601_609 (zK BK601)))))))))⟩, ⟨zB HB⟩⟩
             ·replace c36 := Bool.eq_false_iff.mpr c36
              subst c36
              rw [if_neg (show ¬ (false = true) by decide)] at H;obtain rfl := Option.some.inj H;have hnb44 := NB601_604.out;have hnc44 := NB604_601.out;obtain ⟨_, _, _, _⟩ := zc2 BK601.out;have p608 : 0 ≤ ((ji24) : Int) := of_decide_eq_true (by first | (with_reducible assumption) | assumption);have q608 : (ji24) < (l0_0.length : Int) := of_decide_eq_true (by first | (with_reducible assumption) | assumption);obtain ⟨ad608, A608_8, c608_8, e608, hx608_0, hx608_1, hx608_2, hx608_3, hx608_4, hx608_5, hx608_6, hx608_7, hx608_8, hl608_8, hi608_8⟩ := at_T29 HR0_0.out (ji24) p608 q608;(try rw [← Nbq35.out] at hx608_6);(try rw [← Nbq35.out] at hx608_7);obtain rfl : ad603 = ad608 := (by injection e608);replace hx608_0 := zk HB.out hx608_0;replace hx608_1 := zk HB.out hx608_1;replace hx608_2 := zk HB.out hx608_2;replace hx608_3 := zk HB.out hx608_3;replace hx608_4 := zk HB.out hx608_4;replace hx608_5 := zk HB.out hx608_5;replace hx608_6 := zk HB.out hx608_6;replace hx608_7 := zk HB.out hx608_7;replace hx608_8 := zk HB.out hx608_8;have HR608_8 := Aside0.mk hi608_8;have HC608_8 := Aside0.mk hl608_8;clear hi608_8 hl608_8;replace p608 := eq_true p608;replace q608 := eq_true q608
              go_wp2_with (first | ((with_reducible refine gate_dst (N := 6) rfl ?_); refine box_event (by rfl) (N := 6) (by rfl) (cs := #[.int .i64 0, .int .i64 0, .int .i64 0, .int .i64 0, .int .i64 0, .int .i64 0, .bool false, .bool false, .slice none 0 0]) (t := 29) zr ?_; intro gb609 hg w46 hbox hb; have BK609 := Aside0.mk (hbox); have GW609 := zg HB hg; replace HB := zbb HB hb; have GE609 := GW609; have NB601_609 := zlt BK601 hg; have NB609_601 := zgt BK601 hg; replace BK601 := zq BK601 hb; have NB604_609 := zlt BK604 hg; have NB609_604 := zgt BK604 hg; replace BK604 := zq BK604 hb; clear hb hbox hg; have hnb47 := NB609_601.out; have hnc47 := NB601_609.out; have hnb48 := NB609_604.out; have hnc48 := NB604_609.out; obtain ⟨_, _, _, _, _, _, _, _, _, _, _, _, _, _, _, _, _, _⟩ := zc9 BK609.out; obtain ⟨_, _, _, _, _, _, _, _, _, _, _, _, _, _, _, _, _, _⟩ := zc9 BK604.out))
              go_ret;exact ⟨by first | rfl | (simp <;> rfl) | (simp only [← hji24]; first | rfl | (simp <;> rfl)) | (simp [*] <;> rfl), zB HB⟩
           ·rw [if_neg c26] at H
            exact absurd H (by simp)
          ·rw [if_neg c25] at H
           exact absurd H (by simp)
         ·rw [if_neg c23] at H
          have c23b0 : decide (0 < x10_1) = false := decide_eq_false c23;clear c23;have H' := Aside0.mk H;clear H;have hnb51 := NB604_601.out;have hnc51 := NB601_604.out;obtain ⟨_, _, _, _, _, _, _, _, _, _, _, _, _, _, _, _, _, _⟩ := zc9 BK604.out
          go_wp2
          go_roundg kj6
          case measure => have := HK1.out; have := HJ6.out; omega
          case rel => exact ⟨(wrap64 (x3_1 + (((rd_T29 l0_0 x10_1).f8).length : Int))), (wrap64 (x10_1 + 1)), z1, z1, H', ⟨by have := HK1.out; have := HJ6.out; omega⟩, ⟨zK BK601⟩, ⟨zB HB⟩⟩
     ·rw [if_neg c6] at H
      exact absurd H (by simp)
    ·rw [if_neg c5] at H
     exact absurd H (by simp)
   ·rw [if_neg c4] at H
    have c4b0 : decide (x10_1 < (l0_0.length : Int)) = false := decide_eq_false c4;clear c4
    by_cases c53 : (l0_0.length : Int) > 0
    ·rw [if_pos c53] at H
     have c53b0 : decide (0 < (l0_0.length : Int)) = true := decide_eq_true c53;have c53b1 : decide (0 < l0_0.length) = true := decide_eq_true (by omega);clear c53
     by_cases c54 : x3_1 ≤ 48
     ·rw [if_pos c54] at H
      have c54b0 : decide (x3_1 ≤ 48) = true := decide_eq_true c54;clear c54;replace H := zf H;obtain ⟨t602, A55, H⟩ := H;obtain rfl := Option.some.inj H;obtain ⟨_, _, _, _⟩ := zc2 BK601.out
      go_wp2_with (first | (go_at_call 25; (with_reducible refine (impl_in.calls a0_1 0 1000000 t602 _ A55.out).mono ?_); rintro e w' ⟨rfl, ⟨nd, rfl⟩⟩))
      go_ret;exact ⟨by first | rfl | (simp <;> rfl) | (simp [*] <;> rfl), zB HB⟩
     ·rw [if_neg c54] at H
      have c54b0 : decide (x3_1 ≤ 48) = false := decide_eq_false c54;clear c54;obtain rfl := Option.some.inj H;obtain ⟨_, _, _, _⟩ := zc2 BK601.out
      go_wp2
      go_ret;exact ⟨by first | rfl | (simp <;> rfl) | (simp [*] <;> rfl), zB HB⟩
    ·rw [if_neg c53] at H
     have c53b0 : decide (0 < (l0_0.length : Int)) = false := decide_eq_false c53;have c53b1 : decide (0 < l0_0.length) = false := decide_eq_false (by omega);clear c53;obtain rfl := Option.some.inj H;obtain ⟨_, _, _, _⟩ := zc2 BK601.out
     go_wp2
     go_ret;exact ⟨by first | rfl | (simp <;> rfl) | (simp [*] <;> rfl), zB HB⟩

-- NOT PRINTED: function 26 (impl_Part_26)

/-! ### impl_Part_11: function 11 -/
/-- Two pieces are of the same packet. -/
def sameB (u v : S29) : Bool := decide (u.f0 = v.f0 ∧ u.f1 = v.f1 ∧ u.f2 = v.f2 ∧ u.f4 = v.f4)
theorem sameB_f (u v : S29) : impl_Packet_same.f u.f0 u.f1 u.f2 u.f3 u.f4 u.f5 u.f6 u.f7 u.f8 v.f0 v.f1 v.f2 v.f3 v.f4 v.f5 v.f6 v.f7 v.f8 = some (sameB u v) := by
 unfold impl_Packet_same.f sameB
 by_cases h0 : u.f0 = v.f0 <;> by_cases h1 : u.f1 = v.f1 <;> by_cases h2 : u.f2 = v.f2 <;> by_cases h4 : u.f4 = v.f4 <;> simp [h0, h1, h2, h4]
/-- A part begins like these pieces. -/
def likeB (y : List (S29)) (x : S36) : Bool := sameB (rd_T29 x.f0 0) (rd_T29 y 0)
/-- The first place of a part that begins like these pieces; -1 if there is none. -/
def likeIdx (y : List (S29)) (xs : List (S36)) : Int := match xs.findIdx? (likeB y) with | some i => (i : Int) | none => -1
theorem likeRd (xs : List (S36)) (i : Nat) (h : i < xs.length) : rd_T36 xs (i : Int) = xs[i] := by
 unfold rd_T36; simp [List.getD_eq_getElem?_getD, List.getElem?_eq_getElem h]
theorem likeIdx_hit (y : List (S29)) (xs : List (S36)) (k : Nat) (hk : k < xs.length) (hp : likeB y (rd_T36 xs (k : Int)) = true) (no : ∀ j : Nat, j < k → likeB y (rd_T36 xs (j : Int)) = false) : likeIdx y xs = (k : Int) := by
 have e : xs.findIdx? (likeB y) = some k := by
  rw [List.findIdx?_eq_some_iff_getElem]
  refine ⟨hk, by rw [← likeRd xs k hk]; exact hp, fun j hj => ?_⟩;have := no j hj
  rw [likeRd xs j (by omega)] at this
  simp [this]
 unfold likeIdx; rw [e]
theorem likeIdx_miss (y : List (S29)) (xs : List (S36)) (no : ∀ j : Nat, j < xs.length → likeB y (rd_T36 xs (j : Int)) = false) : likeIdx y xs = -1 := by
 have e : xs.findIdx? (likeB y) = none := by
  rw [List.findIdx?_eq_none_iff]
  intro x hx;obtain ⟨j, hj, rfl⟩ := List.getElem_of_mem hx
  rw [← likeRd xs j hj]
  exact no j hj
 unfold likeIdx; rw [e]
theorem likeIdx_any (y : List (S29)) (xs : List (S36)) : decide (likeIdx y xs ≥ 0) = xs.any (likeB y) := by
 unfold likeIdx
 cases h : xs.findIdx? (likeB y) with
 | none =>
  rw [List.findIdx?_eq_none_iff] at h
  rw [List.any_eq_false.2 (fun x hx => by rw [h x hx]; decide)]
  rfl
 | some i =>
  obtain ⟨hi, hp, _⟩ := List.findIdx?_eq_some_iff_getElem.1 h
  rw [List.any_eq_true.2 ⟨_, List.getElem_mem hi, hp⟩]
  exact decide_eq_true (by show (0 : Int) ≤ ((i : Nat) : Int); omega)
def likeT : Bool × List (List Nat × List Nat) := (true, [([], []), ([0], [0]), ([1], [1]), ([2], [2]), ([], []), ([4], [4]), ([5], [5]), ([6], [6]), ([3, 7], [3, 7]), ([8, 8, 0, 1, 2, 3, 4, 5, 6, 7, 8], [8])])
def likeBits : List Nat := [0, 1, 3, 7, 0, 16, 48, 112, 255, 511]
theorem likeT_tab : rtab .any (opsOf Try.f12 1) = likeT := by kernel_rfl
theorem likeT_bits : waitsOk likeT.2 likeBits = true := by kernel_rfl
set_option maxHeartbeats 2000000 in
set_option maxRecDepth 100000 in
/-- The closure of the search. -/
theorem likeEq.calls (x : S36) (A : Option Addr) (c : Nat) (y : List (S29)) (A1 : Option Addr) (c1 : Nat) (gb : Nat) (w : World) (hr : Kd.C k29 w A x.f0.length x.f0) (hl : 0 < x.f0.length) (hr1 : Kd.C k29 w A1 y.length y) (hl1 : 0 < y.length) (hbx : w.cell? ⟨gb, 0, none⟩ = some (.slice A1 y.length c1)) :
  Calls Try.prog 12 #[.agg #[.slice A x.f0.length c, .int .i64 x.f1], .pointer (some ⟨gb, 0, none⟩)] w fun e w' => e = .returned (.bool (likeB y x)) ∧ Below w.heap.size w w' := by
 have hs := World.block_lt_of_cell? w _ hbx;have HB := Aside0.mk (Below.refl w.heap.size w);have HX := Aside0.mk hbx
 have hz : (0 : Int) < (x.f0.length : Int) := by omega
 have hz1 : (0 : Int) < (y.length : Int) := by omega
 obtain ⟨ad, B8, d8, eA, hx0, hx1, hx2, hx3, hx4, hx5, hx6, hx7, hx8, hd8, hC8⟩ := at_T29 hr 0 (by omega) hz;obtain ⟨ad1, B18, d18, eA1, hy0, hy1, hy2, hy3, hy4, hy5, hy6, hy7, hy8, hd18, hC18⟩ := at_T29 hr1 0 (by omega) hz1
 subst eA eA1
 have z0 : ∀ q : Addr, q.add ((0 : Int).toNat * 9) = q := fun q => by cases q; rfl
 rw [z0] at hx0 hx1 hx2 hx3 hx4 hx5 hx6 hx7 hx8 hy0 hy1 hy2 hy3 hy4 hy5 hy6 hy7 hy8
 clear z0;have HS := fun W (hW : Below w.heap.size w W) => impl_Packet_same.calls _ _ _ _ _ _ _ _ B8 d8 _ _ _ _ _ _ _ _ _ B18 d18 _ _ W (Kd.C_below hC8 hW) hd8 (Kd.C_below hC18 hW) hd18 (sameB_f (rd_T29 x.f0 0) (rd_T29 y 0));have HSA := Aside0.mk HS;have hn := hl;have hn1 := hl1;clear HS hbx hr hr1 hC8 hC18 hd8 hd18 hl hl1;have e : likeB y x = sameB (rd_T29 x.f0 0) (rd_T29 y 0) := rfl
 rw [e]
 clear e
 generalize x.f0.length = n at hz hn ⊢
 generalize y.length = n1 at hz1 hn1 HX ⊢
 generalize sameB (rd_T29 x.f0 0) (rd_T29 y 0) = z at HSA ⊢
 generalize rd_T29 x.f0 0 = u at *
 generalize rd_T29 y 0 = v at *
 go_enter Try.func12, Try.ntmps12
 go_wp2_with (first
  | ((with_reducible refine gate_dst (N := 2) rfl ?_); refine box_event (by rfl) (N := 2) (by rfl) (cs := #[.slice (some ad) n c, .int .i64 x.f1]) (t := 36) zr ?_; intro ge hg w1 hbox hb; have h0 : w1.cell? ⟨ge, 0, none⟩ = some (.slice (some ad) n c) := (blk_cell hbox 0).trans rfl; have h1 := (hb.cell (p := ⟨gb, 0, none⟩) hs).trans HX.out; replace hx0 := (hb.cell (World.block_lt_of_cell? w _ hx0)).trans hx0; replace hx1 := (hb.cell (World.block_lt_of_cell? w _ hx1)).trans hx1; replace hx2 := (hb.cell (World.block_lt_of_cell? w _ hx2)).trans hx2; replace hx3 := (hb.cell (World.block_lt_of_cell? w _ hx3)).trans hx3; replace hx4 := (hb.cell (World.block_lt_of_cell? w _ hx4)).trans hx4; replace hx5 := (hb.cell (World.block_lt_of_cell? w _ hx5)).trans hx5; replace hx6 := (hb.cell (World.block_lt_of_cell? w _ hx6)).trans hx6; replace hx7 := (hb.cell (World.block_lt_of_cell? w _ hx7)).trans hx7; replace hx8 := (hb.cell (World.block_lt_of_cell? w _ hx8)).trans hx8; replace hy0 := (hb.cell (World.block_lt_of_cell? w _ hy0)).trans hy0; replace hy1 := (hb.cell (World.block_lt_of_cell? w _ hy1)).trans hy1; replace hy2 := (hb.cell (World.block_lt_of_cell? w _ hy2)).trans hy2; replace hy3 := (hb.cell (World.block_lt_of_cell? w _ hy3)).trans hy3; replace hy4 := (hb.cell (World.block_lt_of_cell? w _ hy4)).trans hy4; replace hy5 := (hb.cell (World.block_lt_of_cell? w _ hy5)).trans hy5; replace hy6 := (hb.cell (World.block_lt_of_cell? w _ hy6)).trans hy6; replace hy7 := (hb.cell (World.block_lt_of_cell? w _ hy7)).trans hy7; replace hy8 := (hb.cell (World.block_lt_of_cell? w _ hy8)).trans hy8; have HB1 := Aside0.mk (below_step HB.out hb); clear HB; clear hb hbox hg))
 have HB2 := Aside0.mk (below_drew1 HB1.out);clear HB1;refine start_ (n := 10) (S := fun w' => w'.cell? ⟨ge, 0, none⟩ = some (.slice (some ad) n c) ∧ w'.cell? ⟨gb, 0, none⟩ = some (.slice (some ad1) n1 c1) ∧ w'.cell? ad = some (.int .i64 u.f0) ∧ w'.cell? ⟨ad.block, ad.off + 1, none⟩ = some (.int .i64 u.f1) ∧ w'.cell? ⟨ad.block, ad.off + 2, none⟩ = some (.int .i64 u.f2) ∧ w'.cell? ⟨ad.block, ad.off + 3, none⟩ = some (.int .i64 u.f3) ∧ w'.cell? ⟨ad.block, ad.off + 4, none⟩ = some (.int .i64 u.f4) ∧ w'.cell? ⟨ad.block, ad.off + 5, none⟩ = some (.int .i64 u.f5) ∧ w'.cell? ⟨ad.block, ad.off + 6, none⟩ = some (.bool u.f6) ∧ w'.cell? ⟨ad.block, ad.off + 7, none⟩ = some (.bool u.f7) ∧ w'.cell? ⟨ad.block, ad.off + 8, none⟩ = some (.slice B8 u.f8.length d8) ∧ w'.cell? ad1 = some (.int .i64 v.f0) ∧ w'.cell? ⟨ad1.block, ad1.off + 1, none⟩ = some (.int .i64 v.f1) ∧ w'.cell? ⟨ad1.block, ad1.off + 2, none⟩ = some (.int .i64 v.f2) ∧ w'.cell? ⟨ad1.block, ad1.off + 3, none⟩ = some (.int .i64 v.f3) ∧ w'.cell? ⟨ad1.block, ad1.off + 4, none⟩ = some (.int .i64 v.f4) ∧ w'.cell? ⟨ad1.block, ad1.off + 5, none⟩ = some (.int .i64 v.f5) ∧ w'.cell? ⟨ad1.block, ad1.off + 6, none⟩ = some (.bool v.f6) ∧ w'.cell? ⟨ad1.block, ad1.off + 7, none⟩ = some (.bool v.f7) ∧ w'.cell? ⟨ad1.block, ad1.off + 8, none⟩ = some (.slice B18 v.f8.length d18)) (ds := []) (bitsA 10 0) (by kernel_rfl) rfl rfl ⟨h0, h1, hx0, hx1, hx2, hx3, hx4, hx5, hx6, hx7, hx8, hy0, hy1, hy2, hy3, hy4, hy5, hy6, hy7, hy8⟩ (fun hHeld => ?_);refine with_tabW likeT_tab likeT_bits (fun HT_ HW_ => ?_);refine zp (i := 0) (N := some 4) (bitsA 10 1) HT_ ?_;refine zt (i := 1) (N := some 5) (bitsA 10 3) HT_ HW_ hHeld ?_;refine zp (i := 2) (N := some 6) (bitsA 10 7) HT_ ?_;refine zt (i := 3) (N := some 7) (bitsA 10 15) HT_ HW_ hHeld ?_;refine zp (i := 4) (N := some 8) (bitsA 10 31) HT_ ?_;refine zt (i := 5) (N := some 9) (bitsA 10 63) HT_ HW_ hHeld ?_;refine zp (i := 6) (N := some 10) (bitsA 10 127) HT_ ?_;refine zt (i := 7) (N := some 11) (bitsA 10 255) HT_ HW_ hHeld ?_;refine zone (i := 8) (N := some 12) (bitsA 10 511) HT_ (fun K hK => ?_);refine goes_ Try.func13 (by kernel_rfl) rfl #[.agg #[.int .i64 u.f0, .int .i64 u.f1, .int .i64 u.f2, .int .i64 u.f3, .int .i64 u.f4, .int .i64 u.f5, .bool u.f6, .bool u.f7, .slice B8 u.f8.length d8], .agg #[.int .i64 v.f0, .int .i64 v.f1, .int .i64 v.f2, .int .i64 v.f3, .int .i64 v.f4, .int .i64 v.f5, .bool v.f6, .bool v.f7, .slice B18 v.f8.length d18]] (by rfl) rfl rfl (by (try simp only [zm]); first | done | rfl) ?_
 with_reducible refine (HSA.out _ HB2.out).mono ?_
 rintro e w3 ⟨rfl, hb⟩
 refine ⟨_, rfl, ?_⟩;replace h0 := (hb.cell (World.block_lt_of_cell? _ _ h0)).trans h0;replace h1 := (hb.cell (World.block_lt_of_cell? _ _ h1)).trans h1;replace hx0 := (hb.cell (World.block_lt_of_cell? _ _ hx0)).trans hx0;replace hx1 := (hb.cell (World.block_lt_of_cell? _ _ hx1)).trans hx1;replace hx2 := (hb.cell (World.block_lt_of_cell? _ _ hx2)).trans hx2;replace hx3 := (hb.cell (World.block_lt_of_cell? _ _ hx3)).trans hx3;replace hx4 := (hb.cell (World.block_lt_of_cell? _ _ hx4)).trans hx4;replace hx5 := (hb.cell (World.block_lt_of_cell? _ _ hx5)).trans hx5;replace hx6 := (hb.cell (World.block_lt_of_cell? _ _ hx6)).trans hx6;replace hx7 := (hb.cell (World.block_lt_of_cell? _ _ hx7)).trans hx7;replace hx8 := (hb.cell (World.block_lt_of_cell? _ _ hx8)).trans hx8;replace hy0 := (hb.cell (World.block_lt_of_cell? _ _ hy0)).trans hy0;replace hy1 := (hb.cell (World.block_lt_of_cell? _ _ hy1)).trans hy1;replace hy2 := (hb.cell (World.block_lt_of_cell? _ _ hy2)).trans hy2;replace hy3 := (hb.cell (World.block_lt_of_cell? _ _ hy3)).trans hy3;replace hy4 := (hb.cell (World.block_lt_of_cell? _ _ hy4)).trans hy4;replace hy5 := (hb.cell (World.block_lt_of_cell? _ _ hy5)).trans hy5;replace hy6 := (hb.cell (World.block_lt_of_cell? _ _ hy6)).trans hy6;replace hy7 := (hb.cell (World.block_lt_of_cell? _ _ hy7)).trans hy7;replace hy8 := (hb.cell (World.block_lt_of_cell? _ _ hy8)).trans hy8;have HB3 := Aside0.mk (below_step HB2.out hb);clear HB2;clear hb;refine hK.out _ _ ⟨h0, h1, hx0, hx1, hx2, hx3, hx4, hx5, hx6, hx7, hx8, hy0, hy1, hy2, hy3, hy4, hy5, hy6, hy7, hy8⟩ (fun hHeld => ?_);clear hK K;refine znorm ?_;refine zp (i := 9) (N := some 3) (bitsA 10 1023) HT_ ?_;refine done_ (done_of HT_.out (by kernel_rfl)) ?_
 try go_wp2
 go_ret;exact ⟨rfl, HB3.out⟩
set_option maxHeartbeats 1000000 in
/-- slices.IndexFunc over the parts. -/
theorem likeIdx.calls (y : List (S29)) (A1 : Option Addr) (c1 : Nat) (gb : Nat) (A : Option Addr) (c : Nat) (xs : List (S36)) (w : World) (hr : Kd.C k36 w A xs.length xs) (hbig : xs.length ≤ 9223372036854775807) (hx : ∀ x ∈ xs, 0 < x.f0.length) (hr1 : Kd.C k29 w A1 y.length y) (hl1 : 0 < y.length) (hbx : w.cell? ⟨gb, 0, none⟩ = some (.slice A1 y.length c1)) :
  Calls Try.prog 26 #[.slice A xs.length c, .func (.func 12) #[] #[.pointer (some ⟨gb, 0, none⟩)]] w fun e w' => e = .returned (.int .i64 (likeIdx y xs)) ∧ Below w.heap.size w w' := by
 have hs := World.block_lt_of_cell? w _ hbx;have HR := Aside0.mk hr;have HE := Aside0.mk hx;have HX := Aside0.mk (And.intro hr1 (And.intro hl1 hbx));clear hr hx hr1 hl1 hbx
 go_enter Try.func26, Try.ntmps26
 go_wp2
 go_loopg [5, 8] xs.length (fun gg _ s8 wr => ∃ kk : Nat, kk ≤ xs.length ∧ xs.length - kk ≤ gg ∧ s8 = .int .i64 kk ∧ Aside (Below w.heap.size w wr) ∧ Aside (∀ j : Nat, j < kk → likeB y (rd_T36 xs (j : Int)) = false))
 case atStart => exact ⟨0, Nat.zero_le _, by omega, rfl, Below.refl _ w, fun j hj => absurd hj (Nat.not_lt_zero _)⟩
 case round =>
  obtain ⟨kk, hkk, hg, rfl, BW, NO⟩ := hrel
  by_cases hlt : kk < xs.length
  ·have hltz : (kk : Int) < (xs.length : Int) := by omega
   have h0z : (0 : Int) ≤ (kk : Int) := by omega
   obtain ⟨ad, A2, c2, eA, hx0, hx1, _, hi⟩ := at_T36 HR.out (kk : Int) h0z hltz
   subst eA
   replace hx0 := (BW.out.cell (World.block_lt_of_cell? w _ hx0)).trans hx0;replace hx1 := (BW.out.cell (World.block_lt_of_cell? w _ hx1)).trans hx1;simp only [Int.toNat_natCast] at hx0 hx1
   have hm : 0 < (rd_T36 xs (kk : Int)).f0.length := by rw [likeRd xs kk hlt]; exact HE.out _ (List.getElem_mem hlt)
   have HC := Aside0.mk (likeEq.calls (rd_T36 xs (kk : Int)) A2 c2 y A1 c1 gb wr (Kd.C_below hi BW.out) hm (Kd.C_below HX.out.1 BW.out) HX.out.2.1 ((BW.out.cell (p := ⟨gb, 0, none⟩) hs).trans HX.out.2.2));clear hi hm
   generalize hy : rd_T36 xs (kk : Int) = z at hx0 hx1 HC
   have B : Aside (rd_T36 xs (kk : Int) = z) := hy;clear hy
   cases hq : likeB y z with
   | true =>
    rw [hq] at HC
    go_wp2_with (go_at_call 12; refine HC.out.mono ?_; rintro e w' ⟨rfl, hb'⟩)
    go_ret;refine ⟨?_, below_step BW.out hb'⟩
    rw [likeIdx_hit y xs kk hlt (by rw [B.out]; exact hq) NO.out]
    rfl
   | false =>
    rw [hq] at HC
    go_wp2_with (go_at_call 12; refine HC.out.mono ?_; rintro e w' ⟨rfl, hb'⟩)
    go_roundg (xs.length - (kk + 1))
    case measure => omega
    case rel =>
     refine ⟨kk + 1, by omega, by omega, by go_num, below_step BW.out hb', (show Aside _ from fun j hj => ?_)⟩
     by_cases e : j = kk
     ·subst e
      rw [B.out]; exact hq
     ·exact NO.out j (by omega)
  ·have hltz : ¬ (kk : Int) < (xs.length : Int) := by omega
   obtain rfl : kk = xs.length := by omega
   go_wp2
   go_ret;exact ⟨by rw [likeIdx_miss y xs NO.out]; rfl, BW.out⟩
/-- Whether a part begins like these pieces. -/
def impl_Part_11.f (l0 : List (S36)) (l1_0 : List (S29)) (a1_1 : Int) : Option (Bool) := if l0.length ≤ 1099511627776 ∧ (∀ x ∈ l0, 0 < x.f0.length) ∧ 0 < l1_0.length then some (l0.any (likeB l1_0)) else none
set_option maxHeartbeats 1000000 in
/-- slices.ContainsFunc over the parts; the closure holds the place of the part that it was made for. -/
theorem impl_Part_11.calls (gb : Nat) (A0 : Option Addr) (c0 : Nat) (l0 : List (S36)) (A1_0 : Option Addr) (c1_0 : Nat) (l1_0 : List (S29)) (a1_1 : Int) (r : Bool) (w : World) (hr0 : Kd.C k36 w A0 l0.length l0) (hc0 : l0.length ≤ c0) (hr1_0 : Kd.C k29 w A1_0 l1_0.length l1_0) (hc1_0 : l1_0.length ≤ c1_0) (hbx : w.cell? ⟨gb, 0, none⟩ = some (.slice A1_0 l1_0.length c1_0)) (h : impl_Part_11.f l0 l1_0 a1_1 = some r) :
  Calls Try.prog 11 #[.slice A0 l0.length c0, .func (.func 12) #[] #[.pointer (some ⟨gb, 0, none⟩)]] w fun e w' => e = .returned (.bool r) ∧ Below w.heap.size w w' := by
 unfold impl_Part_11.f at h
 by_cases hb : l0.length ≤ 1099511627776 ∧ (∀ x ∈ l0, 0 < x.f0.length) ∧ 0 < l1_0.length
 ·rw [if_pos hb] at h
  obtain rfl := Option.some.inj h;clear h hc0;have HC := Aside0.mk (likeIdx.calls l1_0 A1_0 c1_0 gb A0 c0 l0 w hr0 (by omega) hb.2.1 hr1_0 hb.2.2 hbx);clear hr0 hb hr1_0 hc1_0 hbx
  rw [← likeIdx_any]
  generalize likeIdx l1_0 l0 = q at HC
  go_enter Try.func11, Try.ntmps11
  go_wp2_with (go_at_call 26; refine HC.out.mono ?_; rintro e w' ⟨rfl, hb'⟩)
  go_ret;exact ⟨rfl, hb'⟩
 ·rw [if_neg hb] at h; cases h

end Go.Proofs.Ytdbmmkhaeghjaaa.PFnPartsOk

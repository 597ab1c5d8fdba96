/- The machine side of some functions: each comes to its pure answer (written by a program of this session with the kit's print). No condition. -/
import Derived.Test.YtdbmmkhaeghjaaaPFnPartsOkx0
import Derived.Test.YtdbmmkhaeghjaaaPFnPartsOkx7
import Derived.Test.YtdbmmkhaeghjaaaPFnPartsOkx15
import Derived.Test.YtdbmmkhaeghjaaaPFnPartsOkx16
namespace Go.Proofs.Ytdbmmkhaeghjaaa.PFnPartsOk
open Go.RowKit Go.Proofs.YtdbmmkhaeghjaaaUFnPartsOk.PrintWords Go.Proofs.YtdbmmkhaeghjaaaUFnPartsOk.PrintLast Go.Proofs.YtdbmmkhaeghjaaaUFnPartsOk.PrintMore
attribute [local go_sem] max2_int min2_int max_two min_two max_three min_three max_four min_four   -- for this text's walks alone
set_option linter.unusedVariables false
set_option linter.unusedSimpArgs false

/-! ### impl_PartsOk: function 5 -/
def impl_PartsOk.l0 : Nat → List (S36) → List (S36) → Int → Int → Option (Bool)
 | 0, _, _, _, _ => none
 | k + 1, x0, x5, x6, x7 => if x7 < x6 then (if 0 ≤ x7 then (if x7 < (x5.length : Int) then ((impl_PartOk.f k ((rd_T36 x5 x7).f0) ((rd_T36 x5 x7).f1)).bind fun t612 => (if t612 = true then (if x7 ≤ (x0.length : Int) then ((impl_Part_11.f (x0.take (x7 : Int).toNat) ((rd_T36 x5 x7).f0) ((rd_T36 x5 x7).f1)).bind fun t617 => (if t617 = true then (some false) else (impl_PartsOk.l0 k x0 x5 x6 (wrap64 (x7 + 1))))) else (none)) else (some false))) else (none)) else (none)) else (some (decide ((x0.length : Int) ≤ 3)))
def impl_PartsOk.f (k : Nat) (l0 : List (S36)) : Option (Bool) := impl_PartsOk.l0 k l0 l0 (l0.length : Int) 0
theorem impl_PartsOk.mono_l : ∀ k, (∀ y0 y1 y2 y3, LeO (impl_PartsOk.l0 k y0 y1 y2 y3) (impl_PartsOk.l0 (k + 1) y0 y1 y2 y3))
 | 0 => fun _ _ _ _ r h => by simp [impl_PartsOk.l0] at h
 | k + 1 => by
  have ih0 := impl_PartsOk.mono_l k
  ·intro y0 y1 y2 y3
   unfold impl_PartsOk.l0
   repeat' first
   | (with_reducible exact ih0 _ _ _ _)
   | (with_reducible exact impl_PartOk.mono _ _ _)
   | (with_reducible exact LeO.refl _)
   | (with_reducible exact LeO.none _)
   | (with_reducible refine LeO.ite ?_ ?_)
   | (with_reducible refine LeO.bind ?_ (fun _ => ?_))
   | exact ih0 _ _ _ _
   | exact impl_PartOk.mono _ _ _
   | exact LeO.none _
   | refine LeO.ite ?_ ?_
   | refine LeO.bind ?_ (fun _ => ?_)
theorem impl_PartsOk.mono : ∀ a0 k, LeO (impl_PartsOk.f k a0) (impl_PartsOk.f (k + 1) a0) := by
 intro a0 k;have ih0 := impl_PartsOk.mono_l k
 unfold impl_PartsOk.f
 repeat' first
   | (with_reducible exact ih0 _ _ _ _)
   | (with_reducible exact impl_PartOk.mono _ _ _)
   | (with_reducible exact LeO.refl _)
   | (with_reducible exact LeO.none _)
   | (with_reducible refine LeO.ite ?_ ?_)
   | (with_reducible refine LeO.bind ?_ (fun _ => ?_))
   | exact ih0 _ _ _ _
   | exact impl_PartOk.mono _ _ _
   | exact LeO.none _
   | refine LeO.ite ?_ ?_
   | refine LeO.bind ?_ (fun _ => ?_)
set_option maxHeartbeats 8000000 in
set_option maxRecDepth 100000 in
theorem impl_PartsOk.calls (k : Nat) (A0 : Option Addr) (c0 : Nat) (l0 : List (S36)) (r : Bool) (w : World) (hr0 : Kd.C k36 w A0 l0.length l0) (hc0 : l0.length ≤ c0) (h : impl_PartsOk.f k l0 = some r) :
  Calls Try.prog 5 #[.slice A0 l0.length c0] w fun e w' => e = .returned (.bool r) ∧ Below w.heap.size w w' := by
 have hu36 := Try.underlying36;have HR0 := Aside0.mk hr0;have HC0 := Aside0.mk hc0;clear hr0 hc0;have HB := Aside0.mk (Below.refl w.heap.size w);have H : (impl_PartsOk.l0 k l0 l0 (l0.length : Int) 0) = some r := h;clear h;have H' := Aside0.mk H;clear H
 go_enter Try.func5, Try.ntmps5
 go_wp2
 go_loopg [7] k (fun kq v7 w' => ∃ (x7_1 : Int), v7 = .int .i64 x7_1 ∧ Aside0 (impl_PartsOk.l0 kq l0 l0 (l0.length : Int) x7_1 = some r) ∧ Aside0 (kq ≤ k) ∧ Aside0 (Below w.heap.size w w'))
 case atStart => exact ⟨(0), z1, H', ⟨Nat.le_refl _⟩, ⟨zB HB⟩⟩
 case round =>
  clear H';obtain ⟨x7_1, rfl, HA, HK1, HB⟩ := hrel
  cases gk with
  | zero => exact absurd HA.out (by simp [impl_PartsOk.l0])
  | succ k1 =>
   have H := HA.out;clear HA;simp only [impl_PartsOk.l0] at H
   by_cases c2 : x7_1 < (l0.length : Int)
   ·rw [if_pos c2] at H
    have c2b0 : decide (x7_1 < (l0.length : Int)) = true := decide_eq_true c2;clear c2
    by_cases c3 : 0 ≤ x7_1
    ·rw [if_pos c3] at H
     have c3b0 : decide (0 ≤ x7_1) = true := decide_eq_true c3;clear c3
     by_cases c4 : x7_1 < (l0.length : Int)
     ·rw [if_pos c4] at H
      have c4b0 : decide (x7_1 < (l0.length : Int)) = true := decide_eq_true c4;clear c4;replace H := zf H;obtain ⟨t612, A5, H⟩ := H
      by_cases c6 : t612 = true
      ·subst c6
       rw [if_pos rfl] at H;have c7b0 := eq_true (of_decide_eq_true (by first | (with_reducible assumption) | assumption) : 0 ≤ x7_1)
       by_cases c8 : x7_1 ≤ (l0.length : Int)
       ·rw [if_pos c8] at H
        have c8b0 := eq_true c8;have c8b1 : decide (x7_1 ≤ (l0.length : Int)) = true := decide_eq_true c8;clear c8;(first | (with_reducible (replace H := zy H); obtain ⟨y613, Ny613, H⟩ := H) | (obtain ⟨y613, hy613⟩ : ∃ y_ : List (S36), y_ = (l0.take (x7_1 : Int).toNat) := ⟨_, rfl⟩; (try rw [← hy613] at H); have Ny613 := Aside0.mk hy613; clear hy613));replace H := zf H;obtain ⟨t617, A9, H⟩ := H
        by_cases c10 : t617 = true
        ·subst c10
         rw [if_pos rfl] at H;obtain rfl := Option.some.inj H;have p610 : 0 ≤ (x7_1 : Int) := of_decide_eq_true (by first | (with_reducible assumption) | assumption);have q610 : x7_1 < (l0.length : Int) := of_decide_eq_true (by first | (with_reducible assumption) | assumption);obtain ⟨ad610, A610_0, c610_0, e610, hx610_0, hx610_1, hl610_0, hi610_0⟩ := at_T36 HR0.out x7_1 p610 q610
         cases e610
         replace hx610_0 := zk HB.out hx610_0;replace hx610_1 := zk HB.out hx610_1;have HR610_0 := Aside0.mk hi610_0;have HC610_0 := Aside0.mk hl610_0;clear hi610_0 hl610_0;replace p610 := eq_true p610;replace q610 := eq_true q610
         go_wp2_with (first | ((with_reducible refine gate_dst (N := 4) rfl ?_); refine box_event (by rfl) (N := 4) (by rfl) (cs := #[.slice none 0 0, .int .i64 0]) (t := 36) zr ?_; intro gb611 hg w11 hbox hb; have BK611 := Aside0.mk (hbox); have GW611 := zg HB hg; replace HB := zbb HB hb; have GE611 := GW611; clear hb hbox hg; obtain ⟨_, _, _, _⟩ := zc2 BK611.out) | ((with_reducible refine gate_callee (f := 10) rfl ?_); refine goesL_ (some 13) rfl rfl Try.func10 (by kernel_rfl) rfl #[.agg #[.slice A610_0 ((rd_T36 l0 x7_1).f0).length c610_0, .int .i64 ((rd_T36 l0 x7_1).f1)]] rfl zM ?_; (with_reducible refine (impl_PartOk.calls k1 _ _ ((rd_T36 l0 x7_1).f0) ((rd_T36 l0 x7_1).f1) true _ ?side1 ?side2 A5.out).mono ?_); (case side1 => exact Kd.C_below HR610_0.out (zB HB)); (case side2 => exact HC610_0.out); rintro e w13 ⟨rfl, hb⟩; refine ⟨_, rfl, ?_⟩; replace BK611 := Aside0.mk (blk_below (g := gb611) (o := .cells #[.slice A610_0 ((rd_T36 l0 x7_1).f0).length c610_0, .int .i64 ((rd_T36 l0 x7_1).f1)] 36 (0, 0)) (zW (zpt (zpt (zK BK611)))) hb); replace HB := zbb HB hb; (try clear hb); (try clear hb2); (try clear hk); (try clear hi); have q14 : (x7_1 : Int) ≤ ((l0.length : Int) : Int) := of_decide_eq_true (by first | (with_reducible assumption) | assumption); obtain ⟨i014, hi014, _, hsz14, _⟩ := info_parts info36; have hroom14 : l0.length ≤ c0 := HC0.out; have hC14 : Kd.C k36 _ (some ad610) l0.length l0 := HR0.out; have hcut14 := cut_to (P := Try.prog) 23 36 .i64 Try.underlying23 hi014 (some ad610) l0.length c0 x7_1 (of_decide_eq_true (by first | (with_reducible assumption) | assumption)) q14 hroom14; have hr14 := Kd.C_take (m := (x7_1 : Int).toNat) hC14 (by omega); have hy14 : y613.length = (x7_1 : Int).toNat := (by rw [Ny613.out, List.length_take]; omega); rw [← Ny613.out] at hr14; rw [← hy14] at hcut14; have HR616 := Aside0.mk hr14; have HC616 := Aside0.mk (show y613.length ≤ c0 from by omega); clear hr14 hC14 hroom14 hi014 hsz14; have KY14 := Aside0.mk hy14; clear hy14; replace q14 := eq_true q14; obtain ⟨_, _, _, _⟩ := zc2 BK611.out) | (go_at_call 11; (with_reducible refine (impl_Part_11.calls gb611 _ _ y613 A610_0 c610_0 ((rd_T36 l0 x7_1).f0) ((rd_T36 l0 x7_1).f1) true _ ?side1 ?side2 ?side3 ?side4 ?side5 A9.out).mono ?_); (case side1 => exact zC HR616 HB); (case side2 => exact HC616.out); (case side3 => exact zC HR610_0 HB); (case side4 => exact HC610_0.out); (case side5 => assumption); rintro e w16 ⟨rfl, hb⟩; replace BK611 := zq BK611 hb; replace HB := zbb HB hb; (try clear hb); (try clear hb2); (try clear hk); (try clear hi)))
         go_ret;exact ⟨by first | rfl | (simp <;> rfl) | (simp [*] <;> rfl), zB HB⟩
        ·replace c10 := Bool.eq_false_iff.mpr c10
         subst c10
         rw [if_neg (show ¬ (false = true) by decide)] at H;have H' := Aside0.mk H;clear H;have p610 : 0 ≤ (x7_1 : Int) := of_decide_eq_true (by first | (with_reducible assumption) | assumption);have q610 : x7_1 < (l0.length : Int) := of_decide_eq_true (by first | (with_reducible assumption) | assumption);obtain ⟨ad610, A610_0, c610_0, e610, hx610_0, hx610_1, hl610_0, hi610_0⟩ := at_T36 HR0.out x7_1 p610 q610
         cases e610
         replace hx610_0 := zk HB.out hx610_0;replace hx610_1 := zk HB.out hx610_1;have HR610_0 := Aside0.mk hi610_0;have HC610_0 := Aside0.mk hl610_0;clear hi610_0 hl610_0;replace p610 := eq_true p610;replace q610 := eq_true q610
         go_wp2_with (first | ((with_reducible refine gate_dst (N := 4) rfl ?_); refine box_event (by rfl) (N := 4) (by rfl) (cs := #[.slice none 0 0, .int .i64 0]) (t := 36) zr ?_; intro gb611 hg w17 hbox hb; have BK611 := Aside0.mk (hbox); have GW611 := zg HB hg; replace HB := zbb HB hb; have GE611 := GW611; clear hb hbox hg; obtain ⟨_, _, _, _⟩ := zc2 BK611.out) | ((with_reducible refine gate_callee (f := 10) rfl ?_); refine goesL_ (some 13) rfl rfl Try.func10 (by kernel_rfl) rfl #[.agg #[.slice A610_0 ((rd_T36 l0 x7_1).f0).length c610_0, .int .i64 ((rd_T36 l0 x7_1).f1)]] rfl zM ?_; (with_reducible refine (impl_PartOk.calls k1 _ _ ((rd_T36 l0 x7_1).f0) ((rd_T36 l0 x7_1).f1) true _ ?side1 ?side2 A5.out).mono ?_); (case side1 => exact Kd.C_below HR610_0.out (zB HB)); (case side2 => exact HC610_0.out); rintro e w19 ⟨rfl, hb⟩; refine ⟨_, rfl, ?_⟩; replace BK611 := Aside0.mk (blk_below (g := gb611) (o := .cells #[.slice A610_0 ((rd_T36 l0 x7_1).f0).length c610_0, .int .i64 ((rd_T36 l0 x7_1).f1)] 36 (0, 0)) (zW (zpt (zpt (zK BK611)))) hb); replace HB := zbb HB hb; (try clear hb); (try clear hb2); (try clear hk); (try clear hi); have q20 : (x7_1 : Int) ≤ ((l0.length : Int) : Int) := of_decide_eq_true (by first | (with_reducible assumption) | assumption); obtain ⟨i020, hi020, _, hsz20, _⟩ := info_parts info36; have hroom20 : l0.length ≤ c0 := HC0.out; have hC20 : Kd.C k36 _ (some ad610) l0.length l0 := HR0.out; have hcut20 := cut_to (P := Try.prog) 23 36 .i64 Try.underlying23 hi020 (some ad610) l0.length c0 x7_1 (of_decide_eq_true (by first | (with_reducible assumption) | assumption)) q20 hroom20; have hr20 := Kd.C_take (m := (x7_1 : Int).toNat) hC20 (by omega); have hy20 : y613.length = (x7_1 : Int).toNat := (by rw [Ny613.out, List.length_take]; omega); rw [← Ny613.out] at hr20; rw [← hy20] at hcut20; have HR616 := Aside0.mk hr20; have HC616 := Aside0.mk (show y613.length ≤ c0 from by omega); clear hr20 hC20 hroom20 hi020 hsz20; have KY20 := Aside0.mk hy20; clear hy20; replace q20 := eq_true q20; obtain ⟨_, _, _, _⟩ := zc2 BK611.out) | (go_at_call 11; (with_reducible refine (impl_Part_11.calls gb611 _ _ y613 A610_0 c610_0 ((rd_T36 l0 x7_1).f0) ((rd_T36 l0 x7_1).f1) false _ ?side1 ?side2 ?side3 ?side4 ?side5 A9.out).mono ?_); (case side1 => exact zC HR616 HB); (case side2 => exact HC616.out); (case side3 => exact zC HR610_0 HB); (case side4 => exact HC610_0.out); (case side5 => assumption); rintro e w22 ⟨rfl, hb⟩; replace BK611 := zq BK611 hb; replace HB := zbb HB hb; (try clear hb); (try clear hb2); (try clear hk); (try clear hi)))
         go_roundg k1
         case measure => have := HK1.out; omega
         case rel => exact ⟨(wrap64 (x7_1 + 1)), z1, H', ⟨by have := HK1.out; omega⟩, ⟨zB HB⟩⟩
       ·rw [if_neg c8] at H
        exact absurd H (by simp)
      ·replace c6 := Bool.eq_false_iff.mpr c6
       subst c6
       rw [if_neg (show ¬ (false = true) by decide)] at H;obtain rfl := Option.some.inj H;have p610 : 0 ≤ (x7_1 : Int) := of_decide_eq_true (by first | (with_reducible assumption) | assumption);have q610 : x7_1 < (l0.length : Int) := of_decide_eq_true (by first | (with_reducible assumption) | assumption);obtain ⟨ad610, A610_0, c610_0, e610, hx610_0, hx610_1, hl610_0, hi610_0⟩ := at_T36 HR0.out x7_1 p610 q610
       cases e610
       replace hx610_0 := zk HB.out hx610_0;replace hx610_1 := zk HB.out hx610_1;have HR610_0 := Aside0.mk hi610_0;have HC610_0 := Aside0.mk hl610_0;clear hi610_0 hl610_0;replace p610 := eq_true p610;replace q610 := eq_true q610
       go_wp2_with (first | ((with_reducible refine gate_dst (N := 4) rfl ?_); refine box_event (by rfl) (N := 4) (by rfl) (cs := #[.slice none 0 0, .int .i64 0]) (t := 36) zr ?_; intro gb611 hg w23 hbox hb; have BK611 := Aside0.mk (hbox); have GW611 := zg HB hg; replace HB := zbb HB hb; have GE611 := GW611; clear hb hbox hg; obtain ⟨_, _, _, _⟩ := zc2 BK611.out) | ((with_reducible refine gate_callee (f := 10) rfl ?_); refine goesL_ (some 13) rfl rfl Try.func10 (by kernel_rfl) rfl #[.agg #[.slice A610_0 ((rd_T36 l0 x7_1).f0).length c610_0, .int .i64 ((rd_T36 l0 x7_1).f1)]] rfl zM ?_; (with_reducible refine (impl_PartOk.calls k1 _ _ ((rd_T36 l0 x7_1).f0) ((rd_T36 l0 x7_1).f1) false _ ?side1 ?side2 A5.out).mono ?_); (case side1 => exact Kd.C_below HR610_0.out (zB HB)); (case side2 => exact HC610_0.out); rintro e w25 ⟨rfl, hb⟩; refine ⟨_, rfl, ?_⟩; replace BK611 := Aside0.mk (blk_below (g := gb611) (o := .cells #[.slice A610_0 ((rd_T36 l0 x7_1).f0).length c610_0, .int .i64 ((rd_T36 l0 x7_1).f1)] 36 (0, 0)) (zW (zpt (zpt (zK BK611)))) hb); replace HB := zbb HB hb; (try clear hb); (try clear hb2); (try clear hk); (try clear hi)))
       go_ret;exact ⟨by first | rfl | (simp <;> rfl) | (simp [*] <;> rfl), zB HB⟩
     ·rw [if_neg c4] at H
      exact absurd H (by simp)
    ·rw [if_neg c3] at H
     exact absurd H (by simp)
   ·rw [if_neg c2] at H
    have c2b0 : decide (x7_1 < (l0.length : Int)) = false := decide_eq_false c2;clear c2;obtain rfl := Option.some.inj H
    go_wp2
    go_ret;exact ⟨by first | rfl | (simp <;> rfl) | (simp [*] <;> rfl), zB HB⟩

/-! ### impl_bytesOf: function 29 -/
def impl_bytesOf.l0 : Nat → Int → List Int → Int → Option (List Int)
 | 0, _, _, _ => none
 | k + 1, x0, x5, x6 => if x6 ≥ 0 then (if 0 ≤ x6 then (if x6 < (x5.length : Int) then (impl_bytesOf.l0 k (x0 / 256) (x5.set (x6 : Int).toNat ((x0) % 256)) (wrap64 (x6 - 1))) else (none)) else (none)) else (some x5)
def impl_bytesOf.f (k : Nat) (a0 : Int) (a1 : Int) : Option (List Int) := if 0 ≤ a1 then (if (a1 : Int).toNat ≤ 281474976710656 then (impl_bytesOf.l0 k a0 (List.replicate (a1 : Int).toNat 0) (wrap64 (a1 - 1))) else (none)) else (none)
theorem impl_bytesOf.mono_l : ∀ k, (∀ y0 y1 y2, LeO (impl_bytesOf.l0 k y0 y1 y2) (impl_bytesOf.l0 (k + 1) y0 y1 y2))
 | 0 => fun _ _ _ r h => by simp [impl_bytesOf.l0] at h
 | k + 1 => by
  have ih0 := impl_bytesOf.mono_l k
  ·intro y0 y1 y2
   unfold impl_bytesOf.l0
   repeat' first
   | (with_reducible exact ih0 _ _ _)
   | (with_reducible exact LeO.refl _)
   | (with_reducible exact LeO.none _)
   | (with_reducible refine LeO.ite ?_ ?_)
   | (with_reducible refine LeO.bind ?_ (fun _ => ?_))
   | exact ih0 _ _ _
   | exact LeO.none _
   | refine LeO.ite ?_ ?_
   | refine LeO.bind ?_ (fun _ => ?_)
theorem impl_bytesOf.mono : ∀ a0 a1 k, LeO (impl_bytesOf.f k a0 a1) (impl_bytesOf.f (k + 1) a0 a1) := by
 intro a0 a1 k;have ih0 := impl_bytesOf.mono_l k
 unfold impl_bytesOf.f
 repeat' first
   | (with_reducible exact ih0 _ _ _)
   | (with_reducible exact LeO.refl _)
   | (with_reducible exact LeO.none _)
   | (with_reducible refine LeO.ite ?_ ?_)
   | (with_reducible refine LeO.bind ?_ (fun _ => ?_))
   | exact ih0 _ _ _
   | exact LeO.none _
   | refine LeO.ite ?_ ?_
   | refine LeO.bind ?_ (fun _ => ?_)
set_option maxHeartbeats 8000000 in
set_option maxRecDepth 100000 in
theorem impl_bytesOf.calls (k : Nat) (a0 : Int) (a1 : Int) (r : List Int) (w : World) (h : impl_bytesOf.f k a0 a1 = some r) :
  Calls Try.prog 29 #[.int .i64 a0, .int .i64 a1] w fun e w' => ∃ v0_ : Value, e = .returned (v0_) ∧ Kd.R (Kd.int .u8) 5 w' w.heap.size (fun _ => True) v0_ r ∧ Below w.heap.size w w' := by
 have HB := Aside0.mk (Below.refl w.heap.size w);have H : (if 0 ≤ a1 then (if (a1 : Int).toNat ≤ 281474976710656 then (impl_bytesOf.l0 k a0 (List.replicate (a1 : Int).toNat 0) (wrap64 (a1 - 1))) else (none)) else (none)) = some r := h;clear h
 by_cases c3 : 0 ≤ a1
 ·rw [if_pos c3] at H
  have c3b0 := eq_true c3;have c3b1 : decide (0 ≤ a1) = true := decide_eq_true c3;clear c3
  by_cases c4 : (a1 : Int).toNat ≤ 281474976710656
  ·rw [if_pos c4] at H
   have c4b0 := eq_true c4;have c4b1 : decide ((a1 : Int).toNat ≤ 281474976710656) = true := decide_eq_true c4;clear c4;(first | (with_reducible (replace H := zy H); obtain ⟨y618, Ny618, H⟩ := H) | (obtain ⟨y618, hy618⟩ : ∃ y_ : List Int, y_ = (List.replicate (a1 : Int).toNat 0) := ⟨_, rfl⟩; (try rw [← hy618] at H); have Ny618 := Aside0.mk hy618; clear hy618));have H' := Aside0.mk H;clear H
   go_enter Try.func29, Try.ntmps29
   go_wp2_with (first | ((with_reducible refine gate_dst (N := 8) rfl ?_); refine Kd.R_make (Kd.int .u8) _ 5 rfl (N := 8) rfl 22 _ _ rfl a1 rfl rfl Try.underlying22 (.int .u8 0) 1 info5 rfl (by decide) (by omega) 0 (ok := fun _ => True) (okp := fun _ => True) rfl (fun _ hk => hk) trivial (of_decide_eq_true (by first | (with_reducible assumption) | assumption)) (Nat.le_trans (Nat.mul_le_mul_right _ (of_decide_eq_true (by first | (with_reducible assumption) | assumption) : a1.toNat ≤ 281474976710656)) (by omega)) (Below.refl _ _) (Nat.le_refl _) ?_; intro v619 w5 ho6 hb hg_ hnew_; clear hg_ hnew_; (first | rw [← Ny618.out] at ho6 | (simp only [Int.reduceToNat] at ho6; rw [← Ny618.out] at ho6)); have HO620 := Aside0.mk (Kd.R_lower ho6 (below_size (zB HB))); replace HB := zbb HB hb; clear hb ho6))
   go_loopg [0, 6] k (fun kq v0 v6 w' => ∃ (x0_1 : Int) (x5_1 : List Int) (x6_1 : Int), v0 = .int .i64 x0_1 ∧ v6 = .int .i64 x6_1 ∧ Aside0 (impl_bytesOf.l0 kq x0_1 x5_1 x6_1 = some r) ∧ Aside0 (kq ≤ k) ∧ Aside0 (Kd.R (Kd.int .u8) 5 w' w.heap.size (fun _ => True) v619 x5_1) ∧ Aside0 (Below w.heap.size w w'))
   case atStart => exact ⟨(a0), (y618), (wrap64 (a1 - 1)), z1, z1, H', ⟨Nat.le_refl _⟩, ⟨zO HO620⟩, ⟨zB HB⟩⟩
   case round =>
    clear H'
    try clear c3
    try clear c3b0
    try clear c3b1
    try clear c4
    try clear c4b0
    try clear c4b1
    obtain ⟨x0_1, x5_1, x6_1, rfl, rfl, HA, HK1, HO_5, HB⟩ := hrel
    cases gk with
    | zero => exact absurd HA.out (by simp [impl_bytesOf.l0])
    | succ k1 =>
     have H := HA.out;clear HA;simp only [impl_bytesOf.l0] at H
     by_cases c7 : x6_1 ≥ 0
     ·rw [if_pos c7] at H
      have c7b0 : decide (0 ≤ x6_1) = true := decide_eq_true c7;clear c7
      by_cases c8 : 0 ≤ x6_1
      ·rw [if_pos c8] at H
       have c8b0 : decide (0 ≤ x6_1) = true := decide_eq_true c8;clear c8
       by_cases c9 : x6_1 < (x5_1.length : Int)
       ·rw [if_pos c9] at H
        have c9b0 : decide (x6_1 < (x5_1.length : Int)) = true := decide_eq_true c9;clear c9;(first | (with_reducible (replace H := zy H); obtain ⟨y621, Ny621, H⟩ := H) | (obtain ⟨y621, hy621⟩ : ∃ y_ : List Int, y_ = (x5_1.set (x6_1 : Int).toNat ((x0_1) % 256)) := ⟨_, rfl⟩; (try rw [← hy621] at H); have Ny621 := Aside0.mk hy621; clear hy621));have H' := Aside0.mk H;clear H;have p10 : 0 ≤ (x6_1 : Int) := of_decide_eq_true (by first | (with_reducible assumption) | assumption);have q10 : (x6_1 : Int) < ((x5_1.length : Int) : Int) := of_decide_eq_true (by first | (with_reducible assumption) | assumption);obtain ⟨go10, co10, eo10, gb10, gl10, cl10, HG10⟩ := Kd.R_form HO_5.out (by omega)
        (first | cases eo10 | (injection eo10 with ea_ en_ ec_; (first | subst ea_ | (injection ea_ with ea_; subst ea_)); subst ec_; clear en_))
        have GB10 := Aside0.mk gb10;have GG10 := Aside0.mk HG10;clear gb10 gl10 HG10;obtain ⟨hx10_0, hf10_0⟩ := Kd.R_celln 0 HO_5.out (x6_1 : Int) p10 q10;replace p10 := eq_true p10;replace q10 := eq_true q10;have HP11 := Kd.R_putg HO_5.out (x6_1 : Int) ((x0_1) % 256)
        go_wp2_with (first | ((with_reducible refine gate_store (t := 5) (p := 19) rfl ?_); refine store_event (t := 5) (p := 19) (v := ?vo_w12) (w1 := (wr.setCell ⟨go10, (x6_1 : Int).toNat, none⟩ (.int .u8 ((x0_1) % 256)))) ?hg ?ho ?hn ?hr ?_; (case ho => rfl); (case hg => rfl); (case hn => rfl); (case hr => first | (go_simp; done) | (go_simp; rfl)); intro w12 hw; have hg : wr.grownBy w12 (some go10) := (by rw [hw]; exact HP11.2); have hp_ : Kd.R (Kd.int .u8) 5 w12 w.heap.size (fun _ => True) (.slice (some ⟨go10, 0, none⟩) x5_1.length co10) y621 := (by rw [hw, Ny621.out]; exact HP11.1); clear HP11; replace HO_5 := Aside0.mk (hp_); replace HB := Aside0.mk ((by rw [hw]; exact below_set (HB.out) GB10.out : Below w.heap.size w w12)); clear hg hw hp_))
        go_roundg k1
        case measure => have := HK1.out; omega
        case rel => exact ⟨(x0_1 / 256), (y621), (wrap64 (x6_1 - 1)), z1, z1, H', ⟨by have := HK1.out; omega⟩, ⟨zO HO_5⟩, ⟨zB HB⟩⟩
       ·rw [if_neg c9] at H
        exact absurd H (by simp)
      ·rw [if_neg c8] at H
       exact absurd H (by simp)
     ·rw [if_neg c7] at H
      have c7b0 : decide (0 ≤ x6_1) = false := decide_eq_false c7;clear c7;obtain rfl := Option.some.inj H
      go_wp2
      go_ret;exact ⟨_, by first | rfl | (simp <;> rfl) | (simp [*] <;> rfl), by (with_reducible repeat (first | apply Kd.R_alloc | apply Kd.R_drewN | apply Kd.R_drew)); exact HO_5.out, zB HB⟩
  ·rw [if_neg c4] at H
   exact absurd H (by simp)
 ·rw [if_neg c3] at H
  exact absurd H (by simp)

/-! ### impl_BytesOf: function 16 -/
def impl_BytesOf.f (k : Nat) (a0 : Int) (a1 : Int) : Option (List Int) := (impl_in.f a1 1 4).bind fun t622 => (if t622 = true then (if 0 ≤ (wrap64 (8 * a1)) then ((impl_in.f a0 0 (wrap64 ((shl .i64 1 (wrap64 (8 * a1))) - 1))).bind fun t623 => (if t623 = true then ((impl_bytesOf.f k a0 a1).bind fun t624 => (some t624)) else (some ([] : List Int)))) else (none)) else (some ([] : List Int)))
theorem impl_BytesOf.mono : ∀ a0 a1 k, LeO (impl_BytesOf.f k a0 a1) (impl_BytesOf.f (k + 1) a0 a1) := by
 intro a0 a1 k
 unfold impl_BytesOf.f
 repeat' first
   | (with_reducible exact impl_bytesOf.mono _ _ _)
   | (with_reducible exact LeO.refl _)
   | (with_reducible exact LeO.none _)
   | (with_reducible refine LeO.ite ?_ ?_)
   | (with_reducible refine LeO.bind ?_ (fun _ => ?_))
   | exact impl_bytesOf.mono _ _ _
   | exact LeO.none _
   | refine LeO.ite ?_ ?_
   | refine LeO.bind ?_ (fun _ => ?_)
set_option maxHeartbeats 8000000 in
set_option maxRecDepth 100000 in
theorem impl_BytesOf.calls (k : Nat) (a0 : Int) (a1 : Int) (r : List Int) (w : World) (h : impl_BytesOf.f k a0 a1 = some r) :
  Calls Try.prog 16 #[.int .i64 a0, .int .i64 a1] w fun e w' => ∃ v0_ : Value, e = .returned (v0_) ∧ Kd.R (Kd.int .u8) 5 w' w.heap.size (fun _ => True) v0_ r ∧ Below w.heap.size w w' := by
 have HB := Aside0.mk (Below.refl w.heap.size w);have H : ((impl_in.f a1 1 4).bind fun t622 => (if t622 = true then (if 0 ≤ (wrap64 (8 * a1)) then ((impl_in.f a0 0 (wrap64 ((shl .i64 1 (wrap64 (8 * a1))) - 1))).bind fun t623 => (if t623 = true then ((impl_bytesOf.f k a0 a1).bind fun t624 => (some t624)) else (some ([] : List Int)))) else (none)) else (some ([] : List Int)))) = some r := h;clear h;replace H := zf H;obtain ⟨t622, A3, H⟩ := H
 by_cases c4 : t622 = true
 ·subst c4
  rw [if_pos rfl] at H;obtain ⟨ji5, hji5⟩ : ∃ j_ : Int, (wrap64 (8 * a1)) = j_ := ⟨_, rfl⟩
  (first | rw [hji5] at H | simp only [hji5] at H)
  (try rw [hji5] at A3);have hji5w : (IntKind.i64.wrap (8 * a1)) = ji5 := (i64_w _).trans hji5
  by_cases c6 : 0 ≤ (ji5)
  ·rw [if_pos c6] at H
   have c6b0 := eq_true c6;have c6b1 : decide (0 ≤ (ji5)) = true := decide_eq_true c6;clear c6;obtain ⟨ji7, hji7⟩ : ∃ j_ : Int, (shl .i64 1 (ji5)) = j_ := ⟨_, rfl⟩
   (first | rw [hji7] at H | simp only [hji7] at H)
   (try rw [hji7] at A3);have hji7_ : (IntKind.i64.wrap (1 * 2 ^ min (ji5).toNat 64)) = ji7 := hji7;have hji7z : (ji5) ≤ 64 → (IntKind.i64.wrap (1 * 2 ^ (ji5).toNat)) = ji7 := shl_small hji7
   have hji7u : (IntKind.i64.wrap (2 ^ min (ji5).toNat 64)) = ji7 := by have h_ := hji7_; rw [Int.one_mul] at h_; exact h_
   have hji7v : (ji5) ≤ 64 → (IntKind.i64.wrap (2 ^ (ji5).toNat)) = ji7 := fun hle_ => by have h_ := hji7z hle_; rw [Int.one_mul] at h_; exact h_
   have hji7y : (wrap64 (1 * 2 ^ min (ji5).toNat 64)) = ji7 := (i64_w _).symm.trans hji7_;have hji7x : (ji5) ≤ 64 → (wrap64 (1 * 2 ^ (ji5).toNat)) = ji7 := fun h_ => (i64_w _).symm.trans (hji7z h_);replace H := zf H;obtain ⟨t623, A8, H⟩ := H
   by_cases c9 : t623 = true
   ·subst c9
    rw [if_pos rfl] at H;replace H := zf H;obtain ⟨t624, A10, H⟩ := H;obtain rfl := Option.some.inj H
    go_enter Try.func16, Try.ntmps16
    go_wp2_with (first | ((with_reducible refine gate_callee (f := 25) rfl ?_); refine goesL_ (some 6) rfl rfl Try.func25 (by kernel_rfl) rfl #[.int .i64 a1, .int .i64 1, .int .i64 4] rfl zM ?_; (with_reducible refine (impl_in.calls a1 1 4 true _ A3.out).mono ?_); rintro e w' ⟨rfl, ⟨nd, rfl⟩⟩; refine ⟨_, rfl, ?_⟩) | (go_at_call 25; (with_reducible refine (impl_in.calls a0 0 (wrap64 ((ji7) - 1)) true _ A8.out).mono ?_); rintro e w' ⟨rfl, ⟨nd, rfl⟩⟩) | ((with_reducible refine gate_callee (f := 29) rfl ?_); refine goesL_ (some 19) rfl rfl Try.func29 (by kernel_rfl) rfl #[.int .i64 a0, .int .i64 a1] rfl zM ?_; (with_reducible refine (impl_bytesOf.calls k a0 a1 t624 _ A10.out).mono ?_); rintro e w11 ⟨v625, rfl, ho0, hb⟩; refine ⟨_, rfl, ?_⟩; have HO626 := Aside0.mk (Kd.R_lower ho0 (below_size (zB HB))); replace HB := zbb HB hb; (try clear hb); (try clear hb2); (try clear hk); (try clear hi); (try clear ho0)))
    go_ret;exact ⟨_, by first | rfl | (simp <;> rfl) | (simp only [← hji5, ← hji7]; first | rfl | (simp <;> rfl)) | (simp [*] <;> rfl), by (with_reducible repeat (first | apply Kd.R_alloc | apply Kd.R_drewN | apply Kd.R_drew)); exact HO626.out, zB HB⟩
   ·replace c9 := Bool.eq_false_iff.mpr c9
    subst c9
    rw [if_neg (show ¬ (false = true) by decide)] at H;obtain rfl := Option.some.inj H
    go_enter Try.func16, Try.ntmps16
    go_wp2_with (first | ((with_reducible refine gate_callee (f := 25) rfl ?_); refine goesL_ (some 6) rfl rfl Try.func25 (by kernel_rfl) rfl #[.int .i64 a1, .int .i64 1, .int .i64 4] rfl zM ?_; (with_reducible refine (impl_in.calls a1 1 4 true _ A3.out).mono ?_); rintro e w' ⟨rfl, ⟨nd, rfl⟩⟩; refine ⟨_, rfl, ?_⟩) | (go_at_call 25; (with_reducible refine (impl_in.calls a0 0 (wrap64 ((ji7) - 1)) false _ A8.out).mono ?_); rintro e w' ⟨rfl, ⟨nd, rfl⟩⟩))
    go_ret;exact ⟨_, by first | rfl | (simp <;> rfl) | (simp only [← hji5, ← hji7]; first | rfl | (simp <;> rfl)) | (simp [*] <;> rfl), by first | exact Kd.R_nil _ _ _ _ _ | exact Kd.N_nil _ _ _ _ _ | exact Kd.V_nil _ _ _ _ _ | exact Kd.Q_nil _ _ _ _ _ | exact Kd.S_nil _ _ _ _ _, zB HB⟩
  ·rw [if_neg c6] at H
   exact absurd H (by simp)
 ·replace c4 := Bool.eq_false_iff.mpr c4
  subst c4
  rw [if_neg (show ¬ (false = true) by decide)] at H;obtain rfl := Option.some.inj H
  go_enter Try.func16, Try.ntmps16
  go_wp2_with (first | ((with_reducible refine gate_callee (f := 25) rfl ?_); refine goesL_ (some 6) rfl rfl Try.func25 (by kernel_rfl) rfl #[.int .i64 a1, .int .i64 1, .int .i64 4] rfl zM ?_; (with_reducible refine (impl_in.calls a1 1 4 false _ A3.out).mono ?_); rintro e w' ⟨rfl, ⟨nd, rfl⟩⟩; refine ⟨_, rfl, ?_⟩))
  go_ret;exact ⟨_, by first | rfl | (simp <;> rfl) | (simp [*] <;> rfl), by first | exact Kd.R_nil _ _ _ _ _ | exact Kd.N_nil _ _ _ _ _ | exact Kd.V_nil _ _ _ _ _ | exact Kd.Q_nil _ _ _ _ _ | exact Kd.S_nil _ _ _ _ _, zB HB⟩

/-! ### laws_alive: function 7 -/
def laws_alive.f (k : Nat)  : Option (Bool) := (impl_BytesOf.f k 5 1).bind fun t627 => (if (t627.length : Int) = 1 then ((impl_BytesOf.f k 256 1).bind fun t630 => (some ((t630.length : Int) == 0))) else (some false))
theorem laws_alive.mono : ∀ k, LeO (laws_alive.f k ) (laws_alive.f (k + 1) ) := by
 intro  k
 unfold laws_alive.f
 repeat' first
   | (with_reducible exact impl_BytesOf.mono _ _ _)
   | (with_reducible exact LeO.refl _)
   | (with_reducible exact LeO.none _)
   | (with_reducible refine LeO.ite ?_ ?_)
   | (with_reducible refine LeO.bind ?_ (fun _ => ?_))
   | exact impl_BytesOf.mono _ _ _
   | exact LeO.none _
   | refine LeO.ite ?_ ?_
   | refine LeO.bind ?_ (fun _ => ?_)
set_option maxHeartbeats 8000000 in
set_option maxRecDepth 100000 in
theorem laws_alive.calls (k : Nat)  (r : Bool) (w : World) (h : laws_alive.f k  = some r) :
  Calls Try.prog 7 #[] w fun e w' => e = .returned (.bool r) ∧ Below w.heap.size w w' := by
 have HB := Aside0.mk (Below.refl w.heap.size w);have H : ((impl_BytesOf.f k 5 1).bind fun t627 => (if (t627.length : Int) = 1 then ((impl_BytesOf.f k 256 1).bind fun t630 => (some ((t630.length : Int) == 0))) else (some false))) = some r := h;clear h;replace H := zf H;obtain ⟨t627, A1, H⟩ := H
 by_cases c2 : (t627.length : Int) = 1
 ·rw [if_pos c2] at H
  have c2b0 : ((t627.length : Int) == 1) = true := beq_iff_eq.mpr c2;have c2b1 : ((t627.length : Int) != 1) = false := bne_eq_false_iff_eq.mpr c2;clear c2;replace H := zf H;obtain ⟨t630, A3, H⟩ := H;obtain rfl := Option.some.inj H
  go_enter Try.func7, Try.ntmps7
  go_wp2_with (first | ((with_reducible refine gate_callee (f := 16) rfl ?_); refine goesL_ (some 1) rfl rfl Try.func16 (by kernel_rfl) rfl #[.int .i64 5, .int .i64 1] rfl zM ?_; (with_reducible refine (impl_BytesOf.calls k 5 1 t627 _ A1.out).mono ?_); rintro e w4 ⟨v628, rfl, ho0, hb⟩; refine ⟨_, rfl, ?_⟩; have HO629 := Aside0.mk (Kd.R_lower ho0 (below_size (zB HB))); replace HB := zbb HB hb; (try clear hb); (try clear hb2); (try clear hk); (try clear hi); (try clear ho0); obtain ⟨Ao5, co5, eo5⟩ := Kd.R_slice HO629.out; subst eo5) | (go_at_call 16; (with_reducible refine (impl_BytesOf.calls k 256 1 t630 _ A3.out).mono ?_); rintro e w6 ⟨v631, rfl, ho0, hb⟩; have HO632 := Aside0.mk (Kd.R_lower (Kd.R_new' ho0 (Kd.R_lt (zO HO629))) (below_size (zB HB))); replace HO629 := Aside0.mk (Kd.R_elder' (zO HO629) (Kd.R_base ho0) hb); replace HB := zbb HB hb; (try clear hb); (try clear hb2); (try clear hk); (try clear hi); (try clear ho0); obtain ⟨Ao7, co7, eo7⟩ := Kd.R_slice HO632.out; subst eo7))
  go_ret;exact ⟨by first | rfl | (simp <;> rfl) | (simp [*] <;> rfl), zB HB⟩
 ·rw [if_neg c2] at H
  have c2b0 : ((t627.length : Int) == 1) = false := beq_eq_false_iff_ne.mpr c2;have c2b1 : ((t627.length : Int) != 1) = true := bne_iff_ne.mpr c2;obtain rfl := Option.some.inj H
  go_enter Try.func7, Try.ntmps7
  go_wp2_with (first | ((with_reducible refine gate_callee (f := 16) rfl ?_); refine goesL_ (some 1) rfl rfl Try.func16 (by kernel_rfl) rfl #[.int .i64 5, .int .i64 1] rfl zM ?_; (with_reducible refine (impl_BytesOf.calls k 5 1 t627 _ A1.out).mono ?_); rintro e w8 ⟨v628, rfl, ho0, hb⟩; refine ⟨_, rfl, ?_⟩; have HO629 := Aside0.mk (Kd.R_lower ho0 (below_size (zB HB))); replace HB := zbb HB hb; (try clear hb); (try clear hb2); (try clear hk); (try clear hi); (try clear ho0); obtain ⟨Ao9, co9, eo9⟩ := Kd.R_slice HO629.out; subst eo9))
  go_ret;exact ⟨by first | rfl | (simp <;> rfl) | (simp [*] <;> rfl), zB HB⟩

/-! ### laws_FnPartsOk: function 3 -/
mutual
def laws_FnPartsOk.l0 : Nat → List (S36) → Bool → Int → Option (Bool)
 | 0, _, _, _ => none
 | k + 1, x3, x4, x5 => if x5 < (x3.length : Int) then (laws_FnPartsOk.j1 k x3 x4 x5 x4) else (laws_FnPartsOk.j1 k x3 x4 x5 false)
def laws_FnPartsOk.j1 : Nat → List (S36) → Bool → Int → Bool → Option (Bool)
 | 0, _, _, _, _ => none
 | k + 1, x3, x4, x5, x23 => if x23 = true then (if 0 ≤ x5 then (if x5 ≤ (x3.length : Int) then (if x3.length < 1000000000000 then ((impl_PartsOk.f k (x3.take (x5 : Int).toNat)).bind fun t646 => (if t646 = true then (laws_FnPartsOk.l0 k x3 x4 (wrap64 (x5 + 1))) else (some false))) else (none)) else (none)) else (none)) else ((impl_PartsOk.f k (([] : List (S36)))).bind fun t650 => (if t650 = true then ((laws_alive.f k).bind fun t651 => (some t651)) else (some false)))
end
def laws_FnPartsOk.f (k : Nat) (l0 : List Int) : Option (Bool) := if (l0.length : Int) > 1048576 then (some true) else ((spec_DrawPartsOk.f k l0).bind fun t633 => ((impl_PartsOk.f k t633).bind fun t636 => ((spec_PartsOk.f k t633).bind fun t637 => (if (t636 != t637) = true then (some false) else (laws_FnPartsOk.l0 k t633 t636 0)))))
theorem laws_FnPartsOk.mono_l : ∀ k, (∀ y0 y1 y2, LeO (laws_FnPartsOk.l0 k y0 y1 y2) (laws_FnPartsOk.l0 (k + 1) y0 y1 y2)) ∧ (∀ y0 y1 y2 y3, LeO (laws_FnPartsOk.j1 k y0 y1 y2 y3) (laws_FnPartsOk.j1 (k + 1) y0 y1 y2 y3))
 | 0 => ⟨fun _ _ _ r h => by simp [laws_FnPartsOk.l0] at h, fun _ _ _ _ r h => by simp [laws_FnPartsOk.j1] at h⟩
 | k + 1 => by
  obtain ⟨ih0, ih1⟩ := laws_FnPartsOk.mono_l k;refine ⟨?_, ?_⟩
  ·intro y0 y1 y2
   unfold laws_FnPartsOk.l0
   repeat' first
   | (with_reducible exact ih0 _ _ _)
   | (with_reducible exact ih1 _ _ _ _)
   | (with_reducible exact impl_PartsOk.mono _ _)
   | (with_reducible exact laws_alive.mono _)
   | (with_reducible exact spec_DrawPartsOk.mono _ _)
   | (with_reducible exact spec_PartsOk.mono _ _)
   | (with_reducible exact LeO.refl _)
   | (with_reducible exact LeO.none _)
   | (with_reducible refine LeO.ite ?_ ?_)
   | (with_reducible refine LeO.bind ?_ (fun _ => ?_))
   | exact ih0 _ _ _
   | exact ih1 _ _ _ _
   | exact impl_PartsOk.mono _ _
   | exact laws_alive.mono _
   | exact spec_DrawPartsOk.mono _ _
   | exact spec_PartsOk.mono _ _
   | exact LeO.none _
   | refine LeO.ite ?_ ?_
   | refine LeO.bind ?_ (fun _ => ?_)
  ·intro y0 y1 y2 y3
   unfold laws_FnPartsOk.j1
   repeat' first
   | (with_reducible exact ih0 _ _ _)
   | (with_reducible exact ih1 _ _ _ _)
   | (with_reducible exact impl_PartsOk.mono _ _)
   | (with_reducible exact laws_alive.mono _)
   | (with_reducible exact spec_DrawPartsOk.mono _ _)
   | (with_reducible exact spec_PartsOk.mono _ _)
   | (with_reducible exact LeO.refl _)
   | (with_reducible exact LeO.none _)
   | (with_reducible refine LeO.ite ?_ ?_)
   | (with_reducible refine LeO.bind ?_ (fun _ => ?_))
   | exact ih0 _ _ _
   | exact ih1 _ _ _ _
   | exact impl_PartsOk.mono _ _
   | exact laws_alive.mono _
   | exact spec_DrawPartsOk.mono _ _
   | exact spec_PartsOk.mono _ _
   | exact LeO.none _
   | refine LeO.ite ?_ ?_
   | refine LeO.bind ?_ (fun _ => ?_)
theorem laws_FnPartsOk.mono : ∀ a0 k, LeO (laws_FnPartsOk.f k a0) (laws_FnPartsOk.f (k + 1) a0) := by
 intro a0 k;obtain ⟨ih0, ih1⟩ := laws_FnPartsOk.mono_l k
 unfold laws_FnPartsOk.f
 repeat' first
   | (with_reducible exact ih0 _ _ _)
   | (with_reducible exact ih1 _ _ _ _)
   | (with_reducible exact impl_PartsOk.mono _ _)
   | (with_reducible exact laws_alive.mono _)
   | (with_reducible exact spec_DrawPartsOk.mono _ _)
   | (with_reducible exact spec_PartsOk.mono _ _)
   | (with_reducible exact LeO.refl _)
   | (with_reducible exact LeO.none _)
   | (with_reducible refine LeO.ite ?_ ?_)
   | (with_reducible refine LeO.bind ?_ (fun _ => ?_))
   | exact ih0 _ _ _
   | exact ih1 _ _ _ _
   | exact impl_PartsOk.mono _ _
   | exact laws_alive.mono _
   | exact spec_DrawPartsOk.mono _ _
   | exact spec_PartsOk.mono _ _
   | exact LeO.none _
   | refine LeO.ite ?_ ?_
   | refine LeO.bind ?_ (fun _ => ?_)
set_option maxHeartbeats 8000000 in
set_option maxRecDepth 100000 in
theorem laws_FnPartsOk.calls (k : Nat) (A0 : Option Addr) (c0 : Nat) (l0 : List Int) (r : Bool) (w : World) (hr0 : Kd.C (Kd.int .u8) w A0 l0.length l0) (hc0 : l0.length ≤ c0) (h : laws_FnPartsOk.f k l0 = some r) :
  Calls Try.prog 3 #[.slice A0 l0.length c0] w fun e w' => e = .returned (.bool r) ∧ Below w.heap.size w w' := by
 have HR0 := Aside0.mk hr0;have HC0 := Aside0.mk hc0;clear hr0 hc0;have HB := Aside0.mk (Below.refl w.heap.size w);have H : (if (l0.length : Int) > 1048576 then (some true) else ((spec_DrawPartsOk.f k l0).bind fun t633 => ((impl_PartsOk.f k t633).bind fun t636 => ((spec_PartsOk.f k t633).bind fun t637 => (if (t636 != t637) = true then (some false) else (laws_FnPartsOk.l0 k t633 t636 0)))))) = some r := h;clear h
 by_cases c2 : (l0.length : Int) > 1048576
 ·rw [if_pos c2] at H
  have c2b0 : decide (1048576 < (l0.length : Int)) = true := decide_eq_true c2;have c2b1 : decide (1048576 < l0.length) = true := decide_eq_true (by omega);clear c2;obtain rfl := Option.some.inj H
  go_enter Try.func3, Try.ntmps3
  go_wp2
  go_ret;exact ⟨by first | rfl | (simp <;> rfl) | (simp [*] <;> rfl), zB HB⟩
 ·rw [if_neg c2] at H
  have c2b0 : decide (1048576 < (l0.length : Int)) = false := decide_eq_false c2;have c2b1 : decide (1048576 < l0.length) = false := decide_eq_false (by omega);clear c2;replace H := zf H;obtain ⟨t633, A3, H⟩ := H;replace H := zf H;obtain ⟨t636, A4, H⟩ := H;replace H := zf H;obtain ⟨t637, A5, H⟩ := H
  by_cases c6 : (t636 != t637) = true
  ·rw [if_pos c6] at H
   have c6b0 : (t636 != t637) = true := c6;(try (have c6b1 : decide (t636 = t637) = false := by simpa using c6));(try (have c6b2 : (t636 == t637) = false := by simpa using c6));(try (have c6b3 : ¬ (t636 = t637) := by simpa using c6));clear c6;obtain rfl := Option.some.inj H
   go_enter Try.func3, Try.ntmps3
   go_wp2_with (first | ((with_reducible refine gate_callee (f := 4) rfl ?_); refine goesL_ (some 10) rfl rfl Try.func4 (by kernel_rfl) rfl #[.slice A0 l0.length c0] rfl zM ?_; (with_reducible refine (spec_DrawPartsOk.calls k _ _ l0 t633 _ ?side1 ?side2 A3.out).mono ?_); (case side1 => repeat (first | exact HR0.out | (with_reducible first | refine Kd.C_alloc ?_ _ | refine Kd.C_drewN ?_ _ | refine Kd.C_drew ?_))); (case side2 => exact HC0.out); rintro e w7 ⟨v634, rfl, ho0, hb⟩; refine ⟨_, rfl, ?_⟩; have HO635 := Aside0.mk (Kd.N_lower (Kd.N_mono (ok' := fun k_ => True) ho0 (fun k_ hk_ => trivial)) (below_size (zB HB))); replace HB := zbb HB hb; (try clear hb); (try clear hb2); (try clear hk); (try clear hi); (try clear ho0); obtain ⟨Ao8, co8, eo8⟩ := Kd.N_slice HO635.out; subst eo8) | ((with_reducible refine gate_callee (f := 5) rfl ?_); refine goesL_ (some 12) rfl rfl Try.func5 (by kernel_rfl) rfl #[.slice Ao8 t633.length co8] rfl zM ?_; (with_reducible refine (impl_PartsOk.calls k _ _ t633 t636 _ ?side1 ?side2 A4.out).mono ?_); (case side1 => repeat (first | exact (Kd.N_reads' HO635.out).2.2 | (with_reducible first | refine Kd.C_alloc ?_ _ | refine Kd.C_drewN ?_ _ | refine Kd.C_drew ?_))); (case side2 => exact (Kd.N_reads' HO635.out).2.1); rintro e w9 ⟨rfl, hb⟩; refine ⟨_, rfl, ?_⟩; replace HO635 := Aside0.mk (Kd.N_below (zO HO635) hb); replace HB := zbb HB hb; (try clear hb); (try clear hb2); (try clear hk); (try clear hi)) | ((with_reducible refine gate_callee (f := 6) rfl ?_); refine goesL_ (some 15) rfl rfl Try.func6 (by kernel_rfl) rfl #[.slice Ao8 t633.length co8] rfl zM ?_; (with_reducible refine (spec_PartsOk.calls k _ _ t633 t637 _ ?side1 ?side2 A5.out).mono ?_); (case side1 => repeat (first | exact (Kd.N_reads' HO635.out).2.2 | (with_reducible first | refine Kd.C_alloc ?_ _ | refine Kd.C_drewN ?_ _ | refine Kd.C_drew ?_))); (case side2 => exact (Kd.N_reads' HO635.out).2.1); rintro e w10 ⟨rfl, hb⟩; refine ⟨_, rfl, ?_⟩; replace HO635 := Aside0.mk (Kd.N_below (zO HO635) hb); replace HB := zbb HB hb; (try clear hb); (try clear hb2); (try clear hk); (try clear hi)))
   go_ret;exact ⟨by first | rfl | (simp <;> rfl) | (simp [*] <;> rfl), zB HB⟩
  ·rw [if_neg c6] at H
   have c6b0 : (t636 != t637) = false := by simpa using c6
   (try (have c6b1 : decide (t636 = t637) = true := by simpa using c6));(try (have c6b2 : (t636 == t637) = true := by simpa using c6));clear c6;have H' := Aside0.mk H;clear H
   go_enter Try.func3, Try.ntmps3
   go_wp2_with (first | ((with_reducible refine gate_callee (f := 4) rfl ?_); refine goesL_ (some 10) rfl rfl Try.func4 (by kernel_rfl) rfl #[.slice A0 l0.length c0] rfl zM ?_; (with_reducible refine (spec_DrawPartsOk.calls k _ _ l0 t633 _ ?side1 ?side2 A3.out).mono ?_); (case side1 => repeat (first | exact HR0.out | (with_reducible first | refine Kd.C_alloc ?_ _ | refine Kd.C_drewN ?_ _ | refine Kd.C_drew ?_))); (case side2 => exact HC0.out); rintro e w11 ⟨v634, rfl, ho0, hb⟩; refine ⟨_, rfl, ?_⟩; have HO635 := Aside0.mk (Kd.N_lower (Kd.N_mono (ok' := fun k_ => True) ho0 (fun k_ hk_ => trivial)) (below_size (zB HB))); replace HB := zbb HB hb; (try clear hb); (try clear hb2); (try clear hk); (try clear hi); (try clear ho0); obtain ⟨Ao12, co12, eo12⟩ := Kd.N_slice HO635.out; subst eo12) | ((with_reducible refine gate_callee (f := 5) rfl ?_); refine goesL_ (some 12) rfl rfl Try.func5 (by kernel_rfl) rfl #[.slice Ao12 t633.length co12] rfl zM ?_; (with_reducible refine (impl_PartsOk.calls k _ _ t633 t636 _ ?side1 ?side2 A4.out).mono ?_); (case side1 => repeat (first | exact (Kd.N_reads' HO635.out).2.2 | (with_reducible first | refine Kd.C_alloc ?_ _ | refine Kd.C_drewN ?_ _ | refine Kd.C_drew ?_))); (case side2 => exact (Kd.N_reads' HO635.out).2.1); rintro e w13 ⟨rfl, hb⟩; refine ⟨_, rfl, ?_⟩; replace HO635 := Aside0.mk (Kd.N_below (zO HO635) hb); replace HB := zbb HB hb; (try clear hb); (try clear hb2); (try clear hk); (try clear hi)) | ((with_reducible refine gate_callee (f := 6) rfl ?_); refine goesL_ (some 15) rfl rfl Try.func6 (by kernel_rfl) rfl #[.slice Ao12 t633.length co12] rfl zM ?_; (with_reducible refine (spec_PartsOk.calls k _ _ t633 t637 _ ?side1 ?side2 A5.out).mono ?_); (case side1 => repeat (first | exact (Kd.N_reads' HO635.out).2.2 | (with_reducible first | refine Kd.C_alloc ?_ _ | refine Kd.C_drewN ?_ _ | refine Kd.C_drew ?_))); (case side2 => exact (Kd.N_reads' HO635.out).2.1); rintro e w14 ⟨rfl, hb⟩; refine ⟨_, rfl, ?_⟩; replace HO635 := Aside0.mk (Kd.N_below (zO HO635) hb); replace HB := zbb HB hb; (try clear hb); (try clear hb2); (try clear hk); (try clear hi)))
   go_loopg [5] k (fun kq v5 w' => ∃ (x5_1 : Int), v5 = .int .i64 x5_1 ∧ Aside0 (laws_FnPartsOk.l0 kq t633 t636 x5_1 = some r) ∧ Aside0 (kq ≤ k) ∧ Aside0 (Kd.N k36 36 w' w.heap.size (fun _ => True) (.slice Ao12 t633.length co12) t633) ∧ Aside0 (Below w.heap.size w w'))
   case atStart => exact ⟨(0), z1, H', ⟨Nat.le_refl _⟩, ⟨zO HO635⟩, ⟨zB HB⟩⟩
   case round =>
    clear H'
    try clear c2
    try clear c2b0
    try clear c2b1
    try clear c6
    try clear c6b0
    try clear c6b1
    try clear c6b2
    obtain ⟨x5_1, rfl, HA, HK1, HO_3, HB⟩ := hrel
    cases gk with
    | zero => exact absurd HA.out (by simp [laws_FnPartsOk.l0])
    | succ k1 =>
     have H := HA.out;clear HA;simp only [laws_FnPartsOk.l0] at H;have HC15 := Aside0.mk H;clear H
     go_upto_region 8 with (fail)
     go_cut [23] (fun v23 wc => ∃ (kq : Nat) (x23_14 : Bool), v23 = .bool x23_14 ∧ Aside0 (laws_FnPartsOk.j1 kq t633 t636 x5_1 x23_14 = some r) ∧ Aside0 (kq ≤ k1) ∧ Aside0 (Kd.N k36 36 wc w.heap.size (fun _ => True) (.slice Ao12 t633.length co12) t633) ∧ Aside0 (Below w.heap.size w wc))
     case first =>
      have H := HC15.out;clear HC15
      by_cases c16 : x5_1 < (t633.length : Int)
      ·rw [if_pos c16] at H
       have c16b0 : decide (x5_1 < (t633.length : Int)) = true := decide_eq_true c16;clear c16
       (first | rw [c16b0] | (simp only [i64_w, i32_w]; rw [c16b0]) | skip)
       have H' := Aside0.mk H;clear H
       go_wp2
       go_meet
       case rel => exact ⟨_, (t636), z1, H', ⟨by have := HK1.out; first | omega | exact Nat.le_refl _⟩, ⟨zO HO_3⟩, ⟨zB HB⟩⟩
      ·rw [if_neg c16] at H
       have c16b0 : decide (x5_1 < (t633.length : Int)) = false := decide_eq_false c16;clear c16
       (first | rw [c16b0] | (simp only [i64_w, i32_w]; rw [c16b0]) | skip)
       have H' := Aside0.mk H;clear H
       go_wp2
       go_meet
       case rel => exact ⟨_, (false), z1, H', ⟨by have := HK1.out; first | omega | exact Nat.le_refl _⟩, ⟨zO HO_3⟩, ⟨zB HB⟩⟩
     case rest =>
      clear HC15
      try clear c2
      try clear c2b0
      try clear c2b1
      try clear c6
      try clear c6b0
      try clear c6b1
      try clear c6b2
      obtain ⟨kq, x23_14, rfl, HA, HJ14, HO_3, HB⟩ := hcut
      cases kq with
      | zero => exact absurd HA.out (by simp [laws_FnPartsOk.j1])
      | succ kj14 =>
       have H := HA.out;clear HA;simp only [laws_FnPartsOk.j1] at H
       by_cases c17 : x23_14 = true
       ·subst c17
        rw [if_pos rfl] at H;(first | (with_reducible (replace H := zy H); obtain ⟨y638, Ny638, H⟩ := H) | (obtain ⟨y638, hy638⟩ : ∃ y_ : List (S36), y_ = (([] : List (S36))) := ⟨_, rfl⟩; (try rw [← hy638] at H); have Ny638 := Aside0.mk hy638; clear hy638))
        by_cases c18 : 0 ≤ x5_1
        ·rw [if_pos c18] at H
         have c18b0 := eq_true c18;have c18b1 : decide (0 ≤ x5_1) = true := decide_eq_true c18;clear c18
         by_cases c19 : x5_1 ≤ (t633.length : Int)
         ·rw [if_pos c19] at H
          have c19b0 := eq_true c19;have c19b1 : decide (x5_1 ≤ (t633.length : Int)) = true := decide_eq_true c19;clear c19
          have cL_ : t633.length < 1000000000000 := by
           rcases Nat.lt_or_ge t633.length 1000000000000 with h_ | h_
           ·exact h_
           ·rw [if_neg (by omega)] at H
            exact absurd H (by simp)
          rw [if_pos cL_] at H
          have LL_ := Aside0.mk cL_;clear cL_;(first | (with_reducible (replace H := zy H); obtain ⟨y641, Ny641, H⟩ := H) | (obtain ⟨y641, hy641⟩ : ∃ y_ : List (S36), y_ = (t633.take (x5_1 : Int).toNat) := ⟨_, rfl⟩; (try rw [← hy641] at H); have Ny641 := Aside0.mk hy641; clear hy641));replace H := zf H;obtain ⟨t646, A20, H⟩ := H
          by_cases c21 : t646 = true
          ·subst c21
           rw [if_pos rfl] at H;have H' := Aside0.mk H;clear H
           go_wp2_with (first | ((with_reducible refine gate_dst (N := 26) rfl ?_); refine Kd.N_lit k36 _ 36 ?hg (N' := 26) ?hd (xs := ([] : List (S36))) (inner := []) (ok := (fun k_ => some k_ ≠ (.slice Ao12 t633.length co12 : Value).ownBlock)) (okp := (fun k_ => some k_ ≠ (.slice Ao12 t633.length co12 : Value).ownBlock)) ?hr ?hp (fun _ hk => hk) ((show ∀ k_, wc.heap.size ≤ k_ → (fun k_ => some k_ ≠ (.slice Ao12 t633.length co12 : Value).ownBlock) k_ from fun k_ hk => Kd.fresh' (Kd.N_lt (zO HO_3)) k_ hk) _ (Nat.le_refl _)) (Below.refl _ _) (Nat.le_refl _) (by simp) ?_; (case hd => rfl); (case hg => rfl); (case hr => first | (go_simp; done) | (go_simp; rfl)); (case hp => exact (Reps.none _ _)); intro v639 w22 ho23 hb hg_ hnew_; clear hg_ hnew_; (first | rw [← Ny638.out] at ho23 | (simp only [Int.reduceToNat] at ho23; rw [← Ny638.out] at ho23)); replace HO_3 := Aside0.mk (Kd.N_elder' (zO HO_3) (Kd.N_base ho23) hb); have HO640 := Aside0.mk (Kd.N_lower ho23 (below_size (zB HB))); replace HB := zbb HB hb; clear hb ho23; have q24 : (x5_1 : Int) ≤ ((t633.length : Int) : Int) := of_decide_eq_true (by first | (with_reducible assumption) | assumption); obtain ⟨i024, hi024, _, hsz24, _⟩ := info_parts info36; have hroom24 : t633.length ≤ co12 := (Kd.N_reads' HO_3.out).2.1; have hC24 : Kd.F k36 _ _ Ao12 t633.length t633 := (Kd.V_at (base := w.heap.size) (Kd.N_V HO_3.out)).2.2; have hcut24 := cut_to (P := Try.prog) 23 36 .i64 Try.underlying23 hi024 Ao12 t633.length co12 x5_1 (of_decide_eq_true (by first | (with_reducible assumption) | assumption)) q24 hroom24; have hr24 := Kd.F_take (m := (x5_1 : Int).toNat) hC24 (by omega); have hy24 : y641.length = (x5_1 : Int).toNat := (by rw [Ny641.out, List.length_take]; omega); rw [← Ny641.out] at hr24; rw [← hy24] at hcut24; have HO645 := Aside0.mk (show Kd.V k36 36 _ w.heap.size _ (.slice Ao12 y641.length co12) y641 from Kd.V_mk (by omega) hr24); have HC645 := Aside0.mk (show y641.length ≤ co12 from by omega); clear hr24 hC24 hroom24 hi024 hsz24; have KY24 := Aside0.mk hy24; clear hy24; replace q24 := eq_true q24) | ((with_reducible refine gate_builtin (b := .append) (xs := #[.tmp 26, .tmp 29]) rfl ?_); at_builtin; refine Kd.N_append_rows k36 (w0 := w) w.heap.size rfl (.tmp 26) (.tmp 29) 23 36 (.agg #[(.slice none 0 0), (.int .i64 0)]) 32 rfl Try.underlying23 info36 rfl (by decide) (by omega) v639 y638 y641 Ao12 y641.length co12 (fun _ => True) (fun k_ => True ∧ some k_ ≠ v639.ownBlock) rfl rfl ?aO ?aR (fun _ hk => ⟨trivial, hk.2⟩) (fun _ _ => trivial) ?aB ?aS ?aL ?_; (case aO => exact Kd.N_mono (zO HO640) (fun _ _ => trivial)); (case aR => exact (Kd.V_at (base := w.heap.size) (zO HO645)).2.2); (case aB => exact zB HB); (case aS => exact below_size (zB HB)); (case aL => have := LL_.out; have := KY24.out; have := of_eq_true q24; rw [Ny638.out, List.length_nil]; omega); intro vap_ wap_ ho hb hg hat; (rw [Ny638.out, List.nil_append] at ho); replace HO_3 := Aside0.mk (Kd.N_grown (ok := fun k_ => True ∧ some k_ ≠ v639.ownBlock) (zO HO_3) hg (fun _ hk => hk.2)); replace HB := Aside0.mk hb; obtain ⟨Aap, cap_, eap⟩ := Kd.N_slice ho; subst eap; replace HO645 := Aside0.mk (Kd.N_V (base' := w.heap.size) ho); replace HO640 := Aside0.mk ho; clear ho hb hg hat) | ((with_reducible refine gate_callee (f := 5) rfl ?_); refine goesL_ (some 31) rfl rfl Try.func5 (by kernel_rfl) rfl #[.slice Aap y641.length cap_] rfl zM ?_; (with_reducible refine (impl_PartsOk.calls kj14 _ _ y641 true _ ?side1 ?side2 A20.out).mono ?_); (case side1 => repeat (first | exact (Kd.V_reads' HO645.out).2.2 | (with_reducible first | refine Kd.C_alloc ?_ _ | refine Kd.C_drewN ?_ _ | refine Kd.C_drew ?_))); (case side2 => exact (Kd.V_reads' HO645.out).2.1); rintro e w25 ⟨rfl, hb⟩; refine ⟨_, rfl, ?_⟩; replace HO_3 := Aside0.mk (Kd.N_below (zO HO_3) hb); replace HO640 := Aside0.mk (Kd.N_below (zO HO640) hb); replace HO645 := Aside0.mk (Kd.V_below (zO HO645) hb); replace HB := zbb HB hb; (try clear hb); (try clear hb2); (try clear hk); (try clear hi)))
           go_roundg kj14
           case measure => have := HK1.out; have := HJ14.out; omega
           case rel => exact ⟨(wrap64 (x5_1 + 1)), z1, H', ⟨by have := HK1.out; have := HJ14.out; omega⟩, ⟨by (with_reducible repeat (first | apply Kd.N_alloc | apply Kd.N_drewN | apply Kd.N_drew)); exact Kd.N_mono HO_3.out (fun _ hk => trivial)⟩, ⟨zB HB⟩⟩
          ·replace c21 := Bool.eq_false_iff.mpr c21
           subst c21
           rw [if_neg (show ¬ (false = true) by decide)] at H;obtain rfl := Option.some.inj H
           go_wp2_with (first | ((with_reducible refine gate_dst (N := 26) rfl ?_); refine Kd.N_lit k36 _ 36 ?hg (N' := 26) ?hd (xs := ([] : List (S36))) (inner := []) (ok := (fun k_ => some k_ ≠ (.slice Ao12 t633.length co12 : Value).ownBlock)) (okp := (fun k_ => some k_ ≠ (.slice Ao12 t633.length co12 : Value).ownBlock)) ?hr ?hp (fun _ hk => hk) ((show ∀ k_, wc.heap.size ≤ k_ → (fun k_ => some k_ ≠ (.slice Ao12 t633.length co12 : Value).ownBlock) k_ from fun k_ hk => Kd.fresh' (Kd.N_lt (zO HO_3)) k_ hk) _ (Nat.le_refl _)) (Below.refl _ _) (Nat.le_refl _) (by simp) ?_; (case hd => rfl); (case hg => rfl); (case hr => first | (go_simp; done) | (go_simp; rfl)); (case hp => exact (Reps.none _ _)); intro v639 w26 ho27 hb hg_ hnew_; clear hg_ hnew_; (first | rw [← Ny638.out] at ho27 | (simp only [Int.reduceToNat] at ho27; rw [← Ny638.out] at ho27)); replace HO_3 := Aside0.mk (Kd.N_elder' (zO HO_3) (Kd.N_base ho27) hb); have HO640 := Aside0.mk (Kd.N_lower ho27 (below_size (zB HB))); replace HB := zbb HB hb; clear hb ho27; have q28 : (x5_1 : Int) ≤ ((t633.length : Int) : Int) := of_decide_eq_true (by first | (with_reducible assumption) | assumption); obtain ⟨i028, hi028, _, hsz28, _⟩ := info_parts info36; have hroom28 : t633.length ≤ co12 := (Kd.N_reads' HO_3.out).2.1; have hC28 : Kd.F k36 _ _ Ao12 t633.length t633 := (Kd.V_at (base := w.heap.size) (Kd.N_V HO_3.out)).2.2; have hcut28 := cut_to (P := Try.prog) 23 36 .i64 Try.underlying23 hi028 Ao12 t633.length co12 x5_1 (of_decide_eq_true (by first | (with_reducible assumption) | assumption)) q28 hroom28; have hr28 := Kd.F_take (m := (x5_1 : Int).toNat) hC28 (by omega); have hy28 : y641.length = (x5_1 : Int).toNat := (by rw [Ny641.out, List.length_take]; omega); rw [← Ny641.out] at hr28; rw [← hy28] at hcut28; have HO645 := Aside0.mk (show Kd.V k36 36 _ w.heap.size _ (.slice Ao12 y641.length co12) y641 from Kd.V_mk (by omega) hr28); have HC645 := Aside0.mk (show y641.length ≤ co12 from by omega); clear hr28 hC28 hroom28 hi028 hsz28; have KY28 := Aside0.mk hy28; clear hy28; replace q28 := eq_true q28) | ((with_reducible refine gate_builtin (b := .append) (xs := #[.tmp 26, .tmp 29]) rfl ?_); at_builtin; refine Kd.N_append_rows k36 (w0 := w) w.heap.size rfl (.tmp 26) (.tmp 29) 23 36 (.agg #[(.slice none 0 0), (.int .i64 0)]) 32 rfl Try.underlying23 info36 rfl (by decide) (by omega) v639 y638 y641 Ao12 y641.length co12 (fun _ => True) (fun k_ => True ∧ some k_ ≠ v639.ownBlock) rfl rfl ?aO ?aR (fun _ hk => ⟨trivial, hk.2⟩) (fun _ _ => trivial) ?aB ?aS ?aL ?_; (case aO => exact Kd.N_mono (zO HO640) (fun _ _ => trivial)); (case aR => exact (Kd.V_at (base := w.heap.size) (zO HO645)).2.2); (case aB => exact zB HB); (case aS => exact below_size (zB HB)); (case aL => have := LL_.out; have := KY28.out; have := of_eq_true q28; rw [Ny638.out, List.length_nil]; omega); intro vap_ wap_ ho hb hg hat; (rw [Ny638.out, List.nil_append] at ho); replace HO_3 := Aside0.mk (Kd.N_grown (ok := fun k_ => True ∧ some k_ ≠ v639.ownBlock) (zO HO_3) hg (fun _ hk => hk.2)); replace HB := Aside0.mk hb; obtain ⟨Aap, cap_, eap⟩ := Kd.N_slice ho; subst eap; replace HO645 := Aside0.mk (Kd.N_V (base' := w.heap.size) ho); replace HO640 := Aside0.mk ho; clear ho hb hg hat) | ((with_reducible refine gate_callee (f := 5) rfl ?_); refine goesL_ (some 31) rfl rfl Try.func5 (by kernel_rfl) rfl #[.slice Aap y641.length cap_] rfl zM ?_; (with_reducible refine (impl_PartsOk.calls kj14 _ _ y641 false _ ?side1 ?side2 A20.out).mono ?_); (case side1 => repeat (first | exact (Kd.V_reads' HO645.out).2.2 | (with_reducible first | refine Kd.C_alloc ?_ _ | refine Kd.C_drewN ?_ _ | refine Kd.C_drew ?_))); (case side2 => exact (Kd.V_reads' HO645.out).2.1); rintro e w29 ⟨rfl, hb⟩; refine ⟨_, rfl, ?_⟩; replace HO_3 := Aside0.mk (Kd.N_below (zO HO_3) hb); replace HO640 := Aside0.mk (Kd.N_below (zO HO640) hb); replace HO645 := Aside0.mk (Kd.V_below (zO HO645) hb); replace HB := zbb HB hb; (try clear hb); (try clear hb2); (try clear hk); (try clear hi)))
           go_ret;exact ⟨by first | rfl | (simp <;> rfl) | (simp [*] <;> rfl), zB HB⟩
         ·rw [if_neg c19] at H
          exact absurd H (by simp)
        ·rw [if_neg c18] at H
         exact absurd H (by simp)
       ·replace c17 := Bool.eq_false_iff.mpr c17
        subst c17
        rw [if_neg (show ¬ (false = true) by decide)] at H;(first | (with_reducible (replace H := zy H); obtain ⟨y647, Ny647, H⟩ := H) | (obtain ⟨y647, hy647⟩ : ∃ y_ : List (S36), y_ = (([] : List (S36))) := ⟨_, rfl⟩; (try rw [← hy647] at H); have Ny647 := Aside0.mk hy647; clear hy647));replace H := zf H;obtain ⟨t650, A30, H⟩ := H
        by_cases c31 : t650 = true
        ·subst c31
         rw [if_pos rfl] at H;replace H := zf H;obtain ⟨t651, A32, H⟩ := H;obtain rfl := Option.some.inj H
         go_wp2_with (first | ((with_reducible refine gate_dst (N := 33) rfl ?_); refine Kd.N_lit k36 _ 36 ?hg (N' := 33) ?hd (xs := ([] : List (S36))) (inner := []) (ok := (fun k_ => some k_ ≠ (.slice Ao12 t633.length co12 : Value).ownBlock)) (okp := (fun k_ => some k_ ≠ (.slice Ao12 t633.length co12 : Value).ownBlock)) ?hr ?hp (fun _ hk => hk) ((show ∀ k_, wc.heap.size ≤ k_ → (fun k_ => some k_ ≠ (.slice Ao12 t633.length co12 : Value).ownBlock) k_ from fun k_ hk => Kd.fresh' (Kd.N_lt (zO HO_3)) k_ hk) _ (Nat.le_refl _)) (Below.refl _ _) (Nat.le_refl _) (by simp) ?_; (case hd => rfl); (case hg => rfl); (case hr => first | (go_simp; done) | (go_simp; rfl)); (case hp => exact (Reps.none _ _)); intro v648 w33 ho34 hb hg_ hnew_; clear hg_ hnew_; (first | rw [← Ny647.out] at ho34 | (simp only [Int.reduceToNat] at ho34; rw [← Ny647.out] at ho34)); replace HO_3 := Aside0.mk (Kd.N_elder' (zO HO_3) (Kd.N_base ho34) hb); have HO649 := Aside0.mk (Kd.N_lower ho34 (below_size (zB HB))); replace HB := zbb HB hb; clear hb ho34; obtain ⟨Ao35, co35, eo35⟩ := Kd.N_slice HO649.out; subst eo35) | ((with_reducible refine gate_callee (f := 5) rfl ?_); refine goesL_ (some 34) rfl rfl Try.func5 (by kernel_rfl) rfl #[.slice Ao35 y647.length co35] rfl zM ?_; (with_reducible refine (impl_PartsOk.calls kj14 _ _ y647 true _ ?side1 ?side2 A30.out).mono ?_); (case side1 => repeat (first | exact (Kd.N_reads' HO649.out).2.2 | (with_reducible first | refine Kd.C_alloc ?_ _ | refine Kd.C_drewN ?_ _ | refine Kd.C_drew ?_))); (case side2 => exact (Kd.N_reads' HO649.out).2.1); rintro e w36 ⟨rfl, hb⟩; refine ⟨_, rfl, ?_⟩; replace HO_3 := Aside0.mk (Kd.N_below (zO HO_3) hb); replace HO649 := Aside0.mk (Kd.N_below (zO HO649) hb); replace HB := zbb HB hb; (try clear hb); (try clear hb2); (try clear hk); (try clear hi)) | (go_at_call 7; (with_reducible refine (laws_alive.calls kj14  t651 _ A32.out).mono ?_); rintro e w37 ⟨rfl, hb⟩; replace HO_3 := Aside0.mk (Kd.N_below (zO HO_3) hb); replace HO649 := Aside0.mk (Kd.N_below (zO HO649) hb); replace HB := zbb HB hb; (try clear hb); (try clear hb2); (try clear hk); (try clear hi)))
         go_ret;exact ⟨by first | rfl | (simp <;> rfl) | (simp [*] <;> rfl), zB HB⟩
        ·replace c31 := Bool.eq_false_iff.mpr c31
         subst c31
         rw [if_neg (show ¬ (false = true) by decide)] at H;obtain rfl := Option.some.inj H
         go_wp2_with (first | ((with_reducible refine gate_dst (N := 33) rfl ?_); refine Kd.N_lit k36 _ 36 ?hg (N' := 33) ?hd (xs := ([] : List (S36))) (inner := []) (ok := (fun k_ => some k_ ≠ (.slice Ao12 t633.length co12 : Value).ownBlock)) (okp := (fun k_ => some k_ ≠ (.slice Ao12 t633.length co12 : Value).ownBlock)) ?hr ?hp (fun _ hk => hk) ((show ∀ k_, wc.heap.size ≤ k_ → (fun k_ => some k_ ≠ (.slice Ao12 t633.length co12 : Value).ownBlock) k_ from fun k_ hk => Kd.fresh' (Kd.N_lt (zO HO_3)) k_ hk) _ (Nat.le_refl _)) (Below.refl _ _) (Nat.le_refl _) (by simp) ?_; (case hd => rfl); (case hg => rfl); (case hr => first | (go_simp; done) | (go_simp; rfl)); (case hp => exact (Reps.none _ _)); intro v648 w38 ho39 hb hg_ hnew_; clear hg_ hnew_; (first | rw [← Ny647.out] at ho39 | (simp only [Int.reduceToNat] at ho39; rw [← Ny647.out] at ho39)); replace HO_3 := Aside0.mk (Kd.N_elder' (zO HO_3) (Kd.N_base ho39) hb); have HO649 := Aside0.mk (Kd.N_lower ho39 (below_size (zB HB))); replace HB := zbb HB hb; clear hb ho39; obtain ⟨Ao40, co40, eo40⟩ := Kd.N_slice HO649.out; subst eo40) | ((with_reducible refine gate_callee (f := 5) rfl ?_); refine goesL_ (some 34) rfl rfl Try.func5 (by kernel_rfl) rfl #[.slice Ao40 y647.length co40] rfl zM ?_; (with_reducible refine (impl_PartsOk.calls kj14 _ _ y647 false _ ?side1 ?side2 A30.out).mono ?_); (case side1 => repeat (first | exact (Kd.N_reads' HO649.out).2.2 | (with_reducible first | refine Kd.C_alloc ?_ _ | refine Kd.C_drewN ?_ _ | refine Kd.C_drew ?_))); (case side2 => exact (Kd.N_reads' HO649.out).2.1); rintro e w41 ⟨rfl, hb⟩; refine ⟨_, rfl, ?_⟩; replace HO_3 := Aside0.mk (Kd.N_below (zO HO_3) hb); replace HO649 := Aside0.mk (Kd.N_below (zO HO649) hb); replace HB := zbb HB hb; (try clear hb); (try clear hb2); (try clear hk); (try clear hi)))
         go_ret;exact ⟨by first | rfl | (simp <;> rfl) | (simp [*] <;> rfl), zB HB⟩

/-- THE ONE PURE STATEMENT of laws_FnPartsOk: yours. -/
def laws_FnPartsOk.Pure : Prop := ∀ (l0 : List Int), l0.length ≤ maxLen → l0.length * 1 ≤ 140737488351232 → (∀ x ∈ l0, (Lit.int .u8 x).wf = true) → ∃ k, laws_FnPartsOk.f k l0 = some true
theorem laws_FnPartsOk.walk (P : laws_FnPartsOk.Pure) (a0 : Option Addr) (len0 cap0 : Nat) (z0 : List Int) (w : World) (w0 : (a0 = none ∧ len0 = 0 ∧ cap0 = 0 ∧ z0 = []) ∨ ∃ x, a0 = some x ∧ len0 ≤ cap0 ∧ cap0 ≤ maxLen ∧ z0.length = cap0 ∧ (∀ i, i < z0.length → w.cell? (x.add i) = some (.int .u8 (z0.getD i 0))) ∧ ∀ n ∈ z0, (Lit.int .u8 n).wf = true) (y0 : len0 * 1 ≤ 140737488351232) :
  Calls Try.prog 3 #[.slice a0 len0 cap0] w fun e w' => e = .returned (.bool true) ∧ Below w.heap.size w w' := by
 obtain ⟨l0, rfl, hr0, hm0, hw0, hc0⟩ := ReadsInt.ofRowC w0;obtain ⟨k, h⟩ := P l0 hm0 y0 hw0;refine (laws_FnPartsOk.calls k _ _ l0 true w (Kd.C_of_reads (d := (0 : Int)) (h1 := fun _ => rfl) hr0) hc0 h).mono ?_
 rintro e w' ⟨rfl, hd⟩
 exact ⟨rfl, hd⟩

end Go.Proofs.Ytdbmmkhaeghjaaa.PFnPartsOk

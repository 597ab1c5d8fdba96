/- The machine side of some functions: each comes to its pure answer (written by a program of this session with the kit's print). No condition. -/
import Derived.Test.YtdbmmkhaeghjaaaPFnPartsOkx0
import Derived.Test.YtdbmmkhaeghjaaaPFnPartsOkx8
namespace Go.Proofs.Ytdbmmkhaeghjaaa.PFnPartsOk
open Go.RowKit Go.Proofs.YtdbmmkhaeghjaaaUFnPartsOk.PrintWords Go.Proofs.YtdbmmkhaeghjaaaUFnPartsOk.PrintLast Go.Proofs.YtdbmmkhaeghjaaaUFnPartsOk.PrintMore
attribute [local go_sem] max2_int min2_int max_two min_two max_three min_three max_four min_four   -- for this text's walks alone
set_option linter.unusedVariables false
set_option linter.unusedSimpArgs false

/-! ### spec_l5Part: function 33 -/
def spec_l5Part.l0 : Nat → Int → List (S29) → Int → List (S29) → Int → Option ((List (S29)) × Int)
 | 0, _, _, _, _, _ => none
 | k + 1, x4, x329000, x329001, x331000, x331001 => if x4 < (x329000.length : Int) then (if 0 ≤ x4 then ((spec_l5Copy.f ((rd_T29 x329000 x4).f0) ((rd_T29 x329000 x4).f1) ((rd_T29 x329000 x4).f2) ((rd_T29 x329000 x4).f3) ((rd_T29 x329000 x4).f4) ((rd_T29 x329000 x4).f5) ((rd_T29 x329000 x4).f6) ((rd_T29 x329000 x4).f7) ((rd_T29 x329000 x4).f8)).bind fun bt332 => (if x331000.length < 1759218604441 then (spec_l5Part.l0 k (wrap64 (x4 + 1)) x329000 x329001 (x331000 ++ [(⟨bt332.1, bt332.2.1, bt332.2.2.1, bt332.2.2.2.1, bt332.2.2.2.2.1, bt332.2.2.2.2.2.1, bt332.2.2.2.2.2.2.1, bt332.2.2.2.2.2.2.2.1, bt332.2.2.2.2.2.2.2.2⟩ : S29)]) x331001) else (none))) else (none)) else (some (x331000, x331001))
def spec_l5Part.f (k : Nat) (l0_0 : List (S29)) (a0_1 : Int) : Option ((List (S29)) × Int) := spec_l5Part.l0 k 0 l0_0 a0_1 ([] : List (S29)) a0_1
theorem spec_l5Part.mono_l : ∀ k, (∀ y0 y1 y2 y3 y4, LeO (spec_l5Part.l0 k y0 y1 y2 y3 y4) (spec_l5Part.l0 (k + 1) y0 y1 y2 y3 y4))
 | 0 => fun _ _ _ _ _ r h => by simp [spec_l5Part.l0] at h
 | k + 1 => by
  have ih0 := spec_l5Part.mono_l k
  ·intro y0 y1 y2 y3 y4
   unfold spec_l5Part.l0
   repeat' first
   | (with_reducible exact ih0 _ _ _ _ _)
   | (with_reducible exact LeO.refl _)
   | (with_reducible exact LeO.none _)
   | (with_reducible refine LeO.ite ?_ ?_)
   | (with_reducible refine LeO.bind ?_ (fun _ => ?_))
   | exact ih0 _ _ _ _ _
   | exact LeO.none _
   | refine LeO.ite ?_ ?_
   | refine LeO.bind ?_ (fun _ => ?_)
theorem spec_l5Part.mono : ∀ a0 a1 k, LeO (spec_l5Part.f k a0 a1) (spec_l5Part.f (k + 1) a0 a1) := by
 intro a0 a1 k;have ih0 := spec_l5Part.mono_l k
 unfold spec_l5Part.f
 repeat' first
   | (with_reducible exact ih0 _ _ _ _ _)
   | (with_reducible exact LeO.refl _)
   | (with_reducible exact LeO.none _)
   | (with_reducible refine LeO.ite ?_ ?_)
   | (with_reducible refine LeO.bind ?_ (fun _ => ?_))
   | exact ih0 _ _ _ _ _
   | exact LeO.none _
   | refine LeO.ite ?_ ?_
   | refine LeO.bind ?_ (fun _ => ?_)
def spec_l5Part.T5 : Bool × List (List Nat × List Nat) := (true, [([], []), ([0], [0]), ([], []), ([2], [2]), ([], []), ([3, 4], [3, 4]), ([5], [5]), ([6], [6]), ([7], [7]), ([1, 8, 7], [1, 8]), ([0, 1, 2, 3, 4, 5, 6, 7, 8, 9], []), ([10, 9, 9, 0, 1, 2, 3, 4, 5, 6, 7, 8, 9], [9, 10])])
def spec_l5Part.B5 : List Nat := [0, 1, 0, 4, 0, 28, 60, 124, 252, 511, 1023, 2047]
theorem spec_l5Part.tab5 : rtab .any (opsOf Try.f33 5) = spec_l5Part.T5 := by kernel_rfl
theorem spec_l5Part.bits5 : waitsOk spec_l5Part.T5.2 spec_l5Part.B5 = true := by kernel_rfl
set_option maxHeartbeats 8000000 in
set_option maxRecDepth 100000 in
theorem spec_l5Part.calls (k : Nat) (A0_0 : Option Addr) (c0_0 : Nat) (l0_0 : List (S29)) (a0_1 : Int) (r1 : List (S29)) (r2 : Int) (w : World) (hr0_0 : Kd.C k29 w A0_0 l0_0.length l0_0) (hc0_0 : l0_0.length ≤ c0_0) (h : spec_l5Part.f k l0_0 a0_1 = some (r1, r2)) :
  Calls Try.prog 33 #[.agg #[.slice A0_0 l0_0.length c0_0, .int .i64 a0_1]] w fun e w' => ∃ v0_ : Value, e = .returned (.agg #[v0_, .int .i64 r2]) ∧ Kd.S k29 29 w' w.heap.size (fun _ => True) v0_ r1 ∧ Below w.heap.size w w' := by
 have hu36 := Try.underlying36;have hu29 := Try.underlying29;have HR0_0 := Aside0.mk hr0_0;have HC0_0 := Aside0.mk hc0_0;clear hr0_0 hc0_0;have HB := Aside0.mk (Below.refl w.heap.size w);have H : (spec_l5Part.l0 k 0 l0_0 a0_1 ([] : List (S29)) a0_1) = some (r1, r2) := h;clear h;have H' := Aside0.mk H;clear H
 go_enter Try.func33, Try.ntmps33
 go_wp2_with (first | ((with_reducible refine gate_dst (N := 1) rfl ?_); refine box_event (by rfl) (N := 1) (by rfl) (cs := #[.slice A0_0 l0_0.length c0_0, .int .i64 a0_1]) (t := 36) zr ?_; intro gb328 hg w2 hbox hb; have BK328 := Aside0.mk (hbox); have GW328 := zg HB hg; replace HB := zbb HB hb; have GE328 := GW328; clear hb hbox hg) | ((with_reducible refine gate_dst (N := 2) rfl ?_); refine box_event (by rfl) (N := 2) (by rfl) (cs := #[.slice none 0 0, .int .i64 0]) (t := 36) zr ?_; intro gb329 hg w3 hbox hb; have BK329 := Aside0.mk (hbox); have GW329 := zg HB hg; replace HB := zbb HB hb; have GE329 := GW329; have NB328_329 := zlt BK328 hg; have NB329_328 := zgt BK328 hg; replace BK328 := zq BK328 hb; clear hb hbox hg; have hnb4 := NB328_329.out; have hnc4 := NB329_328.out; obtain ⟨_, _, _, _⟩ := zc2 BK328.out) | ((with_reducible refine gate_dst (N := 3) rfl ?_); refine box_event (by rfl) (N := 3) (by rfl) (cs := #[.slice none 0 0, .int .i64 0]) (t := 36) zr ?_; intro gb330 hg w6 hbox hb; have BK330 := Aside0.mk (hbox); have GW330 := zg HB hg; replace HB := zbb HB hb; have GE330 := GW330; have NB328_330 := zlt BK328 hg; have NB330_328 := zgt BK328 hg; replace BK328 := zq BK328 hb; have NB329_330 := zlt BK329 hg; have NB330_329 := zgt BK329 hg; replace BK329 := zq BK329 hb; clear hb hbox hg; have hnb7 := NB330_328.out; have hnc7 := NB328_330.out; have hnb8 := NB330_329.out; have hnc8 := NB329_330.out; obtain ⟨_, _, _, _⟩ := zc2 BK330.out))
 go_loopg [4] k (fun kq v4 w' => ∃ (x4_1 : Int) (x331000_1 : List (S29)) (u331000 : Value), v4 = .int .i64 x4_1 ∧ Aside0 (spec_l5Part.l0 kq x4_1 l0_0 a0_1 x331000_1 a0_1 = some (r1, r2)) ∧ Aside0 (kq ≤ k) ∧ Aside0 (Kd.S k29 29 w' w.heap.size (fun _ => True) u331000 x331000_1) ∧ Aside0 (w'.heap[gb328]? = some (.cells #[(.slice A0_0 l0_0.length c0_0), .int .i64 a0_1] 36 (0, 0))) ∧ Aside0 (w'.heap[gb329]? = some (.cells #[(.slice none 0 0), .int .i64 0] 36 (0, 0))) ∧ Aside0 (w'.heap[gb330]? = some (.cells #[u331000, .int .i64 a0_1] 36 (0, 0))) ∧ Aside0 (Below w.heap.size w w'))
 case atStart => exact ⟨(0), (([] : List (S29))), (.slice none 0 0), z1, H', ⟨Nat.le_refl _⟩, ⟨by first | exact Kd.S_nil _ _ _ _ _ | exact Kd.N_nil _ _ _ _ _ | exact Kd.V_nil _ _ _ _ _ | exact Kd.Q_nil _ _ _ _ _ | exact Kd.R_nil _ _ _ _ _⟩, ⟨zfr NB328_330 (zfr NB328_330 (zK BK328))⟩, ⟨zfr NB329_330 (zfr NB329_330 (zK BK329))⟩, ⟨zW (zpt (zpt (zK BK330)))⟩, ⟨zB HB⟩⟩
 case round =>
  clear H'
  obtain ⟨x4_1, x331000_1, u331000, rfl, HA, HK1, HO_331000, BK328, BK329, BK330, HB⟩ := hrel
  cases gk with
  | zero => exact absurd HA.out (by simp [spec_l5Part.l0])
  | succ k1 =>
   have H := HA.out;clear HA;simp only [spec_l5Part.l0] at H
   by_cases c10 : x4_1 < (l0_0.length : Int)
   ·rw [if_pos c10] at H
    have c10b0 : decide (x4_1 < (l0_0.length : Int)) = true := decide_eq_true c10;clear c10
    by_cases c11 : 0 ≤ x4_1
    ·rw [if_pos c11] at H
     have c11b0 : decide (0 ≤ x4_1) = true := decide_eq_true c11;clear c11;replace H := zf H;obtain ⟨⟨t332, t333, t334, t335, t336, t337, t338, t339, t340⟩, A12, H⟩ := H
     by_cases c13 : x331000_1.length < 1759218604441
     ·rw [if_pos c13] at H
      have LMc13 := Aside0.mk c13;clear c13;(first | (with_reducible (replace H := zy H); obtain ⟨y343, Ny343, H⟩ := H) | (obtain ⟨y343, hy343⟩ : ∃ y_ : List (S29), y_ = (x331000_1 ++ [(⟨t332, t333, t334, t335, t336, t337, t338, t339, t340⟩ : S29)]) := ⟨_, rfl⟩; rw [← hy343] at H; have Ny343 := Aside0.mk hy343; clear hy343));have H' := Aside0.mk H;clear H;have hnb14 := NB328_329.out;have hnc14 := NB329_328.out;have hnb15 := NB328_330.out;have hnc15 := NB330_328.out;obtain ⟨_, _, _, _⟩ := zc2 BK328.out
      try go_wp2
      replace HO_331000 := Aside0.mk (Kd.S_drew HO_331000.out); replace BK328 := Aside0.mk (blk_drew BK328.out); replace BK329 := Aside0.mk (blk_drew BK329.out); replace BK330 := Aside0.mk (blk_drew BK330.out); replace HB := Aside0.mk (below_drew1 HB.out);have p331 : 0 ≤ (x4_1 : Int) := of_decide_eq_true (by first | (with_reducible assumption) | assumption);have q331 : x4_1 < (l0_0.length : Int) := of_decide_eq_true (by first | (with_reducible assumption) | assumption);obtain ⟨ad331, A331_8, c331_8, e331, hx331_0, hx331_1, hx331_2, hx331_3, hx331_4, hx331_5, hx331_6, hx331_7, hx331_8, hl331_8, hi331_8⟩ := at_T29 HR0_0.out x4_1 p331 q331;have hw331_8 := hx331_8;have hw331_7 := hx331_7;have hw331_6 := hx331_6;have hw331_5 := hx331_5;have hw331_4 := hx331_4;have hw331_3 := hx331_3;have hw331_2 := hx331_2;have hw331_1 := hx331_1;have hw331_0 := hx331_0
      cases e331
      replace hx331_0 := zk HB.out hx331_0;replace hx331_1 := zk HB.out hx331_1;replace hx331_2 := zk HB.out hx331_2;replace hx331_3 := zk HB.out hx331_3;replace hx331_4 := zk HB.out hx331_4;replace hx331_5 := zk HB.out hx331_5;replace hx331_6 := zk HB.out hx331_6;replace hx331_7 := zk HB.out hx331_7;replace hx331_8 := zk HB.out hx331_8;have HR331_8 := Aside0.mk hi331_8;have HC331_8 := Aside0.mk hl331_8;clear hi331_8 hl331_8;replace p331 := eq_true p331;replace q331 := eq_true q331;refine start_ (n := 12) (S := fun w' => w'.cell? ⟨gb330, 0, none⟩ = some (u331000) ∧ w'.cell? ⟨gb330, 1, none⟩ = some (.int .i64 a0_1) ∧ w'.cell? ⟨gb328, 0, none⟩ = some (.slice (some ad331) l0_0.length c0_0) ∧ w'.cell? ⟨gb328, 1, none⟩ = some (.int .i64 a0_1) ∧ w'.cell? (ad331.add ((x4_1).toNat * 9)) = some (.int .i64 ((rd_T29 l0_0 x4_1).f0)) ∧ w'.cell? ⟨(ad331.add ((x4_1).toNat * 9)).block, (ad331.add ((x4_1).toNat * 9)).off + 1, none⟩ = some (.int .i64 ((rd_T29 l0_0 x4_1).f1)) ∧ w'.cell? ⟨(ad331.add ((x4_1).toNat * 9)).block, (ad331.add ((x4_1).toNat * 9)).off + 2, none⟩ = some (.int .i64 ((rd_T29 l0_0 x4_1).f2)) ∧ w'.cell? ⟨(ad331.add ((x4_1).toNat * 9)).block, (ad331.add ((x4_1).toNat * 9)).off + 3, none⟩ = some (.int .i64 ((rd_T29 l0_0 x4_1).f3)) ∧ w'.cell? ⟨(ad331.add ((x4_1).toNat * 9)).block, (ad331.add ((x4_1).toNat * 9)).off + 4, none⟩ = some (.int .i64 ((rd_T29 l0_0 x4_1).f4)) ∧ w'.cell? ⟨(ad331.add ((x4_1).toNat * 9)).block, (ad331.add ((x4_1).toNat * 9)).off + 5, none⟩ = some (.int .i64 ((rd_T29 l0_0 x4_1).f5)) ∧ w'.cell? ⟨(ad331.add ((x4_1).toNat * 9)).block, (ad331.add ((x4_1).toNat * 9)).off + 6, none⟩ = some (.bool ((rd_T29 l0_0 x4_1).f6)) ∧ w'.cell? ⟨(ad331.add ((x4_1).toNat * 9)).block, (ad331.add ((x4_1).toNat * 9)).off + 7, none⟩ = some (.bool ((rd_T29 l0_0 x4_1).f7)) ∧ w'.cell? ⟨(ad331.add ((x4_1).toNat * 9)).block, (ad331.add ((x4_1).toNat * 9)).off + 8, none⟩ = some (.slice A331_8 ((rd_T29 l0_0 x4_1).f8).length c331_8)) (ds := [11]) (bitsA 12 0) (by kernel_rfl) rfl rfl zH (fun hHeld => ?_); refine with_tabW spec_l5Part.tab5 spec_l5Part.bits5 (fun HT_ HW_ => ?_)
      generalize wr.drew = w17 at HO_331000 BK328 BK329 BK330 HB HR331_8 hx331_0 hx331_1 hx331_2 hx331_3 hx331_4 hx331_5 hx331_6 hx331_7 hx331_8 hHeld ⊢
      refine zp (i := 0) (N := some 15) (bitsA 12 1) HT_ ?_;refine zp (i := 2) (N := some 17) (bitsA 12 5) HT_ ?_;refine zp (i := 4) (N := some 19) (bitsA 12 21) HT_ ?_;refine zt (i := 1) (N := some 16) (bitsA 12 23) HT_ HW_ hHeld ?_;refine zt (i := 3) (N := some 18) (bitsA 12 31) HT_ HW_ hHeld ?_;refine zp (i := 5) (N := some 20) (bitsA 12 63) HT_ ?_;refine zt (i := 6) (N := some 21) (bitsA 12 127) HT_ HW_ hHeld ?_;refine zone (i := 7) (N := some 22) (bitsA 12 255) HT_ (fun K hK => ?_);refine goes_ Try.func34 (by kernel_rfl) rfl #[.agg #[.int .i64 ((rd_T29 l0_0 x4_1).f0), .int .i64 ((rd_T29 l0_0 x4_1).f1), .int .i64 ((rd_T29 l0_0 x4_1).f2), .int .i64 ((rd_T29 l0_0 x4_1).f3), .int .i64 ((rd_T29 l0_0 x4_1).f4), .int .i64 ((rd_T29 l0_0 x4_1).f5), .bool ((rd_T29 l0_0 x4_1).f6), .bool ((rd_T29 l0_0 x4_1).f7), .slice A331_8 ((rd_T29 l0_0 x4_1).f8).length c331_8]] (by rfl) rfl rfl zM ?_
      with_reducible refine (spec_l5Copy.calls ((rd_T29 l0_0 x4_1).f0) ((rd_T29 l0_0 x4_1).f1) ((rd_T29 l0_0 x4_1).f2) ((rd_T29 l0_0 x4_1).f3) ((rd_T29 l0_0 x4_1).f4) ((rd_T29 l0_0 x4_1).f5) ((rd_T29 l0_0 x4_1).f6) ((rd_T29 l0_0 x4_1).f7) _ _ ((rd_T29 l0_0 x4_1).f8) t332 t333 t334 t335 t336 t337 t338 t339 t340 _ ?side1 ?side2 A12.out).mono ?_
      (case side1 => exact zC HR331_8 HB)
      (case side2 => exact HC331_8.out)
      rintro e w18 ⟨v341, rfl, ho0, hb⟩
      refine ⟨_, rfl, ?_⟩;replace HO_331000 := Aside0.mk (Kd.S_elder' (zO HO_331000) (Kd.R_base ho0) hb); have HO342 := Aside0.mk (Kd.R_lower ho0 (below_size (zB HB))); replace BK328 := zq BK328 hb; replace BK329 := zq BK329 hb; replace BK330 := zq BK330 hb; replace HB := zbb HB hb;(try clear hb);(try clear hb2);(try clear hk);(try clear hi);(try clear ho0);obtain ⟨Ao20, co20, eo20⟩ := Kd.R_slice HO342.out
      (first | subst eo20 | (injection eo20 with f1_ f2_ f3_; have f4_ := f1_.symm; have f5_ := f3_.symm; clear f1_ f2_ f3_; subst f4_; subst f5_))
      refine hK.out _ _ zH (fun hHeld => ?_);clear hK K;refine znorm ?_;refine zone (i := 8) (N := some 23) (bitsA 12 511) HT_ (fun K hK => ?_);refine value_ (w1 := ?_) (v := ?_) (by rfl) rfl ?_ ?_;rotate_left 2
      ·go_simp
       constructor
       ·rfl
       ·rfl
      refine hK.out _ _ ⟨(blk_cell (blk_alloc BK330.out _) 0).trans rfl, (blk_cell (blk_alloc BK330.out _) 1).trans rfl, (blk_cell (blk_alloc BK328.out _) 0).trans rfl, (blk_cell (blk_alloc BK328.out _) 1).trans rfl, (World.cell?_alloc_lt _ _ _ (World.block_lt_of_cell? _ _ (((zk HB.out hw331_0).trans rfl)))).trans (((zk HB.out hw331_0).trans rfl)), (World.cell?_alloc_lt _ _ _ (World.block_lt_of_cell? _ _ (((zk HB.out hw331_1).trans rfl)))).trans (((zk HB.out hw331_1).trans rfl)), (World.cell?_alloc_lt _ _ _ (World.block_lt_of_cell? _ _ (((zk HB.out hw331_2).trans rfl)))).trans (((zk HB.out hw331_2).trans rfl)), (World.cell?_alloc_lt _ _ _ (World.block_lt_of_cell? _ _ (((zk HB.out hw331_3).trans rfl)))).trans (((zk HB.out hw331_3).trans rfl)), (World.cell?_alloc_lt _ _ _ (World.block_lt_of_cell? _ _ (((zk HB.out hw331_4).trans rfl)))).trans (((zk HB.out hw331_4).trans rfl)), (World.cell?_alloc_lt _ _ _ (World.block_lt_of_cell? _ _ (((zk HB.out hw331_5).trans rfl)))).trans (((zk HB.out hw331_5).trans rfl)), (World.cell?_alloc_lt _ _ _ (World.block_lt_of_cell? _ _ (((zk HB.out hw331_6).trans rfl)))).trans (((zk HB.out hw331_6).trans rfl)), (World.cell?_alloc_lt _ _ _ (World.block_lt_of_cell? _ _ (((zk HB.out hw331_7).trans rfl)))).trans (((zk HB.out hw331_7).trans rfl)), (World.cell?_alloc_lt _ _ _ (World.block_lt_of_cell? _ _ (((zk HB.out hw331_8).trans rfl)))).trans (((zk HB.out hw331_8).trans rfl))⟩ (fun hHeld => ?_);clear hK K;refine znorm ?_;refine zone (i := 9) (N := some 24) (bitsA 12 1023) HT_ (fun K hK => ?_);refine Kd.S_append_step k29 (w0 := w) w.heap.size (by rfl) (.tmp 16) (.tmp 23) 34 29 (.agg #[(.int .i64 0), (.int .i64 0), (.int .i64 0), (.int .i64 0), (.int .i64 0), (.int .i64 0), (.bool false), (.bool false), (.slice none 0 0)]) 80 rfl Try.underlying34 info29 rfl (by decide) (by omega) u331000 x331000_1 (⟨t332, t333, t334, t335, t336, t337, t338, t339, t340⟩ : S29) [.int .i64 t332, .int .i64 t333, .int .i64 t334, .int .i64 t335, .int .i64 t336, .int .i64 t337, .bool t338, .bool t339, .slice Ao20 t340.length co20] (fun _ => True) (fun k_ => some k_ = (.slice Ao20 t340.length co20 : Value).ownBlock) rfl rfl ?aP (fun k_ hk_ => ((Kd.R_mono (ok' := fun k_ => ((fun _ => True)) k_ ∧ some k_ ≠ (u331000 : Value).ownBlock) (Kd.R_apart' (HO342.out) (Kd.S_typed HO_331000.out) (by decide)) (fun k_ hk => ⟨trivial, hk.2⟩))).1 k_ hk_.symm) ?aF ?aO ?aB ?aS ?aL ?_
      (case aP => exact k29_mkM _ _ _ (⟨t332, t333, t334, t335, t336, t337, t338, t339, t340⟩ : S29) (Kd.R_mono (Kd.R_tight rfl (Kd.R_mono (ok' := fun k_ => ((fun _ => True)) k_ ∧ some k_ ≠ (u331000 : Value).ownBlock) (Kd.R_apart' (HO342.out) (Kd.S_typed HO_331000.out) (by decide)) (fun k_ hk => ⟨trivial, hk.2⟩))) (fun _ h_ => h_)))
      (case aB => exact (zB HB))
      (case aF => exact (fun _ _ => trivial))
      (case aO => exact (by (with_reducible repeat (first | apply Kd.S_alloc | apply Kd.S_drewN | apply Kd.S_drew)); exact Kd.S_mono HO_331000.out (fun k_ hk => ⟨trivial, fun e_ => hk.2 e_⟩)))
      (case aS => exact (below_size (zB HB)))
      (case aL => have := LMc13.out; omega)
      intro v344 w19 ho hb hg hat
      rw [← Ny343.out] at ho
      replace BK328 := Aside0.mk (blk_grown (zK BK328) hg (Kd.S_ne HO_331000.out BK328.out (by decide))); replace BK329 := Aside0.mk (blk_grown (zK BK329) hg (Kd.S_ne HO_331000.out BK329.out (by decide))); replace BK330 := Aside0.mk (blk_grown (zK BK330) hg (Kd.S_ne HO_331000.out BK330.out (by decide))); replace HB := Aside0.mk (hb); have HO345 := Aside0.mk (ho); clear HO_331000 HO342;clear ho hb hg hat;obtain ⟨Ao21, co21, eo21⟩ := Kd.S_slice HO345.out
      (first | subst eo21 | (injection eo21 with f1_ f2_ f3_; have f4_ := f1_.symm; have f5_ := f3_.symm; clear f1_ f2_ f3_; subst f4_; subst f5_))
      refine hK.out _ _ zH (fun hHeld => ?_);clear hK K;refine znorm ?_;refine zp (i := 10) (N := some 25) (bitsA 12 2047) HT_ ?_;refine last_ (i := 11) (N := none) (bitsA 12 4095) rfl rfl (one_of HT_.out (by kernel_rfl)) (by decide) (fun K hK => ?_);have hs22 : w19.cell? ⟨gb330, 0, none⟩ = some (u331000) := (blk_cell BK330.out 0).trans rfl;have hfs22 := blk_frozen BK330.out 0;have hns22_0 := NB328_330.out;have hns22_1 := NB329_330.out;have hms22_0 := NB330_328.out;have hms22_1 := NB330_329.out;refine skip_ (w1 := ?_) (by rfl) rfl ?_ ?_;rotate_left; (focus (go_simp; rfl));refine hK.out _ _ ?_;clear hK K;refine done_ (done_of HT_.out (by kernel_rfl)) ?_
      try go_wp2
      go_roundg k1
      case measure => have := HK1.out; omega
      case rel => exact ⟨(wrap64 (x4_1 + 1)), (y343), (.slice Ao21 y343.length co21), z1, H', ⟨by have := HK1.out; omega⟩, ⟨by (with_reducible repeat (first | apply Kd.S_alloc | apply Kd.S_drewN | apply Kd.S_drew)); exact Kd.S_mono (zSf (Kd.S_types HO345.out BK330.out (by decide))) (fun _ hk => trivial)⟩, ⟨zfr NB328_330 (zK BK328)⟩, ⟨zfr NB329_330 (zK BK329)⟩, ⟨zW (zpt (zK BK330))⟩, ⟨zB HB⟩⟩
     ·rw [if_neg c13] at H
      exact absurd H (by simp)
    ·rw [if_neg c11] at H
     exact absurd H (by simp)
   ·rw [if_neg c10] at H
    have c10b0 : decide (x4_1 < (l0_0.length : Int)) = false := decide_eq_false c10;clear c10;simp only [Option.some.injEq, Prod.mk.injEq] at H;obtain ⟨rfl, rfl⟩ := H;have hnb23 := NB328_329.out;have hnc23 := NB329_328.out;have hnb24 := NB328_330.out;have hnc24 := NB330_328.out;obtain ⟨_, _, _, _⟩ := zc2 BK328.out;have hnb26 := NB330_329.out;have hnc26 := NB329_330.out;obtain ⟨_, _, _, _⟩ := zc2 BK330.out;obtain ⟨Ao28, co28, eo28⟩ := Kd.S_slice HO_331000.out
    subst eo28
    obtain ⟨_, _, _, _⟩ := zc2 BK329.out
    go_wp2
    refine bodyPost_ret (results_cell_row rfl _ _ gb329 36 #[.slice Ao28 x331000_1.length co28, .int .i64 a0_1] (0, 0) _ rfl (zW (zpt (zpt (zK BK329)))) Try.underlying36 rfl (by kernel_rfl)) rfl ?_;exact ⟨_, by first | rfl | (simp <;> rfl) | (simp [*] <;> rfl), by (with_reducible repeat (first | apply Kd.S_alloc | apply Kd.S_drewN | apply Kd.S_drew)); exact Kd.S_mono (zSf (zSf (Kd.S_types HO_331000.out BK329.out (by decide)))) (fun _ hk => trivial), zB HB⟩

end Go.Proofs.Ytdbmmkhaeghjaaa.PFnPartsOk

/- The machine side of some functions: each comes to its pure answer (written by a program of this session with the kit's print). No condition. -/
import Derived.Test.YtdbmmkhaeghjaaaPFnPartsOkx0
namespace Go.Proofs.Ytdbmmkhaeghjaaa.PFnPartsOk
open Go.RowKit Go.Proofs.YtdbmmkhaeghjaaaUFnPartsOk.PrintWords Go.Proofs.YtdbmmkhaeghjaaaUFnPartsOk.PrintLast Go.Proofs.YtdbmmkhaeghjaaaUFnPartsOk.PrintMore
attribute [local go_sem] max2_int min2_int max_two min_two max_three min_three max_four min_four   -- for this text's walks alone
set_option linter.unusedVariables false
set_option linter.unusedSimpArgs false

/-- A state of type 52 at block g of W; what its slices lead to came in by w0. -/
def IsS52 (w0 W : World) (g : Nat) (f0 : List Int) (f1 : Int) : Prop := ∃ A0 c0, W.heap[g]? = some (.cells #[.slice A0 f0.length c0, .int .i64 f1] 52 (0, 0)) ∧ w0.heap.size ≤ g ∧ Kd.C (Kd.int .u8) w0 A0 f0.length f0
theorem IsS52.grown {w0 W : World} {g : Nat} {f0 : List Int} {f1 : Int} {W1 : World} {row : Option Nat} (h : IsS52 w0 W g f0 f1) (hw : W.grownBy W1 row) (hne : some g ≠ row) : IsS52 w0 W1 g f0 f1 := by
 obtain ⟨A0, c0, hb, hg, hr0⟩ := h;exact ⟨A0, c0, blk_grown hb hw hne, hg, hr0⟩
theorem IsS52.own_neN {w0 W : World} {g : Nat} {f0 : List Int} {f1 : Int} {α : Type} {d : Kd α} {e : Nat} {base : Nat} {ok : Nat → Prop} {v : Value} {xs : List α} (h : IsS52 w0 W g f0 f1) (ho : Kd.N d e W base ok v xs) (ht : e ≠ 52) : some g ≠ v.ownBlock := by
 obtain ⟨A0, c0, hb, hg, hr0⟩ := h;exact Kd.N_ne ho hb ht
theorem IsS52.fresh {w0 W : World} {g : Nat} {f0 : List Int} {f1 : Int} (h : IsS52 w0 W g f0 f1) : ∀ k, W.heap.size ≤ k → k ≠ g := by
 obtain ⟨A0, c0, hb, hg, hr0⟩ := h;exact Kd.freshB hb
theorem IsS52.kept {w0 W : World} {g : Nat} {f0 : List Int} {f1 : Int} {W1 : World} {S : Nat → Prop} (h : IsS52 w0 W g f0 f1) (hk : Kept W W1 S) (hne : ¬ S g) : IsS52 w0 W1 g f0 f1 := by
 obtain ⟨A0, c0, hb, hg, hr0⟩ := h;exact ⟨A0, c0, blk_kept hb hk hne, hg, hr0⟩
theorem IsS52.below {w0 W : World} {g : Nat} {f0 : List Int} {f1 : Int} {W1 : World} (h : IsS52 w0 W g f0 f1) (hw : Below W.heap.size W W1) : IsS52 w0 W1 g f0 f1 := h.grown (grown_of_below hw none) (by simp)
theorem IsS52.alloc {w0 W : World} {g : Nat} {f0 : List Int} {f1 : Int} (h : IsS52 w0 W g f0 f1) (o : Obj) : IsS52 w0 (W.alloc o) g f0 f1 := h.below (below_alloc (Below.refl _ _) o)
theorem IsS52.drewN {w0 W : World} {g : Nat} {f0 : List Int} {f1 : Int} (h : IsS52 w0 W g f0 f1) (m : Nat) : IsS52 w0 (W.drewN m) g f0 f1 := h
theorem IsS52.drew {w0 W : World} {g : Nat} {f0 : List Int} {f1 : Int} (h : IsS52 w0 W g f0 f1) : IsS52 w0 W.drew g f0 f1 := h
theorem IsS52.at_ {w0 W : World} {g : Nat} {f0 : List Int} {f1 : Int} {w' : World} {m : Nat} (hq : W.drewN m = w') (h : IsS52 w0 W g f0 f1) : IsS52 w0 w' g f0 f1 := by subst hq; exact IsS52.drewN h m
theorem IsS52.apart {w0 W : World} {g : Nat} {f0 : List Int} {f1 : Int} {α : Type} {d : Kd α} {e : Nat} {base : Nat} {ok : Nat → Prop} {v : Value} {xs : List α} (h : IsS52 w0 W g f0 f1) (ho : d.R e W base ok v xs) (ht : ∀ q, q ∈ e :: d.E → q ≠ 52) : d.R e W base (fun k => ok k ∧ k ≠ g) v xs := by
 obtain ⟨A0, c0, hb, hg, hr0⟩ := h;exact Kd.R_types ho hb ht
theorem IsS52.own_ne {w0 W : World} {g : Nat} {f0 : List Int} {f1 : Int} {α : Type} {d : Kd α} {e : Nat} {base : Nat} {ok : Nat → Prop} {v : Value} {xs : List α} (h : IsS52 w0 W g f0 f1) (ho : d.R e W base ok v xs) (ht : e ≠ 52) : some g ≠ v.ownBlock := by
 obtain ⟨A0, c0, hb, hg, hr0⟩ := h;exact Kd.R_ne ho hb ht
theorem IsS52.apartQ {w0 W : World} {g : Nat} {f0 : List Int} {f1 : Int} {α : Type} {d : Kd α} {e : Nat} {base : Nat} {ok : Nat → Prop} {v : Value} {xs : List α} (h : IsS52 w0 W g f0 f1) (ho : d.Q e W base ok v xs) (ht : ∀ q, q ∈ e :: d.E → q ≠ 52) : d.Q e W base (fun k => ok k ∧ k ≠ g) v xs := by
 obtain ⟨A0, c0, hb, hg, hr0⟩ := h;exact Kd.Q_types ho hb ht
theorem IsS52.own_neQ {w0 W : World} {g : Nat} {f0 : List Int} {f1 : Int} {α : Type} {d : Kd α} {e : Nat} {base : Nat} {ok : Nat → Prop} {v : Value} {xs : List α} (h : IsS52 w0 W g f0 f1) (ho : d.Q e W base ok v xs) (ht : e ≠ 52) : some g ≠ v.ownBlock := by
 obtain ⟨A0, c0, hb, hg, hr0⟩ := h;exact Kd.Q_ne ho hb ht
theorem IsS52.apartS {w0 W : World} {g : Nat} {f0 : List Int} {f1 : Int} {α : Type} {d : Kd α} {e : Nat} {base : Nat} {ok : Nat → Prop} {v : Value} {xs : List α} (h : IsS52 w0 W g f0 f1) (ho : d.S e W base ok v xs) (ht : ∀ q, q ∈ e :: d.E → q ≠ 52) : d.S e W base (fun k => ok k ∧ k ≠ g) v xs := by
 obtain ⟨A0, c0, hb, hg, hr0⟩ := h;exact Kd.S_types ho hb ht
theorem IsS52.own_neS {w0 W : World} {g : Nat} {f0 : List Int} {f1 : Int} {α : Type} {d : Kd α} {e : Nat} {base : Nat} {ok : Nat → Prop} {v : Value} {xs : List α} (h : IsS52 w0 W g f0 f1) (ho : d.S e W base ok v xs) (ht : e ≠ 52) : some g ≠ v.ownBlock := by
 obtain ⟨A0, c0, hb, hg, hr0⟩ := h;exact Kd.S_ne ho hb ht
theorem IsS52.lt {w0 W : World} {g : Nat} {f0 : List Int} {f1 : Int} (h : IsS52 w0 W g f0 f1) : g < W.heap.size := by
 obtain ⟨A0, c0, hb, hg, hr0⟩ := h;exact blk_lt hb
theorem IsS52.ge {w0 W : World} {g : Nat} {f0 : List Int} {f1 : Int} (h : IsS52 w0 W g f0 f1) : w0.heap.size ≤ g := by
 obtain ⟨A0, c0, hb, hg, hr0⟩ := h;exact hg
theorem IsS52.ne_blk {w0 W : World} {g : Nat} {f0 : List Int} {f1 : Int} {a : Nat} {cs : Array Value} {t : TypeId} {fr : Nat × Nat} (h : IsS52 w0 W g f0 f1) (hb2 : W.heap[a]? = some (.cells cs t fr)) (ht : t ≠ 52) : g ≠ a := by
 obtain ⟨A0, c0, hb, hg, hr0⟩ := h
 rintro rfl
 rw [hb] at hb2
 injection hb2 with hb2
 injection hb2 with _ ht2
 exact ht ht2.symm
theorem IsS52.far {w0 W : World} {g : Nat} {f0 : List Int} {f1 : Int} {p : Addr} (h : IsS52 w0 W g f0 f1) (hne : g ≠ p.block) (u : Value) : IsS52 w0 (W.setCell p u) g f0 f1 := by
 obtain ⟨A0, c0, hb, hg, hr0⟩ := h;exact ⟨A0, c0, blk_far hb hne u, hg, hr0⟩
theorem cellS52_0 {W : World} {g : Nat} {A0 : Option Addr} {c0 : Nat} {f0 : List Int} {f1 : Int} (h : W.heap[g]? = some (.cells #[.slice A0 f0.length c0, .int .i64 f1] 52 (0, 0))) : W.cell? ⟨g, 0, none⟩ = some (.slice A0 f0.length c0) := (blk_cell h 0).trans rfl
theorem cellS52_1 {W : World} {g : Nat} {A0 : Option Addr} {c0 : Nat} {f0 : List Int} {f1 : Int} (h : W.heap[g]? = some (.cells #[.slice A0 f0.length c0, .int .i64 f1] 52 (0, 0))) : W.cell? ⟨g, 1, none⟩ = some (.int .i64 f1) := (blk_cell h 1).trans rfl
theorem IsS52.set_1 {w0 W : World} {g : Nat} {f0 : List Int} {f1 : Int} (h : IsS52 w0 W g f0 f1) (x : Int) : IsS52 w0 (W.setCell ⟨g, 1, none⟩ (.int .i64 x)) g f0 x := by
 obtain ⟨A0, c0, hb, hg, hr0⟩ := h;exact ⟨A0, c0, by simpa using blk_set hb 1 (.int .i64 x), hg, hr0⟩
theorem IsS52.new (w0 W : World) (A0 : Option Addr) (c0 : Nat) (f0 : List Int) (f1 : Int) (hB : Below w0.heap.size w0 W) (hr0 : Kd.C (Kd.int .u8) w0 A0 f0.length f0) : IsS52 w0 (W.alloc (.cells #[.slice A0 f0.length c0, .int .i64 f1] 52)) W.heap.size f0 f1 := ⟨A0, c0, by simpa using heap_alloc_new W _, hB.size, hr0⟩
theorem IsS52.farB {w0 W : World} {g : Nat} {f0 : List Int} {f1 : Int} {g' j : Nat} {u : Value} (h : IsS52 w0 W g f0 f1) (hne : Aside0 (g ≠ g')) : IsS52 w0 (W.setCell ⟨g', j, none⟩ u) g f0 f1 := IsS52.far h hne.out u
theorem zI {p q : Prop} (h : Aside0 q) (e : q → p := by intro h_; repeat (first | (with_reducible first | exact h_ | apply IsS52.alloc | apply IsS52.drewN | apply IsS52.drew | apply IsS52.set_1 | refine IsS52.farB ?_ (by assumption)) | exact h_)) : p := e h.out
theorem zBi {w w1 w2 W : World} {g : Nat} {f0 : List Int} {f1 : Int} (h : Aside0 (Below w.heap.size w w1)) (hi : Aside0 (IsS52 w w2 g f0 f1)) (e : Below w.heap.size w w1 → w.heap.size ≤ g → Below w.heap.size w W := by intro h_ hg_; repeat (first | (with_reducible first | exact h_ | apply below_alloc | apply pw_below_drewN | apply below_drew1 | refine below_set ?_ hg_ | refine below_set ?_ (Aside0.out (by assumption))) | exact h_)) : Below w.heap.size w W := e h.out (IsS52.ge hi.out)

/-! ### spec_l20Rd_pick: function 19 -/
def spec_l20Rd_pick.j0 : Nat → Int → Bool → List Int → Int → Option (Int × Int)
 | 0, _, _, _, _ => none
 | k + 1, x1, x24, x1000, x1001 => if x24 = true then (some (0, x1001)) else (if (wrap64 (x1001 - 1)) < (x1000.length : Int) then (if 0 ≤ (wrap64 (x1001 - 1)) then (if x1 = 0 then (none) else (some (Int.tmod (wrap64 (rd x1000 (wrap64 (x1001 - 1)))) x1, x1001))) else (none)) else (if (x1000.length : Int) = 0 then (none) else (if 0 ≤ (Int.tmod (wrap64 (x1001 - 1)) (x1000.length : Int)) then (if (Int.tmod (wrap64 (x1001 - 1)) (x1000.length : Int)) < (x1000.length : Int) then (if 0 ≤ (Int.tmod (wrap64 ((wrap64 ((wrap64 (x1001 - 1)) * 7)) + 3)) (x1000.length : Int)) then (if (Int.tmod (wrap64 ((wrap64 ((wrap64 (x1001 - 1)) * 7)) + 3)) (x1000.length : Int)) < (x1000.length : Int) then (if x1 = 0 then (none) else (some (Int.tmod (Go.bits .xor .i64 (wrap64 ((wrap64 ((wrap64 ((wrap64 ((wrap64 (rd x1000 (Int.tmod (wrap64 (x1001 - 1)) (x1000.length : Int)))) * 131)) + (wrap64 ((wrap64 (rd x1000 (Int.tmod (wrap64 ((wrap64 ((wrap64 (x1001 - 1)) * 7)) + 3)) (x1000.length : Int)))) * 1117)))) + (wrap64 ((wrap64 (x1001 - 1)) * 29)))) + (wrap64 ((wrap64 (Int.tdiv (wrap64 (x1001 - 1)) (x1000.length : Int))) * 53)))) (wrap64 (Int.tdiv (wrap64 ((wrap64 ((wrap64 ((wrap64 ((wrap64 (rd x1000 (Int.tmod (wrap64 (x1001 - 1)) (x1000.length : Int)))) * 131)) + (wrap64 ((wrap64 (rd x1000 (Int.tmod (wrap64 ((wrap64 ((wrap64 (x1001 - 1)) * 7)) + 3)) (x1000.length : Int)))) * 1117)))) + (wrap64 ((wrap64 (x1001 - 1)) * 29)))) + (wrap64 ((wrap64 (Int.tdiv (wrap64 (x1001 - 1)) (x1000.length : Int))) * 53)))) 64))) x1, x1001))) else (none)) else (none)) else (none)) else (none))))
def spec_l20Rd_pick.f (k : Nat) (s0_0 : List Int) (s0_1 : Int) (a1 : Int) : Option (Int × Int) := if a1 < 1 then (spec_l20Rd_pick.j0 k a1 true s0_0 (wrap64 (s0_1 + 1))) else (spec_l20Rd_pick.j0 k a1 ((s0_0.length : Int) == 0) s0_0 (wrap64 (s0_1 + 1)))
theorem spec_l20Rd_pick.mono_l : ∀ k, (∀ y0 y1 y2 y3, LeO (spec_l20Rd_pick.j0 k y0 y1 y2 y3) (spec_l20Rd_pick.j0 (k + 1) y0 y1 y2 y3))
 | 0 => fun _ _ _ _ r h => by simp [spec_l20Rd_pick.j0] at h
 | k + 1 => by
  have ih0 := spec_l20Rd_pick.mono_l k
  ·intro y0 y1 y2 y3
   unfold spec_l20Rd_pick.j0
   repeat' first
   | (with_reducible exact ih0 _ _ _ _)
   | (with_reducible exact LeO.refl _)
   | (with_reducible exact LeO.none _)
   | (with_reducible refine LeO.ite ?_ ?_)
   | (with_reducible refine LeO.bind ?_ (fun _ => ?_))
   | exact ih0 _ _ _ _
   | exact LeO.none _
   | refine LeO.ite ?_ ?_
   | refine LeO.bind ?_ (fun _ => ?_)
theorem spec_l20Rd_pick.mono : ∀ a0 a1 a2 k, LeO (spec_l20Rd_pick.f k a0 a1 a2) (spec_l20Rd_pick.f (k + 1) a0 a1 a2) := by
 intro a0 a1 a2 k;have ih0 := spec_l20Rd_pick.mono_l k
 unfold spec_l20Rd_pick.f
 repeat' first
   | (with_reducible exact ih0 _ _ _ _)
   | (with_reducible exact LeO.refl _)
   | (with_reducible exact LeO.none _)
   | (with_reducible refine LeO.ite ?_ ?_)
   | (with_reducible refine LeO.bind ?_ (fun _ => ?_))
   | exact ih0 _ _ _ _
   | exact LeO.none _
   | refine LeO.ite ?_ ?_
   | refine LeO.bind ?_ (fun _ => ?_)
set_option maxHeartbeats 8000000 in
set_option maxRecDepth 100000 in
theorem spec_l20Rd_pick.calls (k : Nat) (g : Nat) (s0_0 : List Int) (s0_1 : Int) (a1 : Int) (r1 : Int) (r2 : Int) (w0 w : World) (hI : IsS52 w0 w g s0_0 s0_1) (hB : Below w0.heap.size w0 w) (h : spec_l20Rd_pick.f k s0_0 s0_1 a1 = some (r1, r2)) :
  Calls Try.prog 19 #[.pointer (some ⟨g, 0, none⟩), .int .i64 a1] w fun e w' => e = .returned (.int .i64 r1) ∧ IsS52 w0 w' g s0_0 r2 ∧ Below w0.heap.size w0 w' ∧ KeepBut w w' g none := by
 have HI0 := Aside0.mk hI;have HK := Aside0.mk (KeepBut.refl w g none);have HL := Aside0.mk hB.size;clear hI;have HW0 := Aside0.mk hB.size;have HB := Aside0.mk hB;clear hB;have H : (if a1 < 1 then (spec_l20Rd_pick.j0 k a1 true s0_0 (wrap64 (s0_1 + 1))) else (spec_l20Rd_pick.j0 k a1 ((s0_0.length : Int) == 0) s0_0 (wrap64 (s0_1 + 1)))) = some (r1, r2) := h;clear h;have HC3 := Aside0.mk H;clear H;obtain ⟨ASz4_0, cSz4_0, HGz4, hgz4, HSz4_0⟩ := HI0.out;have hcz4_0 := cellS52_0 HGz4;have hcz4_1 := cellS52_1 HGz4;have hfz4_1 := blk_frozen HGz4 1;clear HGz4 hgz4
 go_enter Try.func19, Try.ntmps19
 go_upto_region 2 with (fail)
 repeat (go_quiet (fail); go_upto_region 2 with (fail))
 go_cut [24] (fun v24 wc => ∃ (kq : Nat) (x24_2 : Bool), v24 = .bool x24_2 ∧ Aside0 (spec_l20Rd_pick.j0 kq a1 x24_2 s0_0 (wrap64 (s0_1 + 1)) = some (r1, r2)) ∧ Aside0 (kq ≤ k) ∧ Aside0 (IsS52 w0 wc g s0_0 (wrap64 (s0_1 + 1))) ∧ Aside0 (KeepBut w wc g none) ∧ Aside0 (Below w0.heap.size w0 wc))
 case first =>
  have H := HC3.out;clear HC3
  by_cases c5 : a1 < 1
  ·rw [if_pos c5] at H
   have c5b0 : decide (a1 < 1) = true := decide_eq_true c5;clear c5
   (first | rw [c5b0] | (simp only [i64_w, i32_w]; rw [c5b0]) | skip)
   have H' := Aside0.mk H;clear H
   go_wp2
   repeat (go_quiet (fail); try go_wp2)
   go_meet
   case rel => exact ⟨_, (true), z1, H', ⟨z2⟩, ⟨zI HI0⟩, ⟨zJ HK⟩, ⟨zBi HB HI0⟩⟩
  ·rw [if_neg c5] at H
   have c5b0 : decide (a1 < 1) = false := decide_eq_false c5;clear c5
   (first | rw [c5b0] | (simp only [i64_w, i32_w]; rw [c5b0]) | skip)
   have H' := Aside0.mk H;clear H;obtain ⟨ASz6_0, cSz6_0, HGz6, hgz6, HSz6_0⟩ := HI0.out;have hcz6_0 := cellS52_0 HGz6;have hcz6_1 := cellS52_1 HGz6;have hfz6_1 := blk_frozen HGz6 1;clear HGz6 hgz6
   go_wp2
   repeat (go_quiet (fail); try go_wp2)
   go_meet
   case rel => exact ⟨_, (((s0_0.length : Int) == 0)), z1, H', ⟨z2⟩, ⟨zI HI0⟩, ⟨zJ HK⟩, ⟨zBi HB HI0⟩⟩
 case rest =>
  clear HC3
  obtain ⟨kq, x24_2, rfl, HA, HJ2, HI0, HK, HB⟩ := hcut
  cases kq with
  | zero => exact absurd HA.out (by simp [spec_l20Rd_pick.j0])
  | succ kj2 =>
   have H := HA.out;clear HA;simp only [spec_l20Rd_pick.j0] at H
   by_cases c7 : x24_2 = true
   ·subst c7
    rw [if_pos rfl] at H;simp only [Option.some.injEq, Prod.mk.injEq] at H;obtain ⟨rfl, rfl⟩ := H
    go_wp2
    repeat (go_quiet (fail); try go_wp2)
    go_ret;exact ⟨by first | rfl | (simp <;> rfl) | (simp [*] <;> rfl), zI HI0, zBi HB HI0, by repeat (first | (with_reducible first | exact HK.out | apply KeepBut.set_ | apply keep_drewN | apply keep_drew | apply keep_alloc) | exact HK.out)⟩
   ·replace c7 := Bool.eq_false_iff.mpr c7
    subst c7
    rw [if_neg (show ¬ (false = true) by decide)] at H
    by_cases c8 : (wrap64 ((wrap64 (s0_1 + 1)) - 1)) < (s0_0.length : Int)
    ·rw [if_pos c8] at H
     have c8b0 : decide ((wrap64 ((wrap64 (s0_1 + 1)) - 1)) < (s0_0.length : Int)) = true := decide_eq_true c8;clear c8;obtain ⟨ji9, hji9⟩ : ∃ j_ : Int, (wrap64 ((wrap64 (s0_1 + 1)) - 1)) = j_ := ⟨_, rfl⟩
     (first | rw [hji9] at H | simp only [hji9] at H)
     (try rw [hji9] at c8b0);have hji9w : (IntKind.i64.wrap ((wrap64 (s0_1 + 1)) - 1)) = ji9 := (i64_w _).trans hji9
     by_cases c10 : 0 ≤ (ji9)
     ·rw [if_pos c10] at H
      have c10b0 : decide (0 ≤ (ji9)) = true := decide_eq_true c10;clear c10
      by_cases c11 : a1 = 0
      ·rw [if_pos c11] at H
       exact absurd H (by simp)
      ·rw [if_neg c11] at H
       have c11b0 : (a1 == 0) = false := beq_eq_false_iff_ne.mpr c11;have c11b1 : (a1 != 0) = true := bne_iff_ne.mpr c11;simp only [Option.some.injEq, Prod.mk.injEq] at H;obtain ⟨rfl, rfl⟩ := H;obtain ⟨ASz12_0, cSz12_0, HGz12, hgz12, HSz12_0⟩ := HI0.out;have hcz12_0 := cellS52_0 HGz12;have hcz12_1 := cellS52_1 HGz12;have hfz12_1 := blk_frozen HGz12 1;clear HGz12 hgz12;have p101 : 0 ≤ ((ji9) : Int) := of_decide_eq_true (by first | (with_reducible assumption) | assumption);have q101 : (ji9) < (s0_0.length : Int) := of_decide_eq_true (by first | (with_reducible assumption) | assumption);obtain ⟨ad101, e101, hx101_0⟩ := Kd.at_int HSz12_0 (ji9) p101 q101
       cases e101
       replace hx101_0 := pw_cell_below HB.out hx101_0;replace p101 := eq_true p101;replace q101 := eq_true q101
       go_wp2
       repeat (go_quiet (fail); try go_wp2)
       go_ret;exact ⟨by first | rfl | (simp <;> rfl) | (simp only [← hji9]; first | rfl | (simp <;> rfl)) | (simp [*] <;> rfl), zI HI0, zBi HB HI0, by repeat (first | (with_reducible first | exact HK.out | apply KeepBut.set_ | apply keep_drewN | apply keep_drew | apply keep_alloc) | exact HK.out)⟩
     ·rw [if_neg c10] at H
      exact absurd H (by simp)
    ·rw [if_neg c8] at H
     have c8b0 : decide ((wrap64 ((wrap64 (s0_1 + 1)) - 1)) < (s0_0.length : Int)) = false := decide_eq_false c8;clear c8
     by_cases c13 : (s0_0.length : Int) = 0
     ·rw [if_pos c13] at H
      exact absurd H (by simp)
     ·rw [if_neg c13] at H
      have c13b0 : ((s0_0.length : Int) == 0) = false := beq_eq_false_iff_ne.mpr c13;have c13b1 : ((s0_0.length : Int) != 0) = true := bne_iff_ne.mpr c13;have c13b2 : ¬ (s0_0 = []) := fun h_ => c13 (by rw [h_]; rfl);obtain ⟨ji14, hji14⟩ : ∃ j_ : Int, (Int.tmod (wrap64 ((wrap64 (s0_1 + 1)) - 1)) (s0_0.length : Int)) = j_ := ⟨_, rfl⟩
      (first | rw [hji14] at H | simp only [hji14] at H)
      by_cases c15 : 0 ≤ (ji14)
      ·rw [if_pos c15] at H
       have c15b0 : decide (0 ≤ (ji14)) = true := decide_eq_true c15;clear c15
       by_cases c16 : (ji14) < (s0_0.length : Int)
       ·rw [if_pos c16] at H
        have c16b0 : decide ((ji14) < (s0_0.length : Int)) = true := decide_eq_true c16;clear c16;obtain ⟨ji17, hji17⟩ : ∃ j_ : Int, (Int.tmod (wrap64 ((wrap64 ((wrap64 ((wrap64 (s0_1 + 1)) - 1)) * 7)) + 3)) (s0_0.length : Int)) = j_ := ⟨_, rfl⟩
        (first | rw [hji17] at H | simp only [hji17] at H)
        by_cases c18 : 0 ≤ (ji17)
        ·rw [if_pos c18] at H
         have c18b0 : decide (0 ≤ (ji17)) = true := decide_eq_true c18;clear c18
         by_cases c19 : (ji17) < (s0_0.length : Int)
         ·rw [if_pos c19] at H
          have c19b0 : decide ((ji17) < (s0_0.length : Int)) = true := decide_eq_true c19;clear c19
          by_cases c20 : a1 = 0
          ·rw [if_pos c20] at H
           exact absurd H (by simp)
          ·rw [if_neg c20] at H
           have c20b0 : (a1 == 0) = false := beq_eq_false_iff_ne.mpr c20;have c20b1 : (a1 != 0) = true := bne_iff_ne.mpr c20;simp only [Option.some.injEq, Prod.mk.injEq] at H;obtain ⟨rfl, rfl⟩ := H;obtain ⟨ASz21_0, cSz21_0, HGz21, hgz21, HSz21_0⟩ := HI0.out;have hcz21_0 := cellS52_0 HGz21;have hcz21_1 := cellS52_1 HGz21;have hfz21_1 := blk_frozen HGz21 1;clear HGz21 hgz21;have p102 : 0 ≤ ((ji14) : Int) := of_decide_eq_true (by first | (with_reducible assumption) | assumption);have q102 : (ji14) < (s0_0.length : Int) := of_decide_eq_true (by first | (with_reducible assumption) | assumption);obtain ⟨ad102, e102, hx102_0⟩ := Kd.at_int HSz21_0 (ji14) p102 q102
           cases e102
           replace hx102_0 := pw_cell_below HB.out hx102_0;replace p102 := eq_true p102;replace q102 := eq_true q102;have p103 : 0 ≤ ((ji17) : Int) := of_decide_eq_true (by first | (with_reducible assumption) | assumption);have q103 : (ji17) < (s0_0.length : Int) := of_decide_eq_true (by first | (with_reducible assumption) | assumption);obtain ⟨ad103, e103, hx103_0⟩ := Kd.at_int HSz21_0 (ji17) p103 q103;obtain rfl : ad102 = ad103 := (by injection e103);replace hx103_0 := pw_cell_below HB.out hx103_0;replace p103 := eq_true p103;replace q103 := eq_true q103
           go_wp2
           repeat (go_quiet (fail); try go_wp2)
           go_ret;exact ⟨by first | rfl | (simp <;> rfl) | (simp only [← hji14, ← hji17]; first | rfl | (simp <;> rfl)) | (simp [*] <;> rfl), zI HI0, zBi HB HI0, by repeat (first | (with_reducible first | exact HK.out | apply KeepBut.set_ | apply keep_drewN | apply keep_drew | apply keep_alloc) | exact HK.out)⟩
         ·rw [if_neg c19] at H
          exact absurd H (by simp)
        ·rw [if_neg c18] at H
         exact absurd H (by simp)
       ·rw [if_neg c16] at H
        exact absurd H (by simp)
      ·rw [if_neg c15] at H
       exact absurd H (by simp)

/-! ### spec_l20Rd_odd: function 22 -/
def spec_l20Rd_odd.f (k : Nat) (s0_0 : List Int) (s0_1 : Int) (a1 : Int) : Option (Bool × Int) := if a1 > 0 then ((spec_l20Rd_pick.f k s0_0 s0_1 a1).bind fun bt104 => (some ((bt104.1 == (wrap64 (a1 - 1))), bt104.2))) else (some (false, s0_1))
theorem spec_l20Rd_odd.mono : ∀ a0 a1 a2 k, LeO (spec_l20Rd_odd.f k a0 a1 a2) (spec_l20Rd_odd.f (k + 1) a0 a1 a2) := by
 intro a0 a1 a2 k
 unfold spec_l20Rd_odd.f
 repeat' first
   | (with_reducible exact spec_l20Rd_pick.mono _ _ _ _)
   | (with_reducible exact LeO.refl _)
   | (with_reducible exact LeO.none _)
   | (with_reducible refine LeO.ite ?_ ?_)
   | (with_reducible refine LeO.bind ?_ (fun _ => ?_))
   | exact spec_l20Rd_pick.mono _ _ _ _
   | exact LeO.none _
   | refine LeO.ite ?_ ?_
   | refine LeO.bind ?_ (fun _ => ?_)
set_option maxHeartbeats 8000000 in
set_option maxRecDepth 100000 in
theorem spec_l20Rd_odd.calls (k : Nat) (g : Nat) (s0_0 : List Int) (s0_1 : Int) (a1 : Int) (r1 : Bool) (r2 : Int) (w0 w : World) (hI : IsS52 w0 w g s0_0 s0_1) (hB : Below w0.heap.size w0 w) (h : spec_l20Rd_odd.f k s0_0 s0_1 a1 = some (r1, r2)) :
  Calls Try.prog 22 #[.pointer (some ⟨g, 0, none⟩), .int .i64 a1] w fun e w' => e = .returned (.bool r1) ∧ IsS52 w0 w' g s0_0 r2 ∧ Below w0.heap.size w0 w' ∧ KeepBut w w' g none := by
 have HI0 := Aside0.mk hI;have HK := Aside0.mk (KeepBut.refl w g none);have HL := Aside0.mk hB.size;clear hI;have HW0 := Aside0.mk hB.size;have HB := Aside0.mk hB;clear hB;have H : (if a1 > 0 then ((spec_l20Rd_pick.f k s0_0 s0_1 a1).bind fun bt104 => (some ((bt104.1 == (wrap64 (a1 - 1))), bt104.2))) else (some (false, s0_1))) = some (r1, r2) := h;clear h
 by_cases c3 : a1 > 0
 ·rw [if_pos c3] at H
  have c3b0 : decide (0 < a1) = true := decide_eq_true c3;clear c3;replace H := zf H;obtain ⟨⟨t104, t105⟩, A4, H⟩ := H;simp only [Option.some.injEq, Prod.mk.injEq] at H;obtain ⟨rfl, rfl⟩ := H
  go_enter Try.func22, Try.ntmps22
  go_wp2_with (first | (go_at_call 19; (with_reducible refine (spec_l20Rd_pick.calls k g s0_0 s0_1 a1 t104 t105 w0 _ ?side1 ?side2 A4.out).mono ?_); (case side1 => exact zI HI0); (case side2 => exact zBi HB HI0); rintro e w5 ⟨rfl, hi, hb, hk⟩; replace HK := Aside0.mk (KeepBut.trans (zJ HK) hk (.inl rfl)); replace HB := Aside0.mk (hb); replace HI0 := Aside0.mk (hi); (try clear hb); (try clear hb2); (try clear hk); (try clear hi)))
  go_ret;exact ⟨by first | rfl | (simp <;> rfl) | (simp [*] <;> rfl), zI HI0, zBi HB HI0, by repeat (first | (with_reducible first | exact HK.out | apply KeepBut.set_ | apply keep_drewN | apply keep_drew | apply keep_alloc) | exact HK.out)⟩
 ·rw [if_neg c3] at H
  have c3b0 : decide (0 < a1) = false := decide_eq_false c3;clear c3;simp only [Option.some.injEq, Prod.mk.injEq] at H;obtain ⟨rfl, rfl⟩ := H
  go_enter Try.func22, Try.ntmps22
  go_wp2
  go_ret;exact ⟨by first | rfl | (simp <;> rfl) | (simp [*] <;> rfl), zI HI0, zBi HB HI0, by repeat (first | (with_reducible first | exact HK.out | apply KeepBut.set_ | apply keep_drewN | apply keep_drew | apply keep_alloc) | exact HK.out)⟩

/-! ### spec_l20Rd_bytes: function 30 -/
def spec_l20Rd_bytes.l0 : Nat → Int → List Int → List Int → Int → Option (List Int × Int)
 | 0, _, _, _, _ => none
 | k + 1, x1, x5, x1000, x1001 => if x1 > 0 then ((spec_l20Rd_pick.f k x1000 x1001 3).bind fun bt109 => (if bt109.1 = 0 then ((spec_l20Rd_pick.f k x1000 bt109.2 256).bind fun bt111 => (if x5.length < 140737488355328 then (spec_l20Rd_bytes.l0 k (wrap64 (x1 - 1)) (x5 ++ [(bt111.1) % 256]) x1000 bt111.2) else (none))) else ((spec_l20Rd_pick.f k x1000 bt109.2 3).bind fun bt116 => (if x5.length < 140737488355328 then (spec_l20Rd_bytes.l0 k (wrap64 (x1 - 1)) (x5 ++ [(wrap64 (bt116.1 + 97)) % 256]) x1000 bt116.2) else (none))))) else (some (x5, x1001))
def spec_l20Rd_bytes.f (k : Nat) (s0_0 : List Int) (s0_1 : Int) (a1 : Int) : Option (List Int × Int) := spec_l20Rd_bytes.l0 k a1 (([] : List Int)) s0_0 s0_1
theorem spec_l20Rd_bytes.mono_l : ∀ k, (∀ y0 y1 y2 y3, LeO (spec_l20Rd_bytes.l0 k y0 y1 y2 y3) (spec_l20Rd_bytes.l0 (k + 1) y0 y1 y2 y3))
 | 0 => fun _ _ _ _ r h => by simp [spec_l20Rd_bytes.l0] at h
 | k + 1 => by
  have ih0 := spec_l20Rd_bytes.mono_l k
  ·intro y0 y1 y2 y3
   unfold spec_l20Rd_bytes.l0
   repeat' first
   | (with_reducible exact ih0 _ _ _ _)
   | (with_reducible exact spec_l20Rd_pick.mono _ _ _ _)
   | (with_reducible exact LeO.refl _)
   | (with_reducible exact LeO.none _)
   | (with_reducible refine LeO.ite ?_ ?_)
   | (with_reducible refine LeO.bind ?_ (fun _ => ?_))
   | exact ih0 _ _ _ _
   | exact spec_l20Rd_pick.mono _ _ _ _
   | exact LeO.none _
   | refine LeO.ite ?_ ?_
   | refine LeO.bind ?_ (fun _ => ?_)
theorem spec_l20Rd_bytes.mono : ∀ a0 a1 a2 k, LeO (spec_l20Rd_bytes.f k a0 a1 a2) (spec_l20Rd_bytes.f (k + 1) a0 a1 a2) := by
 intro a0 a1 a2 k;have ih0 := spec_l20Rd_bytes.mono_l k
 unfold spec_l20Rd_bytes.f
 repeat' first
   | (with_reducible exact ih0 _ _ _ _)
   | (with_reducible exact spec_l20Rd_pick.mono _ _ _ _)
   | (with_reducible exact LeO.refl _)
   | (with_reducible exact LeO.none _)
   | (with_reducible refine LeO.ite ?_ ?_)
   | (with_reducible refine LeO.bind ?_ (fun _ => ?_))
   | exact ih0 _ _ _ _
   | exact spec_l20Rd_pick.mono _ _ _ _
   | exact LeO.none _
   | refine LeO.ite ?_ ?_
   | refine LeO.bind ?_ (fun _ => ?_)
set_option maxHeartbeats 8000000 in
set_option maxRecDepth 100000 in
theorem spec_l20Rd_bytes.calls (k : Nat) (g : Nat) (s0_0 : List Int) (s0_1 : Int) (a1 : Int) (r1 : List Int) (r2 : Int) (w0 w : World) (hI : IsS52 w0 w g s0_0 s0_1) (hB : Below w0.heap.size w0 w) (h : spec_l20Rd_bytes.f k s0_0 s0_1 a1 = some (r1, r2)) :
  Calls Try.prog 30 #[.pointer (some ⟨g, 0, none⟩), .int .i64 a1] w fun e w' => ∃ v0_ : Value, e = .returned (v0_) ∧ Kd.R (Kd.int .u8) 5 w' w.heap.size (fun _ => True) v0_ r1 ∧ IsS52 w0 w' g s0_0 r2 ∧ Below w0.heap.size w0 w' ∧ KeepBut w w' g none := by
 have HI0 := Aside0.mk hI;have HK := Aside0.mk (KeepBut.refl w g none);have HL := Aside0.mk hB.size;clear hI;have HW0 := Aside0.mk hB.size;have HB := Aside0.mk hB;clear hB;have H : (spec_l20Rd_bytes.l0 k a1 (([] : List Int)) s0_0 s0_1) = some (r1, r2) := h;clear h;(first | (with_reducible (replace H := zy H); obtain ⟨y106, Ny106, H⟩ := H) | (obtain ⟨y106, hy106⟩ : ∃ y_ : List Int, y_ = (([] : List Int)) := ⟨_, rfl⟩; rw [← hy106] at H; have Ny106 := Aside0.mk hy106; clear hy106));have H' := Aside0.mk H;clear H
 go_enter Try.func30, Try.ntmps30
 go_wp2_with (first | ((with_reducible refine gate_dst (N := 6) rfl ?_); refine Kd.R_lit (Kd.int .u8) _ 5 (by rfl) (N := 6) (by rfl) (xs := ([] : List Int)) (inner := []) (ok := fun _ => True) (okp := fun _ => True) zr ?hp (fun _ hk => hk) trivial (Below.refl _ _) (Nat.le_refl _) (by simp) ?_; (case hp => exact (Reps.none _ _)); intro v107 w3 ho4 hb hg_ hnew_; clear hg_ hnew_; (first | rw [← Ny106.out] at ho4 | (simp only [Int.reduceToNat] at ho4; rw [← Ny106.out] at ho4)); have HO108 := Aside0.mk (Kd.R_lower ho4 (keep_size (w := w) (g := g) (row := none) (zJ HK))); replace HK := Aside0.mk (KeepBut.trans (zJ HK) (KeepBut.of_below hb g none) (.inl rfl)); replace HB := Aside0.mk (below_step (zBi HB HI0) hb); replace HI0 := Aside0.mk (IsS52.below (zI HI0) hb); clear hb ho4))
 go_loopg [1, 5] k (fun kq v1 v5 w' => ∃ (x1_1 : Int) (x5_1 : List Int) (x1001_1 : Int), v1 = .int .i64 x1_1 ∧ Aside0 (spec_l20Rd_bytes.l0 kq x1_1 x5_1 s0_0 x1001_1 = some (r1, r2)) ∧ Aside0 (kq ≤ k) ∧ Aside0 (Kd.R (Kd.int .u8) 5 w' w.heap.size (fun _ => True) v5 x5_1) ∧ Aside0 (IsS52 w0 w' g s0_0 x1001_1) ∧ Aside0 (KeepBut w w' g none) ∧ Aside0 (Below w0.heap.size w0 w'))
 case atStart => exact ⟨(a1), (y106), (s0_1), z1, H', ⟨Nat.le_refl _⟩, ⟨zO HO108⟩, ⟨zI HI0⟩, ⟨zJ HK⟩, ⟨zBi HB HI0⟩⟩
 case round =>
  clear H'
  obtain ⟨x1_1, x5_1, x1001_1, rfl, HA, HK1, HO_5, HI0, HK, HB⟩ := hrel
  cases gk with
  | zero => exact absurd HA.out (by simp [spec_l20Rd_bytes.l0])
  | succ k1 =>
   have H := HA.out;clear HA;simp only [spec_l20Rd_bytes.l0] at H
   by_cases c5 : x1_1 > 0
   ·rw [if_pos c5] at H
    have c5b0 : decide (0 < x1_1) = true := decide_eq_true c5;clear c5;replace H := zf H;obtain ⟨⟨t109, t110⟩, A6, H⟩ := H
    by_cases c7 : t109 = 0
    ·rw [if_pos c7] at H
     have c7b0 : (t109 == 0) = true := beq_iff_eq.mpr c7;have c7b1 : (t109 != 0) = false := bne_eq_false_iff_eq.mpr c7;clear c7;replace H := zf H;obtain ⟨⟨t111, t112⟩, A8, H⟩ := H
     by_cases c9 : x5_1.length < 140737488355328
     ·rw [if_pos c9] at H
      have LMc9 := Aside0.mk c9;clear c9;(first | (with_reducible (replace H := zy H); obtain ⟨y113, Ny113, H⟩ := H) | (obtain ⟨y113, hy113⟩ : ∃ y_ : List Int, y_ = (x5_1 ++ [(t111) % 256]) := ⟨_, rfl⟩; rw [← hy113] at H; have Ny113 := Aside0.mk hy113; clear hy113));have H' := Aside0.mk H;clear H
      go_wp2_with (first | ((with_reducible refine gate_callee (f := 19) rfl ?_); refine goesL_ (some 12) rfl rfl Try.func19 (by kernel_rfl) rfl #[.pointer (some ⟨g, 0, none⟩), .int .i64 3] rfl zM ?_; (with_reducible refine (spec_l20Rd_pick.calls k1 g s0_0 x1001_1 3 t109 t110 w0 _ ?side1 ?side2 A6.out).mono ?_); (case side1 => exact zI HI0); (case side2 => exact zBi HB HI0); rintro e w10 ⟨rfl, hi, hb, hk⟩; refine ⟨_, rfl, ?_⟩; replace HO_5 := Aside0.mk (Kd.R_mono (Kd.R_keep (IsS52.apart (show IsS52 w0 _ g s0_0 x1001_1 from zI HI0) (zO HO_5) (by decide)) hk (fun _ h => h.2)) (fun _ h => h.1)); replace HK := Aside0.mk (KeepBut.trans (zJ HK) hk (.inl rfl)); replace HB := Aside0.mk (hb); replace HI0 := Aside0.mk (hi); (try clear hb); (try clear hb2); (try clear hk); (try clear hi)) | ((with_reducible refine gate_callee (f := 19) rfl ?_); refine goesL_ (some 16) rfl rfl Try.func19 (by kernel_rfl) rfl #[.pointer (some ⟨g, 0, none⟩), .int .i64 256] rfl zM ?_; (with_reducible refine (spec_l20Rd_pick.calls k1 g s0_0 t110 256 t111 t112 w0 _ ?side1 ?side2 A8.out).mono ?_); (case side1 => exact zI HI0); (case side2 => exact zBi HB HI0); rintro e w11 ⟨rfl, hi, hb, hk⟩; refine ⟨_, rfl, ?_⟩; replace HO_5 := Aside0.mk (Kd.R_mono (Kd.R_keep (IsS52.apart (show IsS52 w0 _ g s0_0 t110 from zI HI0) (zO HO_5) (by decide)) hk (fun _ h => h.2)) (fun _ h => h.1)); replace HK := Aside0.mk (KeepBut.trans (zJ HK) hk (.inl rfl)); replace HB := Aside0.mk (hb); replace HI0 := Aside0.mk (hi); (try clear hb); (try clear hb2); (try clear hk); (try clear hi)) | ((with_reducible refine gate_builtin (b := .append) (xs := #[.tmp 14, .tmp 18]) rfl ?_); at_builtin; refine Kd.R_append (Kd.int .u8) w.heap.size rfl (.tmp 14) (.tmp 18) 22 5 (.int .u8 0) 1 rfl Try.underlying22 info5 rfl (by decide) (by omega) u5 x5_1 ((t111) % 256) [.int .u8 ((t111) % 256)] (fun _ => True) (fun _ => False) rfl rfl ?aP (fun _ hk => hk.elim) ?aF ?aO (Below.refl _ _) ?aS ?aL ?_; (case aP => exact rfl); (case aF => exact (fun _ _ => trivial)); (case aO => exact (zO HO_5)); (case aS => exact (keep_size (w := w) (g := g) (row := none) (zJ HK))); (case aL => have := LMc9.out; omega); intro v114 w12 ho hb hg hat; rw [← Ny113.out] at ho; replace HB := Aside0.mk (below_weaken (zBi HB HI0) HL.out hb); replace HI0 := Aside0.mk (IsS52.grown (zI HI0) hg (IsS52.own_ne HI0.out HO_5.out (by decide))); replace HK := Aside0.mk (KeepBut.trans (zJ HK) (KeepBut.of_grown hg g) (Kd.R_base2 HO_5.out)); have HO115 := Aside0.mk (ho); clear HO_5; clear ho hb hg hat))
      go_roundg k1
      case measure => have := HK1.out; omega
      case rel => exact ⟨(wrap64 (x1_1 - 1)), (y113), (t112), z1, H', ⟨by have := HK1.out; omega⟩, ⟨zO HO115⟩, ⟨zI HI0⟩, ⟨zJ HK⟩, ⟨zBi HB HI0⟩⟩
     ·rw [if_neg c9] at H
      exact absurd H (by simp)
    ·rw [if_neg c7] at H
     have c7b0 : (t109 == 0) = false := beq_eq_false_iff_ne.mpr c7;have c7b1 : (t109 != 0) = true := bne_iff_ne.mpr c7;replace H := zf H;obtain ⟨⟨t116, t117⟩, A13, H⟩ := H
     by_cases c14 : x5_1.length < 140737488355328
     ·rw [if_pos c14] at H
      have LMc14 := Aside0.mk c14;clear c14;(first | (with_reducible (replace H := zy H); obtain ⟨y118, Ny118, H⟩ := H) | (obtain ⟨y118, hy118⟩ : ∃ y_ : List Int, y_ = (x5_1 ++ [(wrap64 (t116 + 97)) % 256]) := ⟨_, rfl⟩; rw [← hy118] at H; have Ny118 := Aside0.mk hy118; clear hy118));have H' := Aside0.mk H;clear H
      go_wp2_with (first | ((with_reducible refine gate_callee (f := 19) rfl ?_); refine goesL_ (some 12) rfl rfl Try.func19 (by kernel_rfl) rfl #[.pointer (some ⟨g, 0, none⟩), .int .i64 3] rfl zM ?_; (with_reducible refine (spec_l20Rd_pick.calls k1 g s0_0 x1001_1 3 t109 t110 w0 _ ?side1 ?side2 A6.out).mono ?_); (case side1 => exact zI HI0); (case side2 => exact zBi HB HI0); rintro e w15 ⟨rfl, hi, hb, hk⟩; refine ⟨_, rfl, ?_⟩; replace HO_5 := Aside0.mk (Kd.R_mono (Kd.R_keep (IsS52.apart (show IsS52 w0 _ g s0_0 x1001_1 from zI HI0) (zO HO_5) (by decide)) hk (fun _ h => h.2)) (fun _ h => h.1)); replace HK := Aside0.mk (KeepBut.trans (zJ HK) hk (.inl rfl)); replace HB := Aside0.mk (hb); replace HI0 := Aside0.mk (hi); (try clear hb); (try clear hb2); (try clear hk); (try clear hi)) | ((with_reducible refine gate_callee (f := 19) rfl ?_); refine goesL_ (some 22) rfl rfl Try.func19 (by kernel_rfl) rfl #[.pointer (some ⟨g, 0, none⟩), .int .i64 3] rfl zM ?_; (with_reducible refine (spec_l20Rd_pick.calls k1 g s0_0 t110 3 t116 t117 w0 _ ?side1 ?side2 A13.out).mono ?_); (case side1 => exact zI HI0); (case side2 => exact zBi HB HI0); rintro e w16 ⟨rfl, hi, hb, hk⟩; refine ⟨_, rfl, ?_⟩; replace HO_5 := Aside0.mk (Kd.R_mono (Kd.R_keep (IsS52.apart (show IsS52 w0 _ g s0_0 t110 from zI HI0) (zO HO_5) (by decide)) hk (fun _ h => h.2)) (fun _ h => h.1)); replace HK := Aside0.mk (KeepBut.trans (zJ HK) hk (.inl rfl)); replace HB := Aside0.mk (hb); replace HI0 := Aside0.mk (hi); (try clear hb); (try clear hb2); (try clear hk); (try clear hi)) | ((with_reducible refine gate_builtin (b := .append) (xs := #[.tmp 20, .tmp 25]) rfl ?_); at_builtin; refine Kd.R_append (Kd.int .u8) w.heap.size rfl (.tmp 20) (.tmp 25) 22 5 (.int .u8 0) 1 rfl Try.underlying22 info5 rfl (by decide) (by omega) u5 x5_1 ((wrap64 (t116 + 97)) % 256) [.int .u8 ((wrap64 (t116 + 97)) % 256)] (fun _ => True) (fun _ => False) rfl rfl ?aP (fun _ hk => hk.elim) ?aF ?aO (Below.refl _ _) ?aS ?aL ?_; (case aP => exact rfl); (case aF => exact (fun _ _ => trivial)); (case aO => exact (zO HO_5)); (case aS => exact (keep_size (w := w) (g := g) (row := none) (zJ HK))); (case aL => have := LMc14.out; omega); intro v119 w17 ho hb hg hat; rw [← Ny118.out] at ho; replace HB := Aside0.mk (below_weaken (zBi HB HI0) HL.out hb); replace HI0 := Aside0.mk (IsS52.grown (zI HI0) hg (IsS52.own_ne HI0.out HO_5.out (by decide))); replace HK := Aside0.mk (KeepBut.trans (zJ HK) (KeepBut.of_grown hg g) (Kd.R_base2 HO_5.out)); have HO120 := Aside0.mk (ho); clear HO_5; clear ho hb hg hat))
      go_roundg k1
      case measure => have := HK1.out; omega
      case rel => exact ⟨(wrap64 (x1_1 - 1)), (y118), (t117), z1, H', ⟨by have := HK1.out; omega⟩, ⟨zO HO120⟩, ⟨zI HI0⟩, ⟨zJ HK⟩, ⟨zBi HB HI0⟩⟩
     ·rw [if_neg c14] at H
      exact absurd H (by simp)
   ·rw [if_neg c5] at H
    have c5b0 : decide (0 < x1_1) = false := decide_eq_false c5;clear c5;simp only [Option.some.injEq, Prod.mk.injEq] at H;obtain ⟨rfl, rfl⟩ := H
    go_wp2
    go_ret;exact ⟨_, by first | rfl | (simp <;> rfl) | (simp [*] <;> rfl), by (with_reducible repeat (first | apply Kd.R_alloc | apply Kd.R_drewN | apply Kd.R_drew)); exact HO_5.out, zI HI0, zBi HB HI0, by repeat (first | (with_reducible first | exact HK.out | apply KeepBut.set_ | apply keep_drewN | apply keep_drew | apply keep_alloc) | exact HK.out)⟩

end Go.Proofs.Ytdbmmkhaeghjaaa.PFnPartsOk

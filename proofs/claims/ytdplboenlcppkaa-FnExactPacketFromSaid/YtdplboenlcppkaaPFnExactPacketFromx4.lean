/- The machine side of some functions: each comes to its pure answer (written by a program of this session with the kit's print). No condition. -/
import Derived.Test.YtdplboenlcppkaaPFnExactPacketFromx0
namespace Go.Proofs.Ytdplboenlcppkaa.PFnExactPacketFrom
open Go.RowKit Go.Proofs.YtdplboenlcppkaaUFnExactPacketFrom.PrintWords Go.Proofs.YtdplboenlcppkaaUFnExactPacketFrom.PrintLast Go.Proofs.YtdplboenlcppkaaUFnExactPacketFrom.PrintMore
attribute [local go_sem] max2_int min2_int max_two min_two max_three min_three max_four min_four   -- for this text's walks alone
set_option linter.unusedVariables false
set_option linter.unusedSimpArgs false

/-! ### laws_toByteS: function 40 -/
def laws_toByteS.l0 : Nat → List Int → List Int → Int → Option (List Int)
 | 0, _, _, _ => none
 | k + 1, x0, x3, x4 => if x4 < (x0.length : Int) then (if 0 ≤ x4 then (if x4 < (x3.length : Int) then (laws_toByteS.l0 k x0 (x3.set (x4 : Int).toNat (rd x0 x4)) (wrap64 (x4 + 1))) else (none)) else (none)) else (some x3)
def laws_toByteS.f (k : Nat) (l0 : List Int) : Option (List Int) := if 0 ≤ (l0.length : Int) then (if ((l0.length : Int) : Int).toNat ≤ 281474976710656 then (laws_toByteS.l0 k l0 (List.replicate ((l0.length : Int) : Int).toNat 0) 0) else (none)) else (none)
theorem laws_toByteS.mono_l : ∀ k, (∀ y0 y1 y2, LeO (laws_toByteS.l0 k y0 y1 y2) (laws_toByteS.l0 (k + 1) y0 y1 y2))
 | 0 => fun _ _ _ r h => by simp [laws_toByteS.l0] at h
 | k + 1 => by
  have ih0 := laws_toByteS.mono_l k
  ·intro y0 y1 y2
   unfold laws_toByteS.l0
   repeat' first
   | (with_reducible exact ih0 _ _ _)
   | (with_reducible exact LeO.refl _)
   | (with_reducible exact LeO.none _)
   | (with_reducible refine LeO.ite ?_ ?_)
   | (with_reducible refine LeO.bind ?_ (fun _ => ?_))
   | exact ih0 _ _ _
   | exact LeO.none _
   | refine LeO.ite ?_ ?_
   | refine LeO.bind ?_ (fun _ => ?_)
theorem laws_toByteS.mono : ∀ a0 k, LeO (laws_toByteS.f k a0) (laws_toByteS.f (k + 1) a0) := by
 intro a0 k;have ih0 := laws_toByteS.mono_l k
 unfold laws_toByteS.f
 repeat' first
   | (with_reducible exact ih0 _ _ _)
   | (with_reducible exact LeO.refl _)
   | (with_reducible exact LeO.none _)
   | (with_reducible refine LeO.ite ?_ ?_)
   | (with_reducible refine LeO.bind ?_ (fun _ => ?_))
   | exact ih0 _ _ _
   | exact LeO.none _
   | refine LeO.ite ?_ ?_
   | refine LeO.bind ?_ (fun _ => ?_)
set_option maxHeartbeats 8000000 in
set_option maxRecDepth 100000 in
theorem laws_toByteS.calls (k : Nat) (A0 : Option Addr) (c0 : Nat) (l0 : List Int) (r : List Int) (w : World) (hr0 : Kd.C (Kd.int .u8) w A0 l0.length l0) (hc0 : l0.length ≤ c0) (h : laws_toByteS.f k l0 = some r) :
  Calls Try.prog 40 #[.slice A0 l0.length c0] w fun e w' => ∃ v0_ : Value, e = .returned (v0_) ∧ Kd.R (Kd.int .u8) 5 w' w.heap.size (fun _ => True) v0_ r ∧ Below w.heap.size w w' := by
 have HR0 := Aside0.mk hr0;have HC0 := Aside0.mk hc0;clear hr0 hc0;have HB := Aside0.mk (Below.refl w.heap.size w);have H : (if 0 ≤ (l0.length : Int) then (if ((l0.length : Int) : Int).toNat ≤ 281474976710656 then (laws_toByteS.l0 k l0 (List.replicate ((l0.length : Int) : Int).toNat 0) 0) else (none)) else (none)) = some r := h;clear h
 by_cases c2 : 0 ≤ (l0.length : Int)
 ·rw [if_pos c2] at H
  have c2b0 := eq_true c2;have c2b1 : decide (0 ≤ (l0.length : Int)) = true := decide_eq_true c2;clear c2
  by_cases c3 : ((l0.length : Int) : Int).toNat ≤ 281474976710656
  ·rw [if_pos c3] at H
   have c3b0 := eq_true c3;have c3b1 : decide (((l0.length : Int) : Int).toNat ≤ 281474976710656) = true := decide_eq_true c3;clear c3;obtain ⟨y142, hy142⟩ : ∃ y_ : List Int, y_ = (List.replicate ((l0.length : Int) : Int).toNat 0) := ⟨_, rfl⟩
   replace H : (laws_toByteS.l0 k l0 y142 0) = some r := by first | (rw [hy142]; with_reducible exact H) | (have H2_ := (Option.bind_some _ _).symm.trans H; rw [hy142]; with_reducible exact H2_) | (have H2_ := (Option.bind_some _ _).symm.trans H; with_reducible exact H2_) | with_reducible exact H | (rw [hy142]; exact H) | exact H
   have Ny142 := Aside0.mk hy142;clear hy142;have H' := Aside0.mk H;clear H
   go_enter Try.func40, Try.ntmps40
   go_wp2_with (first | ((with_reducible refine gate_dst (N := 7) rfl ?_); refine Kd.R_make (Kd.int .u8) _ 5 rfl (N := 7) rfl 46 _ _ rfl (l0.length : Int) rfl rfl Try.underlying46 (.int .u8 0) 1 info5 rfl (by decide) (by omega) 0 (ok := fun _ => True) (okp := fun _ => True) rfl (fun _ hk => hk) trivial (of_decide_eq_true (by first | (with_reducible assumption) | assumption)) (Nat.le_trans (Nat.mul_le_mul_right _ (of_decide_eq_true (by first | (with_reducible assumption) | assumption) : (l0.length : Int).toNat ≤ 281474976710656)) (by omega)) (Below.refl _ _) (Nat.le_refl _) ?_; intro v143 w4 ho5 hb hg_ hnew_; clear hg_ hnew_; (first | rw [← Ny142.out] at ho5 | (simp only [Int.reduceToNat] at ho5; rw [← Ny142.out] at ho5)); have n0_ := Aside0.mk (Kd.R_lower ho5 (below_size (by repeat (first | (with_reducible first | exact HB.out | apply below_alloc | apply pw_below_drewN | apply below_drew1) | exact HB.out)))); have n1_ := Aside0.mk (below_step (by repeat (first | (with_reducible first | exact HB.out | apply below_alloc | apply pw_below_drewN | apply below_drew1) | exact HB.out)) hb); clear HB; have HO144 := n0_; have HB := n1_; clear n0_ n1_; clear hb ho5))
   go_loopg [4] k (fun kq v4 w' => ∃ (x3_1 : List Int) (x4_1 : Int), v4 = .int .i64 x4_1 ∧ Aside0 (laws_toByteS.l0 kq l0 x3_1 x4_1 = some r) ∧ Aside0 (kq ≤ k) ∧ Aside0 (Kd.R (Kd.int .u8) 5 w' w.heap.size (fun _ => True) v143 x3_1) ∧ Aside0 (Below w.heap.size w w'))
   case atStart => exact ⟨(y142), (0), (by first | rfl | (simp; done) | (simp [*]; done)), H', ⟨Nat.le_refl _⟩, ⟨by (with_reducible repeat (first | apply Kd.R_alloc | apply Kd.R_drewN | apply Kd.R_drew)); exact HO144.out⟩, ⟨by repeat (first | (with_reducible first | exact HB.out | apply below_alloc | apply pw_below_drewN | apply below_drew1) | exact HB.out)⟩⟩
   case round =>
    clear H'
    try clear c2
    try clear c2b0
    try clear c2b1
    try clear p2
    try clear c3
    try clear c3b0
    try clear c3b1
    try clear c4
    obtain ⟨x3_1, x4_1, rfl, HA, HK1, HO_3, HB⟩ := hrel
    cases gk with
    | zero => exact absurd HA.out (by simp [laws_toByteS.l0])
    | succ k1 =>
     have H := HA.out;clear HA;simp only [laws_toByteS.l0] at H
     by_cases c6 : x4_1 < (l0.length : Int)
     ·rw [if_pos c6] at H
      have c6b0 : decide (x4_1 < (l0.length : Int)) = true := decide_eq_true c6;clear c6
      by_cases c7 : 0 ≤ x4_1
      ·rw [if_pos c7] at H
       have c7b0 : decide (0 ≤ x4_1) = true := decide_eq_true c7;clear c7
       by_cases c8 : x4_1 < (x3_1.length : Int)
       ·rw [if_pos c8] at H
        have c8b0 : decide (x4_1 < (x3_1.length : Int)) = true := decide_eq_true c8;clear c8;obtain ⟨y146, hy146⟩ : ∃ y_ : List Int, y_ = (x3_1.set (x4_1 : Int).toNat (rd l0 x4_1)) := ⟨_, rfl⟩
        replace H : (laws_toByteS.l0 k1 l0 y146 (wrap64 (x4_1 + 1))) = some r := by first | (rw [hy146]; with_reducible exact H) | (have H2_ := (Option.bind_some _ _).symm.trans H; rw [hy146]; with_reducible exact H2_) | (have H2_ := (Option.bind_some _ _).symm.trans H; with_reducible exact H2_) | with_reducible exact H | (rw [hy146]; exact H) | exact H
        have Ny146 := Aside0.mk hy146;clear hy146;have H' := Aside0.mk H;clear H;have p145 : 0 ≤ (x4_1 : Int) := of_decide_eq_true (by first | (with_reducible assumption) | assumption);have q145 : x4_1 < (l0.length : Int) := of_decide_eq_true (by first | (with_reducible assumption) | assumption);obtain ⟨ad145, e145, hx145_0⟩ := Kd.at_int HR0.out x4_1 p145 q145
        cases e145
        replace hx145_0 := (HB.out.cell (World.block_lt_of_cell? w _ hx145_0)).trans hx145_0;replace p145 := eq_true p145;replace q145 := eq_true q145;have p9 : 0 ≤ (x4_1 : Int) := of_decide_eq_true (by first | (with_reducible assumption) | assumption);have q9 : (x4_1 : Int) < ((x3_1.length : Int) : Int) := of_decide_eq_true (by first | (with_reducible assumption) | assumption);obtain ⟨go9, co9, eo9, gb9, gl9, cl9, HG9⟩ := Kd.R_form HO_3.out (by omega)
        (first | cases eo9 | (injection eo9 with ea_ en_ ec_; (first | subst ea_ | (injection ea_ with ea_; subst ea_)); subst ec_; clear en_))
        have GB9 := Aside0.mk gb9;have GG9 := Aside0.mk HG9;clear gb9 gl9 HG9;obtain ⟨hx9_0, hf9_0⟩ := Kd.R_celln 0 HO_3.out (x4_1 : Int) p9 q9;replace p9 := eq_true p9;replace q9 := eq_true q9;have HP10 := Kd.R_putg HO_3.out (x4_1 : Int) (rd l0 x4_1)
        go_wp2_with (first | ((with_reducible refine gate_store (t := 5) (p := 20) rfl ?_); refine store_event (t := 5) (p := 20) (v := ?vo_w11) (w1 := (wr.setCell ⟨go9, (x4_1 : Int).toNat, none⟩ (.int .u8 (rd l0 x4_1)))) ?hg ?ho ?hn ?hr ?_; (case ho => rfl); (case hg => rfl); (case hn => rfl); (case hr => first | (go_simp; done) | (go_simp; rfl)); intro w11 hw; have hg : wr.grownBy w11 (some go9) := (by rw [hw]; exact HP10.2); have hp_ : Kd.R (Kd.int .u8) 5 w11 w.heap.size (fun _ => True) (.slice (some ⟨go9, 0, none⟩) x3_1.length co9) y146 := (by rw [hw, Ny146.out]; exact HP10.1); clear HP10; have n0_ := Aside0.mk (hp_); have n1_ := Aside0.mk ((by rw [hw]; exact below_set (HB.out) GB9.out : Below w.heap.size w w11)); clear HO_3; clear HB; have HO_3 := n0_; have HB := n1_; clear n0_ n1_; clear hg hw hp_))
        go_roundg k1
        case measure => have := HK1.out; omega
        case rel => exact ⟨(y146), (wrap64 (x4_1 + 1)), (by first | rfl | (simp; done) | (simp [*]; done)), H', ⟨by have := HK1.out; omega⟩, ⟨by (with_reducible repeat (first | apply Kd.R_alloc | apply Kd.R_drewN | apply Kd.R_drew)); exact HO_3.out⟩, ⟨by repeat (first | (with_reducible first | exact HB.out | apply below_alloc | apply pw_below_drewN | apply below_drew1) | exact HB.out)⟩⟩
       ·rw [if_neg c8] at H
        exact absurd H (by simp)
      ·rw [if_neg c7] at H
       exact absurd H (by simp)
     ·rw [if_neg c6] at H
      have c6b0 : decide (x4_1 < (l0.length : Int)) = false := decide_eq_false c6;clear c6;obtain rfl := Option.some.inj H
      go_wp2
      go_ret;exact ⟨_, by first | rfl | (simp [errW_none, errW_some] <;> rfl) | (simp [*, errW_none, errW_some] <;> rfl), by (with_reducible repeat (first | apply Kd.R_alloc | apply Kd.R_drewN | apply Kd.R_drew)); exact HO_3.out, by repeat (first | (with_reducible first | exact HB.out | apply below_alloc | apply pw_below_drewN | apply below_drew1) | exact HB.out)⟩
  ·rw [if_neg c3] at H
   exact absurd H (by simp)
 ·rw [if_neg c2] at H
  exact absurd H (by simp)

/-! ### impl_in: function 64 -/
def impl_in.f (a0 : Int) (a1 : Int) (a2 : Int) : Option (Bool) := if a0 ≥ a1 then (some (decide (a0 ≤ a2))) else (some false)
set_option maxHeartbeats 8000000 in
set_option maxRecDepth 100000 in
theorem impl_in.calls (a0 : Int) (a1 : Int) (a2 : Int) (r : Bool) (w : World) (h : impl_in.f a0 a1 a2 = some r) :
  Calls Try.prog 64 #[.int .i64 a0, .int .i64 a1, .int .i64 a2] w fun e w' => e = .returned (.bool r) ∧ Drawn0 w w' := by
 have H : (if a0 ≥ a1 then (some (decide (a0 ≤ a2))) else (some false)) = some r := h;clear h
 by_cases c4 : a0 ≥ a1
 ·rw [if_pos c4] at H
  have c4b0 : decide (a1 ≤ a0) = true := decide_eq_true c4;clear c4;obtain rfl := Option.some.inj H
  go_enter Try.func64, Try.ntmps64
  go_wp2
  go_ret;exact ⟨by first | rfl | (simp; done) | (simp [*]; done), by repeat (first | exact Drawn0.refl _ | apply Drawn0.step)⟩
 ·rw [if_neg c4] at H
  have c4b0 : decide (a1 ≤ a0) = false := decide_eq_false c4;clear c4;obtain rfl := Option.some.inj H
  go_enter Try.func64, Try.ntmps64
  go_wp2
  go_ret;exact ⟨by first | rfl | (simp; done) | (simp [*]; done), by repeat (first | exact Drawn0.refl _ | apply Drawn0.step)⟩

/-! ### impl_word: function 70 -/
def impl_word.f (a0 : Int) : Option (Bool) := (impl_in.f a0 0 65535).bind fun t147 => (some t147)
set_option maxHeartbeats 8000000 in
set_option maxRecDepth 100000 in
theorem impl_word.calls (a0 : Int) (r : Bool) (w : World) (h : impl_word.f a0 = some r) :
  Calls Try.prog 70 #[.int .i64 a0] w fun e w' => e = .returned (.bool r) ∧ Drawn0 w w' := by
 have H : ((impl_in.f a0 0 65535).bind fun t147 => (some t147)) = some r := h;clear h;replace H := Option.bind_eq_some_iff.mp H;obtain ⟨t147, A20, H⟩ := H;replace H : (some t147) = some r := H;have A2 := Aside0.mk A20;clear A20;obtain rfl := Option.some.inj H
 go_enter Try.func70, Try.ntmps70
 go_wp2_with (first | ((with_reducible refine gate_callee (f := 64) rfl ?_); refine goesL_ (some 4) rfl rfl Try.func64 (by kernel_rfl) rfl #[.int .i64 a0, .int .i64 0, .int .i64 65535] rfl (by (try simp only [List.map_toArray, List.map_cons, List.map_nil]); first | done | rfl | (simp only [List.length_drop, List.length_take]; rfl)) ?_; (with_reducible refine (impl_in.calls a0 0 65535 t147 _ A2.out).mono ?_); rintro e w' ⟨rfl, ⟨nd, rfl⟩⟩; refine ⟨_, rfl, ?_⟩))
 go_ret;exact ⟨by first | rfl | (simp; done) | (simp [*]; done), by repeat (first | exact Drawn0.refl _ | apply Drawn0.step)⟩

/-! ### impl_PacketOk: function 62 -/
def impl_PacketOk.f (a0_0 : Int) (a0_1 : Int) (a0_2 : Int) (a0_3 : Int) (a0_4 : Int) (a0_5 : Int) (a0_6 : Bool) (a0_7 : Bool) (l0_8 : List Int) : Option (Bool) := (impl_word.f a0_0).bind fun t149 => (if t149 = true then ((impl_word.f a0_1).bind fun t150 => (if t150 = true then ((impl_in.f a0_2 0 255).bind fun t151 => (if t151 = true then ((impl_in.f a0_3 0 255).bind fun t152 => (if t152 = true then ((impl_in.f a0_4 0 255).bind fun t153 => (if t153 = true then ((impl_in.f a0_5 0 255).bind fun t154 => (if t154 = true then (if (l0_8.length : Int) ≤ 48 then (if a0_6 = true then (if (l0_8.length : Int) > 0 then (if a0_7 = true then (if a0_5 = 0 then (some (!a0_6)) else (some false)) else (some true)) else (some false)) else (if a0_7 = true then (if a0_5 = 0 then (some (!a0_6)) else (some false)) else (some true))) else (some false)) else (some false))) else (some false))) else (some false))) else (some false))) else (some false))) else (some false))
set_option maxHeartbeats 8000000 in
set_option maxRecDepth 100000 in
theorem impl_PacketOk.calls (a0_0 : Int) (a0_1 : Int) (a0_2 : Int) (a0_3 : Int) (a0_4 : Int) (a0_5 : Int) (a0_6 : Bool) (a0_7 : Bool) (A0_8 : Option Addr) (c0_8 : Nat) (l0_8 : List Int) (r : Bool) (w : World) (hr0_8 : Kd.C (Kd.int .u8) w A0_8 l0_8.length l0_8) (hc0_8 : l0_8.length ≤ c0_8) (h : impl_PacketOk.f a0_0 a0_1 a0_2 a0_3 a0_4 a0_5 a0_6 a0_7 l0_8 = some r) :
  Calls Try.prog 62 #[.agg #[.int .i64 a0_0, .int .i64 a0_1, .int .i64 a0_2, .int .i64 a0_3, .int .i64 a0_4, .int .i64 a0_5, .bool a0_6, .bool a0_7, .slice A0_8 l0_8.length c0_8]] w fun e w' => e = .returned (.bool r) ∧ Below w.heap.size w w' := by
 have hu71 := Try.underlying71;have HR0_8 := Aside0.mk hr0_8;have HC0_8 := Aside0.mk hc0_8;clear hr0_8 hc0_8;have HB := Aside0.mk (Below.refl w.heap.size w);have H : ((impl_word.f a0_0).bind fun t149 => (if t149 = true then ((impl_word.f a0_1).bind fun t150 => (if t150 = true then ((impl_in.f a0_2 0 255).bind fun t151 => (if t151 = true then ((impl_in.f a0_3 0 255).bind fun t152 => (if t152 = true then ((impl_in.f a0_4 0 255).bind fun t153 => (if t153 = true then ((impl_in.f a0_5 0 255).bind fun t154 => (if t154 = true then (if (l0_8.length : Int) ≤ 48 then (if a0_6 = true then (if (l0_8.length : Int) > 0 then (if a0_7 = true then (if a0_5 = 0 then (some (!a0_6)) else (some false)) else (some true)) else (some false)) else (if a0_7 = true then (if a0_5 = 0 then (some (!a0_6)) else (some false)) else (some true))) else (some false)) else (some false))) else (some false))) else (some false))) else (some false))) else (some false))) else (some false))) = some r := h;clear h;replace H := Option.bind_eq_some_iff.mp H;obtain ⟨t149, A20, H⟩ := H;replace H : (if t149 = true then ((impl_word.f a0_1).bind fun t150 => (if t150 = true then ((impl_in.f a0_2 0 255).bind fun t151 => (if t151 = true then ((impl_in.f a0_3 0 255).bind fun t152 => (if t152 = true then ((impl_in.f a0_4 0 255).bind fun t153 => (if t153 = true then ((impl_in.f a0_5 0 255).bind fun t154 => (if t154 = true then (if (l0_8.length : Int) ≤ 48 then (if a0_6 = true then (if (l0_8.length : Int) > 0 then (if a0_7 = true then (if a0_5 = 0 then (some (!a0_6)) else (some false)) else (some true)) else (some false)) else (if a0_7 = true then (if a0_5 = 0 then (some (!a0_6)) else (some false)) else (some true))) else (some false)) else (some false))) else (some false))) else (some false))) else (some false))) else (some false))) else (some false)) = some r := H;have A2 := Aside0.mk A20;clear A20
 by_cases c3 : t149 = true
 ·subst c3
  have H1 : ((impl_word.f a0_1).bind fun t150 => (if t150 = true then ((impl_in.f a0_2 0 255).bind fun t151 => (if t151 = true then ((impl_in.f a0_3 0 255).bind fun t152 => (if t152 = true then ((impl_in.f a0_4 0 255).bind fun t153 => (if t153 = true then ((impl_in.f a0_5 0 255).bind fun t154 => (if t154 = true then (if (l0_8.length : Int) ≤ 48 then (if a0_6 = true then (if (l0_8.length : Int) > 0 then (if a0_7 = true then (if a0_5 = 0 then (some (!a0_6)) else (some false)) else (some true)) else (some false)) else (if a0_7 = true then (if a0_5 = 0 then (some (!a0_6)) else (some false)) else (some true))) else (some false)) else (some false))) else (some false))) else (some false))) else (some false))) else (some false))) = some r := by rw [if_pos rfl] at H; exact H
  clear H;have H := H1;clear H1;replace H := Option.bind_eq_some_iff.mp H;obtain ⟨t150, A40, H⟩ := H;replace H : (if t150 = true then ((impl_in.f a0_2 0 255).bind fun t151 => (if t151 = true then ((impl_in.f a0_3 0 255).bind fun t152 => (if t152 = true then ((impl_in.f a0_4 0 255).bind fun t153 => (if t153 = true then ((impl_in.f a0_5 0 255).bind fun t154 => (if t154 = true then (if (l0_8.length : Int) ≤ 48 then (if a0_6 = true then (if (l0_8.length : Int) > 0 then (if a0_7 = true then (if a0_5 = 0 then (some (!a0_6)) else (some false)) else (some true)) else (some false)) else (if a0_7 = true then (if a0_5 = 0 then (some (!a0_6)) else (some false)) else (some true))) else (some false)) else (some false))) else (some false))) else (some false))) else (some false))) else (some false)) = some r := H;have A4 := Aside0.mk A40;clear A40
  by_cases c5 : t150 = true
  ·subst c5
   have H1 : ((impl_in.f a0_2 0 255).bind fun t151 => (if t151 = true then ((impl_in.f a0_3 0 255).bind fun t152 => (if t152 = true then ((impl_in.f a0_4 0 255).bind fun t153 => (if t153 = true then ((impl_in.f a0_5 0 255).bind fun t154 => (if t154 = true then (if (l0_8.length : Int) ≤ 48 then (if a0_6 = true then (if (l0_8.length : Int) > 0 then (if a0_7 = true then (if a0_5 = 0 then (some (!a0_6)) else (some false)) else (some true)) else (some false)) else (if a0_7 = true then (if a0_5 = 0 then (some (!a0_6)) else (some false)) else (some true))) else (some false)) else (some false))) else (some false))) else (some false))) else (some false))) = some r := by rw [if_pos rfl] at H; exact H
   clear H;have H := H1;clear H1;replace H := Option.bind_eq_some_iff.mp H;obtain ⟨t151, A60, H⟩ := H;replace H : (if t151 = true then ((impl_in.f a0_3 0 255).bind fun t152 => (if t152 = true then ((impl_in.f a0_4 0 255).bind fun t153 => (if t153 = true then ((impl_in.f a0_5 0 255).bind fun t154 => (if t154 = true then (if (l0_8.length : Int) ≤ 48 then (if a0_6 = true then (if (l0_8.length : Int) > 0 then (if a0_7 = true then (if a0_5 = 0 then (some (!a0_6)) else (some false)) else (some true)) else (some false)) else (if a0_7 = true then (if a0_5 = 0 then (some (!a0_6)) else (some false)) else (some true))) else (some false)) else (some false))) else (some false))) else (some false))) else (some false)) = some r := H;have A6 := Aside0.mk A60;clear A60
   by_cases c7 : t151 = true
   ·subst c7
    have H1 : ((impl_in.f a0_3 0 255).bind fun t152 => (if t152 = true then ((impl_in.f a0_4 0 255).bind fun t153 => (if t153 = true then ((impl_in.f a0_5 0 255).bind fun t154 => (if t154 = true then (if (l0_8.length : Int) ≤ 48 then (if a0_6 = true then (if (l0_8.length : Int) > 0 then (if a0_7 = true then (if a0_5 = 0 then (some (!a0_6)) else (some false)) else (some true)) else (some false)) else (if a0_7 = true then (if a0_5 = 0 then (some (!a0_6)) else (some false)) else (some true))) else (some false)) else (some false))) else (some false))) else (some false))) = some r := by rw [if_pos rfl] at H; exact H
    clear H;have H := H1;clear H1;replace H := Option.bind_eq_some_iff.mp H;obtain ⟨t152, A80, H⟩ := H;replace H : (if t152 = true then ((impl_in.f a0_4 0 255).bind fun t153 => (if t153 = true then ((impl_in.f a0_5 0 255).bind fun t154 => (if t154 = true then (if (l0_8.length : Int) ≤ 48 then (if a0_6 = true then (if (l0_8.length : Int) > 0 then (if a0_7 = true then (if a0_5 = 0 then (some (!a0_6)) else (some false)) else (some true)) else (some false)) else (if a0_7 = true then (if a0_5 = 0 then (some (!a0_6)) else (some false)) else (some true))) else (some false)) else (some false))) else (some false))) else (some false)) = some r := H;have A8 := Aside0.mk A80;clear A80
    by_cases c9 : t152 = true
    ·subst c9
     have H1 : ((impl_in.f a0_4 0 255).bind fun t153 => (if t153 = true then ((impl_in.f a0_5 0 255).bind fun t154 => (if t154 = true then (if (l0_8.length : Int) ≤ 48 then (if a0_6 = true then (if (l0_8.length : Int) > 0 then (if a0_7 = true then (if a0_5 = 0 then (some (!a0_6)) else (some false)) else (some true)) else (some false)) else (if a0_7 = true then (if a0_5 = 0 then (some (!a0_6)) else (some false)) else (some true))) else (some false)) else (some false))) else (some false))) = some r := by rw [if_pos rfl] at H; exact H
     clear H;have H := H1;clear H1;replace H := Option.bind_eq_some_iff.mp H;obtain ⟨t153, A100, H⟩ := H;replace H : (if t153 = true then ((impl_in.f a0_5 0 255).bind fun t154 => (if t154 = true then (if (l0_8.length : Int) ≤ 48 then (if a0_6 = true then (if (l0_8.length : Int) > 0 then (if a0_7 = true then (if a0_5 = 0 then (some (!a0_6)) else (some false)) else (some true)) else (some false)) else (if a0_7 = true then (if a0_5 = 0 then (some (!a0_6)) else (some false)) else (some true))) else (some false)) else (some false))) else (some false)) = some r := H;have A10 := Aside0.mk A100;clear A100
     by_cases c11 : t153 = true
     ·subst c11
      have H1 : ((impl_in.f a0_5 0 255).bind fun t154 => (if t154 = true then (if (l0_8.length : Int) ≤ 48 then (if a0_6 = true then (if (l0_8.length : Int) > 0 then (if a0_7 = true then (if a0_5 = 0 then (some (!a0_6)) else (some false)) else (some true)) else (some false)) else (if a0_7 = true then (if a0_5 = 0 then (some (!a0_6)) else (some false)) else (some true))) else (some false)) else (some false))) = some r := by rw [if_pos rfl] at H; exact H
      clear H;have H := H1;clear H1;replace H := Option.bind_eq_some_iff.mp H;obtain ⟨t154, A120, H⟩ := H;replace H : (if t154 = true then (if (l0_8.length : Int) ≤ 48 then (if a0_6 = true then (if (l0_8.length : Int) > 0 then (if a0_7 = true then (if a0_5 = 0 then (some (!a0_6)) else (some false)) else (some true)) else (some false)) else (if a0_7 = true then (if a0_5 = 0 then (some (!a0_6)) else (some false)) else (some true))) else (some false)) else (some false)) = some r := H;have A12 := Aside0.mk A120;clear A120
      by_cases c13 : t154 = true
      ·subst c13
       have H1 : (if (l0_8.length : Int) ≤ 48 then (if a0_6 = true then (if (l0_8.length : Int) > 0 then (if a0_7 = true then (if a0_5 = 0 then (some (!a0_6)) else (some false)) else (some true)) else (some false)) else (if a0_7 = true then (if a0_5 = 0 then (some (!a0_6)) else (some false)) else (some true))) else (some false)) = some r := by rw [if_pos rfl] at H; exact H
       clear H;have H := H1;clear H1
       by_cases c14 : (l0_8.length : Int) ≤ 48
       ·rw [if_pos c14] at H
        have c14b0 : decide ((l0_8.length : Int) ≤ 48) = true := decide_eq_true c14;have c14b1 : decide (l0_8.length ≤ 48) = true := decide_eq_true (by omega);clear c14
        by_cases c15 : a0_6 = true
        ·subst c15
         have H1 : (if (l0_8.length : Int) > 0 then (if a0_7 = true then (if a0_5 = 0 then (some (!true)) else (some false)) else (some true)) else (some false)) = some r := by rw [if_pos rfl] at H; exact H
         clear H;have H := H1;clear H1
         by_cases c16 : (l0_8.length : Int) > 0
         ·rw [if_pos c16] at H
          have c16b0 : decide (0 < (l0_8.length : Int)) = true := decide_eq_true c16;have c16b1 : decide (0 < l0_8.length) = true := decide_eq_true (by omega);clear c16
          by_cases c17 : a0_7 = true
          ·subst c17
           have H1 : (if a0_5 = 0 then (some (!true)) else (some false)) = some r := by rw [if_pos rfl] at H; exact H
           clear H;have H := H1;clear H1
           by_cases c18 : a0_5 = 0
           ·rw [if_pos c18] at H
            have c18b0 : (a0_5 == 0) = true := beq_iff_eq.mpr c18;have c18b1 : (a0_5 != 0) = false := bne_eq_false_iff_eq.mpr c18;clear c18;obtain rfl := Option.some.inj H
            go_enter Try.func62, Try.ntmps62
            go_wp2_with (first | ((with_reducible refine gate_dst (N := 1) rfl ?_); (try (refine gate_guard (by rfl) ?_; dsimp only)); refine box_event ?hg (N := 1) ?hd (cs := #[.int .i64 a0_0, .int .i64 a0_1, .int .i64 a0_2, .int .i64 a0_3, .int .i64 a0_4, .int .i64 a0_5, .bool true, .bool true, .slice A0_8 l0_8.length c0_8]) (t := 71) ?hr ?_; (case hd => rfl); (case hg => rfl); (case hr => first | (go_simp; done) | (go_simp; rfl)); intro gb148 hg w19 hbox hb; have n0_ := Aside0.mk (below_step (by repeat (first | (with_reducible first | exact HB.out | apply below_alloc | apply pw_below_drewN | apply below_drew1) | exact HB.out)) hb); have n1_ := Aside0.mk (hbox); have n2_ := Aside0.mk ((by rw [hg]; exact (below_size (by repeat (first | (with_reducible first | exact HB.out | apply below_alloc | apply pw_below_drewN | apply below_drew1) | exact HB.out))) : w.heap.size ≤ gb148)); have n3_ := Aside0.mk ((by rw [hg]; exact (below_size (by repeat (first | (with_reducible first | exact HB.out | apply below_alloc | apply pw_below_drewN | apply below_drew1) | exact HB.out))) : w.heap.size ≤ gb148)); clear HB; have HB := n0_; have BK148 := n1_; have GW148 := n2_; have GE148 := n3_; clear n0_ n1_ n2_ n3_; clear hb hbox hg; have hcz20_0 : w19.cell? ⟨gb148, 0, none⟩ = some (.int .i64 a0_0) := (blk_cell BK148.out 0).trans rfl; have hcz20_1 : w19.cell? ⟨gb148, 1, none⟩ = some (.int .i64 a0_1) := (blk_cell BK148.out 1).trans rfl; have hcz20_2 : w19.cell? ⟨gb148, 2, none⟩ = some (.int .i64 a0_2) := (blk_cell BK148.out 2).trans rfl; have hcz20_3 : w19.cell? ⟨gb148, 3, none⟩ = some (.int .i64 a0_3) := (blk_cell BK148.out 3).trans rfl; have hcz20_4 : w19.cell? ⟨gb148, 4, none⟩ = some (.int .i64 a0_4) := (blk_cell BK148.out 4).trans rfl; have hcz20_5 : w19.cell? ⟨gb148, 5, none⟩ = some (.int .i64 a0_5) := (blk_cell BK148.out 5).trans rfl; have hcz20_6 : w19.cell? ⟨gb148, 6, none⟩ = some (.bool true) := (blk_cell BK148.out 6).trans rfl; have hcz20_7 : w19.cell? ⟨gb148, 7, none⟩ = some (.bool true) := (blk_cell BK148.out 7).trans rfl; have hcz20_8 : w19.cell? ⟨gb148, 8, none⟩ = some (.slice A0_8 l0_8.length c0_8) := (blk_cell BK148.out 8).trans rfl; have hfz20_0 := blk_frozen BK148.out 0; have hfz20_1 := blk_frozen BK148.out 1; have hfz20_2 := blk_frozen BK148.out 2; have hfz20_3 := blk_frozen BK148.out 3; have hfz20_4 := blk_frozen BK148.out 4; have hfz20_5 := blk_frozen BK148.out 5; have hfz20_6 := blk_frozen BK148.out 6; have hfz20_7 := blk_frozen BK148.out 7; have hfz20_8 := blk_frozen BK148.out 8) | ((with_reducible refine gate_callee (f := 70) rfl ?_); refine goesL_ (some 5) rfl rfl Try.func70 (by kernel_rfl) rfl #[.int .i64 a0_0] rfl (by (try simp only [List.map_toArray, List.map_cons, List.map_nil]); first | done | rfl | (simp only [List.length_drop, List.length_take]; rfl)) ?_; (with_reducible refine (impl_word.calls a0_0 true _ A2.out).mono ?_); rintro e w' ⟨rfl, ⟨nd, rfl⟩⟩; refine ⟨_, rfl, ?_⟩) | (go_at_call 70; (with_reducible refine (impl_word.calls a0_1 true _ A4.out).mono ?_); rintro e w' ⟨rfl, ⟨nd, rfl⟩⟩) | (go_at_call 64; (with_reducible refine (impl_in.calls a0_2 0 255 true _ A6.out).mono ?_); rintro e w' ⟨rfl, ⟨nd, rfl⟩⟩) | (go_at_call 64; (with_reducible refine (impl_in.calls a0_3 0 255 true _ A8.out).mono ?_); rintro e w' ⟨rfl, ⟨nd, rfl⟩⟩) | (go_at_call 64; (with_reducible refine (impl_in.calls a0_4 0 255 true _ A10.out).mono ?_); rintro e w' ⟨rfl, ⟨nd, rfl⟩⟩) | (go_at_call 64; (with_reducible refine (impl_in.calls a0_5 0 255 true _ A12.out).mono ?_); rintro e w' ⟨rfl, ⟨nd, rfl⟩⟩))
            go_ret;exact ⟨by first | rfl | (simp [errW_none, errW_some] <;> rfl) | (simp [*, errW_none, errW_some] <;> rfl), by repeat (first | (with_reducible first | exact HB.out | apply below_alloc | apply pw_below_drewN | apply below_drew1 | refine below_set ?_ GE148.out) | exact HB.out)⟩
           ·rw [if_neg c18] at H
            have c18b0 : (a0_5 == 0) = false := beq_eq_false_iff_ne.mpr c18;have c18b1 : (a0_5 != 0) = true := bne_iff_ne.mpr c18;obtain rfl := Option.some.inj H
            go_enter Try.func62, Try.ntmps62
            go_wp2_with (first | ((with_reducible refine gate_dst (N := 1) rfl ?_); (try (refine gate_guard (by rfl) ?_; dsimp only)); refine box_event ?hg (N := 1) ?hd (cs := #[.int .i64 a0_0, .int .i64 a0_1, .int .i64 a0_2, .int .i64 a0_3, .int .i64 a0_4, .int .i64 a0_5, .bool true, .bool true, .slice A0_8 l0_8.length c0_8]) (t := 71) ?hr ?_; (case hd => rfl); (case hg => rfl); (case hr => first | (go_simp; done) | (go_simp; rfl)); intro gb148 hg w21 hbox hb; have n0_ := Aside0.mk (below_step (by repeat (first | (with_reducible first | exact HB.out | apply below_alloc | apply pw_below_drewN | apply below_drew1) | exact HB.out)) hb); have n1_ := Aside0.mk (hbox); have n2_ := Aside0.mk ((by rw [hg]; exact (below_size (by repeat (first | (with_reducible first | exact HB.out | apply below_alloc | apply pw_below_drewN | apply below_drew1) | exact HB.out))) : w.heap.size ≤ gb148)); have n3_ := Aside0.mk ((by rw [hg]; exact (below_size (by repeat (first | (with_reducible first | exact HB.out | apply below_alloc | apply pw_below_drewN | apply below_drew1) | exact HB.out))) : w.heap.size ≤ gb148)); clear HB; have HB := n0_; have BK148 := n1_; have GW148 := n2_; have GE148 := n3_; clear n0_ n1_ n2_ n3_; clear hb hbox hg; have hcz22_0 : w21.cell? ⟨gb148, 0, none⟩ = some (.int .i64 a0_0) := (blk_cell BK148.out 0).trans rfl; have hcz22_1 : w21.cell? ⟨gb148, 1, none⟩ = some (.int .i64 a0_1) := (blk_cell BK148.out 1).trans rfl; have hcz22_2 : w21.cell? ⟨gb148, 2, none⟩ = some (.int .i64 a0_2) := (blk_cell BK148.out 2).trans rfl; have hcz22_3 : w21.cell? ⟨gb148, 3, none⟩ = some (.int .i64 a0_3) := (blk_cell BK148.out 3).trans rfl; have hcz22_4 : w21.cell? ⟨gb148, 4, none⟩ = some (.int .i64 a0_4) := (blk_cell BK148.out 4).trans rfl; have hcz22_5 : w21.cell? ⟨gb148, 5, none⟩ = some (.int .i64 a0_5) := (blk_cell BK148.out 5).trans rfl; have hcz22_6 : w21.cell? ⟨gb148, 6, none⟩ = some (.bool true) := (blk_cell BK148.out 6).trans rfl; have hcz22_7 : w21.cell? ⟨gb148, 7, none⟩ = some (.bool true) := (blk_cell BK148.out 7).trans rfl; have hcz22_8 : w21.cell? ⟨gb148, 8, none⟩ = some (.slice A0_8 l0_8.length c0_8) := (blk_cell BK148.out 8).trans rfl; have hfz22_0 := blk_frozen BK148.out 0; have hfz22_1 := blk_frozen BK148.out 1; have hfz22_2 := blk_frozen BK148.out 2; have hfz22_3 := blk_frozen BK148.out 3; have hfz22_4 := blk_frozen BK148.out 4; have hfz22_5 := blk_frozen BK148.out 5; have hfz22_6 := blk_frozen BK148.out 6; have hfz22_7 := blk_frozen BK148.out 7; have hfz22_8 := blk_frozen BK148.out 8) | ((with_reducible refine gate_callee (f := 70) rfl ?_); refine goesL_ (some 5) rfl rfl Try.func70 (by kernel_rfl) rfl #[.int .i64 a0_0] rfl (by (try simp only [List.map_toArray, List.map_cons, List.map_nil]); first | done | rfl | (simp only [List.length_drop, List.length_take]; rfl)) ?_; (with_reducible refine (impl_word.calls a0_0 true _ A2.out).mono ?_); rintro e w' ⟨rfl, ⟨nd, rfl⟩⟩; refine ⟨_, rfl, ?_⟩) | (go_at_call 70; (with_reducible refine (impl_word.calls a0_1 true _ A4.out).mono ?_); rintro e w' ⟨rfl, ⟨nd, rfl⟩⟩) | (go_at_call 64; (with_reducible refine (impl_in.calls a0_2 0 255 true _ A6.out).mono ?_); rintro e w' ⟨rfl, ⟨nd, rfl⟩⟩) | (go_at_call 64; (with_reducible refine (impl_in.calls a0_3 0 255 true _ A8.out).mono ?_); rintro e w' ⟨rfl, ⟨nd, rfl⟩⟩) | (go_at_call 64; (with_reducible refine (impl_in.calls a0_4 0 255 true _ A10.out).mono ?_); rintro e w' ⟨rfl, ⟨nd, rfl⟩⟩) | (go_at_call 64; (with_reducible refine (impl_in.calls a0_5 0 255 true _ A12.out).mono ?_); rintro e w' ⟨rfl, ⟨nd, rfl⟩⟩))
            go_ret;exact ⟨by first | rfl | (simp [errW_none, errW_some] <;> rfl) | (simp [*, errW_none, errW_some] <;> rfl), by repeat (first | (with_reducible first | exact HB.out | apply below_alloc | apply pw_below_drewN | apply below_drew1 | refine below_set ?_ GE148.out) | exact HB.out)⟩
          ·replace c17 := Bool.eq_false_iff.mpr c17
           subst c17
           have H1 : (some true) = some r := by rw [if_neg (show ¬ (false = true) by decide)] at H; exact H
           clear H;have H := H1;clear H1;obtain rfl := Option.some.inj H
           go_enter Try.func62, Try.ntmps62
           go_wp2_with (first | ((with_reducible refine gate_dst (N := 1) rfl ?_); (try (refine gate_guard (by rfl) ?_; dsimp only)); refine box_event ?hg (N := 1) ?hd (cs := #[.int .i64 a0_0, .int .i64 a0_1, .int .i64 a0_2, .int .i64 a0_3, .int .i64 a0_4, .int .i64 a0_5, .bool true, .bool false, .slice A0_8 l0_8.length c0_8]) (t := 71) ?hr ?_; (case hd => rfl); (case hg => rfl); (case hr => first | (go_simp; done) | (go_simp; rfl)); intro gb148 hg w23 hbox hb; have n0_ := Aside0.mk (below_step (by repeat (first | (with_reducible first | exact HB.out | apply below_alloc | apply pw_below_drewN | apply below_drew1) | exact HB.out)) hb); have n1_ := Aside0.mk (hbox); have n2_ := Aside0.mk ((by rw [hg]; exact (below_size (by repeat (first | (with_reducible first | exact HB.out | apply below_alloc | apply pw_below_drewN | apply below_drew1) | exact HB.out))) : w.heap.size ≤ gb148)); have n3_ := Aside0.mk ((by rw [hg]; exact (below_size (by repeat (first | (with_reducible first | exact HB.out | apply below_alloc | apply pw_below_drewN | apply below_drew1) | exact HB.out))) : w.heap.size ≤ gb148)); clear HB; have HB := n0_; have BK148 := n1_; have GW148 := n2_; have GE148 := n3_; clear n0_ n1_ n2_ n3_; clear hb hbox hg; have hcz24_0 : w23.cell? ⟨gb148, 0, none⟩ = some (.int .i64 a0_0) := (blk_cell BK148.out 0).trans rfl; have hcz24_1 : w23.cell? ⟨gb148, 1, none⟩ = some (.int .i64 a0_1) := (blk_cell BK148.out 1).trans rfl; have hcz24_2 : w23.cell? ⟨gb148, 2, none⟩ = some (.int .i64 a0_2) := (blk_cell BK148.out 2).trans rfl; have hcz24_3 : w23.cell? ⟨gb148, 3, none⟩ = some (.int .i64 a0_3) := (blk_cell BK148.out 3).trans rfl; have hcz24_4 : w23.cell? ⟨gb148, 4, none⟩ = some (.int .i64 a0_4) := (blk_cell BK148.out 4).trans rfl; have hcz24_5 : w23.cell? ⟨gb148, 5, none⟩ = some (.int .i64 a0_5) := (blk_cell BK148.out 5).trans rfl; have hcz24_6 : w23.cell? ⟨gb148, 6, none⟩ = some (.bool true) := (blk_cell BK148.out 6).trans rfl; have hcz24_7 : w23.cell? ⟨gb148, 7, none⟩ = some (.bool false) := (blk_cell BK148.out 7).trans rfl; have hcz24_8 : w23.cell? ⟨gb148, 8, none⟩ = some (.slice A0_8 l0_8.length c0_8) := (blk_cell BK148.out 8).trans rfl; have hfz24_0 := blk_frozen BK148.out 0; have hfz24_1 := blk_frozen BK148.out 1; have hfz24_2 := blk_frozen BK148.out 2; have hfz24_3 := blk_frozen BK148.out 3; have hfz24_4 := blk_frozen BK148.out 4; have hfz24_5 := blk_frozen BK148.out 5; have hfz24_6 := blk_frozen BK148.out 6; have hfz24_7 := blk_frozen BK148.out 7; have hfz24_8 := blk_frozen BK148.out 8) | ((with_reducible refine gate_callee (f := 70) rfl ?_); refine goesL_ (some 5) rfl rfl Try.func70 (by kernel_rfl) rfl #[.int .i64 a0_0] rfl (by (try simp only [List.map_toArray, List.map_cons, List.map_nil]); first | done | rfl | (simp only [List.length_drop, List.length_take]; rfl)) ?_; (with_reducible refine (impl_word.calls a0_0 true _ A2.out).mono ?_); rintro e w' ⟨rfl, ⟨nd, rfl⟩⟩; refine ⟨_, rfl, ?_⟩) | (go_at_call 70; (with_reducible refine (impl_word.calls a0_1 true _ A4.out).mono ?_); rintro e w' ⟨rfl, ⟨nd, rfl⟩⟩) | (go_at_call 64; (with_reducible refine (impl_in.calls a0_2 0 255 true _ A6.out).mono ?_); rintro e w' ⟨rfl, ⟨nd, rfl⟩⟩) | (go_at_call 64; (with_reducible refine (impl_in.calls a0_3 0 255 true _ A8.out).mono ?_); rintro e w' ⟨rfl, ⟨nd, rfl⟩⟩) | (go_at_call 64; (with_reducible refine (impl_in.calls a0_4 0 255 true _ A10.out).mono ?_); rintro e w' ⟨rfl, ⟨nd, rfl⟩⟩) | (go_at_call 64; (with_reducible refine (impl_in.calls a0_5 0 255 true _ A12.out).mono ?_); rintro e w' ⟨rfl, ⟨nd, rfl⟩⟩))
           go_ret;exact ⟨by first | rfl | (simp [errW_none, errW_some] <;> rfl) | (simp [*, errW_none, errW_some] <;> rfl), by repeat (first | (with_reducible first | exact HB.out | apply below_alloc | apply pw_below_drewN | apply below_drew1 | refine below_set ?_ GE148.out) | exact HB.out)⟩
         ·rw [if_neg c16] at H
          have c16b0 : decide (0 < (l0_8.length : Int)) = false := decide_eq_false c16;have c16b1 : decide (0 < l0_8.length) = false := decide_eq_false (by omega);clear c16;obtain rfl := Option.some.inj H
          go_enter Try.func62, Try.ntmps62
          go_wp2_with (first | ((with_reducible refine gate_dst (N := 1) rfl ?_); (try (refine gate_guard (by rfl) ?_; dsimp only)); refine box_event ?hg (N := 1) ?hd (cs := #[.int .i64 a0_0, .int .i64 a0_1, .int .i64 a0_2, .int .i64 a0_3, .int .i64 a0_4, .int .i64 a0_5, .bool true, .bool a0_7, .slice A0_8 l0_8.length c0_8]) (t := 71) ?hr ?_; (case hd => rfl); (case hg => rfl); (case hr => first | (go_simp; done) | (go_simp; rfl)); intro gb148 hg w25 hbox hb; have n0_ := Aside0.mk (below_step (by repeat (first | (with_reducible first | exact HB.out | apply below_alloc | apply pw_below_drewN | apply below_drew1) | exact HB.out)) hb); have n1_ := Aside0.mk (hbox); have n2_ := Aside0.mk ((by rw [hg]; exact (below_size (by repeat (first | (with_reducible first | exact HB.out | apply below_alloc | apply pw_below_drewN | apply below_drew1) | exact HB.out))) : w.heap.size ≤ gb148)); have n3_ := Aside0.mk ((by rw [hg]; exact (below_size (by repeat (first | (with_reducible first | exact HB.out | apply below_alloc | apply pw_below_drewN | apply below_drew1) | exact HB.out))) : w.heap.size ≤ gb148)); clear HB; have HB := n0_; have BK148 := n1_; have GW148 := n2_; have GE148 := n3_; clear n0_ n1_ n2_ n3_; clear hb hbox hg; have hcz26_0 : w25.cell? ⟨gb148, 0, none⟩ = some (.int .i64 a0_0) := (blk_cell BK148.out 0).trans rfl; have hcz26_1 : w25.cell? ⟨gb148, 1, none⟩ = some (.int .i64 a0_1) := (blk_cell BK148.out 1).trans rfl; have hcz26_2 : w25.cell? ⟨gb148, 2, none⟩ = some (.int .i64 a0_2) := (blk_cell BK148.out 2).trans rfl; have hcz26_3 : w25.cell? ⟨gb148, 3, none⟩ = some (.int .i64 a0_3) := (blk_cell BK148.out 3).trans rfl; have hcz26_4 : w25.cell? ⟨gb148, 4, none⟩ = some (.int .i64 a0_4) := (blk_cell BK148.out 4).trans rfl; have hcz26_5 : w25.cell? ⟨gb148, 5, none⟩ = some (.int .i64 a0_5) := (blk_cell BK148.out 5).trans rfl; have hcz26_6 : w25.cell? ⟨gb148, 6, none⟩ = some (.bool true) := (blk_cell BK148.out 6).trans rfl; have hcz26_7 : w25.cell? ⟨gb148, 7, none⟩ = some (.bool a0_7) := (blk_cell BK148.out 7).trans rfl; have hcz26_8 : w25.cell? ⟨gb148, 8, none⟩ = some (.slice A0_8 l0_8.length c0_8) := (blk_cell BK148.out 8).trans rfl; have hfz26_0 := blk_frozen BK148.out 0; have hfz26_1 := blk_frozen BK148.out 1; have hfz26_2 := blk_frozen BK148.out 2; have hfz26_3 := blk_frozen BK148.out 3; have hfz26_4 := blk_frozen BK148.out 4; have hfz26_5 := blk_frozen BK148.out 5; have hfz26_6 := blk_frozen BK148.out 6; have hfz26_7 := blk_frozen BK148.out 7; have hfz26_8 := blk_frozen BK148.out 8) | ((with_reducible refine gate_callee (f := 70) rfl ?_); refine goesL_ (some 5) rfl rfl Try.func70 (by kernel_rfl) rfl #[.int .i64 a0_0] rfl (by (try simp only [List.map_toArray, List.map_cons, List.map_nil]); first | done | rfl | (simp only [List.length_drop, List.length_take]; rfl)) ?_; (with_reducible refine (impl_word.calls a0_0 true _ A2.out).mono ?_); rintro e w' ⟨rfl, ⟨nd, rfl⟩⟩; refine ⟨_, rfl, ?_⟩) | (go_at_call 70; (with_reducible refine (impl_word.calls a0_1 true _ A4.out).mono ?_); rintro e w' ⟨rfl, ⟨nd, rfl⟩⟩) | (go_at_call 64; (with_reducible refine (impl_in.calls a0_2 0 255 true _ A6.out).mono ?_); rintro e w' ⟨rfl, ⟨nd, rfl⟩⟩) | (go_at_call 64; (with_reducible refine (impl_in.calls a0_3 0 255 true _ A8.out).mono ?_); rintro e w' ⟨rfl, ⟨nd, rfl⟩⟩) | (go_at_call 64; (with_reducible refine (impl_in.calls a0_4 0 255 true _ A10.out).mono ?_); rintro e w' ⟨rfl, ⟨nd, rfl⟩⟩) | (go_at_call 64; (with_reducible refine (impl_in.calls a0_5 0 255 true _ A12.out).mono ?_); rintro e w' ⟨rfl, ⟨nd, rfl⟩⟩))
          go_ret;exact ⟨by first | rfl | (simp [errW_none, errW_some] <;> rfl) | (simp [*, errW_none, errW_some] <;> rfl), by repeat (first | (with_reducible first | exact HB.out | apply below_alloc | apply pw_below_drewN | apply below_drew1 | refine below_set ?_ GE148.out) | exact HB.out)⟩
        ·replace c15 := Bool.eq_false_iff.mpr c15
         subst c15
         have H1 : (if a0_7 = true then (if a0_5 = 0 then (some (!false)) else (some false)) else (some true)) = some r := by rw [if_neg (show ¬ (false = true) by decide)] at H; exact H
         clear H;have H := H1;clear H1
         by_cases c27 : a0_7 = true
         ·subst c27
          have H1 : (if a0_5 = 0 then (some (!false)) else (some false)) = some r := by rw [if_pos rfl] at H; exact H
          clear H;have H := H1;clear H1
          by_cases c28 : a0_5 = 0
          ·rw [if_pos c28] at H
           have c28b0 : (a0_5 == 0) = true := beq_iff_eq.mpr c28;have c28b1 : (a0_5 != 0) = false := bne_eq_false_iff_eq.mpr c28;clear c28;obtain rfl := Option.some.inj H
           go_enter Try.func62, Try.ntmps62
           go_wp2_with (first | ((with_reducible refine gate_dst (N := 1) rfl ?_); (try (refine gate_guard (by rfl) ?_; dsimp only)); refine box_event ?hg (N := 1) ?hd (cs := #[.int .i64 a0_0, .int .i64 a0_1, .int .i64 a0_2, .int .i64 a0_3, .int .i64 a0_4, .int .i64 a0_5, .bool false, .bool true, .slice A0_8 l0_8.length c0_8]) (t := 71) ?hr ?_; (case hd => rfl); (case hg => rfl); (case hr => first | (go_simp; done) | (go_simp; rfl)); intro gb148 hg w29 hbox hb; have n0_ := Aside0.mk (below_step (by repeat (first | (with_reducible first | exact HB.out | apply below_alloc | apply pw_below_drewN | apply below_drew1) | exact HB.out)) hb); have n1_ := Aside0.mk (hbox); have n2_ := Aside0.mk ((by rw [hg]; exact (below_size (by repeat (first | (with_reducible first | exact HB.out | apply below_alloc | apply pw_below_drewN | apply below_drew1) | exact HB.out))) : w.heap.size ≤ gb148)); have n3_ := Aside0.mk ((by rw [hg]; exact (below_size (by repeat (first | (with_reducible first | exact HB.out | apply below_alloc | apply pw_below_drewN | apply below_drew1) | exact HB.out))) : w.heap.size ≤ gb148)); clear HB; have HB := n0_; have BK148 := n1_; have GW148 := n2_; have GE148 := n3_; clear n0_ n1_ n2_ n3_; clear hb hbox hg; have hcz30_0 : w29.cell? ⟨gb148, 0, none⟩ = some (.int .i64 a0_0) := (blk_cell BK148.out 0).trans rfl; have hcz30_1 : w29.cell? ⟨gb148, 1, none⟩ = some (.int .i64 a0_1) := (blk_cell BK148.out 1).trans rfl; have hcz30_2 : w29.cell? ⟨gb148, 2, none⟩ = some (.int .i64 a0_2) := (blk_cell BK148.out 2).trans rfl; have hcz30_3 : w29.cell? ⟨gb148, 3, none⟩ = some (.int .i64 a0_3) := (blk_cell BK148.out 3).trans rfl; have hcz30_4 : w29.cell? ⟨gb148, 4, none⟩ = some (.int .i64 a0_4) := (blk_cell BK148.out 4).trans rfl; have hcz30_5 : w29.cell? ⟨gb148, 5, none⟩ = some (.int .i64 a0_5) := (blk_cell BK148.out 5).trans rfl; have hcz30_6 : w29.cell? ⟨gb148, 6, none⟩ = some (.bool false) := (blk_cell BK148.out 6).trans rfl; have hcz30_7 : w29.cell? ⟨gb148, 7, none⟩ = some (.bool true) := (blk_cell BK148.out 7).trans rfl; have hcz30_8 : w29.cell? ⟨gb148, 8, none⟩ = some (.slice A0_8 l0_8.length c0_8) := (blk_cell BK148.out 8).trans rfl; have hfz30_0 := blk_frozen BK148.out 0; have hfz30_1 := blk_frozen BK148.out 1; have hfz30_2 := blk_frozen BK148.out 2; have hfz30_3 := blk_frozen BK148.out 3; have hfz30_4 := blk_frozen BK148.out 4; have hfz30_5 := blk_frozen BK148.out 5; have hfz30_6 := blk_frozen BK148.out 6; have hfz30_7 := blk_frozen BK148.out 7; have hfz30_8 := blk_frozen BK148.out 8) | ((with_reducible refine gate_callee (f := 70) rfl ?_); refine goesL_ (some 5) rfl rfl Try.func70 (by kernel_rfl) rfl #[.int .i64 a0_0] rfl (by (try simp only [List.map_toArray, List.map_cons, List.map_nil]); first | done | rfl | (simp only [List.length_drop, List.length_take]; rfl)) ?_; (with_reducible refine (impl_word.calls a0_0 true _ A2.out).mono ?_); rintro e w' ⟨rfl, ⟨nd, rfl⟩⟩; refine ⟨_, rfl, ?_⟩) | (go_at_call 70; (with_reducible refine (impl_word.calls a0_1 true _ A4.out).mono ?_); rintro e w' ⟨rfl, ⟨nd, rfl⟩⟩) | (go_at_call 64; (with_reducible refine (impl_in.calls a0_2 0 255 true _ A6.out).mono ?_); rintro e w' ⟨rfl, ⟨nd, rfl⟩⟩) | (go_at_call 64; (with_reducible refine (impl_in.calls a0_3 0 255 true _ A8.out).mono ?_); rintro e w' ⟨rfl, ⟨nd, rfl⟩⟩) | (go_at_call 64; (with_reducible refine (impl_in.calls a0_4 0 255 true _ A10.out).mono ?_); rintro e w' ⟨rfl, ⟨nd, rfl⟩⟩) | (go_at_call 64; (with_reducible refine (impl_in.calls a0_5 0 255 true _ A12.out).mono ?_); rintro e w' ⟨rfl, ⟨nd, rfl⟩⟩))
           go_ret;exact ⟨by first | rfl | (simp [errW_none, errW_some] <;> rfl) | (simp [*, errW_none, errW_some] <;> rfl), by repeat (first | (with_reducible first | exact HB.out | apply below_alloc | apply pw_below_drewN | apply below_drew1 | refine below_set ?_ GE148.out) | exact HB.out)⟩
          ·rw [if_neg c28] at H
           have c28b0 : (a0_5 == 0) = false := beq_eq_false_iff_ne.mpr c28;have c28b1 : (a0_5 != 0) = true := bne_iff_ne.mpr c28;obtain rfl := Option.some.inj H
           go_enter Try.func62, Try.ntmps62
           go_wp2_with (first | ((with_reducible refine gate_dst (N := 1) rfl ?_); (try (refine gate_guard (by rfl) ?_; dsimp only)); refine box_event ?hg (N := 1) ?hd (cs := #[.int .i64 a0_0, .int .i64 a0_1, .int .i64 a0_2, .int .i64 a0_3, .int .i64 a0_4, .int .i64 a0_5, .bool false, .bool true, .slice A0_8 l0_8.length c0_8]) (t := 71) ?hr ?_; (case hd => rfl); (case hg => rfl); (case hr => first | (go_simp; done) | (go_simp; rfl)); intro gb148 hg w31 hbox hb; have n0_ := Aside0.mk (below_step (by repeat (first | (with_reducible first | exact HB.out | apply below_alloc | apply pw_below_drewN | apply below_drew1) | exact HB.out)) hb); have n1_ := Aside0.mk (hbox); have n2_ := Aside0.mk ((by rw [hg]; exact (below_size (by repeat (first | (with_reducible first | exact HB.out | apply below_alloc | apply pw_below_drewN | apply below_drew1) | exact HB.out))) : w.heap.size ≤ gb148)); have n3_ := Aside0.mk ((by rw [hg]; exact (below_size (by repeat (first | (with_reducible first | exact HB.out | apply below_alloc | apply pw_below_drewN | apply below_drew1) | exact HB.out))) : w.heap.size ≤ gb148)); clear HB; have HB := n0_; have BK148 := n1_; have GW148 := n2_; have GE148 := n3_; clear n0_ n1_ n2_ n3_; clear hb hbox hg; have hcz32_0 : w31.cell? ⟨gb148, 0, none⟩ = some (.int .i64 a0_0) := (blk_cell BK148.out 0).trans rfl; have hcz32_1 : w31.cell? ⟨gb148, 1, none⟩ = some (.int .i64 a0_1) := (blk_cell BK148.out 1).trans rfl; have hcz32_2 : w31.cell? ⟨gb148, 2, none⟩ = some (.int .i64 a0_2) := (blk_cell BK148.out 2).trans rfl; have hcz32_3 : w31.cell? ⟨gb148, 3, none⟩ = some (.int .i64 a0_3) := (blk_cell BK148.out 3).trans rfl; have hcz32_4 : w31.cell? ⟨gb148, 4, none⟩ = some (.int .i64 a0_4) := (blk_cell BK148.out 4).trans rfl; have hcz32_5 : w31.cell? ⟨gb148, 5, none⟩ = some (.int .i64 a0_5) := (blk_cell BK148.out 5).trans rfl; have hcz32_6 : w31.cell? ⟨gb148, 6, none⟩ = some (.bool false) := (blk_cell BK148.out 6).trans rfl; have hcz32_7 : w31.cell? ⟨gb148, 7, none⟩ = some (.bool true) := (blk_cell BK148.out 7).trans rfl; have hcz32_8 : w31.cell? ⟨gb148, 8, none⟩ = some (.slice A0_8 l0_8.length c0_8) := (blk_cell BK148.out 8).trans rfl; have hfz32_0 := blk_frozen BK148.out 0; have hfz32_1 := blk_frozen BK148.out 1; have hfz32_2 := blk_frozen BK148.out 2; have hfz32_3 := blk_frozen BK148.out 3; have hfz32_4 := blk_frozen BK148.out 4; have hfz32_5 := blk_frozen BK148.out 5; have hfz32_6 := blk_frozen BK148.out 6; have hfz32_7 := blk_frozen BK148.out 7; have hfz32_8 := blk_frozen BK148.out 8) | ((with_reducible refine gate_callee (f := 70) rfl ?_); refine goesL_ (some 5) rfl rfl Try.func70 (by kernel_rfl) rfl #[.int .i64 a0_0] rfl (by (try simp only [List.map_toArray, List.map_cons, List.map_nil]); first | done | rfl | (simp only [List.length_drop, List.length_take]; rfl)) ?_; (with_reducible refine (impl_word.calls a0_0 true _ A2.out).mono ?_); rintro e w' ⟨rfl, ⟨nd, rfl⟩⟩; refine ⟨_, rfl, ?_⟩) | (go_at_call 70; (with_reducible refine (impl_word.calls a0_1 true _ A4.out).mono ?_); rintro e w' ⟨rfl, ⟨nd, rfl⟩⟩) | (go_at_call 64; (with_reducible refine (impl_in.calls a0_2 0 255 true _ A6.out).mono ?_); rintro e w' ⟨rfl, ⟨nd, rfl⟩⟩) | (go_at_call 64; (with_reducible refine (impl_in.calls a0_3 0 255 true _ A8.out).mono ?_); rintro e w' ⟨rfl, ⟨nd, rfl⟩⟩) | (go_at_call 64; (with_reducible refine (impl_in.calls a0_4 0 255 true _ A10.out).mono ?_); rintro e w' ⟨rfl, ⟨nd, rfl⟩⟩) | (go_at_call 64; (with_reducible refine (impl_in.calls a0_5 0 255 true _ A12.out).mono ?_); rintro e w' ⟨rfl, ⟨nd, rfl⟩⟩))
           go_ret;exact ⟨by first | rfl | (simp [errW_none, errW_some] <;> rfl) | (simp [*, errW_none, errW_some] <;> rfl), by repeat (first | (with_reducible first | exact HB.out | apply below_alloc | apply pw_below_drewN | apply below_drew1 | refine below_set ?_ GE148.out) | exact HB.out)⟩
         ·replace c27 := Bool.eq_false_iff.mpr c27
          subst c27
          have H1 : (some true) = some r := by rw [if_neg (show ¬ (false = true) by decide)] at H; exact H
          clear H;have H := H1;clear H1;obtain rfl := Option.some.inj H
          go_enter Try.func62, Try.ntmps62
          go_wp2_with (first | ((with_reducible refine gate_dst (N := 1) rfl ?_); (try (refine gate_guard (by rfl) ?_; dsimp only)); refine box_event ?hg (N := 1) ?hd (cs := #[.int .i64 a0_0, .int .i64 a0_1, .int .i64 a0_2, .int .i64 a0_3, .int .i64 a0_4, .int .i64 a0_5, .bool false, .bool false, .slice A0_8 l0_8.length c0_8]) (t := 71) ?hr ?_; (case hd => rfl); (case hg => rfl); (case hr => first | (go_simp; done) | (go_simp; rfl)); intro gb148 hg w33 hbox hb; have n0_ := Aside0.mk (below_step (by repeat (first | (with_reducible first | exact HB.out | apply below_alloc | apply pw_below_drewN | apply below_drew1) | exact HB.out)) hb); have n1_ := Aside0.mk (hbox); have n2_ := Aside0.mk ((by rw [hg]; exact (below_size (by repeat (first | (with_reducible first | exact HB.out | apply below_alloc | apply pw_below_drewN | apply below_drew1) | exact HB.out))) : w.heap.size ≤ gb148)); have n3_ := Aside0.mk ((by rw [hg]; exact (below_size (by repeat (first | (with_reducible first | exact HB.out | apply below_alloc | apply pw_below_drewN | apply below_drew1) | exact HB.out))) : w.heap.size ≤ gb148)); clear HB; have HB := n0_; have BK148 := n1_; have GW148 := n2_; have GE148 := n3_; clear n0_ n1_ n2_ n3_; clear hb hbox hg; have hcz34_0 : w33.cell? ⟨gb148, 0, none⟩ = some (.int .i64 a0_0) := (blk_cell BK148.out 0).trans rfl; have hcz34_1 : w33.cell? ⟨gb148, 1, none⟩ = some (.int .i64 a0_1) := (blk_cell BK148.out 1).trans rfl; have hcz34_2 : w33.cell? ⟨gb148, 2, none⟩ = some (.int .i64 a0_2) := (blk_cell BK148.out 2).trans rfl; have hcz34_3 : w33.cell? ⟨gb148, 3, none⟩ = some (.int .i64 a0_3) := (blk_cell BK148.out 3).trans rfl; have hcz34_4 : w33.cell? ⟨gb148, 4, none⟩ = some (.int .i64 a0_4) := (blk_cell BK148.out 4).trans rfl; have hcz34_5 : w33.cell? ⟨gb148, 5, none⟩ = some (.int .i64 a0_5) := (blk_cell BK148.out 5).trans rfl; have hcz34_6 : w33.cell? ⟨gb148, 6, none⟩ = some (.bool false) := (blk_cell BK148.out 6).trans rfl; have hcz34_7 : w33.cell? ⟨gb148, 7, none⟩ = some (.bool false) := (blk_cell BK148.out 7).trans rfl; have hcz34_8 : w33.cell? ⟨gb148, 8, none⟩ = some (.slice A0_8 l0_8.length c0_8) := (blk_cell BK148.out 8).trans rfl; have hfz34_0 := blk_frozen BK148.out 0; have hfz34_1 := blk_frozen BK148.out 1; have hfz34_2 := blk_frozen BK148.out 2; have hfz34_3 := blk_frozen BK148.out 3; have hfz34_4 := blk_frozen BK148.out 4; have hfz34_5 := blk_frozen BK148.out 5; have hfz34_6 := blk_frozen BK148.out 6; have hfz34_7 := blk_frozen BK148.out 7; have hfz34_8 := blk_frozen BK148.out 8) | ((with_reducible refine gate_callee (f := 70) rfl ?_); refine goesL_ (some 5) rfl rfl Try.func70 (by kernel_rfl) rfl #[.int .i64 a0_0] rfl (by (try simp only [List.map_toArray, List.map_cons, List.map_nil]); first | done | rfl | (simp only [List.length_drop, List.length_take]; rfl)) ?_; (with_reducible refine (impl_word.calls a0_0 true _ A2.out).mono ?_); rintro e w' ⟨rfl, ⟨nd, rfl⟩⟩; refine ⟨_, rfl, ?_⟩) | (go_at_call 70; (with_reducible refine (impl_word.calls a0_1 true _ A4.out).mono ?_); rintro e w' ⟨rfl, ⟨nd, rfl⟩⟩) | (go_at_call 64; (with_reducible refine (impl_in.calls a0_2 0 255 true _ A6.out).mono ?_); rintro e w' ⟨rfl, ⟨nd, rfl⟩⟩) | (go_at_call 64; (with_reducible refine (impl_in.calls a0_3 0 255 true _ A8.out).mono ?_); rintro e w' ⟨rfl, ⟨nd, rfl⟩⟩) | (go_at_call 64; (with_reducible refine (impl_in.calls a0_4 0 255 true _ A10.out).mono ?_); rintro e w' ⟨rfl, ⟨nd, rfl⟩⟩) | (go_at_call 64; (with_reducible refine (impl_in.calls a0_5 0 255 true _ A12.out).mono ?_); rintro e w' ⟨rfl, ⟨nd, rfl⟩⟩))
          go_ret;exact ⟨by first | rfl | (simp [errW_none, errW_some] <;> rfl) | (simp [*, errW_none, errW_some] <;> rfl), by repeat (first | (with_reducible first | exact HB.out | apply below_alloc | apply pw_below_drewN | apply below_drew1 | refine below_set ?_ GE148.out) | exact HB.out)⟩
       ·rw [if_neg c14] at H
        have c14b0 : decide ((l0_8.length : Int) ≤ 48) = false := decide_eq_false c14;have c14b1 : decide (l0_8.length ≤ 48) = false := decide_eq_false (by omega);clear c14;obtain rfl := Option.some.inj H
        go_enter Try.func62, Try.ntmps62
        go_wp2_with (first | ((with_reducible refine gate_dst (N := 1) rfl ?_); (try (refine gate_guard (by rfl) ?_; dsimp only)); refine box_event ?hg (N := 1) ?hd (cs := #[.int .i64 a0_0, .int .i64 a0_1, .int .i64 a0_2, .int .i64 a0_3, .int .i64 a0_4, .int .i64 a0_5, .bool a0_6, .bool a0_7, .slice A0_8 l0_8.length c0_8]) (t := 71) ?hr ?_; (case hd => rfl); (case hg => rfl); (case hr => first | (go_simp; done) | (go_simp; rfl)); intro gb148 hg w35 hbox hb; have n0_ := Aside0.mk (below_step (by repeat (first | (with_reducible first | exact HB.out | apply below_alloc | apply pw_below_drewN | apply below_drew1) | exact HB.out)) hb); have n1_ := Aside0.mk (hbox); have n2_ := Aside0.mk ((by rw [hg]; exact (below_size (by repeat (first | (with_reducible first | exact HB.out | apply below_alloc | apply pw_below_drewN | apply below_drew1) | exact HB.out))) : w.heap.size ≤ gb148)); have n3_ := Aside0.mk ((by rw [hg]; exact (below_size (by repeat (first | (with_reducible first | exact HB.out | apply below_alloc | apply pw_below_drewN | apply below_drew1) | exact HB.out))) : w.heap.size ≤ gb148)); clear HB; have HB := n0_; have BK148 := n1_; have GW148 := n2_; have GE148 := n3_; clear n0_ n1_ n2_ n3_; clear hb hbox hg; have hcz36_0 : w35.cell? ⟨gb148, 0, none⟩ = some (.int .i64 a0_0) := (blk_cell BK148.out 0).trans rfl; have hcz36_1 : w35.cell? ⟨gb148, 1, none⟩ = some (.int .i64 a0_1) := (blk_cell BK148.out 1).trans rfl; have hcz36_2 : w35.cell? ⟨gb148, 2, none⟩ = some (.int .i64 a0_2) := (blk_cell BK148.out 2).trans rfl; have hcz36_3 : w35.cell? ⟨gb148, 3, none⟩ = some (.int .i64 a0_3) := (blk_cell BK148.out 3).trans rfl; have hcz36_4 : w35.cell? ⟨gb148, 4, none⟩ = some (.int .i64 a0_4) := (blk_cell BK148.out 4).trans rfl; have hcz36_5 : w35.cell? ⟨gb148, 5, none⟩ = some (.int .i64 a0_5) := (blk_cell BK148.out 5).trans rfl; have hcz36_6 : w35.cell? ⟨gb148, 6, none⟩ = some (.bool a0_6) := (blk_cell BK148.out 6).trans rfl; have hcz36_7 : w35.cell? ⟨gb148, 7, none⟩ = some (.bool a0_7) := (blk_cell BK148.out 7).trans rfl; have hcz36_8 : w35.cell? ⟨gb148, 8, none⟩ = some (.slice A0_8 l0_8.length c0_8) := (blk_cell BK148.out 8).trans rfl; have hfz36_0 := blk_frozen BK148.out 0; have hfz36_1 := blk_frozen BK148.out 1; have hfz36_2 := blk_frozen BK148.out 2; have hfz36_3 := blk_frozen BK148.out 3; have hfz36_4 := blk_frozen BK148.out 4; have hfz36_5 := blk_frozen BK148.out 5; have hfz36_6 := blk_frozen BK148.out 6; have hfz36_7 := blk_frozen BK148.out 7; have hfz36_8 := blk_frozen BK148.out 8) | ((with_reducible refine gate_callee (f := 70) rfl ?_); refine goesL_ (some 5) rfl rfl Try.func70 (by kernel_rfl) rfl #[.int .i64 a0_0] rfl (by (try simp only [List.map_toArray, List.map_cons, List.map_nil]); first | done | rfl | (simp only [List.length_drop, List.length_take]; rfl)) ?_; (with_reducible refine (impl_word.calls a0_0 true _ A2.out).mono ?_); rintro e w' ⟨rfl, ⟨nd, rfl⟩⟩; refine ⟨_, rfl, ?_⟩) | (go_at_call 70; (with_reducible refine (impl_word.calls a0_1 true _ A4.out).mono ?_); rintro e w' ⟨rfl, ⟨nd, rfl⟩⟩) | (go_at_call 64; (with_reducible refine (impl_in.calls a0_2 0 255 true _ A6.out).mono ?_); rintro e w' ⟨rfl, ⟨nd, rfl⟩⟩) | (go_at_call 64; (with_reducible refine (impl_in.calls a0_3 0 255 true _ A8.out).mono ?_); rintro e w' ⟨rfl, ⟨nd, rfl⟩⟩) | (go_at_call 64; (with_reducible refine (impl_in.calls a0_4 0 255 true _ A10.out).mono ?_); rintro e w' ⟨rfl, ⟨nd, rfl⟩⟩) | (go_at_call 64; (with_reducible refine (impl_in.calls a0_5 0 255 true _ A12.out).mono ?_); rintro e w' ⟨rfl, ⟨nd, rfl⟩⟩))
        go_ret;exact ⟨by first | rfl | (simp [errW_none, errW_some] <;> rfl) | (simp [*, errW_none, errW_some] <;> rfl), by repeat (first | (with_reducible first | exact HB.out | apply below_alloc | apply pw_below_drewN | apply below_drew1 | refine below_set ?_ GE148.out) | exact HB.out)⟩
      ·replace c13 := Bool.eq_false_iff.mpr c13
       subst c13
       have H1 : (some false) = some r := by rw [if_neg (show ¬ (false = true) by decide)] at H; exact H
       clear H;have H := H1;clear H1;obtain rfl := Option.some.inj H
       go_enter Try.func62, Try.ntmps62
       go_wp2_with (first | ((with_reducible refine gate_dst (N := 1) rfl ?_); (try (refine gate_guard (by rfl) ?_; dsimp only)); refine box_event ?hg (N := 1) ?hd (cs := #[.int .i64 a0_0, .int .i64 a0_1, .int .i64 a0_2, .int .i64 a0_3, .int .i64 a0_4, .int .i64 a0_5, .bool a0_6, .bool a0_7, .slice A0_8 l0_8.length c0_8]) (t := 71) ?hr ?_; (case hd => rfl); (case hg => rfl); (case hr => first | (go_simp; done) | (go_simp; rfl)); intro gb148 hg w37 hbox hb; have n0_ := Aside0.mk (below_step (by repeat (first | (with_reducible first | exact HB.out | apply below_alloc | apply pw_below_drewN | apply below_drew1) | exact HB.out)) hb); have n1_ := Aside0.mk (hbox); have n2_ := Aside0.mk ((by rw [hg]; exact (below_size (by repeat (first | (with_reducible first | exact HB.out | apply below_alloc | apply pw_below_drewN | apply below_drew1) | exact HB.out))) : w.heap.size ≤ gb148)); have n3_ := Aside0.mk ((by rw [hg]; exact (below_size (by repeat (first | (with_reducible first | exact HB.out | apply below_alloc | apply pw_below_drewN | apply below_drew1) | exact HB.out))) : w.heap.size ≤ gb148)); clear HB; have HB := n0_; have BK148 := n1_; have GW148 := n2_; have GE148 := n3_; clear n0_ n1_ n2_ n3_; clear hb hbox hg; have hcz38_0 : w37.cell? ⟨gb148, 0, none⟩ = some (.int .i64 a0_0) := (blk_cell BK148.out 0).trans rfl; have hcz38_1 : w37.cell? ⟨gb148, 1, none⟩ = some (.int .i64 a0_1) := (blk_cell BK148.out 1).trans rfl; have hcz38_2 : w37.cell? ⟨gb148, 2, none⟩ = some (.int .i64 a0_2) := (blk_cell BK148.out 2).trans rfl; have hcz38_3 : w37.cell? ⟨gb148, 3, none⟩ = some (.int .i64 a0_3) := (blk_cell BK148.out 3).trans rfl; have hcz38_4 : w37.cell? ⟨gb148, 4, none⟩ = some (.int .i64 a0_4) := (blk_cell BK148.out 4).trans rfl; have hcz38_5 : w37.cell? ⟨gb148, 5, none⟩ = some (.int .i64 a0_5) := (blk_cell BK148.out 5).trans rfl; have hcz38_6 : w37.cell? ⟨gb148, 6, none⟩ = some (.bool a0_6) := (blk_cell BK148.out 6).trans rfl; have hcz38_7 : w37.cell? ⟨gb148, 7, none⟩ = some (.bool a0_7) := (blk_cell BK148.out 7).trans rfl; have hcz38_8 : w37.cell? ⟨gb148, 8, none⟩ = some (.slice A0_8 l0_8.length c0_8) := (blk_cell BK148.out 8).trans rfl; have hfz38_0 := blk_frozen BK148.out 0; have hfz38_1 := blk_frozen BK148.out 1; have hfz38_2 := blk_frozen BK148.out 2; have hfz38_3 := blk_frozen BK148.out 3; have hfz38_4 := blk_frozen BK148.out 4; have hfz38_5 := blk_frozen BK148.out 5; have hfz38_6 := blk_frozen BK148.out 6; have hfz38_7 := blk_frozen BK148.out 7; have hfz38_8 := blk_frozen BK148.out 8) | ((with_reducible refine gate_callee (f := 70) rfl ?_); refine goesL_ (some 5) rfl rfl Try.func70 (by kernel_rfl) rfl #[.int .i64 a0_0] rfl (by (try simp only [List.map_toArray, List.map_cons, List.map_nil]); first | done | rfl | (simp only [List.length_drop, List.length_take]; rfl)) ?_; (with_reducible refine (impl_word.calls a0_0 true _ A2.out).mono ?_); rintro e w' ⟨rfl, ⟨nd, rfl⟩⟩; refine ⟨_, rfl, ?_⟩) | (go_at_call 70; (with_reducible refine (impl_word.calls a0_1 true _ A4.out).mono ?_); rintro e w' ⟨rfl, ⟨nd, rfl⟩⟩) | (go_at_call 64; (with_reducible refine (impl_in.calls a0_2 0 255 true _ A6.out).mono ?_); rintro e w' ⟨rfl, ⟨nd, rfl⟩⟩) | (go_at_call 64; (with_reducible refine (impl_in.calls a0_3 0 255 true _ A8.out).mono ?_); rintro e w' ⟨rfl, ⟨nd, rfl⟩⟩) | (go_at_call 64; (with_reducible refine (impl_in.calls a0_4 0 255 true _ A10.out).mono ?_); rintro e w' ⟨rfl, ⟨nd, rfl⟩⟩) | (go_at_call 64; (with_reducible refine (impl_in.calls a0_5 0 255 false _ A12.out).mono ?_); rintro e w' ⟨rfl, ⟨nd, rfl⟩⟩))
       go_ret;exact ⟨by first | rfl | (simp [errW_none, errW_some] <;> rfl) | (simp [*, errW_none, errW_some] <;> rfl), by repeat (first | (with_reducible first | exact HB.out | apply below_alloc | apply pw_below_drewN | apply below_drew1 | refine below_set ?_ GE148.out) | exact HB.out)⟩
     ·replace c11 := Bool.eq_false_iff.mpr c11
      subst c11
      have H1 : (some false) = some r := by rw [if_neg (show ¬ (false = true) by decide)] at H; exact H
      clear H;have H := H1;clear H1;obtain rfl := Option.some.inj H
      go_enter Try.func62, Try.ntmps62
      go_wp2_with (first | ((with_reducible refine gate_dst (N := 1) rfl ?_); (try (refine gate_guard (by rfl) ?_; dsimp only)); refine box_event ?hg (N := 1) ?hd (cs := #[.int .i64 a0_0, .int .i64 a0_1, .int .i64 a0_2, .int .i64 a0_3, .int .i64 a0_4, .int .i64 a0_5, .bool a0_6, .bool a0_7, .slice A0_8 l0_8.length c0_8]) (t := 71) ?hr ?_; (case hd => rfl); (case hg => rfl); (case hr => first | (go_simp; done) | (go_simp; rfl)); intro gb148 hg w39 hbox hb; have n0_ := Aside0.mk (below_step (by repeat (first | (with_reducible first | exact HB.out | apply below_alloc | apply pw_below_drewN | apply below_drew1) | exact HB.out)) hb); have n1_ := Aside0.mk (hbox); have n2_ := Aside0.mk ((by rw [hg]; exact (below_size (by repeat (first | (with_reducible first | exact HB.out | apply below_alloc | apply pw_below_drewN | apply below_drew1) | exact HB.out))) : w.heap.size ≤ gb148)); have n3_ := Aside0.mk ((by rw [hg]; exact (below_size (by repeat (first | (with_reducible first | exact HB.out | apply below_alloc | apply pw_below_drewN | apply below_drew1) | exact HB.out))) : w.heap.size ≤ gb148)); clear HB; have HB := n0_; have BK148 := n1_; have GW148 := n2_; have GE148 := n3_; clear n0_ n1_ n2_ n3_; clear hb hbox hg; have hcz40_0 : w39.cell? ⟨gb148, 0, none⟩ = some (.int .i64 a0_0) := (blk_cell BK148.out 0).trans rfl; have hcz40_1 : w39.cell? ⟨gb148, 1, none⟩ = some (.int .i64 a0_1) := (blk_cell BK148.out 1).trans rfl; have hcz40_2 : w39.cell? ⟨gb148, 2, none⟩ = some (.int .i64 a0_2) := (blk_cell BK148.out 2).trans rfl; have hcz40_3 : w39.cell? ⟨gb148, 3, none⟩ = some (.int .i64 a0_3) := (blk_cell BK148.out 3).trans rfl; have hcz40_4 : w39.cell? ⟨gb148, 4, none⟩ = some (.int .i64 a0_4) := (blk_cell BK148.out 4).trans rfl; have hcz40_5 : w39.cell? ⟨gb148, 5, none⟩ = some (.int .i64 a0_5) := (blk_cell BK148.out 5).trans rfl; have hcz40_6 : w39.cell? ⟨gb148, 6, none⟩ = some (.bool a0_6) := (blk_cell BK148.out 6).trans rfl; have hcz40_7 : w39.cell? ⟨gb148, 7, none⟩ = some (.bool a0_7) := (blk_cell BK148.out 7).trans rfl; have hcz40_8 : w39.cell? ⟨gb148, 8, none⟩ = some (.slice A0_8 l0_8.length c0_8) := (blk_cell BK148.out 8).trans rfl; have hfz40_0 := blk_frozen BK148.out 0; have hfz40_1 := blk_frozen BK148.out 1; have hfz40_2 := blk_frozen BK148.out 2; have hfz40_3 := blk_frozen BK148.out 3; have hfz40_4 := blk_frozen BK148.out 4; have hfz40_5 := blk_frozen BK148.out 5; have hfz40_6 := blk_frozen BK148.out 6; have hfz40_7 := blk_frozen BK148.out 7; have hfz40_8 := blk_frozen BK148.out 8) | ((with_reducible refine gate_callee (f := 70) rfl ?_); refine goesL_ (some 5) rfl rfl Try.func70 (by kernel_rfl) rfl #[.int .i64 a0_0] rfl (by (try simp only [List.map_toArray, List.map_cons, List.map_nil]); first | done | rfl | (simp only [List.length_drop, List.length_take]; rfl)) ?_; (with_reducible refine (impl_word.calls a0_0 true _ A2.out).mono ?_); rintro e w' ⟨rfl, ⟨nd, rfl⟩⟩; refine ⟨_, rfl, ?_⟩) | (go_at_call 70; (with_reducible refine (impl_word.calls a0_1 true _ A4.out).mono ?_); rintro e w' ⟨rfl, ⟨nd, rfl⟩⟩) | (go_at_call 64; (with_reducible refine (impl_in.calls a0_2 0 255 true _ A6.out).mono ?_); rintro e w' ⟨rfl, ⟨nd, rfl⟩⟩) | (go_at_call 64; (with_reducible refine (impl_in.calls a0_3 0 255 true _ A8.out).mono ?_); rintro e w' ⟨rfl, ⟨nd, rfl⟩⟩) | (go_at_call 64; (with_reducible refine (impl_in.calls a0_4 0 255 false _ A10.out).mono ?_); rintro e w' ⟨rfl, ⟨nd, rfl⟩⟩))
      go_ret;exact ⟨by first | rfl | (simp [errW_none, errW_some] <;> rfl) | (simp [*, errW_none, errW_some] <;> rfl), by repeat (first | (with_reducible first | exact HB.out | apply below_alloc | apply pw_below_drewN | apply below_drew1 | refine below_set ?_ GE148.out) | exact HB.out)⟩
    ·replace c9 := Bool.eq_false_iff.mpr c9
     subst c9
     have H1 : (some false) = some r := by rw [if_neg (show ¬ (false = true) by decide)] at H; exact H
     clear H;have H := H1;clear H1;obtain rfl := Option.some.inj H
     go_enter Try.func62, Try.ntmps62
     go_wp2_with (first | ((with_reducible refine gate_dst (N := 1) rfl ?_); (try (refine gate_guard (by rfl) ?_; dsimp only)); refine box_event ?hg (N := 1) ?hd (cs := #[.int .i64 a0_0, .int .i64 a0_1, .int .i64 a0_2, .int .i64 a0_3, .int .i64 a0_4, .int .i64 a0_5, .bool a0_6, .bool a0_7, .slice A0_8 l0_8.length c0_8]) (t := 71) ?hr ?_; (case hd => rfl); (case hg => rfl); (case hr => first | (go_simp; done) | (go_simp; rfl)); intro gb148 hg w41 hbox hb; have n0_ := Aside0.mk (below_step (by repeat (first | (with_reducible first | exact HB.out | apply below_alloc | apply pw_below_drewN | apply below_drew1) | exact HB.out)) hb); have n1_ := Aside0.mk (hbox); have n2_ := Aside0.mk ((by rw [hg]; exact (below_size (by repeat (first | (with_reducible first | exact HB.out | apply below_alloc | apply pw_below_drewN | apply below_drew1) | exact HB.out))) : w.heap.size ≤ gb148)); have n3_ := Aside0.mk ((by rw [hg]; exact (below_size (by repeat (first | (with_reducible first | exact HB.out | apply below_alloc | apply pw_below_drewN | apply below_drew1) | exact HB.out))) : w.heap.size ≤ gb148)); clear HB; have HB := n0_; have BK148 := n1_; have GW148 := n2_; have GE148 := n3_; clear n0_ n1_ n2_ n3_; clear hb hbox hg; have hcz42_0 : w41.cell? ⟨gb148, 0, none⟩ = some (.int .i64 a0_0) := (blk_cell BK148.out 0).trans rfl; have hcz42_1 : w41.cell? ⟨gb148, 1, none⟩ = some (.int .i64 a0_1) := (blk_cell BK148.out 1).trans rfl; have hcz42_2 : w41.cell? ⟨gb148, 2, none⟩ = some (.int .i64 a0_2) := (blk_cell BK148.out 2).trans rfl; have hcz42_3 : w41.cell? ⟨gb148, 3, none⟩ = some (.int .i64 a0_3) := (blk_cell BK148.out 3).trans rfl; have hcz42_4 : w41.cell? ⟨gb148, 4, none⟩ = some (.int .i64 a0_4) := (blk_cell BK148.out 4).trans rfl; have hcz42_5 : w41.cell? ⟨gb148, 5, none⟩ = some (.int .i64 a0_5) := (blk_cell BK148.out 5).trans rfl; have hcz42_6 : w41.cell? ⟨gb148, 6, none⟩ = some (.bool a0_6) := (blk_cell BK148.out 6).trans rfl; have hcz42_7 : w41.cell? ⟨gb148, 7, none⟩ = some (.bool a0_7) := (blk_cell BK148.out 7).trans rfl; have hcz42_8 : w41.cell? ⟨gb148, 8, none⟩ = some (.slice A0_8 l0_8.length c0_8) := (blk_cell BK148.out 8).trans rfl; have hfz42_0 := blk_frozen BK148.out 0; have hfz42_1 := blk_frozen BK148.out 1; have hfz42_2 := blk_frozen BK148.out 2; have hfz42_3 := blk_frozen BK148.out 3; have hfz42_4 := blk_frozen BK148.out 4; have hfz42_5 := blk_frozen BK148.out 5; have hfz42_6 := blk_frozen BK148.out 6; have hfz42_7 := blk_frozen BK148.out 7; have hfz42_8 := blk_frozen BK148.out 8) | ((with_reducible refine gate_callee (f := 70) rfl ?_); refine goesL_ (some 5) rfl rfl Try.func70 (by kernel_rfl) rfl #[.int .i64 a0_0] rfl (by (try simp only [List.map_toArray, List.map_cons, List.map_nil]); first | done | rfl | (simp only [List.length_drop, List.length_take]; rfl)) ?_; (with_reducible refine (impl_word.calls a0_0 true _ A2.out).mono ?_); rintro e w' ⟨rfl, ⟨nd, rfl⟩⟩; refine ⟨_, rfl, ?_⟩) | (go_at_call 70; (with_reducible refine (impl_word.calls a0_1 true _ A4.out).mono ?_); rintro e w' ⟨rfl, ⟨nd, rfl⟩⟩) | (go_at_call 64; (with_reducible refine (impl_in.calls a0_2 0 255 true _ A6.out).mono ?_); rintro e w' ⟨rfl, ⟨nd, rfl⟩⟩) | (go_at_call 64; (with_reducible refine (impl_in.calls a0_3 0 255 false _ A8.out).mono ?_); rintro e w' ⟨rfl, ⟨nd, rfl⟩⟩))
     go_ret;exact ⟨by first | rfl | (simp [errW_none, errW_some] <;> rfl) | (simp [*, errW_none, errW_some] <;> rfl), by repeat (first | (with_reducible first | exact HB.out | apply below_alloc | apply pw_below_drewN | apply below_drew1 | refine below_set ?_ GE148.out) | exact HB.out)⟩
   ·replace c7 := Bool.eq_false_iff.mpr c7
    subst c7
    have H1 : (some false) = some r := by rw [if_neg (show ¬ (false = true) by decide)] at H; exact H
    clear H;have H := H1;clear H1;obtain rfl := Option.some.inj H
    go_enter Try.func62, Try.ntmps62
    go_wp2_with (first | ((with_reducible refine gate_dst (N := 1) rfl ?_); (try (refine gate_guard (by rfl) ?_; dsimp only)); refine box_event ?hg (N := 1) ?hd (cs := #[.int .i64 a0_0, .int .i64 a0_1, .int .i64 a0_2, .int .i64 a0_3, .int .i64 a0_4, .int .i64 a0_5, .bool a0_6, .bool a0_7, .slice A0_8 l0_8.length c0_8]) (t := 71) ?hr ?_; (case hd => rfl); (case hg => rfl); (case hr => first | (go_simp; done) | (go_simp; rfl)); intro gb148 hg w43 hbox hb; have n0_ := Aside0.mk (below_step (by repeat (first | (with_reducible first | exact HB.out | apply below_alloc | apply pw_below_drewN | apply below_drew1) | exact HB.out)) hb); have n1_ := Aside0.mk (hbox); have n2_ := Aside0.mk ((by rw [hg]; exact (below_size (by repeat (first | (with_reducible first | exact HB.out | apply below_alloc | apply pw_below_drewN | apply below_drew1) | exact HB.out))) : w.heap.size ≤ gb148)); have n3_ := Aside0.mk ((by rw [hg]; exact (below_size (by repeat (first | (with_reducible first | exact HB.out | apply below_alloc | apply pw_below_drewN | apply below_drew1) | exact HB.out))) : w.heap.size ≤ gb148)); clear HB; have HB := n0_; have BK148 := n1_; have GW148 := n2_; have GE148 := n3_; clear n0_ n1_ n2_ n3_; clear hb hbox hg; have hcz44_0 : w43.cell? ⟨gb148, 0, none⟩ = some (.int .i64 a0_0) := (blk_cell BK148.out 0).trans rfl; have hcz44_1 : w43.cell? ⟨gb148, 1, none⟩ = some (.int .i64 a0_1) := (blk_cell BK148.out 1).trans rfl; have hcz44_2 : w43.cell? ⟨gb148, 2, none⟩ = some (.int .i64 a0_2) := (blk_cell BK148.out 2).trans rfl; have hcz44_3 : w43.cell? ⟨gb148, 3, none⟩ = some (.int .i64 a0_3) := (blk_cell BK148.out 3).trans rfl; have hcz44_4 : w43.cell? ⟨gb148, 4, none⟩ = some (.int .i64 a0_4) := (blk_cell BK148.out 4).trans rfl; have hcz44_5 : w43.cell? ⟨gb148, 5, none⟩ = some (.int .i64 a0_5) := (blk_cell BK148.out 5).trans rfl; have hcz44_6 : w43.cell? ⟨gb148, 6, none⟩ = some (.bool a0_6) := (blk_cell BK148.out 6).trans rfl; have hcz44_7 : w43.cell? ⟨gb148, 7, none⟩ = some (.bool a0_7) := (blk_cell BK148.out 7).trans rfl; have hcz44_8 : w43.cell? ⟨gb148, 8, none⟩ = some (.slice A0_8 l0_8.length c0_8) := (blk_cell BK148.out 8).trans rfl; have hfz44_0 := blk_frozen BK148.out 0; have hfz44_1 := blk_frozen BK148.out 1; have hfz44_2 := blk_frozen BK148.out 2; have hfz44_3 := blk_frozen BK148.out 3; have hfz44_4 := blk_frozen BK148.out 4; have hfz44_5 := blk_frozen BK148.out 5; have hfz44_6 := blk_frozen BK148.out 6; have hfz44_7 := blk_frozen BK148.out 7; have hfz44_8 := blk_frozen BK148.out 8) | ((with_reducible refine gate_callee (f := 70) rfl ?_); refine goesL_ (some 5) rfl rfl Try.func70 (by kernel_rfl) rfl #[.int .i64 a0_0] rfl (by (try simp only [List.map_toArray, List.map_cons, List.map_nil]); first | done | rfl | (simp only [List.length_drop, List.length_take]; rfl)) ?_; (with_reducible refine (impl_word.calls a0_0 true _ A2.out).mono ?_); rintro e w' ⟨rfl, ⟨nd, rfl⟩⟩; refine ⟨_, rfl, ?_⟩) | (go_at_call 70; (with_reducible refine (impl_word.calls a0_1 true _ A4.out).mono ?_); rintro e w' ⟨rfl, ⟨nd, rfl⟩⟩) | (go_at_call 64; (with_reducible refine (impl_in.calls a0_2 0 255 false _ A6.out).mono ?_); rintro e w' ⟨rfl, ⟨nd, rfl⟩⟩))
    go_ret;exact ⟨by first | rfl | (simp [errW_none, errW_some] <;> rfl) | (simp [*, errW_none, errW_some] <;> rfl), by repeat (first | (with_reducible first | exact HB.out | apply below_alloc | apply pw_below_drewN | apply below_drew1 | refine below_set ?_ GE148.out) | exact HB.out)⟩
  ·replace c5 := Bool.eq_false_iff.mpr c5
   subst c5
   have H1 : (some false) = some r := by rw [if_neg (show ¬ (false = true) by decide)] at H; exact H
   clear H;have H := H1;clear H1;obtain rfl := Option.some.inj H
   go_enter Try.func62, Try.ntmps62
   go_wp2_with (first | ((with_reducible refine gate_dst (N := 1) rfl ?_); (try (refine gate_guard (by rfl) ?_; dsimp only)); refine box_event ?hg (N := 1) ?hd (cs := #[.int .i64 a0_0, .int .i64 a0_1, .int .i64 a0_2, .int .i64 a0_3, .int .i64 a0_4, .int .i64 a0_5, .bool a0_6, .bool a0_7, .slice A0_8 l0_8.length c0_8]) (t := 71) ?hr ?_; (case hd => rfl); (case hg => rfl); (case hr => first | (go_simp; done) | (go_simp; rfl)); intro gb148 hg w45 hbox hb; have n0_ := Aside0.mk (below_step (by repeat (first | (with_reducible first | exact HB.out | apply below_alloc | apply pw_below_drewN | apply below_drew1) | exact HB.out)) hb); have n1_ := Aside0.mk (hbox); have n2_ := Aside0.mk ((by rw [hg]; exact (below_size (by repeat (first | (with_reducible first | exact HB.out | apply below_alloc | apply pw_below_drewN | apply below_drew1) | exact HB.out))) : w.heap.size ≤ gb148)); have n3_ := Aside0.mk ((by rw [hg]; exact (below_size (by repeat (first | (with_reducible first | exact HB.out | apply below_alloc | apply pw_below_drewN | apply below_drew1) | exact HB.out))) : w.heap.size ≤ gb148)); clear HB; have HB := n0_; have BK148 := n1_; have GW148 := n2_; have GE148 := n3_; clear n0_ n1_ n2_ n3_; clear hb hbox hg; have hcz46_0 : w45.cell? ⟨gb148, 0, none⟩ = some (.int .i64 a0_0) := (blk_cell BK148.out 0).trans rfl; have hcz46_1 : w45.cell? ⟨gb148, 1, none⟩ = some (.int .i64 a0_1) := (blk_cell BK148.out 1).trans rfl; have hcz46_2 : w45.cell? ⟨gb148, 2, none⟩ = some (.int .i64 a0_2) := (blk_cell BK148.out 2).trans rfl; have hcz46_3 : w45.cell? ⟨gb148, 3, none⟩ = some (.int .i64 a0_3) := (blk_cell BK148.out 3).trans rfl; have hcz46_4 : w45.cell? ⟨gb148, 4, none⟩ = some (.int .i64 a0_4) := (blk_cell BK148.out 4).trans rfl; have hcz46_5 : w45.cell? ⟨gb148, 5, none⟩ = some (.int .i64 a0_5) := (blk_cell BK148.out 5).trans rfl; have hcz46_6 : w45.cell? ⟨gb148, 6, none⟩ = some (.bool a0_6) := (blk_cell BK148.out 6).trans rfl; have hcz46_7 : w45.cell? ⟨gb148, 7, none⟩ = some (.bool a0_7) := (blk_cell BK148.out 7).trans rfl; have hcz46_8 : w45.cell? ⟨gb148, 8, none⟩ = some (.slice A0_8 l0_8.length c0_8) := (blk_cell BK148.out 8).trans rfl; have hfz46_0 := blk_frozen BK148.out 0; have hfz46_1 := blk_frozen BK148.out 1; have hfz46_2 := blk_frozen BK148.out 2; have hfz46_3 := blk_frozen BK148.out 3; have hfz46_4 := blk_frozen BK148.out 4; have hfz46_5 := blk_frozen BK148.out 5; have hfz46_6 := blk_frozen BK148.out 6; have hfz46_7 := blk_frozen BK148.out 7; have hfz46_8 := blk_frozen BK148.out 8) | ((with_reducible refine gate_callee (f := 70) rfl ?_); refine goesL_ (some 5) rfl rfl Try.func70 (by kernel_rfl) rfl #[.int .i64 a0_0] rfl (by (try simp only [List.map_toArray, List.map_cons, List.map_nil]); first | done | rfl | (simp only [List.length_drop, List.length_take]; rfl)) ?_; (with_reducible refine (impl_word.calls a0_0 true _ A2.out).mono ?_); rintro e w' ⟨rfl, ⟨nd, rfl⟩⟩; refine ⟨_, rfl, ?_⟩) | (go_at_call 70; (with_reducible refine (impl_word.calls a0_1 false _ A4.out).mono ?_); rintro e w' ⟨rfl, ⟨nd, rfl⟩⟩))
   go_ret;exact ⟨by first | rfl | (simp [errW_none, errW_some] <;> rfl) | (simp [*, errW_none, errW_some] <;> rfl), by repeat (first | (with_reducible first | exact HB.out | apply below_alloc | apply pw_below_drewN | apply below_drew1 | refine below_set ?_ GE148.out) | exact HB.out)⟩
 ·replace c3 := Bool.eq_false_iff.mpr c3
  subst c3
  have H1 : (some false) = some r := by rw [if_neg (show ¬ (false = true) by decide)] at H; exact H
  clear H;have H := H1;clear H1;obtain rfl := Option.some.inj H
  go_enter Try.func62, Try.ntmps62
  go_wp2_with (first | ((with_reducible refine gate_dst (N := 1) rfl ?_); (try (refine gate_guard (by rfl) ?_; dsimp only)); refine box_event ?hg (N := 1) ?hd (cs := #[.int .i64 a0_0, .int .i64 a0_1, .int .i64 a0_2, .int .i64 a0_3, .int .i64 a0_4, .int .i64 a0_5, .bool a0_6, .bool a0_7, .slice A0_8 l0_8.length c0_8]) (t := 71) ?hr ?_; (case hd => rfl); (case hg => rfl); (case hr => first | (go_simp; done) | (go_simp; rfl)); intro gb148 hg w47 hbox hb; have n0_ := Aside0.mk (below_step (by repeat (first | (with_reducible first | exact HB.out | apply below_alloc | apply pw_below_drewN | apply below_drew1) | exact HB.out)) hb); have n1_ := Aside0.mk (hbox); have n2_ := Aside0.mk ((by rw [hg]; exact (below_size (by repeat (first | (with_reducible first | exact HB.out | apply below_alloc | apply pw_below_drewN | apply below_drew1) | exact HB.out))) : w.heap.size ≤ gb148)); have n3_ := Aside0.mk ((by rw [hg]; exact (below_size (by repeat (first | (with_reducible first | exact HB.out | apply below_alloc | apply pw_below_drewN | apply below_drew1) | exact HB.out))) : w.heap.size ≤ gb148)); clear HB; have HB := n0_; have BK148 := n1_; have GW148 := n2_; have GE148 := n3_; clear n0_ n1_ n2_ n3_; clear hb hbox hg; have hcz48_0 : w47.cell? ⟨gb148, 0, none⟩ = some (.int .i64 a0_0) := (blk_cell BK148.out 0).trans rfl; have hcz48_1 : w47.cell? ⟨gb148, 1, none⟩ = some (.int .i64 a0_1) := (blk_cell BK148.out 1).trans rfl; have hcz48_2 : w47.cell? ⟨gb148, 2, none⟩ = some (.int .i64 a0_2) := (blk_cell BK148.out 2).trans rfl; have hcz48_3 : w47.cell? ⟨gb148, 3, none⟩ = some (.int .i64 a0_3) := (blk_cell BK148.out 3).trans rfl; have hcz48_4 : w47.cell? ⟨gb148, 4, none⟩ = some (.int .i64 a0_4) := (blk_cell BK148.out 4).trans rfl; have hcz48_5 : w47.cell? ⟨gb148, 5, none⟩ = some (.int .i64 a0_5) := (blk_cell BK148.out 5).trans rfl; have hcz48_6 : w47.cell? ⟨gb148, 6, none⟩ = some (.bool a0_6) := (blk_cell BK148.out 6).trans rfl; have hcz48_7 : w47.cell? ⟨gb148, 7, none⟩ = some (.bool a0_7) := (blk_cell BK148.out 7).trans rfl; have hcz48_8 : w47.cell? ⟨gb148, 8, none⟩ = some (.slice A0_8 l0_8.length c0_8) := (blk_cell BK148.out 8).trans rfl; have hfz48_0 := blk_frozen BK148.out 0; have hfz48_1 := blk_frozen BK148.out 1; have hfz48_2 := blk_frozen BK148.out 2; have hfz48_3 := blk_frozen BK148.out 3; have hfz48_4 := blk_frozen BK148.out 4; have hfz48_5 := blk_frozen BK148.out 5; have hfz48_6 := blk_frozen BK148.out 6; have hfz48_7 := blk_frozen BK148.out 7; have hfz48_8 := blk_frozen BK148.out 8) | ((with_reducible refine gate_callee (f := 70) rfl ?_); refine goesL_ (some 5) rfl rfl Try.func70 (by kernel_rfl) rfl #[.int .i64 a0_0] rfl (by (try simp only [List.map_toArray, List.map_cons, List.map_nil]); first | done | rfl | (simp only [List.length_drop, List.length_take]; rfl)) ?_; (with_reducible refine (impl_word.calls a0_0 false _ A2.out).mono ?_); rintro e w' ⟨rfl, ⟨nd, rfl⟩⟩; refine ⟨_, rfl, ?_⟩))
  go_ret;exact ⟨by first | rfl | (simp [errW_none, errW_some] <;> rfl) | (simp [*, errW_none, errW_some] <;> rfl), by repeat (first | (with_reducible first | exact HB.out | apply below_alloc | apply pw_below_drewN | apply below_drew1 | refine below_set ?_ GE148.out) | exact HB.out)⟩

-- NOT PRINTED: function 125 (slices_Chunk_byte_byte)

/-! ### impl_added: function 126 -/
def impl_added.l0 : Nat → Int → List Int → Int → Int → Option (Int)
 | 0, _, _, _, _ => none
 | k + 1, x3, x6, x7, x8 => if x8 < x7 then (if 0 ≤ x8 then (if x8 < (x6.length : Int) then (if (wrap64 (x3 + (rd x6 x8))) > 65535 then (impl_added.l0 k (wrap64 ((wrap64 (x3 + (rd x6 x8))) - 65535)) x6 x7 (wrap64 (x8 + 1))) else (impl_added.l0 k (wrap64 (x3 + (rd x6 x8))) x6 x7 (wrap64 (x8 + 1)))) else (none)) else (none)) else (some x3)
def impl_added.f (k : Nat) (l0 : List Int) : Option (Int) := impl_added.l0 k 0 l0 (l0.length : Int) 0
theorem impl_added.mono_l : ∀ k, (∀ y0 y1 y2 y3, LeO (impl_added.l0 k y0 y1 y2 y3) (impl_added.l0 (k + 1) y0 y1 y2 y3))
 | 0 => fun _ _ _ _ r h => by simp [impl_added.l0] at h
 | k + 1 => by
  have ih0 := impl_added.mono_l k
  ·intro y0 y1 y2 y3
   unfold impl_added.l0
   repeat' first
   | (with_reducible exact ih0 _ _ _ _)
   | (with_reducible exact LeO.refl _)
   | (with_reducible exact LeO.none _)
   | (with_reducible refine LeO.ite ?_ ?_)
   | (with_reducible refine LeO.bind ?_ (fun _ => ?_))
   | exact ih0 _ _ _ _
   | exact LeO.none _
   | refine LeO.ite ?_ ?_
   | refine LeO.bind ?_ (fun _ => ?_)
theorem impl_added.mono : ∀ a0 k, LeO (impl_added.f k a0) (impl_added.f (k + 1) a0) := by
 intro a0 k;have ih0 := impl_added.mono_l k
 unfold impl_added.f
 repeat' first
   | (with_reducible exact ih0 _ _ _ _)
   | (with_reducible exact LeO.refl _)
   | (with_reducible exact LeO.none _)
   | (with_reducible refine LeO.ite ?_ ?_)
   | (with_reducible refine LeO.bind ?_ (fun _ => ?_))
   | exact ih0 _ _ _ _
   | exact LeO.none _
   | refine LeO.ite ?_ ?_
   | refine LeO.bind ?_ (fun _ => ?_)
set_option maxHeartbeats 8000000 in
set_option maxRecDepth 100000 in
theorem impl_added.calls (k : Nat) (A0 : Option Addr) (c0 : Nat) (l0 : List Int) (r : Int) (w : World) (hr0 : Kd.C (Kd.int .i64) w A0 l0.length l0) (hc0 : l0.length ≤ c0) (h : impl_added.f k l0 = some r) :
  Calls Try.prog 126 #[.slice A0 l0.length c0] w fun e w' => e = .returned (.int .i64 r) ∧ Drawn0 w w' := by
 have HR0 := Aside0.mk hr0;have HC0 := Aside0.mk hc0;clear hr0 hc0;have H : (impl_added.l0 k 0 l0 (l0.length : Int) 0) = some r := h;clear h;have H' := Aside0.mk H;clear H
 go_enter Try.func126, Try.ntmps126
 go_wp2
 go_loopg [3, 8] k (fun kq v3 v8 w' => ∃ (x3_1 : Int) (x8_1 : Int), v3 = .int .i64 x3_1 ∧ v8 = .int .i64 x8_1 ∧ Aside0 (impl_added.l0 kq x3_1 l0 (l0.length : Int) x8_1 = some r) ∧ Aside0 (kq ≤ k) ∧ Drawn0 w w')
 case atStart => exact ⟨(0), (0), (by first | rfl | (simp; done) | (simp [*]; done)), (by first | rfl | (simp; done) | (simp [*]; done)), H', ⟨Nat.le_refl _⟩, by repeat (first | exact Drawn0.refl _ | apply Drawn0.step)⟩
 case round =>
  clear H'
  try clear c1
  obtain ⟨x3_1, x8_1, rfl, rfl, HA, HK1, ⟨m1, rfl⟩⟩ := hrel
  cases gk with
  | zero => exact absurd HA.out (by simp [impl_added.l0])
  | succ k1 =>
   have H := HA.out;clear HA;simp only [impl_added.l0] at H
   by_cases c2 : x8_1 < (l0.length : Int)
   ·rw [if_pos c2] at H
    have c2b0 : decide (x8_1 < (l0.length : Int)) = true := decide_eq_true c2;clear c2
    by_cases c3 : 0 ≤ x8_1
    ·rw [if_pos c3] at H
     have c3b0 : decide (0 ≤ x8_1) = true := decide_eq_true c3;clear c3
     by_cases c4 : x8_1 < (l0.length : Int)
     ·rw [if_pos c4] at H
      have c4b0 : decide (x8_1 < (l0.length : Int)) = true := decide_eq_true c4;clear c4
      by_cases c5 : (wrap64 (x3_1 + (rd l0 x8_1))) > 65535
      ·rw [if_pos c5] at H
       have c5b0 : decide (65535 < (wrap64 (x3_1 + (rd l0 x8_1)))) = true := decide_eq_true c5;clear c5;have H' := Aside0.mk H;clear H;have p155 : 0 ≤ (x8_1 : Int) := of_decide_eq_true (by first | (with_reducible assumption) | assumption);have q155 : x8_1 < (l0.length : Int) := of_decide_eq_true (by first | (with_reducible assumption) | assumption);obtain ⟨ad155, e155, hx155_0⟩ := Kd.at_int HR0.out x8_1 p155 q155
       cases e155
       replace p155 := eq_true p155;replace q155 := eq_true q155
       go_wp2
       go_roundg k1
       case measure => have := HK1.out; omega
       case rel => exact ⟨(wrap64 ((wrap64 (x3_1 + (rd l0 x8_1))) - 65535)), (wrap64 (x8_1 + 1)), (by first | rfl | (simp; done) | (simp [*]; done)), (by first | rfl | (simp; done) | (simp [*]; done)), H', ⟨by have := HK1.out; omega⟩, by repeat (first | exact Drawn0.refl _ | apply Drawn0.step)⟩
      ·rw [if_neg c5] at H
       have c5b0 : decide (65535 < (wrap64 (x3_1 + (rd l0 x8_1)))) = false := decide_eq_false c5;clear c5;have H' := Aside0.mk H;clear H;have p155 : 0 ≤ (x8_1 : Int) := of_decide_eq_true (by first | (with_reducible assumption) | assumption);have q155 : x8_1 < (l0.length : Int) := of_decide_eq_true (by first | (with_reducible assumption) | assumption);obtain ⟨ad155, e155, hx155_0⟩ := Kd.at_int HR0.out x8_1 p155 q155
       cases e155
       replace p155 := eq_true p155;replace q155 := eq_true q155
       go_wp2
       go_roundg k1
       case measure => have := HK1.out; omega
       case rel => exact ⟨(wrap64 (x3_1 + (rd l0 x8_1))), (wrap64 (x8_1 + 1)), (by first | rfl | (simp; done) | (simp [*]; done)), (by first | rfl | (simp; done) | (simp [*]; done)), H', ⟨by have := HK1.out; omega⟩, by repeat (first | exact Drawn0.refl _ | apply Drawn0.step)⟩
     ·rw [if_neg c4] at H
      exact absurd H (by simp)
    ·rw [if_neg c3] at H
     exact absurd H (by simp)
   ·rw [if_neg c2] at H
    have c2b0 : decide (x8_1 < (l0.length : Int)) = false := decide_eq_false c2;clear c2;obtain rfl := Option.some.inj H
    go_wp2
    go_ret;exact ⟨by first | rfl | (simp; done) | (simp [*]; done), by repeat (first | exact Drawn0.refl _ | apply Drawn0.step)⟩

/-! ### impl_sumOf: function 86 -/
section
open Go.Shelf
/-- All are bytes. -/
def bytesB (l : List Int) : Bool := l.all fun x => decide (0 ≤ x ∧ x < 256)
/-- Two numbers added up; what is more comes in again. -/
def sumAdd (a b : Int) : Int := if a + b > 65535 then a + b - 65535 else a + b
/-- The pairs of bytes added up. -/
def sumP : List Int → Int → Int
 | [], s => s
 | [a], s => sumAdd s (a * 256)
 | a :: b :: l, s => sumP l (sumAdd s (a * 256 + b))
def impl_sumOf.f (k : Nat) (l0 : List Int) : Option (Int) := if bytesB l0 = true ∧ l0.length ≤ 4611686018427387904 then some (65535 - sumP l0 0) else none
theorem impl_sumOf.mono : ∀ a0 k, LeO (impl_sumOf.f k a0) (impl_sumOf.f (k + 1) a0) := fun _ _ => LeO.refl _
theorem sumAdd_range {a b : Int} (ha : 0 ≤ a ∧ a ≤ 65535) (hb : 0 ≤ b ∧ b ≤ 65535) : 0 ≤ sumAdd a b ∧ sumAdd a b ≤ 65535 := by unfold sumAdd; split <;> omega
theorem sum_w64 {x : Int} (h0 : -9223372036854775808 ≤ x) (h1 : x < 9223372036854775808) : wrap64 x = x := by unfold wrap64; omega
theorem added_two {s n : Int} (hs : 0 ≤ s ∧ s ≤ 65535) (hn : 0 ≤ n ∧ n ≤ 65535) : impl_added.f 3 [s, n] = some (sumAdd s n) := by
 have e1 : wrap64 (0 + 1) = 1 := sum_w64 (by omega) (by omega);have e2 : wrap64 (1 + 1) = 2 := sum_w64 (by omega) (by omega);have e3 : wrap64 s = s := sum_w64 (by omega) (by omega);have e4 : wrap64 (s + n) = s + n := sum_w64 (by omega) (by omega)
 have h1 : ¬ 65535 < s := by omega
 unfold impl_added.f sumAdd
 simp only [impl_added.l0, List.length_cons, List.length_nil, rd, e1, e2]
 simp [e3, h1, e4]
 by_cases h2 : 65535 < s + n
 ·rw [if_pos h2, if_pos h2, sum_w64 (by omega) (by omega)]
 ·rw [if_neg h2, if_neg h2]
theorem or_byte_ {x y : Int} (hx0 : 0 ≤ x) (hx1 : x < 256) (hy0 : 0 ≤ y) (hy1 : y < 256) : Go.bits .or .i64 (x * 256) y = x * 256 + y := by
 refine bits_join .i64 63 (by decide) ?_ 8 (x * 256) y (by omega) (by omega) ?_ hy0 (by simpa using hy1) ?_
 ·intro n h0 h1;have h1' : n < 9223372036854775808 := h1
  rw [IntKind.wrap_i64]; omega
 ·show x * 256 < 9223372036854775808
  omega
 ·show y < 9223372036854775808
  omega
theorem lit_two (W : World) (s n : Int) : Kd.C (Kd.int .i64) (W.alloc (.cells #[.int .i64 s, .int .i64 n] 3)) (some ⟨W.heap.size, 0, none⟩) 2 [s, n] := by
 refine ⟨rfl, by omega, fun _ => ⟨_, rfl, fun j p hj => ?_⟩⟩;refine ⟨[.int .i64 p], rfl, rfl, fun i u hu => ?_⟩
 have hi : i = 0 := by
  have := (List.getElem?_eq_some_iff.1 hu).1
  simpa using this
 subst hi
 have hu' : Value.int .i64 p = u := by simpa using hu
 subst hu'
 have hjl : j < 2 := (List.getElem?_eq_some_iff.1 hj).1
 show World.cell? _ ((⟨W.heap.size, 0, none⟩ : Addr).add (j * 1 + 0)) = _
 rw [Nat.mul_one, Nat.add_zero, add_plain, blk_cell (blk_new W _) j]
 obtain rfl | rfl : j = 0 ∨ j = 1 := by omega
 ·have : s = p := by simpa using hj
  subst this; rfl
 ·have : n = p := by simpa using hj
  subst this; rfl
theorem cell_later {W : World} {a : Addr} {v : Value} (nd : Nat) (h : W.cell? a = some v) : (W.drewN nd).cell? a = some v := h
theorem frozen_later {W : World} {a : Addr} {b : Bool} (nd : Nat) (h : W.frozen? a = b) : (W.drewN nd).frozen? a = b := h
theorem keeps_drewN (W : World) (nd : Nat) : KeepsOthers W (W.drewN nd) := ⟨Nat.le_refl _, fun _ _ h _ => h⟩
theorem cell_alloc_m {W : World} {a : Addr} {v : Value} (o : Obj) (h : W.cell? a = some v) : (W.alloc o).cell? a = some v := (((Below.refl W.heap.size W).alloc (Nat.le_refl _) o).cell (World.block_lt_of_cell? W a h)).trans h
theorem frozen_alloc_m {W : World} {a : Addr} {v : Value} {b : Bool} (o : Obj) (h : W.cell? a = some v) (hf : W.frozen? a = b) : (W.alloc o).frozen? a = b := (((Below.refl W.heap.size W).alloc (Nat.le_refl _) o).frozen (World.block_lt_of_cell? W a h)).trans hf
theorem addr_one (p : Addr) : p.add 1 = ⟨p.block, p.off + 1, none⟩ := by unfold Addr.add; simp
/-- A chunk: where it lies, how many bytes it has, and these. -/
structure Ck where
 p : Addr
 m : Nat
 x : Int
 y : Int
def Ck.Ok (w : World) (c : Ck) : Prop := (c.m = 1 ∨ c.m = 2) ∧ w.cell? c.p = some (.int .u8 c.x) ∧ (c.m = 2 → w.cell? (c.p.add 1) = some (.int .u8 c.y)) ∧ (0 ≤ c.x ∧ c.x < 256) ∧ (0 ≤ c.y ∧ c.y < 256)
abbrev CkAt (w : World) := { c : Ck // c.Ok w }
def Ck.val (c : Ck) : Int := if c.m = 2 then c.x * 256 + c.y else c.x * 256
def ckSum {w : World} (pre : List (CkAt w)) : Int := pre.foldl (fun s c => sumAdd s c.1.val) 0
theorem ckSum_snoc {w : World} (pre : List (CkAt w)) (c : CkAt w) : ckSum (pre ++ [c]) = sumAdd (ckSum pre) c.1.val := by simp [ckSum]
theorem Ck.val_range {w : World} (c : CkAt w) : 0 ≤ c.1.val ∧ c.1.val ≤ 65535 := by
 obtain ⟨c, _, _, _, h1, h2⟩ := c
 show 0 ≤ c.val ∧ c.val ≤ 65535
 unfold Ck.val; split <;> omega
theorem ckSum_range {w : World} (pre : List (CkAt w)) : 0 ≤ ckSum pre ∧ ckSum pre ≤ 65535 := by
 unfold ckSum
 suffices h : ∀ s : Int, 0 ≤ s ∧ s ≤ 65535 → 0 ≤ pre.foldl (fun s c => sumAdd s c.1.val) s ∧ pre.foldl (fun s c => sumAdd s c.1.val) s ≤ 65535 from h 0 (by omega)
 induction pre with
 | nil => exact fun s hs => hs
 | cons c pre ih => exact fun s hs => ih _ (sumAdd_range hs (Ck.val_range c))
theorem take_next {α : Type} {L : List α} {k : Nat} {c : α} (h : L[k]? = some c) : L.take (k + 1) = L.take k ++ [c] := by
 obtain ⟨hk, e⟩ := List.getElem?_eq_some_iff.1 h
 rw [List.take_succ_eq_append_getElem hk, e]
/-- What a round keeps: what lay ahead of the call, and the two boxes of the iterator. -/
def KeepsBoxes (n₀ Bs Bn : Nat) (A B : World) : Prop := Below n₀ A B ∧ B.cell? ⟨Bs, 0, none⟩ = A.cell? ⟨Bs, 0, none⟩ ∧ B.cell? ⟨Bn, 0, none⟩ = A.cell? ⟨Bn, 0, none⟩
theorem KeepsBoxes.refl (n₀ Bs Bn : Nat) (A : World) : KeepsBoxes n₀ Bs Bn A A := ⟨Below.refl _ _, rfl, rfl⟩
theorem KeepsBoxes.drew (n₀ Bs Bn : Nat) (A : World) : KeepsBoxes n₀ Bs Bn A A.drew := ⟨below_drew (Below.refl _ _), rfl, rfl⟩
theorem KeepsBoxes.trans {n₀ Bs Bn : Nat} {A B C : World} (h : KeepsBoxes n₀ Bs Bn A B) (k : KeepsBoxes n₀ Bs Bn B C) : KeepsBoxes n₀ Bs Bn A C := ⟨h.1.trans k.1, k.2.1.trans h.2.1, k.2.2.trans h.2.2⟩
theorem KeepsBoxes.put {n₀ Bs Bn : Nat} {w : World} (hn : n₀ ≤ w.heap.size) (hs : Bs < w.heap.size) (hn' : Bn < w.heap.size) (W : World) (l : Nat) (o o' : Obj) (hl : w.heap.size ≤ l) (h : W.heap[l]? = some o) (_ : o.isCells = false) (_ : o.isWalk = false) : KeepsBoxes n₀ Bs Bn W (W.putObj l o') := by
 have hlt := (Array.getElem?_eq_some_iff.1 h).1;have hg : Below w.heap.size W (W.putObj l o') := (Below.refl _ W).grown (grownBy_putObj' W l o') (by omega) (fun k e => by cases e; omega);exact ⟨hg.mono hn, hg.cell (p := ⟨Bs, 0, none⟩) hs, hg.cell (p := ⟨Bn, 0, none⟩) hn'⟩
attribute [local go_sem] Oper.semAt_some
set_option maxRecDepth 100000 in
set_option maxHeartbeats 2000000 in
/-- slices.Chunk's closure, at 2 bytes a chunk: for every loop body that keeps what lay ahead and the two boxes. -/
theorem chunk1_in (w0 : World) (n : Nat) (hn : 1 ≤ n) (l Bs Bn n₀ : Nat) (A : Option Addr) (len cap : Nat) (hlc : len ≤ cap) (hcap : len ≤ 4611686018427387904) (L : List (CkAt w0)) (hL : L.length = (len + 1) / 2)
  (hg : ∀ k c, L[k]? = some c → ∃ ad, A = some ad ∧ c.1.p = ad.add (2 * k) ∧ c.1.m = min 2 (len - 2 * k)) (J Jx : List (CkAt w0) → World → Prop) (hJd : ∀ {pre W}, J pre W → J pre W.drew)
  (hY : ∀ pre x W, J pre W → pre.length < (len + 1) / 2 → YieldAt Fence.wide (n - 1) Try.prog l #[.slice (some x.1.p) x.1.m x.1.m] W fun e W' =>
   (e = .returned (.bool true) ∧ J (pre ++ [x]) W' ∧ KeepsBoxes n₀ Bs Bn W W') ∨ (e = .returned (.bool false) ∧ Jx (pre ++ [x]) W'))
  (W : World) (hBs : W.cell? ⟨Bs, 0, none⟩ = some (.slice A len cap)) (hBn : W.cell? ⟨Bn, 0, none⟩ = some (.int .i64 2)) (h0 : J [] W) :
  CallsIn Fence.wide n Try.prog 139 #[.func (.yield l) #[] #[], .pointer (some ⟨Bs, 0, none⟩), .pointer (some ⟨Bn, 0, none⟩)] W fun e W' => (∃ v, e = .returned v) ∧
   ((∃ ys, ys = L ∧ J ys W') ∨ (∃ pre, (∃ k, pre = L.take k) ∧ Jx pre W')) := by
 refine callsIn_of_wp Try.func139 rfl trivial ?_ rfl;simp only [Try.ntmps139, List.size_toArray, List.length_cons, List.length_nil, Nat.reduceAdd, Nat.reduceSub, Array.replicate_succ, Array.replicate_zero, List.push_toArray, List.append_toArray, List.nil_append, List.cons_append]
 gi_wp2
 gi_loopw [4] (fun i wr => ∃ k : Nat, k ≤ (len + 1) / 2 ∧ i = .int .i64 ((2 * k : Nat) : Int) ∧ J (L.take k) wr ∧ KeepsBoxes n₀ Bs Bn W wr)
  (fun i _ => len + 1 - (intOf i).toNat)
 case atStart => exact ⟨0, Nat.zero_le _, rfl, h0, KeepsBoxes.refl _ _ _ _⟩
 case round =>
  obtain ⟨k, hk, rfl, hJs, hnx⟩ := hrel;have hcs := hnx.2.1.trans hBs;have hcn := hnx.2.2.trans hBn
  by_cases hlt : 2 * k < len
  ·obtain ⟨c, hc⟩ : ∃ c, L[k]? = some c := ⟨_, List.getElem?_eq_getElem (by omega)⟩;have HT := Lib.hid (take_next hc);obtain ⟨ad, rfl, hp, hm⟩ := hg k c hc;clear hc hg;obtain ⟨fn, tmps, assign, body, hy, hR⟩ := hY _ c wr.drew (hJd hJs) (by rw [List.length_take]; omega)
   rw [hp, hm] at hy
   have hk1 : 2 * (k + 1) = 2 * k + 2 := by omega
   obtain ⟨j, hj⟩ : ∃ j : Nat, 2 * k = j := ⟨_, rfl⟩
   rw [hj] at hlt hk1 hy ⊢
   have HK1 : Hid (2 * (k + 1) = j + 2) := Lib.hid hk1;clear hk1 hp hm
   have b1 : (0 : Int) ≤ (j : Int) := by omega
   have b2 : (j : Int) ≤ (len : Int) := by omega
   have b3 : (len : Int) ≤ (cap : Int) := by omega
   have b4 : ¬ (cap = j) := by omega
   rcases (show len - j = 1 ∨ 2 ≤ len - j by omega) with hm | hm
   ·rw [show min 2 (len - j) = 1 by omega] at hy
    have b6 : ((len - j : Nat) : Int) < 2 := by omega
    have b5 : (j : Int) + 1 ≤ (len : Int) := by omega
    gi_wp2
    gi_region
    gi_wp2
    refine hR.mono ?_
    rintro e W3 (⟨rfl, hJ3, hk3⟩ | ⟨rfl, hJx3⟩)
    ·have hcn3 := hk3.2.2.trans hcn
     gi_wp2
     go_roundw
     case rel => exact ⟨k + 1, by omega, by rw [HK1.out]; go_num, by rw [HT.out]; exact hJ3, hnx.trans ((KeepsBoxes.drew _ _ _ _).trans hk3)⟩
     case measure => simp [intOf]; omega
    ·gi_wp2
     refine bodyPost_ret (results_none rfl _ _ _) rfl ?_;exact ⟨⟨_, rfl⟩, .inr ⟨_, ⟨k + 1, HT.out.symm⟩, hJx3⟩⟩
   ·rw [show min 2 (len - j) = 2 by omega] at hy
    have b6 : ¬ ((len - j : Nat) : Int) < 2 := by omega
    have b5 : (j : Int) + 2 ≤ (len : Int) := by omega
    gi_wp2
    gi_region
    gi_wp2
    refine hR.mono ?_
    rintro e W3 (⟨rfl, hJ3, hk3⟩ | ⟨rfl, hJx3⟩)
    ·have hcn3 := hk3.2.2.trans hcn
     gi_wp2
     go_roundw
     case rel => exact ⟨k + 1, by omega, by rw [HK1.out]; go_num, by rw [HT.out]; exact hJ3, hnx.trans ((KeepsBoxes.drew _ _ _ _).trans hk3)⟩
     case measure => simp [intOf]; omega
    ·gi_wp2
     refine bodyPost_ret (results_none rfl _ _ _) rfl ?_;exact ⟨⟨_, rfl⟩, .inr ⟨_, ⟨k + 1, HT.out.symm⟩, hJx3⟩⟩
  ·obtain hk2 : k = (len + 1) / 2 := by omega
   gi_wp2
   go_end0
   exact ⟨⟨_, rfl⟩, .inl ⟨_, List.take_of_length_le (by omega), hJs⟩⟩

set_option maxHeartbeats 1000000 in
/-- slices.Chunk: the slice and the number are boxed; the function value captures the boxes. -/
theorem chunk_in (n : Nat) (a : Option Addr) (len cap : Nat) (w : World) :
  CallsIn Fence.wide n Try.prog 125 #[.slice a len cap, .int .i64 2] w fun e w' => e = .returned (.func (.func 139) #[] #[.pointer (some ⟨w.heap.size, 0, none⟩), .pointer (some ⟨w.heap.size + 1, 0, none⟩)]) ∧
   w' = (w.alloc (.cells #[.slice a len cap] 46)).alloc (.cells #[.int .i64 2] 3) := by
 refine callsIn_of_wp Try.func125 rfl trivial ?_ rfl;simp only [Try.ntmps125, List.size_toArray, List.length_cons, List.length_nil, Nat.reduceAdd, Nat.reduceSub, Array.replicate_succ, Array.replicate_zero, List.push_toArray, List.append_toArray, List.nil_append, List.cons_append]
 gi_wp2
 go_ret;exact ⟨rfl, rfl⟩
/-- The iterator's contract. -/
theorem chunk_stops (w0 : World) (n : Nat) (hn : 1 ≤ n) (Bs Bn n₀ : Nat) (A : Option Addr) (len cap : Nat) (hlc : len ≤ cap) (hcap : len ≤ 4611686018427387904) (L : List (CkAt w0)) (hL : L.length = (len + 1) / 2)
  (hg : ∀ k c, L[k]? = some c → ∃ ad, A = some ad ∧ c.1.p = ad.add (2 * k) ∧ c.1.m = min 2 (len - 2 * k)) (w : World) (hs : Bs < w.heap.size) (hb : Bn < w.heap.size)
  (hBs : w.cell? ⟨Bs, 0, none⟩ = some (.slice A len cap)) (hBn : w.cell? ⟨Bn, 0, none⟩ = some (.int .i64 2)) :
  SeqStopsK Fence.wide n Try.prog 139 #[.pointer (some ⟨Bs, 0, none⟩), .pointer (some ⟨Bn, 0, none⟩)] (fun x : CkAt w0 => #[Value.slice (some x.1.p) x.1.m x.1.m]) (KeepsBoxes n₀ Bs Bn)
   (fun ys => ys = L) (fun pre => ∃ k, pre = L.take k) ((len + 1) / 2) w := fun l J Jx W hW hJ hJx hY h0 =>
 chunk1_in w0 n hn l Bs Bn n₀ A len cap hlc hcap L hL hg J Jx (fun {pre W} h => hJ pre W W.drew none h (grown_of_below (below_drew (Below.refl _ _)) none) (fun r e => by cases e)) hY W ((hW.cell (p := ⟨Bs, 0, none⟩) hs).trans hBs) ((hW.cell (p := ⟨Bn, 0, none⟩) hb).trans hBn) h0
/-- The pairs that have come are the pairs of bytes. -/
theorem ck_drop (w0 : World) (l : List Int) (L : List (CkAt w0)) (hL : L.length = (l.length + 1) / 2) (hv : ∀ k c, L[k]? = some c → c.1.val = (if 2 * k + 1 < l.length then rd l ((2 * k : Nat) : Int) * 256 + rd l ((2 * k + 1 : Nat) : Int) else rd l ((2 * k : Nat) : Int) * 256)) :
  ∀ k, k ≤ (l.length + 1) / 2 → sumP l 0 = sumP (l.drop (2 * k)) (ckSum (L.take k))
 | 0, _ => rfl
 | k + 1, hk => by
  obtain ⟨c, hc⟩ : ∃ c, L[k]? = some c := ⟨_, List.getElem?_eq_getElem (by omega)⟩
  rw [ck_drop w0 l L hL hv k (by omega), take_next hc, ckSum_snoc, hv k c hc]
  have hr : ∀ i : Nat, i < l.length → rd l (i : Int) = l.getD i 0 := fun i hi => by unfold rd; rfl
  have hd : ∀ i : Nat, i < l.length → l.drop i = l.getD i 0 :: l.drop (i + 1) := fun i hi => by
   rw [List.drop_eq_getElem_cons hi]; simp [List.getD_eq_getElem?_getD, hi]
  rw [show 2 * (k + 1) = 2 * k + 1 + 1 by omega, hd (2 * k) (by omega), hr (2 * k) (by omega)]
  by_cases h : 2 * k + 1 < l.length
  ·rw [if_pos h, hd (2 * k + 1) h, hr (2 * k + 1) h]; rfl
  ·rw [if_neg h, List.drop_of_length_le (show l.length ≤ 2 * k + 1 by omega), List.drop_of_length_le (show l.length ≤ 2 * k + 1 + 1 by omega)]; rfl
/-- What a round leaves. -/
theorem body_end {w W : World} {s v : Int} {o : Obj} (hc : W.cell? ⟨w.heap.size, 0, none⟩ = some (.int .i64 s)) (hf : W.frozen? ⟨w.heap.size, 0, none⟩ = false) (hB : Below w.heap.size w W) (hW : w.heap.size + 1 + 1 < W.heap.size) (nd : Nat) (W' : World) (hW' : W' = ((W.alloc o).drewN nd).setCell ⟨w.heap.size, 0, none⟩ (.int .i64 v)) (B : Nat) :
  KeepsFrom B W W' ∧ KeepsBoxes w.heap.size (w.heap.size + 1) (w.heap.size + 1 + 1) W W' ∧ (W'.cell? ⟨w.heap.size, 0, none⟩ = some (.int .i64 v) ∧ W'.frozen? ⟨w.heap.size, 0, none⟩ = false ∧ w.heap.size + 1 + 1 < W'.heap.size) ∧ Below w.heap.size w W' := by
 subst hW'
 have b1 : Below W.heap.size W ((W.alloc o).drewN nd) := pw_below_drewN ((Below.refl _ W).alloc (Nat.le_refl _) _) nd;have hc1 := cell_later nd (cell_alloc_m o hc)
 have hle : w.heap.size ≤ W.heap.size := by omega
 refine ⟨(((KeepsOthers.alloc W o).trans (keeps_drewN _ nd)).trans (KeepsOthers.setCell _ _ _)).from B, ⟨(b1.mono hle).setCell (p := ⟨w.heap.size, 0, none⟩) (Nat.le_refl _) _, ?_, ?_⟩, ⟨World.cell?_setCell_same' _ _ _ (by rw [hc1]; rfl), by rw [World.frozen?_setCell]; exact frozen_later nd (frozen_alloc_m o hc hf), Nat.lt_of_lt_of_le hW (by simp)⟩, (hB.trans (b1.mono hle)).setCell (p := ⟨w.heap.size, 0, none⟩) (Nat.le_refl _) _⟩
 ·rw [World.cell?_setCell_other _ _ _ _ (by simp)]; exact b1.cell (p := ⟨w.heap.size + 1, 0, none⟩) (by show w.heap.size + 1 < W.heap.size; omega)
 ·rw [World.cell?_setCell_other _ _ _ _ (by simp)]; exact b1.cell (p := ⟨w.heap.size + 1 + 1, 0, none⟩) hW
set_option maxRecDepth 100000 in
set_option maxHeartbeats 2000000 in
theorem sumOf_in (A0 : Option Addr) (c0 : Nat) (l0 : List Int) (w : World) (hc0 : l0.length ≤ c0) (hcap : l0.length ≤ 4611686018427387904) (L : List (CkAt w)) (hL : L.length = (l0.length + 1) / 2)
  (hg : ∀ k c, L[k]? = some c → ∃ ad, A0 = some ad ∧ c.1.p = ad.add (2 * k) ∧ c.1.m = min 2 (l0.length - 2 * k))
  (hv : ∀ k c, L[k]? = some c → c.1.val = (if 2 * k + 1 < l0.length then rd l0 ((2 * k : Nat) : Int) * 256 + rd l0 ((2 * k + 1 : Nat) : Int) else rd l0 ((2 * k : Nat) : Int) * 256)) :
  CallsIn Fence.wide 3 Try.prog 86 #[.slice A0 l0.length c0] w fun e w' => e = .returned (.int .i64 (65535 - sumP l0 0)) ∧ Below w.heap.size w w' := by
 have hro : Fence.wide.round = none := rfl
 have h1 : 1 ≤ 3 := by omega
 refine callsIn_of_wp_marks Try.func86 rfl trivial ?_ hro;simp only [Try.ntmps86, List.size_toArray, List.length_cons, List.length_nil, Nat.reduceAdd, Nat.reduceSub, Array.replicate_succ, Array.replicate_zero, List.push_toArray, List.append_toArray, List.nil_append, List.cons_append]
 gi_wp2_with (refine ⟨trivial, ?_⟩; gi_at_call 125; refine (chunk_in _ _ _ _ _).mono ?_; rintro e w' ⟨rfl, rfl⟩)
 have bS := Boxed.new w 3 (.int .i64 0);have bN := Boxed.new (w.alloc (.cells #[.int .i64 0] 3)) 46 (.slice A0 l0.length c0);have bM := Boxed.new ((w.alloc (.cells #[.int .i64 0] 3)).alloc (.cells #[.slice A0 l0.length c0] 46)) 3 (.int .i64 2)
 rw [World.size_alloc] at bN bM
 rw [World.size_alloc] at bM
 have hB0 : Below w.heap.size w (((w.alloc (.cells #[.int .i64 0] 3)).alloc (.cells #[.slice A0 l0.length c0] 46)).alloc (.cells #[.int .i64 2] 3)) := (((Below.refl _ w).alloc (Nat.le_refl _) _).alloc (by simp) _).alloc (by simp; omega) _
 refine wpIn_rangeFunc_ownG hro h1 (gf := 139) (lb := #[.pointer (some ⟨w.heap.size + 1, 0, none⟩), .pointer (some ⟨w.heap.size + 1 + 1, 0, none⟩)]) rfl trivial (enters_of Try.func139 (by kernel_rfl) rfl)
  (chunk_stops w (3 - 1) (by omega) (w.heap.size + 1) (w.heap.size + 1 + 1) w.heap.size A0 l0.length c0 hc0 hcap L hL hg _ (by simp) (by simp) (bN.alloc _).cell bM.cell) KeepsBoxes.trans (KeepsBoxes.put (by simp; omega) (by simp) (by simp)) (Below.refl _ _) (fun _ => rfl)
  (fun pre W => (W.cell? ⟨w.heap.size, 0, none⟩ = some (.int .i64 (ckSum pre)) ∧ W.frozen? ⟨w.heap.size, 0, none⟩ = false ∧ w.heap.size + 1 + 1 < W.heap.size) ∧ Below w.heap.size w W)
  (fun _ _ _ => False)
  (OwnFrom.and (Own.from (fun s A B row hs hg hr => ⟨cell_kept hs.1 hg hr, (frozen_kept hs.1 hg hr).trans hs.2.1, Nat.lt_of_lt_of_le hs.2.2 hg.size⟩) _) (ownFrom_below (Nat.le_refl _) (by simp; omega)))
  (fun _ _ _ _ _ hs _ _ => hs)
  ⟨⟨((bS.alloc _).alloc _).cell, ((bS.alloc _).alloc _).frozen, by simp⟩, hB0⟩
  (fun x => { tmps := #[.slice A0 l0.length c0, undef, .int .i64 0, .pointer (some ⟨w.heap.size, 0, none⟩), .slice (some x.1.p) x.1.m x.1.m, undef, .slice A0 l0.length c0, .func (.func 139) #[] #[.pointer (some ⟨w.heap.size + 1, 0, none⟩), .pointer (some ⟨w.heap.size + 1 + 1, 0, none⟩)], .slice (some x.1.p) x.1.m x.1.m, undef, undef, undef, undef, undef, undef, undef, undef, undef, undef, undef, undef, undef, undef, undef, undef, undef, undef, undef, undef], defers := [] }) ?assign ?body ?done ?stop
 case assign =>
  intro l x W K hK
  gi_wp2
  exact hK
 case body =>
  rintro l pre ⟨⟨p, m, x, y⟩, hm, hx, hy, rx, ry⟩ W ⟨⟨hc, hf, hsz⟩, hB⟩ _
  have HZ := Lib.hid hsz;clear hsz;have hx' := (hB.cell (World.block_lt_of_cell? w _ hx)).trans hx;have rS := ckSum_range pre
  dsimp only at hm hx' rx ry hc ⊢
  have hsn := ckSum_snoc pre ⟨⟨p, m, x, y⟩, hm, hx, hy, rx, ry⟩;have HS := Lib.hid hsn;clear hsn
  generalize ckSum pre = s at hc rS HS
  rcases hm with rfl | rfl
  ·have b1 : x * 256 ≤ 65280 := by omega
   have b2 : 0 ≤ x * 256 := by omega
   gi_wp2_with (refine ⟨trivial, ?_⟩; gi_at_call 126; refine (CallsIn.inRound l (callsIn_wide.2 (impl_added.calls 3 (some ⟨W.heap.size, 0, none⟩) 2 [s, x * 256] (sumAdd s (x * 256)) _ (lit_two W s (x * 256)) (by simp) (added_two rS (by omega))))).mono ?_; rintro e w' ⟨rfl, ⟨nd, rfl⟩⟩; have hcW := cell_later nd (cell_alloc_m (.cells #[.int .i64 s, .int .i64 (x * 256)] 3) hc); have hfW := frozen_later nd (frozen_alloc_m (.cells #[.int .i64 s, .int .i64 (x * 256)] 3) hc hf))
   obtain ⟨q1, q2, ⟨q3, q4, q6⟩, q5⟩ := body_end hc hf hB HZ.out _ _ rfl _;exact ⟨q1, q2, ⟨by rw [HS.out]; exact q3, q4, q6⟩, q5⟩
  ·have hy' := (hB.cell (World.block_lt_of_cell? w _ (hy rfl))).trans (hy rfl)
   rw [addr_one] at hy'
   have b1 : x * 256 ≤ 65280 := by omega
   have b2 : 0 ≤ x * 256 := by omega
   have hor : Go.bits .or .i64 (x * 256) y = x * 256 + y := or_byte_ (by omega) (by omega) (by omega) (by omega)
   gi_wp2_with (refine ⟨trivial, ?_⟩; gi_at_call 126; refine (CallsIn.inRound l (callsIn_wide.2 (impl_added.calls 3 (some ⟨W.heap.size, 0, none⟩) 2 [s, x * 256 + y] (sumAdd s (x * 256 + y)) _ (lit_two W s (x * 256 + y)) (by simp) (added_two rS (by omega))))).mono ?_; rintro e w' ⟨rfl, ⟨nd, rfl⟩⟩; have hcW := cell_later nd (cell_alloc_m (.cells #[.int .i64 s, .int .i64 (x * 256 + y)] 3) hc); have hfW := frozen_later nd (frozen_alloc_m (.cells #[.int .i64 s, .int .i64 (x * 256 + y)] 3) hc hf))
   obtain ⟨q1, q2, ⟨q3, q4, q6⟩, q5⟩ := body_end hc hf hB HZ.out _ _ rfl _;exact ⟨q1, q2, ⟨by rw [HS.out]; exact q3, q4, q6⟩, q5⟩
 case done =>
  rintro D ys W hD hys ⟨⟨hc, _⟩, hB⟩ hK
  rw [hys] at hc
  clear hys;have rS := ckSum_range L
  gi_wp2
  refine ⟨by simp, .inl ⟨_, _, rfl, run_takeDeferred hK, ?_⟩⟩;refine ⟨_, results_tmp rfl _ _ _, ?_, hB.trans (belowK_b (w := w) (Nat.le_refl _) W D _ _ (by simp at hD; omega) hK rfl rfl)⟩
  rw [ck_drop w l0 L hL hv _ (Nat.le_refl _), List.drop_of_length_le (by omega), List.take_of_length_le (by omega)]; rfl
 case stop =>
  rintro D c pre W _ _ h _
  exact h.elim

/-- The chunks of a row of bytes. -/
theorem chunks_of (A0 : Option Addr) (l0 : List Int) (w : World) (hr0 : Kd.C (Kd.int .u8) w A0 l0.length l0) (hb : ∀ x ∈ l0, 0 ≤ x ∧ x < 256) : ∀ m, m ≤ (l0.length + 1) / 2 → ∃ L : List (CkAt w), L.length = m ∧
  (∀ k c, L[k]? = some c → (∃ ad, A0 = some ad ∧ c.1.p = ad.add (2 * k) ∧ c.1.m = min 2 (l0.length - 2 * k)) ∧ c.1.val = (if 2 * k + 1 < l0.length then rd l0 ((2 * k : Nat) : Int) * 256 + rd l0 ((2 * k + 1 : Nat) : Int) else rd l0 ((2 * k : Nat) : Int) * 256))
 | 0, _ => ⟨[], rfl, fun k c h => by simp at h⟩
 | m + 1, hm => by
  obtain ⟨L, hL, hp⟩ := chunks_of A0 l0 w hr0 hb m (by omega);obtain ⟨ad, e0, hx⟩ := Kd.at_int hr0 ((2 * m : Nat) : Int) (by omega) (by omega)
  have rr : ∀ i : Nat, i < l0.length → 0 ≤ rd l0 (i : Int) ∧ rd l0 (i : Int) < 256 := fun i hi => by
   have : rd l0 (i : Int) = l0[i] := by unfold rd; simp [List.getD_eq_getElem?_getD, hi]
   rw [this]; exact hb _ (List.getElem_mem hi)
  have hx' : w.cell? (ad.add (2 * m)) = some (.int .u8 (rd l0 ((2 * m : Nat) : Int))) := hx
  by_cases h : 2 * m + 1 < l0.length
  ·obtain ⟨ad', e1, hy⟩ := Kd.at_int hr0 ((2 * m + 1 : Nat) : Int) (by omega) (by omega);obtain rfl : ad = ad' := Option.some.inj (e0.symm.trans e1)
   have hy' : w.cell? ((ad.add (2 * m)).add 1) = some (.int .u8 (rd l0 ((2 * m + 1 : Nat) : Int))) := by
    have : (ad.add (2 * m)).add 1 = ad.add (2 * m + 1) := by exact Deep.add_add ad (2 * m) 1
    rw [this]; exact hy
   refine ⟨L ++ [⟨⟨ad.add (2 * m), 2, rd l0 ((2 * m : Nat) : Int), rd l0 ((2 * m + 1 : Nat) : Int)⟩, .inr rfl, hx', fun _ => hy', rr _ (by omega), rr _ h⟩], by simp [hL], fun k c hc => ?_⟩
   by_cases hk : k < m
   ·rw [List.getElem?_append_left (by omega)] at hc; exact hp k c hc
   ·have hk2 : k < (L ++ [_]).length := (List.getElem?_eq_some_iff.1 hc).1
    rw [List.length_append, List.length_singleton] at hk2
    obtain rfl : k = m := by omega
    rw [List.getElem?_append_right (by omega)] at hc
    have hc' := Option.some.inj (show some _ = some c by simpa [hL] using hc)
    subst hc'
    exact ⟨⟨ad, e0, rfl, by show 2 = _; omega⟩, by rw [if_pos h]; unfold Ck.val; rfl⟩
  ·refine ⟨L ++ [⟨⟨ad.add (2 * m), 1, rd l0 ((2 * m : Nat) : Int), 0⟩, .inl rfl, hx', (fun h => absurd h (by show ¬ (1 : Nat) = 2; decide)), rr _ (by omega), (show (0 : Int) ≤ 0 ∧ (0 : Int) < 256 by decide)⟩], by simp [hL], fun k c hc => ?_⟩
   by_cases hk : k < m
   ·rw [List.getElem?_append_left (by omega)] at hc; exact hp k c hc
   ·have hk2 : k < (L ++ [_]).length := (List.getElem?_eq_some_iff.1 hc).1
    rw [List.length_append, List.length_singleton] at hk2
    obtain rfl : k = m := by omega
    rw [List.getElem?_append_right (by omega)] at hc
    have hc' := Option.some.inj (show some _ = some c by simpa [hL] using hc)
    subst hc'
    exact ⟨⟨ad, e0, rfl, by show 1 = _; omega⟩, by rw [if_neg h]; unfold Ck.val; rfl⟩
theorem impl_sumOf.calls (k : Nat) (A0 : Option Addr) (c0 : Nat) (l0 : List Int) (r : Int) (w : World) (hr0 : Kd.C (Kd.int .u8) w A0 l0.length l0) (hc0 : l0.length ≤ c0) (h : impl_sumOf.f k l0 = some r) :
  Calls Try.prog 86 #[.slice A0 l0.length c0] w fun e w' => e = .returned (.int .i64 r) ∧ Below w.heap.size w w' := by
 unfold impl_sumOf.f at h
 by_cases hb : bytesB l0 = true ∧ l0.length ≤ 4611686018427387904
 ·rw [if_pos hb] at h
  obtain rfl := Option.some.inj h;have hb' : ∀ x ∈ l0, 0 ≤ x ∧ x < 256 := fun x hx => of_decide_eq_true (List.all_eq_true.mp hb.1 x hx);obtain ⟨L, hL, hp⟩ := chunks_of A0 l0 w hr0 hb' _ (Nat.le_refl _);exact callsIn_wide.1 (sumOf_in A0 c0 l0 w hc0 hb.2 L hL (fun k c hc => (hp k c hc).1) (fun k c hc => (hp k c hc).2))
 ·rw [if_neg hb] at h; cases h
end

/-! ### impl_SumFits: function 97 -/
def impl_SumFits.f (k : Nat) (l0 : List Int) (a1 : Int) : Option (Bool) := (impl_sumOf.f k l0).bind fun t158 => ((impl_word.f a1).bind fun t159 => (if t159 = true then (if a1 = t158 then (some true) else (if (Int.tmod a1 65535) = 0 then (some ((Int.tmod t158 65535) == 0)) else (some false))) else (some false)))
theorem impl_SumFits.mono : ∀ a0 a1 k, LeO (impl_SumFits.f k a0 a1) (impl_SumFits.f (k + 1) a0 a1) := by
 intro a0 a1 k
 unfold impl_SumFits.f
 repeat' first
   | (with_reducible exact impl_sumOf.mono _ _)
   | (with_reducible exact LeO.refl _)
   | (with_reducible exact LeO.none _)
   | (with_reducible refine LeO.ite ?_ ?_)
   | (with_reducible refine LeO.bind ?_ (fun _ => ?_))
   | exact impl_sumOf.mono _ _
   | exact LeO.none _
   | refine LeO.ite ?_ ?_
   | refine LeO.bind ?_ (fun _ => ?_)
set_option maxHeartbeats 8000000 in
set_option maxRecDepth 100000 in
theorem impl_SumFits.calls (k : Nat) (A0 : Option Addr) (c0 : Nat) (l0 : List Int) (a1 : Int) (r : Bool) (w : World) (hr0 : Kd.C (Kd.int .u8) w A0 l0.length l0) (hc0 : l0.length ≤ c0) (h : impl_SumFits.f k l0 a1 = some r) :
  Calls Try.prog 97 #[.slice A0 l0.length c0, .int .i64 a1] w fun e w' => e = .returned (.bool r) ∧ Below w.heap.size w w' := by
 have HR0 := Aside0.mk hr0;have HC0 := Aside0.mk hc0;clear hr0 hc0;have HB := Aside0.mk (Below.refl w.heap.size w);have H : ((impl_sumOf.f k l0).bind fun t158 => ((impl_word.f a1).bind fun t159 => (if t159 = true then (if a1 = t158 then (some true) else (if (Int.tmod a1 65535) = 0 then (some ((Int.tmod t158 65535) == 0)) else (some false))) else (some false)))) = some r := h;clear h;replace H := Option.bind_eq_some_iff.mp H;obtain ⟨t158, A30, H⟩ := H;replace H : ((impl_word.f a1).bind fun t159 => (if t159 = true then (if a1 = t158 then (some true) else (if (Int.tmod a1 65535) = 0 then (some ((Int.tmod t158 65535) == 0)) else (some false))) else (some false))) = some r := H;have A3 := Aside0.mk A30;clear A30;replace H := Option.bind_eq_some_iff.mp H;obtain ⟨t159, A40, H⟩ := H;replace H : (if t159 = true then (if a1 = t158 then (some true) else (if (Int.tmod a1 65535) = 0 then (some ((Int.tmod t158 65535) == 0)) else (some false))) else (some false)) = some r := H;have A4 := Aside0.mk A40;clear A40
 by_cases c5 : t159 = true
 ·subst c5
  have H1 : (if a1 = t158 then (some true) else (if (Int.tmod a1 65535) = 0 then (some ((Int.tmod t158 65535) == 0)) else (some false))) = some r := by rw [if_pos rfl] at H; exact H
  clear H;have H := H1;clear H1
  by_cases c6 : a1 = t158
  ·rw [if_pos c6] at H
   have c6b0 : (a1 == t158) = true := beq_iff_eq.mpr c6;have c6b1 : (a1 != t158) = false := bne_eq_false_iff_eq.mpr c6;clear c6;obtain rfl := Option.some.inj H
   go_enter Try.func97, Try.ntmps97
   go_wp2_with (first | ((with_reducible refine gate_callee (f := 86) rfl ?_); refine goesL_ (some 7) rfl rfl Try.func86 (by kernel_rfl) rfl #[.slice A0 l0.length c0] rfl (by (try simp only [List.map_toArray, List.map_cons, List.map_nil]); first | done | rfl | (simp only [List.length_drop, List.length_take]; rfl)) ?_; (with_reducible refine (impl_sumOf.calls k _ _ l0 t158 _ ?side1 ?side2 A3.out).mono ?_); (case side1 => repeat (first | exact HR0.out | (with_reducible refine Kd.C_alloc ?_ _) | (with_reducible refine Kd.C_drewN ?_ _) | (with_reducible refine Kd.C_drew ?_))); (case side2 => exact HC0.out); rintro e w7 ⟨rfl, hb⟩; refine ⟨_, rfl, ?_⟩; have n0_ := Aside0.mk (below_step (by repeat (first | (with_reducible first | exact HB.out | apply below_alloc | apply pw_below_drewN | apply below_drew1) | exact HB.out)) hb); clear HB; have HB := n0_; clear n0_; (try clear hb); (try clear hb2); (try clear hk); (try clear hi)) | ((with_reducible refine gate_callee (f := 70) rfl ?_); refine goesL_ (some 9) rfl rfl Try.func70 (by kernel_rfl) rfl #[.int .i64 a1] rfl (by (try simp only [List.map_toArray, List.map_cons, List.map_nil]); first | done | rfl | (simp only [List.length_drop, List.length_take]; rfl)) ?_; (with_reducible refine (impl_word.calls a1 true _ A4.out).mono ?_); rintro e w' ⟨rfl, ⟨nd, rfl⟩⟩; refine ⟨_, rfl, ?_⟩))
   go_ret;exact ⟨by first | rfl | (simp [errW_none, errW_some] <;> rfl) | (simp [*, errW_none, errW_some] <;> rfl), by repeat (first | (with_reducible first | exact HB.out | apply below_alloc | apply pw_below_drewN | apply below_drew1) | exact HB.out)⟩
  ·rw [if_neg c6] at H
   have c6b0 : (a1 == t158) = false := beq_eq_false_iff_ne.mpr c6;have c6b1 : (a1 != t158) = true := bne_iff_ne.mpr c6
   by_cases c8 : (Int.tmod a1 65535) = 0
   ·rw [if_pos c8] at H
    have c8b0 : ((Int.tmod a1 65535) == 0) = true := beq_iff_eq.mpr c8;have c8b1 : ((Int.tmod a1 65535) != 0) = false := bne_eq_false_iff_eq.mpr c8;clear c8;obtain rfl := Option.some.inj H
    go_enter Try.func97, Try.ntmps97
    go_wp2_with (first | ((with_reducible refine gate_callee (f := 86) rfl ?_); refine goesL_ (some 7) rfl rfl Try.func86 (by kernel_rfl) rfl #[.slice A0 l0.length c0] rfl (by (try simp only [List.map_toArray, List.map_cons, List.map_nil]); first | done | rfl | (simp only [List.length_drop, List.length_take]; rfl)) ?_; (with_reducible refine (impl_sumOf.calls k _ _ l0 t158 _ ?side1 ?side2 A3.out).mono ?_); (case side1 => repeat (first | exact HR0.out | (with_reducible refine Kd.C_alloc ?_ _) | (with_reducible refine Kd.C_drewN ?_ _) | (with_reducible refine Kd.C_drew ?_))); (case side2 => exact HC0.out); rintro e w9 ⟨rfl, hb⟩; refine ⟨_, rfl, ?_⟩; have n0_ := Aside0.mk (below_step (by repeat (first | (with_reducible first | exact HB.out | apply below_alloc | apply pw_below_drewN | apply below_drew1) | exact HB.out)) hb); clear HB; have HB := n0_; clear n0_; (try clear hb); (try clear hb2); (try clear hk); (try clear hi)) | ((with_reducible refine gate_callee (f := 70) rfl ?_); refine goesL_ (some 9) rfl rfl Try.func70 (by kernel_rfl) rfl #[.int .i64 a1] rfl (by (try simp only [List.map_toArray, List.map_cons, List.map_nil]); first | done | rfl | (simp only [List.length_drop, List.length_take]; rfl)) ?_; (with_reducible refine (impl_word.calls a1 true _ A4.out).mono ?_); rintro e w' ⟨rfl, ⟨nd, rfl⟩⟩; refine ⟨_, rfl, ?_⟩))
    go_ret;exact ⟨by first | rfl | (simp [errW_none, errW_some] <;> rfl) | (simp [*, errW_none, errW_some] <;> rfl), by repeat (first | (with_reducible first | exact HB.out | apply below_alloc | apply pw_below_drewN | apply below_drew1) | exact HB.out)⟩
   ·rw [if_neg c8] at H
    have c8b0 : ((Int.tmod a1 65535) == 0) = false := beq_eq_false_iff_ne.mpr c8;have c8b1 : ((Int.tmod a1 65535) != 0) = true := bne_iff_ne.mpr c8;obtain rfl := Option.some.inj H
    go_enter Try.func97, Try.ntmps97
    go_wp2_with (first | ((with_reducible refine gate_callee (f := 86) rfl ?_); refine goesL_ (some 7) rfl rfl Try.func86 (by kernel_rfl) rfl #[.slice A0 l0.length c0] rfl (by (try simp only [List.map_toArray, List.map_cons, List.map_nil]); first | done | rfl | (simp only [List.length_drop, List.length_take]; rfl)) ?_; (with_reducible refine (impl_sumOf.calls k _ _ l0 t158 _ ?side1 ?side2 A3.out).mono ?_); (case side1 => repeat (first | exact HR0.out | (with_reducible refine Kd.C_alloc ?_ _) | (with_reducible refine Kd.C_drewN ?_ _) | (with_reducible refine Kd.C_drew ?_))); (case side2 => exact HC0.out); rintro e w10 ⟨rfl, hb⟩; refine ⟨_, rfl, ?_⟩; have n0_ := Aside0.mk (below_step (by repeat (first | (with_reducible first | exact HB.out | apply below_alloc | apply pw_below_drewN | apply below_drew1) | exact HB.out)) hb); clear HB; have HB := n0_; clear n0_; (try clear hb); (try clear hb2); (try clear hk); (try clear hi)) | ((with_reducible refine gate_callee (f := 70) rfl ?_); refine goesL_ (some 9) rfl rfl Try.func70 (by kernel_rfl) rfl #[.int .i64 a1] rfl (by (try simp only [List.map_toArray, List.map_cons, List.map_nil]); first | done | rfl | (simp only [List.length_drop, List.length_take]; rfl)) ?_; (with_reducible refine (impl_word.calls a1 true _ A4.out).mono ?_); rintro e w' ⟨rfl, ⟨nd, rfl⟩⟩; refine ⟨_, rfl, ?_⟩))
    go_ret;exact ⟨by first | rfl | (simp [errW_none, errW_some] <;> rfl) | (simp [*, errW_none, errW_some] <;> rfl), by repeat (first | (with_reducible first | exact HB.out | apply below_alloc | apply pw_below_drewN | apply below_drew1) | exact HB.out)⟩
 ·replace c5 := Bool.eq_false_iff.mpr c5
  subst c5
  have H1 : (some false) = some r := by rw [if_neg (show ¬ (false = true) by decide)] at H; exact H
  clear H;have H := H1;clear H1;obtain rfl := Option.some.inj H
  go_enter Try.func97, Try.ntmps97
  go_wp2_with (first | ((with_reducible refine gate_callee (f := 86) rfl ?_); refine goesL_ (some 7) rfl rfl Try.func86 (by kernel_rfl) rfl #[.slice A0 l0.length c0] rfl (by (try simp only [List.map_toArray, List.map_cons, List.map_nil]); first | done | rfl | (simp only [List.length_drop, List.length_take]; rfl)) ?_; (with_reducible refine (impl_sumOf.calls k _ _ l0 t158 _ ?side1 ?side2 A3.out).mono ?_); (case side1 => repeat (first | exact HR0.out | (with_reducible refine Kd.C_alloc ?_ _) | (with_reducible refine Kd.C_drewN ?_ _) | (with_reducible refine Kd.C_drew ?_))); (case side2 => exact HC0.out); rintro e w11 ⟨rfl, hb⟩; refine ⟨_, rfl, ?_⟩; have n0_ := Aside0.mk (below_step (by repeat (first | (with_reducible first | exact HB.out | apply below_alloc | apply pw_below_drewN | apply below_drew1) | exact HB.out)) hb); clear HB; have HB := n0_; clear n0_; (try clear hb); (try clear hb2); (try clear hk); (try clear hi)) | ((with_reducible refine gate_callee (f := 70) rfl ?_); refine goesL_ (some 9) rfl rfl Try.func70 (by kernel_rfl) rfl #[.int .i64 a1] rfl (by (try simp only [List.map_toArray, List.map_cons, List.map_nil]); first | done | rfl | (simp only [List.length_drop, List.length_take]; rfl)) ?_; (with_reducible refine (impl_word.calls a1 false _ A4.out).mono ?_); rintro e w' ⟨rfl, ⟨nd, rfl⟩⟩; refine ⟨_, rfl, ?_⟩))
  go_ret;exact ⟨by first | rfl | (simp [errW_none, errW_some] <;> rfl) | (simp [*, errW_none, errW_some] <;> rfl), by repeat (first | (with_reducible first | exact HB.out | apply below_alloc | apply pw_below_drewN | apply below_drew1) | exact HB.out)⟩

end Go.Proofs.Ytdplboenlcppkaa.PFnExactPacketFrom

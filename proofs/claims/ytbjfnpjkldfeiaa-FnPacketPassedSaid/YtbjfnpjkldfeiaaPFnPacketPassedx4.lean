/- The machine side of some functions: each comes to its pure answer (written by a program of this session with the kit's print). No condition. -/
import Derived.Test.YtbjfnpjkldfeiaaPFnPacketPassedx0
import Derived.Test.YtbjfnpjkldfeiaaPFnPacketPassedx3
namespace Go.Proofs.Ytbjfnpjkldfeiaa.PFnPacketPassed
open Go.RowKit Go.Proofs.YtbjfnpjkldfeiaaUFnPacketPassed.PrintWords Go.Proofs.YtbjfnpjkldfeiaaUFnPacketPassed.PrintLast Go.Proofs.YtbjfnpjkldfeiaaUFnPacketPassed.PrintMore
attribute [local go_sem] max2_int min2_int max_two min_two max_three min_three max_four min_four   -- for this text's walks alone
set_option linter.unusedVariables false
set_option linter.unusedSimpArgs false

/-! ### impl_PacketOk: function 53 -/
def impl_PacketOk.f (a0_0 : Int) (a0_1 : Int) (a0_2 : Int) (a0_3 : Int) (a0_4 : Int) (a0_5 : Int) (a0_6 : Bool) (a0_7 : Bool) (l0_8 : List Int) : Option (Bool) := (impl_word.f a0_0).bind fun t203 => (if t203 = true then ((impl_word.f a0_1).bind fun t204 => (if t204 = true then ((impl_in.f a0_2 0 255).bind fun t205 => (if t205 = true then ((impl_in.f a0_3 0 255).bind fun t206 => (if t206 = true then ((impl_in.f a0_4 0 255).bind fun t207 => (if t207 = true then ((impl_in.f a0_5 0 255).bind fun t208 => (if t208 = true then (if (l0_8.length : Int) ≤ 48 then (if a0_6 = true then (if (l0_8.length : Int) > 0 then (if a0_7 = true then (if a0_5 = 0 then (some (!a0_6)) else (some false)) else (some true)) else (some false)) else (if a0_7 = true then (if a0_5 = 0 then (some (!a0_6)) else (some false)) else (some true))) else (some false)) else (some false))) else (some false))) else (some false))) else (some false))) else (some false))) else (some false))
set_option maxHeartbeats 8000000 in
set_option maxRecDepth 100000 in
theorem impl_PacketOk.calls (a0_0 : Int) (a0_1 : Int) (a0_2 : Int) (a0_3 : Int) (a0_4 : Int) (a0_5 : Int) (a0_6 : Bool) (a0_7 : Bool) (A0_8 : Option Addr) (c0_8 : Nat) (l0_8 : List Int) (r : Bool) (w : World) (hr0_8 : Kd.C (Kd.int .u8) w A0_8 l0_8.length l0_8) (hc0_8 : l0_8.length ≤ c0_8) (h : impl_PacketOk.f a0_0 a0_1 a0_2 a0_3 a0_4 a0_5 a0_6 a0_7 l0_8 = some r) :
  Calls Try.prog 53 #[.agg #[.int .i64 a0_0, .int .i64 a0_1, .int .i64 a0_2, .int .i64 a0_3, .int .i64 a0_4, .int .i64 a0_5, .bool a0_6, .bool a0_7, .slice A0_8 l0_8.length c0_8]] w fun e w' => e = .returned (.bool r) ∧ Below w.heap.size w w' := by
 have hu61 := Try.underlying61;have HR0_8 := Aside0.mk hr0_8;have HC0_8 := Aside0.mk hc0_8;clear hr0_8 hc0_8;have HB := Aside0.mk (Below.refl w.heap.size w);have H : ((impl_word.f a0_0).bind fun t203 => (if t203 = true then ((impl_word.f a0_1).bind fun t204 => (if t204 = true then ((impl_in.f a0_2 0 255).bind fun t205 => (if t205 = true then ((impl_in.f a0_3 0 255).bind fun t206 => (if t206 = true then ((impl_in.f a0_4 0 255).bind fun t207 => (if t207 = true then ((impl_in.f a0_5 0 255).bind fun t208 => (if t208 = true then (if (l0_8.length : Int) ≤ 48 then (if a0_6 = true then (if (l0_8.length : Int) > 0 then (if a0_7 = true then (if a0_5 = 0 then (some (!a0_6)) else (some false)) else (some true)) else (some false)) else (if a0_7 = true then (if a0_5 = 0 then (some (!a0_6)) else (some false)) else (some true))) else (some false)) else (some false))) else (some false))) else (some false))) else (some false))) else (some false))) else (some false))) = some r := h;clear h;replace H := ze H;obtain ⟨t203, A20, H⟩ := H;replace H : (if t203 = true then ((impl_word.f a0_1).bind fun t204 => (if t204 = true then ((impl_in.f a0_2 0 255).bind fun t205 => (if t205 = true then ((impl_in.f a0_3 0 255).bind fun t206 => (if t206 = true then ((impl_in.f a0_4 0 255).bind fun t207 => (if t207 = true then ((impl_in.f a0_5 0 255).bind fun t208 => (if t208 = true then (if (l0_8.length : Int) ≤ 48 then (if a0_6 = true then (if (l0_8.length : Int) > 0 then (if a0_7 = true then (if a0_5 = 0 then (some (!a0_6)) else (some false)) else (some true)) else (some false)) else (if a0_7 = true then (if a0_5 = 0 then (some (!a0_6)) else (some false)) else (some true))) else (some false)) else (some false))) else (some false))) else (some false))) else (some false))) else (some false))) else (some false)) = some r := H;have A2 := Aside0.mk A20;clear A20
 by_cases c3 : t203 = true
 ·subst c3
  have H1 : ((impl_word.f a0_1).bind fun t204 => (if t204 = true then ((impl_in.f a0_2 0 255).bind fun t205 => (if t205 = true then ((impl_in.f a0_3 0 255).bind fun t206 => (if t206 = true then ((impl_in.f a0_4 0 255).bind fun t207 => (if t207 = true then ((impl_in.f a0_5 0 255).bind fun t208 => (if t208 = true then (if (l0_8.length : Int) ≤ 48 then (if a0_6 = true then (if (l0_8.length : Int) > 0 then (if a0_7 = true then (if a0_5 = 0 then (some (!a0_6)) else (some false)) else (some true)) else (some false)) else (if a0_7 = true then (if a0_5 = 0 then (some (!a0_6)) else (some false)) else (some true))) else (some false)) else (some false))) else (some false))) else (some false))) else (some false))) else (some false))) = some r := by rw [if_pos rfl] at H; exact H
  clear H;have H := H1;clear H1;replace H := ze H;obtain ⟨t204, A40, H⟩ := H;replace H : (if t204 = true then ((impl_in.f a0_2 0 255).bind fun t205 => (if t205 = true then ((impl_in.f a0_3 0 255).bind fun t206 => (if t206 = true then ((impl_in.f a0_4 0 255).bind fun t207 => (if t207 = true then ((impl_in.f a0_5 0 255).bind fun t208 => (if t208 = true then (if (l0_8.length : Int) ≤ 48 then (if a0_6 = true then (if (l0_8.length : Int) > 0 then (if a0_7 = true then (if a0_5 = 0 then (some (!a0_6)) else (some false)) else (some true)) else (some false)) else (if a0_7 = true then (if a0_5 = 0 then (some (!a0_6)) else (some false)) else (some true))) else (some false)) else (some false))) else (some false))) else (some false))) else (some false))) else (some false)) = some r := H;have A4 := Aside0.mk A40;clear A40
  by_cases c5 : t204 = true
  ·subst c5
   have H1 : ((impl_in.f a0_2 0 255).bind fun t205 => (if t205 = true then ((impl_in.f a0_3 0 255).bind fun t206 => (if t206 = true then ((impl_in.f a0_4 0 255).bind fun t207 => (if t207 = true then ((impl_in.f a0_5 0 255).bind fun t208 => (if t208 = true then (if (l0_8.length : Int) ≤ 48 then (if a0_6 = true then (if (l0_8.length : Int) > 0 then (if a0_7 = true then (if a0_5 = 0 then (some (!a0_6)) else (some false)) else (some true)) else (some false)) else (if a0_7 = true then (if a0_5 = 0 then (some (!a0_6)) else (some false)) else (some true))) else (some false)) else (some false))) else (some false))) else (some false))) else (some false))) = some r := by rw [if_pos rfl] at H; exact H
   clear H;have H := H1;clear H1;replace H := ze H;obtain ⟨t205, A60, H⟩ := H;replace H : (if t205 = true then ((impl_in.f a0_3 0 255).bind fun t206 => (if t206 = true then ((impl_in.f a0_4 0 255).bind fun t207 => (if t207 = true then ((impl_in.f a0_5 0 255).bind fun t208 => (if t208 = true then (if (l0_8.length : Int) ≤ 48 then (if a0_6 = true then (if (l0_8.length : Int) > 0 then (if a0_7 = true then (if a0_5 = 0 then (some (!a0_6)) else (some false)) else (some true)) else (some false)) else (if a0_7 = true then (if a0_5 = 0 then (some (!a0_6)) else (some false)) else (some true))) else (some false)) else (some false))) else (some false))) else (some false))) else (some false)) = some r := H;have A6 := Aside0.mk A60;clear A60
   by_cases c7 : t205 = true
   ·subst c7
    have H1 : ((impl_in.f a0_3 0 255).bind fun t206 => (if t206 = true then ((impl_in.f a0_4 0 255).bind fun t207 => (if t207 = true then ((impl_in.f a0_5 0 255).bind fun t208 => (if t208 = true then (if (l0_8.length : Int) ≤ 48 then (if a0_6 = true then (if (l0_8.length : Int) > 0 then (if a0_7 = true then (if a0_5 = 0 then (some (!a0_6)) else (some false)) else (some true)) else (some false)) else (if a0_7 = true then (if a0_5 = 0 then (some (!a0_6)) else (some false)) else (some true))) else (some false)) else (some false))) else (some false))) else (some false))) = some r := by rw [if_pos rfl] at H; exact H
    clear H;have H := H1;clear H1;replace H := ze H;obtain ⟨t206, A80, H⟩ := H;replace H : (if t206 = true then ((impl_in.f a0_4 0 255).bind fun t207 => (if t207 = true then ((impl_in.f a0_5 0 255).bind fun t208 => (if t208 = true then (if (l0_8.length : Int) ≤ 48 then (if a0_6 = true then (if (l0_8.length : Int) > 0 then (if a0_7 = true then (if a0_5 = 0 then (some (!a0_6)) else (some false)) else (some true)) else (some false)) else (if a0_7 = true then (if a0_5 = 0 then (some (!a0_6)) else (some false)) else (some true))) else (some false)) else (some false))) else (some false))) else (some false)) = some r := H;have A8 := Aside0.mk A80;clear A80
    by_cases c9 : t206 = true
    ·subst c9
     have H1 : ((impl_in.f a0_4 0 255).bind fun t207 => (if t207 = true then ((impl_in.f a0_5 0 255).bind fun t208 => (if t208 = true then (if (l0_8.length : Int) ≤ 48 then (if a0_6 = true then (if (l0_8.length : Int) > 0 then (if a0_7 = true then (if a0_5 = 0 then (some (!a0_6)) else (some false)) else (some true)) else (some false)) else (if a0_7 = true then (if a0_5 = 0 then (some (!a0_6)) else (some false)) else (some true))) else (some false)) else (some false))) else (some false))) = some r := by rw [if_pos rfl] at H; exact H
     clear H;have H := H1;clear H1;replace H := ze H;obtain ⟨t207, A100, H⟩ := H;replace H : (if t207 = true then ((impl_in.f a0_5 0 255).bind fun t208 => (if t208 = true then (if (l0_8.length : Int) ≤ 48 then (if a0_6 = true then (if (l0_8.length : Int) > 0 then (if a0_7 = true then (if a0_5 = 0 then (some (!a0_6)) else (some false)) else (some true)) else (some false)) else (if a0_7 = true then (if a0_5 = 0 then (some (!a0_6)) else (some false)) else (some true))) else (some false)) else (some false))) else (some false)) = some r := H;have A10 := Aside0.mk A100;clear A100
     by_cases c11 : t207 = true
     ·subst c11
      have H1 : ((impl_in.f a0_5 0 255).bind fun t208 => (if t208 = true then (if (l0_8.length : Int) ≤ 48 then (if a0_6 = true then (if (l0_8.length : Int) > 0 then (if a0_7 = true then (if a0_5 = 0 then (some (!a0_6)) else (some false)) else (some true)) else (some false)) else (if a0_7 = true then (if a0_5 = 0 then (some (!a0_6)) else (some false)) else (some true))) else (some false)) else (some false))) = some r := by rw [if_pos rfl] at H; exact H
      clear H;have H := H1;clear H1;replace H := ze H;obtain ⟨t208, A120, H⟩ := H;replace H : (if t208 = true then (if (l0_8.length : Int) ≤ 48 then (if a0_6 = true then (if (l0_8.length : Int) > 0 then (if a0_7 = true then (if a0_5 = 0 then (some (!a0_6)) else (some false)) else (some true)) else (some false)) else (if a0_7 = true then (if a0_5 = 0 then (some (!a0_6)) else (some false)) else (some true))) else (some false)) else (some false)) = some r := H;have A12 := Aside0.mk A120;clear A120
      by_cases c13 : t208 = true
      ·subst c13
       have H1 : (if (l0_8.length : Int) ≤ 48 then (if a0_6 = true then (if (l0_8.length : Int) > 0 then (if a0_7 = true then (if a0_5 = 0 then (some (!a0_6)) else (some false)) else (some true)) else (some false)) else (if a0_7 = true then (if a0_5 = 0 then (some (!a0_6)) else (some false)) else (some true))) else (some false)) = some r := by rw [if_pos rfl] at H; exact H
       clear H;have H := H1;clear H1
       by_cases c14 : (l0_8.length : Int) ≤ 48
       ·rw [if_pos c14] at H
        have c14b0 : decide ((l0_8.length : Int) ≤ 48) = true := decide_eq_true c14;have c14b1 : decide (l0_8.length ≤ 48) = true := decide_eq_true (by omega);clear c14
        by_cases c15 : a0_6 = true
        ·subst c15
         have H1 : (if (l0_8.length : Int) > 0 then (if a0_7 = true then (if a0_5 = 0 then (some (!true)) else (some false)) else (some true)) else (some false)) = some r := by rw [if_pos rfl] at H; exact H
         clear H;have H := H1;clear H1
         by_cases c16 : (l0_8.length : Int) > 0
         ·rw [if_pos c16] at H
          have c16b0 : decide (0 < (l0_8.length : Int)) = true := decide_eq_true c16;have c16b1 : decide (0 < l0_8.length) = true := decide_eq_true (by omega);clear c16
          by_cases c17 : a0_7 = true
          ·subst c17
           have H1 : (if a0_5 = 0 then (some (!true)) else (some false)) = some r := by rw [if_pos rfl] at H; exact H
           clear H;have H := H1;clear H1
           by_cases c18 : a0_5 = 0
           ·rw [if_pos c18] at H
            have c18b0 : (a0_5 == 0) = true := beq_iff_eq.mpr c18;have c18b1 : (a0_5 != 0) = false := bne_eq_false_iff_eq.mpr c18;clear c18;obtain rfl := Option.some.inj H
            go_enter Try.func53, Try.ntmps53
            go_wp2_with (first | ((with_reducible refine gate_dst (N := 1) rfl ?_); (try (refine gate_guard (by rfl) ?_; dsimp only)); refine box_event ?hg (N := 1) ?hd (cs := #[.int .i64 a0_0, .int .i64 a0_1, .int .i64 a0_2, .int .i64 a0_3, .int .i64 a0_4, .int .i64 a0_5, .bool true, .bool true, .slice A0_8 l0_8.length c0_8]) (t := 61) ?hr ?_; (case hd => rfl); (case hg => rfl); (case hr => first | (go_simp; done) | (go_simp; rfl)); intro gb202 hg w19 hbox hb; have n0_ := Aside0.mk (below_step (by repeat (first | (with_reducible first | exact HB.out | apply below_alloc | apply pw_below_drewN | apply below_drew1) | exact HB.out)) hb); have n1_ := Aside0.mk (hbox); have n2_ := Aside0.mk ((by rw [hg]; exact (below_size (by repeat (first | (with_reducible first | exact HB.out | apply below_alloc | apply pw_below_drewN | apply below_drew1) | exact HB.out))) : w.heap.size ≤ gb202)); have n3_ := n2_; clear HB; have HB := n0_; have BK202 := n1_; have GW202 := n2_; have GE202 := n3_; clear n0_ n1_ n2_ n3_; clear hb hbox hg; obtain ⟨hcz20_0, hcz20_1, hcz20_2, hcz20_3, hcz20_4, hcz20_5, hcz20_6, hcz20_7, hcz20_8, hfz20_0, hfz20_1, hfz20_2, hfz20_3, hfz20_4, hfz20_5, hfz20_6, hfz20_7, hfz20_8⟩ := zc9 BK202.out) | ((with_reducible refine gate_callee (f := 78) rfl ?_); refine goesL_ (some 5) rfl rfl Try.func78 (by kernel_rfl) rfl #[.int .i64 a0_0] rfl (by (try simp only [zm]); first | done | rfl | (simp only [zl]; rfl)) ?_; (with_reducible refine (impl_word.calls a0_0 true _ A2.out).mono ?_); rintro e w' ⟨rfl, ⟨nd, rfl⟩⟩; refine ⟨_, rfl, ?_⟩) | (go_at_call 78; (with_reducible refine (impl_word.calls a0_1 true _ A4.out).mono ?_); rintro e w' ⟨rfl, ⟨nd, rfl⟩⟩) | (go_at_call 71; (with_reducible refine (impl_in.calls a0_2 0 255 true _ A6.out).mono ?_); rintro e w' ⟨rfl, ⟨nd, rfl⟩⟩) | (go_at_call 71; (with_reducible refine (impl_in.calls a0_3 0 255 true _ A8.out).mono ?_); rintro e w' ⟨rfl, ⟨nd, rfl⟩⟩) | (go_at_call 71; (with_reducible refine (impl_in.calls a0_4 0 255 true _ A10.out).mono ?_); rintro e w' ⟨rfl, ⟨nd, rfl⟩⟩) | (go_at_call 71; (with_reducible refine (impl_in.calls a0_5 0 255 true _ A12.out).mono ?_); rintro e w' ⟨rfl, ⟨nd, rfl⟩⟩))
            go_ret;exact ⟨by first | rfl | (simp <;> rfl) | (simp [*] <;> rfl), by repeat (first | (with_reducible first | exact HB.out | apply below_alloc | apply pw_below_drewN | apply below_drew1 | refine below_set ?_ GE202.out) | exact HB.out)⟩
           ·rw [if_neg c18] at H
            have c18b0 : (a0_5 == 0) = false := beq_eq_false_iff_ne.mpr c18;have c18b1 : (a0_5 != 0) = true := bne_iff_ne.mpr c18;obtain rfl := Option.some.inj H
            go_enter Try.func53, Try.ntmps53
            go_wp2_with (first | ((with_reducible refine gate_dst (N := 1) rfl ?_); (try (refine gate_guard (by rfl) ?_; dsimp only)); refine box_event ?hg (N := 1) ?hd (cs := #[.int .i64 a0_0, .int .i64 a0_1, .int .i64 a0_2, .int .i64 a0_3, .int .i64 a0_4, .int .i64 a0_5, .bool true, .bool true, .slice A0_8 l0_8.length c0_8]) (t := 61) ?hr ?_; (case hd => rfl); (case hg => rfl); (case hr => first | (go_simp; done) | (go_simp; rfl)); intro gb202 hg w21 hbox hb; have n0_ := Aside0.mk (below_step (by repeat (first | (with_reducible first | exact HB.out | apply below_alloc | apply pw_below_drewN | apply below_drew1) | exact HB.out)) hb); have n1_ := Aside0.mk (hbox); have n2_ := Aside0.mk ((by rw [hg]; exact (below_size (by repeat (first | (with_reducible first | exact HB.out | apply below_alloc | apply pw_below_drewN | apply below_drew1) | exact HB.out))) : w.heap.size ≤ gb202)); have n3_ := n2_; clear HB; have HB := n0_; have BK202 := n1_; have GW202 := n2_; have GE202 := n3_; clear n0_ n1_ n2_ n3_; clear hb hbox hg; obtain ⟨hcz22_0, hcz22_1, hcz22_2, hcz22_3, hcz22_4, hcz22_5, hcz22_6, hcz22_7, hcz22_8, hfz22_0, hfz22_1, hfz22_2, hfz22_3, hfz22_4, hfz22_5, hfz22_6, hfz22_7, hfz22_8⟩ := zc9 BK202.out) | ((with_reducible refine gate_callee (f := 78) rfl ?_); refine goesL_ (some 5) rfl rfl Try.func78 (by kernel_rfl) rfl #[.int .i64 a0_0] rfl (by (try simp only [zm]); first | done | rfl | (simp only [zl]; rfl)) ?_; (with_reducible refine (impl_word.calls a0_0 true _ A2.out).mono ?_); rintro e w' ⟨rfl, ⟨nd, rfl⟩⟩; refine ⟨_, rfl, ?_⟩) | (go_at_call 78; (with_reducible refine (impl_word.calls a0_1 true _ A4.out).mono ?_); rintro e w' ⟨rfl, ⟨nd, rfl⟩⟩) | (go_at_call 71; (with_reducible refine (impl_in.calls a0_2 0 255 true _ A6.out).mono ?_); rintro e w' ⟨rfl, ⟨nd, rfl⟩⟩) | (go_at_call 71; (with_reducible refine (impl_in.calls a0_3 0 255 true _ A8.out).mono ?_); rintro e w' ⟨rfl, ⟨nd, rfl⟩⟩) | (go_at_call 71; (with_reducible refine (impl_in.calls a0_4 0 255 true _ A10.out).mono ?_); rintro e w' ⟨rfl, ⟨nd, rfl⟩⟩) | (go_at_call 71; (with_reducible refine (impl_in.calls a0_5 0 255 true _ A12.out).mono ?_); rintro e w' ⟨rfl, ⟨nd, rfl⟩⟩))
            go_ret;exact ⟨by first | rfl | (simp <;> rfl) | (simp [*] <;> rfl), by repeat (first | (with_reducible first | exact HB.out | apply below_alloc | apply pw_below_drewN | apply below_drew1 | refine below_set ?_ GE202.out) | exact HB.out)⟩
          ·replace c17 := Bool.eq_false_iff.mpr c17
           subst c17
           have H1 : (some true) = some r := by rw [if_neg (show ¬ (false = true) by decide)] at H; exact H
           clear H;have H := H1;clear H1;obtain rfl := Option.some.inj H
           go_enter Try.func53, Try.ntmps53
           go_wp2_with (first | ((with_reducible refine gate_dst (N := 1) rfl ?_); (try (refine gate_guard (by rfl) ?_; dsimp only)); refine box_event ?hg (N := 1) ?hd (cs := #[.int .i64 a0_0, .int .i64 a0_1, .int .i64 a0_2, .int .i64 a0_3, .int .i64 a0_4, .int .i64 a0_5, .bool true, .bool false, .slice A0_8 l0_8.length c0_8]) (t := 61) ?hr ?_; (case hd => rfl); (case hg => rfl); (case hr => first | (go_simp; done) | (go_simp; rfl)); intro gb202 hg w23 hbox hb; have n0_ := Aside0.mk (below_step (by repeat (first | (with_reducible first | exact HB.out | apply below_alloc | apply pw_below_drewN | apply below_drew1) | exact HB.out)) hb); have n1_ := Aside0.mk (hbox); have n2_ := Aside0.mk ((by rw [hg]; exact (below_size (by repeat (first | (with_reducible first | exact HB.out | apply below_alloc | apply pw_below_drewN | apply below_drew1) | exact HB.out))) : w.heap.size ≤ gb202)); have n3_ := n2_; clear HB; have HB := n0_; have BK202 := n1_; have GW202 := n2_; have GE202 := n3_; clear n0_ n1_ n2_ n3_; clear hb hbox hg; obtain ⟨hcz24_0, hcz24_1, hcz24_2, hcz24_3, hcz24_4, hcz24_5, hcz24_6, hcz24_7, hcz24_8, hfz24_0, hfz24_1, hfz24_2, hfz24_3, hfz24_4, hfz24_5, hfz24_6, hfz24_7, hfz24_8⟩ := zc9 BK202.out) | ((with_reducible refine gate_callee (f := 78) rfl ?_); refine goesL_ (some 5) rfl rfl Try.func78 (by kernel_rfl) rfl #[.int .i64 a0_0] rfl (by (try simp only [zm]); first | done | rfl | (simp only [zl]; rfl)) ?_; (with_reducible refine (impl_word.calls a0_0 true _ A2.out).mono ?_); rintro e w' ⟨rfl, ⟨nd, rfl⟩⟩; refine ⟨_, rfl, ?_⟩) | (go_at_call 78; (with_reducible refine (impl_word.calls a0_1 true _ A4.out).mono ?_); rintro e w' ⟨rfl, ⟨nd, rfl⟩⟩) | (go_at_call 71; (with_reducible refine (impl_in.calls a0_2 0 255 true _ A6.out).mono ?_); rintro e w' ⟨rfl, ⟨nd, rfl⟩⟩) | (go_at_call 71; (with_reducible refine (impl_in.calls a0_3 0 255 true _ A8.out).mono ?_); rintro e w' ⟨rfl, ⟨nd, rfl⟩⟩) | (go_at_call 71; (with_reducible refine (impl_in.calls a0_4 0 255 true _ A10.out).mono ?_); rintro e w' ⟨rfl, ⟨nd, rfl⟩⟩) | (go_at_call 71; (with_reducible refine (impl_in.calls a0_5 0 255 true _ A12.out).mono ?_); rintro e w' ⟨rfl, ⟨nd, rfl⟩⟩))
           go_ret;exact ⟨by first | rfl | (simp <;> rfl) | (simp [*] <;> rfl), by repeat (first | (with_reducible first | exact HB.out | apply below_alloc | apply pw_below_drewN | apply below_drew1 | refine below_set ?_ GE202.out) | exact HB.out)⟩
         ·rw [if_neg c16] at H
          have c16b0 : decide (0 < (l0_8.length : Int)) = false := decide_eq_false c16;have c16b1 : decide (0 < l0_8.length) = false := decide_eq_false (by omega);clear c16;obtain rfl := Option.some.inj H
          go_enter Try.func53, Try.ntmps53
          go_wp2_with (first | ((with_reducible refine gate_dst (N := 1) rfl ?_); (try (refine gate_guard (by rfl) ?_; dsimp only)); refine box_event ?hg (N := 1) ?hd (cs := #[.int .i64 a0_0, .int .i64 a0_1, .int .i64 a0_2, .int .i64 a0_3, .int .i64 a0_4, .int .i64 a0_5, .bool true, .bool a0_7, .slice A0_8 l0_8.length c0_8]) (t := 61) ?hr ?_; (case hd => rfl); (case hg => rfl); (case hr => first | (go_simp; done) | (go_simp; rfl)); intro gb202 hg w25 hbox hb; have n0_ := Aside0.mk (below_step (by repeat (first | (with_reducible first | exact HB.out | apply below_alloc | apply pw_below_drewN | apply below_drew1) | exact HB.out)) hb); have n1_ := Aside0.mk (hbox); have n2_ := Aside0.mk ((by rw [hg]; exact (below_size (by repeat (first | (with_reducible first | exact HB.out | apply below_alloc | apply pw_below_drewN | apply below_drew1) | exact HB.out))) : w.heap.size ≤ gb202)); have n3_ := n2_; clear HB; have HB := n0_; have BK202 := n1_; have GW202 := n2_; have GE202 := n3_; clear n0_ n1_ n2_ n3_; clear hb hbox hg; obtain ⟨hcz26_0, hcz26_1, hcz26_2, hcz26_3, hcz26_4, hcz26_5, hcz26_6, hcz26_7, hcz26_8, hfz26_0, hfz26_1, hfz26_2, hfz26_3, hfz26_4, hfz26_5, hfz26_6, hfz26_7, hfz26_8⟩ := zc9 BK202.out) | ((with_reducible refine gate_callee (f := 78) rfl ?_); refine goesL_ (some 5) rfl rfl Try.func78 (by kernel_rfl) rfl #[.int .i64 a0_0] rfl (by (try simp only [zm]); first | done | rfl | (simp only [zl]; rfl)) ?_; (with_reducible refine (impl_word.calls a0_0 true _ A2.out).mono ?_); rintro e w' ⟨rfl, ⟨nd, rfl⟩⟩; refine ⟨_, rfl, ?_⟩) | (go_at_call 78; (with_reducible refine (impl_word.calls a0_1 true _ A4.out).mono ?_); rintro e w' ⟨rfl, ⟨nd, rfl⟩⟩) | (go_at_call 71; (with_reducible refine (impl_in.calls a0_2 0 255 true _ A6.out).mono ?_); rintro e w' ⟨rfl, ⟨nd, rfl⟩⟩) | (go_at_call 71; (with_reducible refine (impl_in.calls a0_3 0 255 true _ A8.out).mono ?_); rintro e w' ⟨rfl, ⟨nd, rfl⟩⟩) | (go_at_call 71; (with_reducible refine (impl_in.calls a0_4 0 255 true _ A10.out).mono ?_); rintro e w' ⟨rfl, ⟨nd, rfl⟩⟩) | (go_at_call 71; (with_reducible refine (impl_in.calls a0_5 0 255 true _ A12.out).mono ?_); rintro e w' ⟨rfl, ⟨nd, rfl⟩⟩))
          go_ret;exact ⟨by first | rfl | (simp <;> rfl) | (simp [*] <;> rfl), by repeat (first | (with_reducible first | exact HB.out | apply below_alloc | apply pw_below_drewN | apply below_drew1 | refine below_set ?_ GE202.out) | exact HB.out)⟩
        ·replace c15 := Bool.eq_false_iff.mpr c15
         subst c15
         have H1 : (if a0_7 = true then (if a0_5 = 0 then (some (!false)) else (some false)) else (some true)) = some r := by rw [if_neg (show ¬ (false = true) by decide)] at H; exact H
         clear H;have H := H1;clear H1
         by_cases c27 : a0_7 = true
         ·subst c27
          have H1 : (if a0_5 = 0 then (some (!false)) else (some false)) = some r := by rw [if_pos rfl] at H; exact H
          clear H;have H := H1;clear H1
          by_cases c28 : a0_5 = 0
          ·rw [if_pos c28] at H
           have c28b0 : (a0_5 == 0) = true := beq_iff_eq.mpr c28;have c28b1 : (a0_5 != 0) = false := bne_eq_false_iff_eq.mpr c28;clear c28;obtain rfl := Option.some.inj H
           go_enter Try.func53, Try.ntmps53
           go_wp2_with (first | ((with_reducible refine gate_dst (N := 1) rfl ?_); (try (refine gate_guard (by rfl) ?_; dsimp only)); refine box_event ?hg (N := 1) ?hd (cs := #[.int .i64 a0_0, .int .i64 a0_1, .int .i64 a0_2, .int .i64 a0_3, .int .i64 a0_4, .int .i64 a0_5, .bool false, .bool true, .slice A0_8 l0_8.length c0_8]) (t := 61) ?hr ?_; (case hd => rfl); (case hg => rfl); (case hr => first | (go_simp; done) | (go_simp; rfl)); intro gb202 hg w29 hbox hb; have n0_ := Aside0.mk (below_step (by repeat (first | (with_reducible first | exact HB.out | apply below_alloc | apply pw_below_drewN | apply below_drew1) | exact HB.out)) hb); have n1_ := Aside0.mk (hbox); have n2_ := Aside0.mk ((by rw [hg]; exact (below_size (by repeat (first | (with_reducible first | exact HB.out | apply below_alloc | apply pw_below_drewN | apply below_drew1) | exact HB.out))) : w.heap.size ≤ gb202)); have n3_ := n2_; clear HB; have HB := n0_; have BK202 := n1_; have GW202 := n2_; have GE202 := n3_; clear n0_ n1_ n2_ n3_; clear hb hbox hg; obtain ⟨hcz30_0, hcz30_1, hcz30_2, hcz30_3, hcz30_4, hcz30_5, hcz30_6, hcz30_7, hcz30_8, hfz30_0, hfz30_1, hfz30_2, hfz30_3, hfz30_4, hfz30_5, hfz30_6, hfz30_7, hfz30_8⟩ := zc9 BK202.out) | ((with_reducible refine gate_callee (f := 78) rfl ?_); refine goesL_ (some 5) rfl rfl Try.func78 (by kernel_rfl) rfl #[.int .i64 a0_0] rfl (by (try simp only [zm]); first | done | rfl | (simp only [zl]; rfl)) ?_; (with_reducible refine (impl_word.calls a0_0 true _ A2.out).mono ?_); rintro e w' ⟨rfl, ⟨nd, rfl⟩⟩; refine ⟨_, rfl, ?_⟩) | (go_at_call 78; (with_reducible refine (impl_word.calls a0_1 true _ A4.out).mono ?_); rintro e w' ⟨rfl, ⟨nd, rfl⟩⟩) | (go_at_call 71; (with_reducible refine (impl_in.calls a0_2 0 255 true _ A6.out).mono ?_); rintro e w' ⟨rfl, ⟨nd, rfl⟩⟩) | (go_at_call 71; (with_reducible refine (impl_in.calls a0_3 0 255 true _ A8.out).mono ?_); rintro e w' ⟨rfl, ⟨nd, rfl⟩⟩) | (go_at_call 71; (with_reducible refine (impl_in.calls a0_4 0 255 true _ A10.out).mono ?_); rintro e w' ⟨rfl, ⟨nd, rfl⟩⟩) | (go_at_call 71; (with_reducible refine (impl_in.calls a0_5 0 255 true _ A12.out).mono ?_); rintro e w' ⟨rfl, ⟨nd, rfl⟩⟩))
           go_ret;exact ⟨by first | rfl | (simp <;> rfl) | (simp [*] <;> rfl), by repeat (first | (with_reducible first | exact HB.out | apply below_alloc | apply pw_below_drewN | apply below_drew1 | refine below_set ?_ GE202.out) | exact HB.out)⟩
          ·rw [if_neg c28] at H
           have c28b0 : (a0_5 == 0) = false := beq_eq_false_iff_ne.mpr c28;have c28b1 : (a0_5 != 0) = true := bne_iff_ne.mpr c28;obtain rfl := Option.some.inj H
           go_enter Try.func53, Try.ntmps53
           go_wp2_with (first | ((with_reducible refine gate_dst (N := 1) rfl ?_); (try (refine gate_guard (by rfl) ?_; dsimp only)); refine box_event ?hg (N := 1) ?hd (cs := #[.int .i64 a0_0, .int .i64 a0_1, .int .i64 a0_2, .int .i64 a0_3, .int .i64 a0_4, .int .i64 a0_5, .bool false, .bool true, .slice A0_8 l0_8.length c0_8]) (t := 61) ?hr ?_; (case hd => rfl); (case hg => rfl); (case hr => first | (go_simp; done) | (go_simp; rfl)); intro gb202 hg w31 hbox hb; have n0_ := Aside0.mk (below_step (by repeat (first | (with_reducible first | exact HB.out | apply below_alloc | apply pw_below_drewN | apply below_drew1) | exact HB.out)) hb); have n1_ := Aside0.mk (hbox); have n2_ := Aside0.mk ((by rw [hg]; exact (below_size (by repeat (first | (with_reducible first | exact HB.out | apply below_alloc | apply pw_below_drewN | apply below_drew1) | exact HB.out))) : w.heap.size ≤ gb202)); have n3_ := n2_; clear HB; have HB := n0_; have BK202 := n1_; have GW202 := n2_; have GE202 := n3_; clear n0_ n1_ n2_ n3_; clear hb hbox hg; obtain ⟨hcz32_0, hcz32_1, hcz32_2, hcz32_3, hcz32_4, hcz32_5, hcz32_6, hcz32_7, hcz32_8, hfz32_0, hfz32_1, hfz32_2, hfz32_3, hfz32_4, hfz32_5, hfz32_6, hfz32_7, hfz32_8⟩ := zc9 BK202.out) | ((with_reducible refine gate_callee (f := 78) rfl ?_); refine goesL_ (some 5) rfl rfl Try.func78 (by kernel_rfl) rfl #[.int .i64 a0_0] rfl (by (try simp only [zm]); first | done | rfl | (simp only [zl]; rfl)) ?_; (with_reducible refine (impl_word.calls a0_0 true _ A2.out).mono ?_); rintro e w' ⟨rfl, ⟨nd, rfl⟩⟩; refine ⟨_, rfl, ?_⟩) | (go_at_call 78; (with_reducible refine (impl_word.calls a0_1 true _ A4.out).mono ?_); rintro e w' ⟨rfl, ⟨nd, rfl⟩⟩) | (go_at_call 71; (with_reducible refine (impl_in.calls a0_2 0 255 true _ A6.out).mono ?_); rintro e w' ⟨rfl, ⟨nd, rfl⟩⟩) | (go_at_call 71; (with_reducible refine (impl_in.calls a0_3 0 255 true _ A8.out).mono ?_); rintro e w' ⟨rfl, ⟨nd, rfl⟩⟩) | (go_at_call 71; (with_reducible refine (impl_in.calls a0_4 0 255 true _ A10.out).mono ?_); rintro e w' ⟨rfl, ⟨nd, rfl⟩⟩) | (go_at_call 71; (with_reducible refine (impl_in.calls a0_5 0 255 true _ A12.out).mono ?_); rintro e w' ⟨rfl, ⟨nd, rfl⟩⟩))
           go_ret;exact ⟨by first | rfl | (simp <;> rfl) | (simp [*] <;> rfl), by repeat (first | (with_reducible first | exact HB.out | apply below_alloc | apply pw_below_drewN | apply below_drew1 | refine below_set ?_ GE202.out) | exact HB.out)⟩
         ·replace c27 := Bool.eq_false_iff.mpr c27
          subst c27
          have H1 : (some true) = some r := by rw [if_neg (show ¬ (false = true) by decide)] at H; exact H
          clear H;have H := H1;clear H1;obtain rfl := Option.some.inj H
          go_enter Try.func53, Try.ntmps53
          go_wp2_with (first | ((with_reducible refine gate_dst (N := 1) rfl ?_); (try (refine gate_guard (by rfl) ?_; dsimp only)); refine box_event ?hg (N := 1) ?hd (cs := #[.int .i64 a0_0, .int .i64 a0_1, .int .i64 a0_2, .int .i64 a0_3, .int .i64 a0_4, .int .i64 a0_5, .bool false, .bool false, .slice A0_8 l0_8.length c0_8]) (t := 61) ?hr ?_; (case hd => rfl); (case hg => rfl); (case hr => first | (go_simp; done) | (go_simp; rfl)); intro gb202 hg w33 hbox hb; have n0_ := Aside0.mk (below_step (by repeat (first | (with_reducible first | exact HB.out | apply below_alloc | apply pw_below_drewN | apply below_drew1) | exact HB.out)) hb); have n1_ := Aside0.mk (hbox); have n2_ := Aside0.mk ((by rw [hg]; exact (below_size (by repeat (first | (with_reducible first | exact HB.out | apply below_alloc | apply pw_below_drewN | apply below_drew1) | exact HB.out))) : w.heap.size ≤ gb202)); have n3_ := n2_; clear HB; have HB := n0_; have BK202 := n1_; have GW202 := n2_; have GE202 := n3_; clear n0_ n1_ n2_ n3_; clear hb hbox hg; obtain ⟨hcz34_0, hcz34_1, hcz34_2, hcz34_3, hcz34_4, hcz34_5, hcz34_6, hcz34_7, hcz34_8, hfz34_0, hfz34_1, hfz34_2, hfz34_3, hfz34_4, hfz34_5, hfz34_6, hfz34_7, hfz34_8⟩ := zc9 BK202.out) | ((with_reducible refine gate_callee (f := 78) rfl ?_); refine goesL_ (some 5) rfl rfl Try.func78 (by kernel_rfl) rfl #[.int .i64 a0_0] rfl (by (try simp only [zm]); first | done | rfl | (simp only [zl]; rfl)) ?_; (with_reducible refine (impl_word.calls a0_0 true _ A2.out).mono ?_); rintro e w' ⟨rfl, ⟨nd, rfl⟩⟩; refine ⟨_, rfl, ?_⟩) | (go_at_call 78; (with_reducible refine (impl_word.calls a0_1 true _ A4.out).mono ?_); rintro e w' ⟨rfl, ⟨nd, rfl⟩⟩) | (go_at_call 71; (with_reducible refine (impl_in.calls a0_2 0 255 true _ A6.out).mono ?_); rintro e w' ⟨rfl, ⟨nd, rfl⟩⟩) | (go_at_call 71; (with_reducible refine (impl_in.calls a0_3 0 255 true _ A8.out).mono ?_); rintro e w' ⟨rfl, ⟨nd, rfl⟩⟩) | (go_at_call 71; (with_reducible refine (impl_in.calls a0_4 0 255 true _ A10.out).mono ?_); rintro e w' ⟨rfl, ⟨nd, rfl⟩⟩) | (go_at_call 71; (with_reducible refine (impl_in.calls a0_5 0 255 true _ A12.out).mono ?_); rintro e w' ⟨rfl, ⟨nd, rfl⟩⟩))
          go_ret;exact ⟨by first | rfl | (simp <;> rfl) | (simp [*] <;> rfl), by repeat (first | (with_reducible first | exact HB.out | apply below_alloc | apply pw_below_drewN | apply below_drew1 | refine below_set ?_ GE202.out) | exact HB.out)⟩
       ·rw [if_neg c14] at H
        have c14b0 : decide ((l0_8.length : Int) ≤ 48) = false := decide_eq_false c14;have c14b1 : decide (l0_8.length ≤ 48) = false := decide_eq_false (by omega);clear c14;obtain rfl := Option.some.inj H
        go_enter Try.func53, Try.ntmps53
        go_wp2_with (first | ((with_reducible refine gate_dst (N := 1) rfl ?_); (try (refine gate_guard (by rfl) ?_; dsimp only)); refine box_event ?hg (N := 1) ?hd (cs := #[.int .i64 a0_0, .int .i64 a0_1, .int .i64 a0_2, .int .i64 a0_3, .int .i64 a0_4, .int .i64 a0_5, .bool a0_6, .bool a0_7, .slice A0_8 l0_8.length c0_8]) (t := 61) ?hr ?_; (case hd => rfl); (case hg => rfl); (case hr => first | (go_simp; done) | (go_simp; rfl)); intro gb202 hg w35 hbox hb; have n0_ := Aside0.mk (below_step (by repeat (first | (with_reducible first | exact HB.out | apply below_alloc | apply pw_below_drewN | apply below_drew1) | exact HB.out)) hb); have n1_ := Aside0.mk (hbox); have n2_ := Aside0.mk ((by rw [hg]; exact (below_size (by repeat (first | (with_reducible first | exact HB.out | apply below_alloc | apply pw_below_drewN | apply below_drew1) | exact HB.out))) : w.heap.size ≤ gb202)); have n3_ := n2_; clear HB; have HB := n0_; have BK202 := n1_; have GW202 := n2_; have GE202 := n3_; clear n0_ n1_ n2_ n3_; clear hb hbox hg; obtain ⟨hcz36_0, hcz36_1, hcz36_2, hcz36_3, hcz36_4, hcz36_5, hcz36_6, hcz36_7, hcz36_8, hfz36_0, hfz36_1, hfz36_2, hfz36_3, hfz36_4, hfz36_5, hfz36_6, hfz36_7, hfz36_8⟩ := zc9 BK202.out) | ((with_reducible refine gate_callee (f := 78) rfl ?_); refine goesL_ (some 5) rfl rfl Try.func78 (by kernel_rfl) rfl #[.int .i64 a0_0] rfl (by (try simp only [zm]); first | done | rfl | (simp only [zl]; rfl)) ?_; (with_reducible refine (impl_word.calls a0_0 true _ A2.out).mono ?_); rintro e w' ⟨rfl, ⟨nd, rfl⟩⟩; refine ⟨_, rfl, ?_⟩) | (go_at_call 78; (with_reducible refine (impl_word.calls a0_1 true _ A4.out).mono ?_); rintro e w' ⟨rfl, ⟨nd, rfl⟩⟩) | (go_at_call 71; (with_reducible refine (impl_in.calls a0_2 0 255 true _ A6.out).mono ?_); rintro e w' ⟨rfl, ⟨nd, rfl⟩⟩) | (go_at_call 71; (with_reducible refine (impl_in.calls a0_3 0 255 true _ A8.out).mono ?_); rintro e w' ⟨rfl, ⟨nd, rfl⟩⟩) | (go_at_call 71; (with_reducible refine (impl_in.calls a0_4 0 255 true _ A10.out).mono ?_); rintro e w' ⟨rfl, ⟨nd, rfl⟩⟩) | (go_at_call 71; (with_reducible refine (impl_in.calls a0_5 0 255 true _ A12.out).mono ?_); rintro e w' ⟨rfl, ⟨nd, rfl⟩⟩))
        go_ret;exact ⟨by first | rfl | (simp <;> rfl) | (simp [*] <;> rfl), by repeat (first | (with_reducible first | exact HB.out | apply below_alloc | apply pw_below_drewN | apply below_drew1 | refine below_set ?_ GE202.out) | exact HB.out)⟩
      ·replace c13 := Bool.eq_false_iff.mpr c13
       subst c13
       have H1 : (some false) = some r := by rw [if_neg (show ¬ (false = true) by decide)] at H; exact H
       clear H;have H := H1;clear H1;obtain rfl := Option.some.inj H
       go_enter Try.func53, Try.ntmps53
       go_wp2_with (first | ((with_reducible refine gate_dst (N := 1) rfl ?_); (try (refine gate_guard (by rfl) ?_; dsimp only)); refine box_event ?hg (N := 1) ?hd (cs := #[.int .i64 a0_0, .int .i64 a0_1, .int .i64 a0_2, .int .i64 a0_3, .int .i64 a0_4, .int .i64 a0_5, .bool a0_6, .bool a0_7, .slice A0_8 l0_8.length c0_8]) (t := 61) ?hr ?_; (case hd => rfl); (case hg => rfl); (case hr => first | (go_simp; done) | (go_simp; rfl)); intro gb202 hg w37 hbox hb; have n0_ := Aside0.mk (below_step (by repeat (first | (with_reducible first | exact HB.out | apply below_alloc | apply pw_below_drewN | apply below_drew1) | exact HB.out)) hb); have n1_ := Aside0.mk (hbox); have n2_ := Aside0.mk ((by rw [hg]; exact (below_size (by repeat (first | (with_reducible first | exact HB.out | apply below_alloc | apply pw_below_drewN | apply below_drew1) | exact HB.out))) : w.heap.size ≤ gb202)); have n3_ := n2_; clear HB; have HB := n0_; have BK202 := n1_; have GW202 := n2_; have GE202 := n3_; clear n0_ n1_ n2_ n3_; clear hb hbox hg; obtain ⟨hcz38_0, hcz38_1, hcz38_2, hcz38_3, hcz38_4, hcz38_5, hcz38_6, hcz38_7, hcz38_8, hfz38_0, hfz38_1, hfz38_2, hfz38_3, hfz38_4, hfz38_5, hfz38_6, hfz38_7, hfz38_8⟩ := zc9 BK202.out) | ((with_reducible refine gate_callee (f := 78) rfl ?_); refine goesL_ (some 5) rfl rfl Try.func78 (by kernel_rfl) rfl #[.int .i64 a0_0] rfl (by (try simp only [zm]); first | done | rfl | (simp only [zl]; rfl)) ?_; (with_reducible refine (impl_word.calls a0_0 true _ A2.out).mono ?_); rintro e w' ⟨rfl, ⟨nd, rfl⟩⟩; refine ⟨_, rfl, ?_⟩) | (go_at_call 78; (with_reducible refine (impl_word.calls a0_1 true _ A4.out).mono ?_); rintro e w' ⟨rfl, ⟨nd, rfl⟩⟩) | (go_at_call 71; (with_reducible refine (impl_in.calls a0_2 0 255 true _ A6.out).mono ?_); rintro e w' ⟨rfl, ⟨nd, rfl⟩⟩) | (go_at_call 71; (with_reducible refine (impl_in.calls a0_3 0 255 true _ A8.out).mono ?_); rintro e w' ⟨rfl, ⟨nd, rfl⟩⟩) | (go_at_call 71; (with_reducible refine (impl_in.calls a0_4 0 255 true _ A10.out).mono ?_); rintro e w' ⟨rfl, ⟨nd, rfl⟩⟩) | (go_at_call 71; (with_reducible refine (impl_in.calls a0_5 0 255 false _ A12.out).mono ?_); rintro e w' ⟨rfl, ⟨nd, rfl⟩⟩))
       go_ret;exact ⟨by first | rfl | (simp <;> rfl) | (simp [*] <;> rfl), by repeat (first | (with_reducible first | exact HB.out | apply below_alloc | apply pw_below_drewN | apply below_drew1 | refine below_set ?_ GE202.out) | exact HB.out)⟩
     ·replace c11 := Bool.eq_false_iff.mpr c11
      subst c11
      have H1 : (some false) = some r := by rw [if_neg (show ¬ (false = true) by decide)] at H; exact H
      clear H;have H := H1;clear H1;obtain rfl := Option.some.inj H
      go_enter Try.func53, Try.ntmps53
      go_wp2_with (first | ((with_reducible refine gate_dst (N := 1) rfl ?_); (try (refine gate_guard (by rfl) ?_; dsimp only)); refine box_event ?hg (N := 1) ?hd (cs := #[.int .i64 a0_0, .int .i64 a0_1, .int .i64 a0_2, .int .i64 a0_3, .int .i64 a0_4, .int .i64 a0_5, .bool a0_6, .bool a0_7, .slice A0_8 l0_8.length c0_8]) (t := 61) ?hr ?_; (case hd => rfl); (case hg => rfl); (case hr => first | (go_simp; done) | (go_simp; rfl)); intro gb202 hg w39 hbox hb; have n0_ := Aside0.mk (below_step (by repeat (first | (with_reducible first | exact HB.out | apply below_alloc | apply pw_below_drewN | apply below_drew1) | exact HB.out)) hb); have n1_ := Aside0.mk (hbox); have n2_ := Aside0.mk ((by rw [hg]; exact (below_size (by repeat (first | (with_reducible first | exact HB.out | apply below_alloc | apply pw_below_drewN | apply below_drew1) | exact HB.out))) : w.heap.size ≤ gb202)); have n3_ := n2_; clear HB; have HB := n0_; have BK202 := n1_; have GW202 := n2_; have GE202 := n3_; clear n0_ n1_ n2_ n3_; clear hb hbox hg; obtain ⟨hcz40_0, hcz40_1, hcz40_2, hcz40_3, hcz40_4, hcz40_5, hcz40_6, hcz40_7, hcz40_8, hfz40_0, hfz40_1, hfz40_2, hfz40_3, hfz40_4, hfz40_5, hfz40_6, hfz40_7, hfz40_8⟩ := zc9 BK202.out) | ((with_reducible refine gate_callee (f := 78) rfl ?_); refine goesL_ (some 5) rfl rfl Try.func78 (by kernel_rfl) rfl #[.int .i64 a0_0] rfl (by (try simp only [zm]); first | done | rfl | (simp only [zl]; rfl)) ?_; (with_reducible refine (impl_word.calls a0_0 true _ A2.out).mono ?_); rintro e w' ⟨rfl, ⟨nd, rfl⟩⟩; refine ⟨_, rfl, ?_⟩) | (go_at_call 78; (with_reducible refine (impl_word.calls a0_1 true _ A4.out).mono ?_); rintro e w' ⟨rfl, ⟨nd, rfl⟩⟩) | (go_at_call 71; (with_reducible refine (impl_in.calls a0_2 0 255 true _ A6.out).mono ?_); rintro e w' ⟨rfl, ⟨nd, rfl⟩⟩) | (go_at_call 71; (with_reducible refine (impl_in.calls a0_3 0 255 true _ A8.out).mono ?_); rintro e w' ⟨rfl, ⟨nd, rfl⟩⟩) | (go_at_call 71; (with_reducible refine (impl_in.calls a0_4 0 255 false _ A10.out).mono ?_); rintro e w' ⟨rfl, ⟨nd, rfl⟩⟩))
      go_ret;exact ⟨by first | rfl | (simp <;> rfl) | (simp [*] <;> rfl), by repeat (first | (with_reducible first | exact HB.out | apply below_alloc | apply pw_below_drewN | apply below_drew1 | refine below_set ?_ GE202.out) | exact HB.out)⟩
    ·replace c9 := Bool.eq_false_iff.mpr c9
     subst c9
     have H1 : (some false) = some r := by rw [if_neg (show ¬ (false = true) by decide)] at H; exact H
     clear H;have H := H1;clear H1;obtain rfl := Option.some.inj H
     go_enter Try.func53, Try.ntmps53
     go_wp2_with (first | ((with_reducible refine gate_dst (N := 1) rfl ?_); (try (refine gate_guard (by rfl) ?_; dsimp only)); refine box_event ?hg (N := 1) ?hd (cs := #[.int .i64 a0_0, .int .i64 a0_1, .int .i64 a0_2, .int .i64 a0_3, .int .i64 a0_4, .int .i64 a0_5, .bool a0_6, .bool a0_7, .slice A0_8 l0_8.length c0_8]) (t := 61) ?hr ?_; (case hd => rfl); (case hg => rfl); (case hr => first | (go_simp; done) | (go_simp; rfl)); intro gb202 hg w41 hbox hb; have n0_ := Aside0.mk (below_step (by repeat (first | (with_reducible first | exact HB.out | apply below_alloc | apply pw_below_drewN | apply below_drew1) | exact HB.out)) hb); have n1_ := Aside0.mk (hbox); have n2_ := Aside0.mk ((by rw [hg]; exact (below_size (by repeat (first | (with_reducible first | exact HB.out | apply below_alloc | apply pw_below_drewN | apply below_drew1) | exact HB.out))) : w.heap.size ≤ gb202)); have n3_ := n2_; clear HB; have HB := n0_; have BK202 := n1_; have GW202 := n2_; have GE202 := n3_; clear n0_ n1_ n2_ n3_; clear hb hbox hg; obtain ⟨hcz42_0, hcz42_1, hcz42_2, hcz42_3, hcz42_4, hcz42_5, hcz42_6, hcz42_7, hcz42_8, hfz42_0, hfz42_1, hfz42_2, hfz42_3, hfz42_4, hfz42_5, hfz42_6, hfz42_7, hfz42_8⟩ := zc9 BK202.out) | ((with_reducible refine gate_callee (f := 78) rfl ?_); refine goesL_ (some 5) rfl rfl Try.func78 (by kernel_rfl) rfl #[.int .i64 a0_0] rfl (by (try simp only [zm]); first | done | rfl | (simp only [zl]; rfl)) ?_; (with_reducible refine (impl_word.calls a0_0 true _ A2.out).mono ?_); rintro e w' ⟨rfl, ⟨nd, rfl⟩⟩; refine ⟨_, rfl, ?_⟩) | (go_at_call 78; (with_reducible refine (impl_word.calls a0_1 true _ A4.out).mono ?_); rintro e w' ⟨rfl, ⟨nd, rfl⟩⟩) | (go_at_call 71; (with_reducible refine (impl_in.calls a0_2 0 255 true _ A6.out).mono ?_); rintro e w' ⟨rfl, ⟨nd, rfl⟩⟩) | (go_at_call 71; (with_reducible refine (impl_in.calls a0_3 0 255 false _ A8.out).mono ?_); rintro e w' ⟨rfl, ⟨nd, rfl⟩⟩))
     go_ret;exact ⟨by first | rfl | (simp <;> rfl) | (simp [*] <;> rfl), by repeat (first | (with_reducible first | exact HB.out | apply below_alloc | apply pw_below_drewN | apply below_drew1 | refine below_set ?_ GE202.out) | exact HB.out)⟩
   ·replace c7 := Bool.eq_false_iff.mpr c7
    subst c7
    have H1 : (some false) = some r := by rw [if_neg (show ¬ (false = true) by decide)] at H; exact H
    clear H;have H := H1;clear H1;obtain rfl := Option.some.inj H
    go_enter Try.func53, Try.ntmps53
    go_wp2_with (first | ((with_reducible refine gate_dst (N := 1) rfl ?_); (try (refine gate_guard (by rfl) ?_; dsimp only)); refine box_event ?hg (N := 1) ?hd (cs := #[.int .i64 a0_0, .int .i64 a0_1, .int .i64 a0_2, .int .i64 a0_3, .int .i64 a0_4, .int .i64 a0_5, .bool a0_6, .bool a0_7, .slice A0_8 l0_8.length c0_8]) (t := 61) ?hr ?_; (case hd => rfl); (case hg => rfl); (case hr => first | (go_simp; done) | (go_simp; rfl)); intro gb202 hg w43 hbox hb; have n0_ := Aside0.mk (below_step (by repeat (first | (with_reducible first | exact HB.out | apply below_alloc | apply pw_below_drewN | apply below_drew1) | exact HB.out)) hb); have n1_ := Aside0.mk (hbox); have n2_ := Aside0.mk ((by rw [hg]; exact (below_size (by repeat (first | (with_reducible first | exact HB.out | apply below_alloc | apply pw_below_drewN | apply below_drew1) | exact HB.out))) : w.heap.size ≤ gb202)); have n3_ := n2_; clear HB; have HB := n0_; have BK202 := n1_; have GW202 := n2_; have GE202 := n3_; clear n0_ n1_ n2_ n3_; clear hb hbox hg; obtain ⟨hcz44_0, hcz44_1, hcz44_2, hcz44_3, hcz44_4, hcz44_5, hcz44_6, hcz44_7, hcz44_8, hfz44_0, hfz44_1, hfz44_2, hfz44_3, hfz44_4, hfz44_5, hfz44_6, hfz44_7, hfz44_8⟩ := zc9 BK202.out) | ((with_reducible refine gate_callee (f := 78) rfl ?_); refine goesL_ (some 5) rfl rfl Try.func78 (by kernel_rfl) rfl #[.int .i64 a0_0] rfl (by (try simp only [zm]); first | done | rfl | (simp only [zl]; rfl)) ?_; (with_reducible refine (impl_word.calls a0_0 true _ A2.out).mono ?_); rintro e w' ⟨rfl, ⟨nd, rfl⟩⟩; refine ⟨_, rfl, ?_⟩) | (go_at_call 78; (with_reducible refine (impl_word.calls a0_1 true _ A4.out).mono ?_); rintro e w' ⟨rfl, ⟨nd, rfl⟩⟩) | (go_at_call 71; (with_reducible refine (impl_in.calls a0_2 0 255 false _ A6.out).mono ?_); rintro e w' ⟨rfl, ⟨nd, rfl⟩⟩))
    go_ret;exact ⟨by first | rfl | (simp <;> rfl) | (simp [*] <;> rfl), by repeat (first | (with_reducible first | exact HB.out | apply below_alloc | apply pw_below_drewN | apply below_drew1 | refine below_set ?_ GE202.out) | exact HB.out)⟩
  ·replace c5 := Bool.eq_false_iff.mpr c5
   subst c5
   have H1 : (some false) = some r := by rw [if_neg (show ¬ (false = true) by decide)] at H; exact H
   clear H;have H := H1;clear H1;obtain rfl := Option.some.inj H
   go_enter Try.func53, Try.ntmps53
   go_wp2_with (first | ((with_reducible refine gate_dst (N := 1) rfl ?_); (try (refine gate_guard (by rfl) ?_; dsimp only)); refine box_event ?hg (N := 1) ?hd (cs := #[.int .i64 a0_0, .int .i64 a0_1, .int .i64 a0_2, .int .i64 a0_3, .int .i64 a0_4, .int .i64 a0_5, .bool a0_6, .bool a0_7, .slice A0_8 l0_8.length c0_8]) (t := 61) ?hr ?_; (case hd => rfl); (case hg => rfl); (case hr => first | (go_simp; done) | (go_simp; rfl)); intro gb202 hg w45 hbox hb; have n0_ := Aside0.mk (below_step (by repeat (first | (with_reducible first | exact HB.out | apply below_alloc | apply pw_below_drewN | apply below_drew1) | exact HB.out)) hb); have n1_ := Aside0.mk (hbox); have n2_ := Aside0.mk ((by rw [hg]; exact (below_size (by repeat (first | (with_reducible first | exact HB.out | apply below_alloc | apply pw_below_drewN | apply below_drew1) | exact HB.out))) : w.heap.size ≤ gb202)); have n3_ := n2_; clear HB; have HB := n0_; have BK202 := n1_; have GW202 := n2_; have GE202 := n3_; clear n0_ n1_ n2_ n3_; clear hb hbox hg; obtain ⟨hcz46_0, hcz46_1, hcz46_2, hcz46_3, hcz46_4, hcz46_5, hcz46_6, hcz46_7, hcz46_8, hfz46_0, hfz46_1, hfz46_2, hfz46_3, hfz46_4, hfz46_5, hfz46_6, hfz46_7, hfz46_8⟩ := zc9 BK202.out) | ((with_reducible refine gate_callee (f := 78) rfl ?_); refine goesL_ (some 5) rfl rfl Try.func78 (by kernel_rfl) rfl #[.int .i64 a0_0] rfl (by (try simp only [zm]); first | done | rfl | (simp only [zl]; rfl)) ?_; (with_reducible refine (impl_word.calls a0_0 true _ A2.out).mono ?_); rintro e w' ⟨rfl, ⟨nd, rfl⟩⟩; refine ⟨_, rfl, ?_⟩) | (go_at_call 78; (with_reducible refine (impl_word.calls a0_1 false _ A4.out).mono ?_); rintro e w' ⟨rfl, ⟨nd, rfl⟩⟩))
   go_ret;exact ⟨by first | rfl | (simp <;> rfl) | (simp [*] <;> rfl), by repeat (first | (with_reducible first | exact HB.out | apply below_alloc | apply pw_below_drewN | apply below_drew1 | refine below_set ?_ GE202.out) | exact HB.out)⟩
 ·replace c3 := Bool.eq_false_iff.mpr c3
  subst c3
  have H1 : (some false) = some r := by rw [if_neg (show ¬ (false = true) by decide)] at H; exact H
  clear H;have H := H1;clear H1;obtain rfl := Option.some.inj H
  go_enter Try.func53, Try.ntmps53
  go_wp2_with (first | ((with_reducible refine gate_dst (N := 1) rfl ?_); (try (refine gate_guard (by rfl) ?_; dsimp only)); refine box_event ?hg (N := 1) ?hd (cs := #[.int .i64 a0_0, .int .i64 a0_1, .int .i64 a0_2, .int .i64 a0_3, .int .i64 a0_4, .int .i64 a0_5, .bool a0_6, .bool a0_7, .slice A0_8 l0_8.length c0_8]) (t := 61) ?hr ?_; (case hd => rfl); (case hg => rfl); (case hr => first | (go_simp; done) | (go_simp; rfl)); intro gb202 hg w47 hbox hb; have n0_ := Aside0.mk (below_step (by repeat (first | (with_reducible first | exact HB.out | apply below_alloc | apply pw_below_drewN | apply below_drew1) | exact HB.out)) hb); have n1_ := Aside0.mk (hbox); have n2_ := Aside0.mk ((by rw [hg]; exact (below_size (by repeat (first | (with_reducible first | exact HB.out | apply below_alloc | apply pw_below_drewN | apply below_drew1) | exact HB.out))) : w.heap.size ≤ gb202)); have n3_ := n2_; clear HB; have HB := n0_; have BK202 := n1_; have GW202 := n2_; have GE202 := n3_; clear n0_ n1_ n2_ n3_; clear hb hbox hg; obtain ⟨hcz48_0, hcz48_1, hcz48_2, hcz48_3, hcz48_4, hcz48_5, hcz48_6, hcz48_7, hcz48_8, hfz48_0, hfz48_1, hfz48_2, hfz48_3, hfz48_4, hfz48_5, hfz48_6, hfz48_7, hfz48_8⟩ := zc9 BK202.out) | ((with_reducible refine gate_callee (f := 78) rfl ?_); refine goesL_ (some 5) rfl rfl Try.func78 (by kernel_rfl) rfl #[.int .i64 a0_0] rfl (by (try simp only [zm]); first | done | rfl | (simp only [zl]; rfl)) ?_; (with_reducible refine (impl_word.calls a0_0 false _ A2.out).mono ?_); rintro e w' ⟨rfl, ⟨nd, rfl⟩⟩; refine ⟨_, rfl, ?_⟩))
  go_ret;exact ⟨by first | rfl | (simp <;> rfl) | (simp [*] <;> rfl), by repeat (first | (with_reducible first | exact HB.out | apply below_alloc | apply pw_below_drewN | apply below_drew1 | refine below_set ?_ GE202.out) | exact HB.out)⟩

/-! ### slices_Clip_byte_byte: function 101 -/
/-- Two bytes laid over a row from place 10 on. -/
def slices_Clip_byte_byte.f (l0 : List Int) (l1 : List Int) : Option (Int × List Int) := if 12 ≤ l0.length ∧ l1.length = 2 then some (2, (l0.set 10 (rd l1 0)).set 11 (rd l1 1)) else none
theorem slices_Clip_byte_byte.long {l0 l1 r2 : List Int} {r1 : Int} (h : slices_Clip_byte_byte.f l0 l1 = some (r1, r2)) : 12 ≤ l0.length ∧ l1.length = 2 ∧ r1 = 2 ∧ r2 = (l0.set 10 (rd l1 0)).set 11 (rd l1 1) := by
 unfold slices_Clip_byte_byte.f at h
 by_cases hc : 12 ≤ l0.length ∧ l1.length = 2
 ·rw [if_pos hc] at h
  simp only [Option.some.injEq, Prod.mk.injEq] at h;exact ⟨hc.1, hc.2, h.1.symm, h.2.symm⟩
 ·rw [if_neg hc] at h; cases h
theorem copy_two (L : List Value) (x y : Value) (h : 12 ≤ L.length) : L.take 10 ++ [x, y] ++ L.drop (10 + [x, y].length) = (L.set 10 x).set 11 y := by
 have e1 : L.set 10 x = L.take 10 ++ x :: L.drop 11 := by rw [List.set_eq_take_append_cons_drop, if_pos (by omega)]
 have e2 : (L.set 10 x).set 11 y = (L.set 10 x).take 11 ++ y :: (L.set 10 x).drop 12 := by rw [List.set_eq_take_append_cons_drop, if_pos (by rw [List.length_set]; omega)]
 have e3 : (L.set 10 x).take 11 = L.take 10 ++ [x] := by
  rw [e1, List.take_append, List.take_of_length_le (by rw [List.length_take]; omega), List.length_take, Nat.min_eq_left (by omega)]; rfl
 have e4 : (L.set 10 x).drop 12 = L.drop 12 := by rw [List.drop_set_of_lt (by omega)]
 rw [e2, e3, e4]
 simp
/-- A copy of two bytes into a row of one's own, from place 10 on. -/
theorem slices_Clip_byte_byte.step {ops : Array Oper} {o : Oper} {a : Act} {K : Act → World → Prop} {Q : Exit → Act → World → Prop} {E : Prop} (d s : Operand) (P0_ : Nat → Prop) (g n m c dCap : Nat) (l0 : List Int) (A1 : Option Addr) (c1 : Nat) (l1 : List Int) (r1 : Int) (r2 : List Int) (w0 w : World)
  (hgd : o.guard = none) (ho : o.op = .call { callee := .builtin .copy, args := #[d, s], argTypes := #[22, 22] })
  (hd : a.eval d = .slice (some ⟨g, 10, none⟩) m dCap) (hs : a.eval s = .slice A1 l1.length c1) (hm : 2 ≤ m)
  (hB : Below w0.heap.size w0 w) (ho0 : Kd.R (Kd.int .u8) 5 w w0.heap.size P0_ (.slice (some ⟨g, 0, none⟩) n c) l0) (hr1 : Kd.C (Kd.int .u8) w A1 l1.length l1) (h : slices_Clip_byte_byte.f l0 l1 = some (r1, r2))
  (k : ∀ w', Kd.R (Kd.int .u8) 5 w' w0.heap.size (fun k_ => P0_ k_ ∨ w.heap.size ≤ k_) (.slice (some ⟨g, 0, none⟩) n c) r2 → Below w0.heap.size w0 w' → Kept w w' (fun k_ => P0_ k_) → K (a.put o.dst (.int .i64 r1)) w') :
  if Region.wanted o (yielded ops a.tmps) = true then Oper.wp Try.prog o a w K Q else E := by
 obtain ⟨h12, hl1, rfl, rfl⟩ := slices_Clip_byte_byte.long h;have hn := (Kd.R_reads' ho0).1;obtain ⟨g', c', e', gb, gl, cells, hg⟩ := Kd.R_form ho0 (by omega)
 obtain ⟨rfl, rfl⟩ : g = g' ∧ c = c' := by injection e' with e1 e2 e3; injection e1 with e1; injection e1 with e1; exact ⟨e1, e3⟩
 have hP : P0_ g := ho0.1 g rfl;have hc11 := (Kd.R_celln 0 ho0 (11 : Int) (by omega) (by omega)).1
 rw [show ((11 : Int)).toNat = 11 from rfl, cell_of_row w g 11 cells 5 (0, 0) hg] at hc11
 have hsz : 12 ≤ cells.size := by
  obtain ⟨hh, _⟩ := Array.getElem?_eq_some_iff.1 hc11;omega
 obtain ⟨ad, rfl, x0⟩ := Kd.at_int hr1 0 (by omega) (by omega);obtain ⟨ad', e2, x1⟩ := Kd.at_int hr1 1 (by omega) (by omega);obtain rfl := Option.some.inj e2;have p1 := Kd.R_putg ho0 (10 : Int) (rd l1 0);have p2 := Kd.R_putg p1.1 (11 : Int) (rd l1 1)
 have hrun := run_copy_row (P := Try.prog) w 22 22 o.type 5 g 10 m dCap ad l1.length c1 cells 5 [.int .u8 (rd l1 0), .int .u8 (rd l1 1)] Try.underlying22 (by rw [show (Try.prog.info? 5).map (·.size) = ((Try.prog.info? 5).map (fun i => (i.zero, i.size, i.bytes))).map (fun z => z.2.1) from by cases Try.prog.info? 5 <;> rfl, info5]; rfl) hg (by rw [hl1]; show 2 = min 2 m; omega)
  (fun j v hj => by
   match j, hj with
   | 0, hj => rw [← Option.some.inj hj]; simpa using x0
   | 1, hj => rw [← Option.some.inj hj]; simpa using x1
   | j + 2, hj => simp at hj)
  (by show 10 + 2 ≤ cells.size; omega) (fun v hv => by
   rcases List.mem_cons.1 hv with rfl | hv
   ·rfl
   ·rw [List.mem_singleton.1 hv]; rfl)
 have hw : w.setRow g (cells.toList.take 10 ++ [Value.int .u8 (rd l1 0), .int .u8 (rd l1 1)] ++ cells.toList.drop (10 + [Value.int .u8 (rd l1 0), .int .u8 (rd l1 1)].length)).toArray = (w.setCell ⟨g, 10, none⟩ (.int .u8 (rd l1 0))).setCell ⟨g, 11, none⟩ (.int .u8 (rd l1 1)) := by
  rw [copy_two _ _ _ (by simpa using hsz), setCell_eq_setRow w g 10 cells 5 (0, 0) _ hg, setCell_eq_setRow _ g 11 _ 5 (0, 0) _ (setRow_heap w g cells _ 5 _ hg), setRow_setRow]
  refine congrArg (fun z => w.setRow g z) (Array.toList_inj.1 ?_)
  rw [Array.toList_setIfInBounds, Array.toList_setIfInBounds]
 rw [hw] at hrun
 rw [if_pos (by simp [Region.wanted, hgd])]
 unfold Oper.wp
 simp [execOp, ho, resolve, invoke, builtin, hd, hs, hrun, Result.andThen]
 exact k _ (Kd.R_mono p2.1 (fun _ => .inl)) (below_set (below_set hB gb) gb) (((Kept.refl w _).setCell (.inl hP) _).setCell (.inl hP) _)

/-! ### impl_clone_byte: function 60 -/
theorem clip_bytes (A : Option Addr) (n c : Nat) (w : World) (hnc : n ≤ c) (hc : c ≤ 9223372036854775807) :
  Calls Try.prog 101 #[.slice A n c] w fun e w' => e = .returned (.slice A n n) ∧ w = w' := by
 go_enter Try.func101, Try.ntmps101
 go_wp2
 go_ret;exact ⟨rfl, rfl⟩
/-- A list anew; the block may be longer than the capacity tells. -/
def impl_clone_byte.f (l0 : List Int) : Option (List Int) := if l0.length ≤ 1099511627776 then some l0 else none
set_option maxHeartbeats 1000000 in
theorem impl_clone_byte.calls (A0 : Option Addr) (c0 : Nat) (l0 : List Int) (r : List Int) (w : World) (hr0 : Kd.C (Kd.int .u8) w A0 l0.length l0) (hc0 : l0.length ≤ c0) (h : impl_clone_byte.f l0 = some r) :
  Calls Try.prog 60 #[.slice A0 l0.length c0] w fun e w' => ∃ v0_ : Value, e = .returned (v0_) ∧ Kd.R (Kd.int .u8) 5 w' w.heap.size (fun _ => True) v0_ r ∧ Below w.heap.size w w' := by
 unfold impl_clone_byte.f at h
 by_cases hb : l0.length ≤ 1099511627776
 ·rw [if_pos hb] at h
  obtain rfl := Option.some.inj h;clear h;have HR := Aside0.mk hr0;clear hr0
  by_cases h0 : l0.length = 0
  ·obtain rfl : l0 = [] := List.eq_nil_of_length_eq_zero h0;clear hb h0;simp only [List.length_nil]
   go_enter Try.func60, Try.ntmps60
   go_wp2
   go_ret;exact ⟨_, rfl, Kd.R_nil _ _ _ _ _, Below.refl _ _⟩
  ·have hz : ((l0.length : Int) == 0) = false := by simpa using h0
   have hm : l0.length ≤ 9223372036854775807 := by omega
   clear h0
   go_enter Try.func60, Try.ntmps60
   go_wp2_with (first
    | ((with_reducible refine gate_builtin (b := .append) (xs := #[.const (.slice none 0 0), .tmp 6]) rfl ?_); at_builtin; refine Kd.R_append_rows (Kd.int .u8) (w0 := w) w.heap.size rfl (.const (.slice none 0 0)) (.tmp 6) 22 5 (.int .u8 0) 1 rfl Try.underlying22 info5 rfl (by decide) (by omega) (.slice none 0 0) [] l0 _ _ _ (fun _ => True) (fun _ => False) rfl rfl (Kd.R_nil _ _ _ _ _) HR.out (fun _ _ h => h) (fun _ h => h.elim) (fun _ _ => trivial) (Below.refl _ _) (Nat.le_refl _) (by simp only [List.length_nil]; omega) ?_; intro v1 w1 ho hb1 hg hat; rw [List.nil_append] at ho; have HO := Aside0.mk ho; have HB := Aside0.mk hb1; clear ho hb1 hg hat; obtain ⟨A1, c1, e1⟩ := Kd.R_slice HO.out; subst e1)
    | (go_at_call 101; refine (clip_bytes _ _ _ _ (Kd.R_reads' HO.out).2.1 (Kd.R_room HO.out)).mono ?_; rintro e w' ⟨rfl, rfl⟩))
   go_ret;exact ⟨_, rfl, Kd.R_clip HO.out, HB.out⟩
 ·rw [if_neg hb] at h; cases h

/-! ### impl_NumberAt: function 66 -/
mutual
def impl_NumberAt.j0 : Nat → List Int → Int → Int → Bool → Option (Int)
 | 0, _, _, _, _ => none
 | k + 1, x0, x1, x2, x24 => if x24 = true then (some (-1)) else (if 0 ≤ x1 then (if x1 ≤ (wrap64 (x1 + x2)) then (if (wrap64 (x1 + x2)) ≤ (x0.length : Int) then (impl_NumberAt.l0 k 0 ((x0.take ((wrap64 (x1 + x2)) : Int).toNat).drop (x1 : Int).toNat) (((x0.take ((wrap64 (x1 + x2)) : Int).toNat).drop (x1 : Int).toNat).length : Int) 0) else (none)) else (none)) else (none))
def impl_NumberAt.l0 : Nat → Int → List Int → Int → Int → Option (Int)
 | 0, _, _, _, _ => none
 | k + 1, x7, x30, x31, x32 => if x32 < x31 then (if 0 ≤ x32 then (if x32 < (x30.length : Int) then (impl_NumberAt.l0 k (Go.bits .or .i64 (wrap64 (x7 * 256)) (wrap64 (rd x30 x32))) x30 x31 (wrap64 (x32 + 1))) else (none)) else (none)) else (some x7)
end
def impl_NumberAt.f (k : Nat) (l0 : List Int) (a1 : Int) (a2 : Int) : Option (Int) := (impl_in.f a2 1 4).bind fun t214 => (if t214 = true then (if a1 < 0 then (impl_NumberAt.j0 k l0 a1 a2 true) else (impl_NumberAt.j0 k l0 a1 a2 (decide (a1 > (wrap64 ((l0.length : Int) - a2)))))) else (impl_NumberAt.j0 k l0 a1 a2 true))
theorem impl_NumberAt.mono_l : ∀ k, (∀ y0 y1 y2 y3, LeO (impl_NumberAt.j0 k y0 y1 y2 y3) (impl_NumberAt.j0 (k + 1) y0 y1 y2 y3)) ∧ (∀ y0 y1 y2 y3, LeO (impl_NumberAt.l0 k y0 y1 y2 y3) (impl_NumberAt.l0 (k + 1) y0 y1 y2 y3))
 | 0 => ⟨fun _ _ _ _ r h => by simp [impl_NumberAt.j0] at h, fun _ _ _ _ r h => by simp [impl_NumberAt.l0] at h⟩
 | k + 1 => by
  obtain ⟨ih0, ih1⟩ := impl_NumberAt.mono_l k;refine ⟨?_, ?_⟩
  ·intro y0 y1 y2 y3
   unfold impl_NumberAt.j0
   repeat' first
   | (with_reducible exact ih0 _ _ _ _)
   | (with_reducible exact ih1 _ _ _ _)
   | (with_reducible exact LeO.refl _)
   | (with_reducible exact LeO.none _)
   | (with_reducible refine LeO.ite ?_ ?_)
   | (with_reducible refine LeO.bind ?_ (fun _ => ?_))
   | exact ih0 _ _ _ _
   | exact ih1 _ _ _ _
   | exact LeO.none _
   | refine LeO.ite ?_ ?_
   | refine LeO.bind ?_ (fun _ => ?_)
  ·intro y0 y1 y2 y3
   unfold impl_NumberAt.l0
   repeat' first
   | (with_reducible exact ih0 _ _ _ _)
   | (with_reducible exact ih1 _ _ _ _)
   | (with_reducible exact LeO.refl _)
   | (with_reducible exact LeO.none _)
   | (with_reducible refine LeO.ite ?_ ?_)
   | (with_reducible refine LeO.bind ?_ (fun _ => ?_))
   | exact ih0 _ _ _ _
   | exact ih1 _ _ _ _
   | exact LeO.none _
   | refine LeO.ite ?_ ?_
   | refine LeO.bind ?_ (fun _ => ?_)
theorem impl_NumberAt.mono : ∀ a0 a1 a2 k, LeO (impl_NumberAt.f k a0 a1 a2) (impl_NumberAt.f (k + 1) a0 a1 a2) := by
 intro a0 a1 a2 k;obtain ⟨ih0, ih1⟩ := impl_NumberAt.mono_l k
 unfold impl_NumberAt.f
 repeat' first
   | (with_reducible exact ih0 _ _ _ _)
   | (with_reducible exact ih1 _ _ _ _)
   | (with_reducible exact LeO.refl _)
   | (with_reducible exact LeO.none _)
   | (with_reducible refine LeO.ite ?_ ?_)
   | (with_reducible refine LeO.bind ?_ (fun _ => ?_))
   | exact ih0 _ _ _ _
   | exact ih1 _ _ _ _
   | exact LeO.none _
   | refine LeO.ite ?_ ?_
   | refine LeO.bind ?_ (fun _ => ?_)
set_option maxHeartbeats 8000000 in
set_option maxRecDepth 100000 in
theorem impl_NumberAt.calls (k : Nat) (A0 : Option Addr) (c0 : Nat) (l0 : List Int) (a1 : Int) (a2 : Int) (r : Int) (w : World) (hr0 : Kd.C (Kd.int .u8) w A0 l0.length l0) (hc0 : l0.length ≤ c0) (h : impl_NumberAt.f k l0 a1 a2 = some r) :
  Calls Try.prog 66 #[.slice A0 l0.length c0, .int .i64 a1, .int .i64 a2] w fun e w' => e = .returned (.int .i64 r) ∧ Drawn0 w w' := by
 have HR0 := Aside0.mk hr0;have HC0 := Aside0.mk hc0;clear hr0 hc0;have H : ((impl_in.f a2 1 4).bind fun t214 => (if t214 = true then (if a1 < 0 then (impl_NumberAt.j0 k l0 a1 a2 true) else (impl_NumberAt.j0 k l0 a1 a2 (decide (a1 > (wrap64 ((l0.length : Int) - a2)))))) else (impl_NumberAt.j0 k l0 a1 a2 true))) = some r := h;clear h;have HC4 := Aside0.mk H;clear H
 go_enter Try.func66, Try.ntmps66
 go_upto_region 1 with (fail)
 go_cut [24] (fun v24 wc => ∃ (kq : Nat) (x24_3 : Bool), v24 = .bool x24_3 ∧ Aside0 (impl_NumberAt.j0 kq l0 a1 a2 x24_3 = some r) ∧ Aside0 (kq ≤ k) ∧ Drawn0 w wc)
 case first =>
  have H := HC4.out;clear HC4;replace H := ze H;obtain ⟨t214, A50, H⟩ := H;replace H : (if t214 = true then (if a1 < 0 then (impl_NumberAt.j0 k l0 a1 a2 true) else (impl_NumberAt.j0 k l0 a1 a2 (decide (a1 > (wrap64 ((l0.length : Int) - a2)))))) else (impl_NumberAt.j0 k l0 a1 a2 true)) = some r := H;have A5 := Aside0.mk A50;clear A50
  by_cases c6 : t214 = true
  ·subst c6
   have H1 : (if a1 < 0 then (impl_NumberAt.j0 k l0 a1 a2 true) else (impl_NumberAt.j0 k l0 a1 a2 (decide (a1 > (wrap64 ((l0.length : Int) - a2)))))) = some r := by rw [if_pos rfl] at H; exact H
   clear H;have H := H1;clear H1
   by_cases c7 : a1 < 0
   ·rw [if_pos c7] at H
    have c7b0 : decide (a1 < 0) = true := decide_eq_true c7;clear c7
    (first | rw [c7b0] | (simp only [i64_w, i32_w]; rw [c7b0]) | skip)
    have H' := Aside0.mk H;clear H
    go_wp2_with (first | ((with_reducible refine gate_callee (f := 71) rfl ?_); refine goesL_ (some 11) rfl rfl Try.func71 (by kernel_rfl) rfl #[.int .i64 a2, .int .i64 1, .int .i64 4] rfl (by (try simp only [zm]); first | done | rfl | (simp only [zl]; rfl)) ?_; (with_reducible refine (impl_in.calls a2 1 4 true _ A5.out).mono ?_); rintro e w' ⟨rfl, ⟨nd, rfl⟩⟩; refine ⟨_, rfl, ?_⟩))
    go_meet
    case rel => exact ⟨_, (true), (by first | rfl | (simp; done) | (simp [*]; done)), H', ⟨by first | omega | exact Nat.le_refl _⟩, by repeat (first | exact Drawn0.refl _ | apply Drawn0.step)⟩
   ·rw [if_neg c7] at H
    have c7b0 : decide (a1 < 0) = false := decide_eq_false c7;clear c7
    (first | rw [c7b0] | (simp only [i64_w, i32_w]; rw [c7b0]) | skip)
    have H' := Aside0.mk H;clear H
    go_wp2_with (first | ((with_reducible refine gate_callee (f := 71) rfl ?_); refine goesL_ (some 11) rfl rfl Try.func71 (by kernel_rfl) rfl #[.int .i64 a2, .int .i64 1, .int .i64 4] rfl (by (try simp only [zm]); first | done | rfl | (simp only [zl]; rfl)) ?_; (with_reducible refine (impl_in.calls a2 1 4 true _ A5.out).mono ?_); rintro e w' ⟨rfl, ⟨nd, rfl⟩⟩; refine ⟨_, rfl, ?_⟩))
    go_meet
    case rel => exact ⟨_, (decide (a1 > (wrap64 ((l0.length : Int) - a2)))), (by first | rfl | (simp; done) | (simp [*]; done)), H', ⟨by first | omega | exact Nat.le_refl _⟩, by repeat (first | exact Drawn0.refl _ | apply Drawn0.step)⟩
  ·replace c6 := Bool.eq_false_iff.mpr c6
   subst c6
   have H1 : (impl_NumberAt.j0 k l0 a1 a2 true) = some r := by rw [if_neg (show ¬ (false = true) by decide)] at H; exact H
   clear H;have H := H1;clear H1;have H' := Aside0.mk H;clear H
   go_wp2_with (first | ((with_reducible refine gate_callee (f := 71) rfl ?_); refine goesL_ (some 11) rfl rfl Try.func71 (by kernel_rfl) rfl #[.int .i64 a2, .int .i64 1, .int .i64 4] rfl (by (try simp only [zm]); first | done | rfl | (simp only [zl]; rfl)) ?_; (with_reducible refine (impl_in.calls a2 1 4 false _ A5.out).mono ?_); rintro e w' ⟨rfl, ⟨nd, rfl⟩⟩; refine ⟨_, rfl, ?_⟩))
   go_meet
   case rel => exact ⟨_, (true), (by first | rfl | (simp; done) | (simp [*]; done)), H', ⟨by first | omega | exact Nat.le_refl _⟩, by repeat (first | exact Drawn0.refl _ | apply Drawn0.step)⟩
 case rest =>
  clear HC4
  try clear p2
  try clear c6
  try clear p6
  try clear c7
  try clear c7b0
  obtain ⟨kq, x24_3, rfl, HA, HJ3, ⟨mc3, rfl⟩⟩ := hcut
  cases kq with
  | zero => exact absurd HA.out (by simp [impl_NumberAt.j0])
  | succ kj3 =>
   have H := HA.out;clear HA;simp only [impl_NumberAt.j0] at H
   by_cases c8 : x24_3 = true
   ·subst c8
    have H1 : (some (-1)) = some r := by rw [if_pos rfl] at H; exact H
    clear H;have H := H1;clear H1;obtain rfl := Option.some.inj H
    go_wp2
    go_ret;exact ⟨by first | rfl | (simp; done) | (simp [*]; done), by repeat (first | exact Drawn0.refl _ | apply Drawn0.step)⟩
   ·replace c8 := Bool.eq_false_iff.mpr c8
    subst c8
    have H1 : (if 0 ≤ a1 then (if a1 ≤ (wrap64 (a1 + a2)) then (if (wrap64 (a1 + a2)) ≤ (l0.length : Int) then (impl_NumberAt.l0 kj3 0 ((l0.take ((wrap64 (a1 + a2)) : Int).toNat).drop (a1 : Int).toNat) (((l0.take ((wrap64 (a1 + a2)) : Int).toNat).drop (a1 : Int).toNat).length : Int) 0) else (none)) else (none)) else (none)) = some r := by rw [if_neg (show ¬ (false = true) by decide)] at H; exact H
    clear H;have H := H1;clear H1
    by_cases c9 : 0 ≤ a1
    ·rw [if_pos c9] at H
     have c9b0 := eq_true c9;have c9b1 : decide (0 ≤ a1) = true := decide_eq_true c9;clear c9
     by_cases c10 : a1 ≤ (wrap64 (a1 + a2))
     ·rw [if_pos c10] at H
      have c10b0 := eq_true c10;have c10b1 : decide (a1 ≤ (wrap64 (a1 + a2))) = true := decide_eq_true c10
      by_cases c11 : (wrap64 (a1 + a2)) ≤ (l0.length : Int)
      ·rw [if_pos c11] at H
       have c11b0 := eq_true c11;have c11b1 : decide ((wrap64 (a1 + a2)) ≤ (l0.length : Int)) = true := decide_eq_true c11;have H' := Aside0.mk H;clear H;obtain ⟨i012, hi012, _, hsz12, _⟩ := info_parts info5;obtain ⟨A12, hcut12, hA12, hC12⟩ := print_mid_of (P := Try.prog) (Value.int .u8) 0 22 5 .i64 .i64 Try.underlying22 hi012 hsz12 A0 c0 l0 a1 (wrap64 (a1 + a2)) (of_decide_eq_true (by first | (with_reducible assumption) | assumption)) (by first | omega | exact of_decide_eq_true (by first | (with_reducible assumption) | assumption)) (of_decide_eq_true (by first | (with_reducible assumption) | assumption)) HC0.out;have HR215 := Aside0.mk (Kd.C_of_reads (h1 := fun _ => rfl) (hA12 _ (Kd.reads_of_C HR0.out)));have HC215 := Aside0.mk hC12;clear hA12 hC12 hi012 hsz12;obtain ⟨sl7, hsl7⟩ : ∃ sl7, (l0.take ((wrap64 (a1 + a2)) : Int).toNat).drop (a1 : Int).toNat = sl7 := ⟨_, rfl⟩;simp only [hsl7] at H' HR215 HC215 hcut12;clear hsl7
       go_wp2
       go_loopg [7, 32] kj3 (fun kq v7 v32 w' => ∃ (x7_2 : Int) (x32_2 : Int), v7 = .int .i64 x7_2 ∧ v32 = .int .i64 x32_2 ∧ Aside0 (impl_NumberAt.l0 kq x7_2 sl7 (sl7.length : Int) x32_2 = some r) ∧ Aside0 (kq ≤ kj3) ∧ Drawn0 w w')
       case atStart => exact ⟨(0), (0), (by first | rfl | (simp; done) | (simp [*]; done)), (by first | rfl | (simp; done) | (simp [*]; done)), H', ⟨Nat.le_refl _⟩, by repeat (first | exact Drawn0.refl _ | apply Drawn0.step)⟩
       case round =>
        clear H'
        try clear c1
        try clear p2
        try clear c3
        try clear c6
        try clear p6
        try clear c7
        try clear c7b0
        try clear c8
        try clear c9
        try clear c9b0
        try clear c9b1
        try clear c10
        try clear c10b0
        try clear c10b1
        try clear c11
        try clear c11b0
        try clear c11b1
        try clear p2
        try clear p6
        obtain ⟨x7_2, x32_2, rfl, rfl, HA, HK2, ⟨m2, rfl⟩⟩ := hrel
        cases gk with
        | zero => exact absurd HA.out (by simp [impl_NumberAt.l0])
        | succ k2 =>
         have H := HA.out;clear HA;simp only [impl_NumberAt.l0] at H
         by_cases c13 : x32_2 < (sl7.length : Int)
         ·rw [if_pos c13] at H
          have c13b0 : decide (x32_2 < (sl7.length : Int)) = true := decide_eq_true c13;clear c13
          by_cases c14 : 0 ≤ x32_2
          ·rw [if_pos c14] at H
           have c14b0 : decide (0 ≤ x32_2) = true := decide_eq_true c14;clear c14
           by_cases c15 : x32_2 < (sl7.length : Int)
           ·rw [if_pos c15] at H
            have c15b0 : decide (x32_2 < (sl7.length : Int)) = true := decide_eq_true c15;clear c15;have H' := Aside0.mk H;clear H;have p216 : 0 ≤ (x32_2 : Int) := of_decide_eq_true (by first | (with_reducible assumption) | assumption);have q216 : x32_2 < (sl7.length : Int) := of_decide_eq_true (by first | (with_reducible assumption) | assumption);obtain ⟨ad216, e216, hx216_0⟩ := Kd.at_int HR215.out x32_2 p216 q216
            cases e216
            replace p216 := eq_true p216;replace q216 := eq_true q216
            go_wp2
            go_roundg k2
            case measure => have := HJ3.out; have := HK2.out; omega
            case rel => exact ⟨(Go.bits .or .i64 (wrap64 (x7_2 * 256)) (wrap64 (rd sl7 x32_2))), (wrap64 (x32_2 + 1)), (by first | rfl | (simp; done) | (simp [*]; done)), (by first | rfl | (simp; done) | (simp [*]; done)), H', ⟨by have := HJ3.out; have := HK2.out; omega⟩, by repeat (first | exact Drawn0.refl _ | apply Drawn0.step)⟩
           ·rw [if_neg c15] at H
            exact absurd H (by simp)
          ·rw [if_neg c14] at H
           exact absurd H (by simp)
         ·rw [if_neg c13] at H
          have c13b0 : decide (x32_2 < (sl7.length : Int)) = false := decide_eq_false c13;clear c13;obtain rfl := Option.some.inj H
          go_wp2
          go_ret;exact ⟨by first | rfl | (simp; done) | (simp [*]; done), by repeat (first | exact Drawn0.refl _ | apply Drawn0.step)⟩
      ·rw [if_neg c11] at H
       exact absurd H (by simp)
     ·rw [if_neg c10] at H
      exact absurd H (by simp)
    ·rw [if_neg c9] at H
     exact absurd H (by simp)

/-! ### impl_added: function 102 -/
def impl_added.l0 : Nat → Int → List Int → Int → Int → Option (Int)
 | 0, _, _, _, _ => none
 | k + 1, x3, x6, x7, x8 => if x8 < x7 then (if 0 ≤ x8 then (if x8 < (x6.length : Int) then (if (wrap64 (x3 + (rd x6 x8))) > 65535 then (impl_added.l0 k (wrap64 ((wrap64 (x3 + (rd x6 x8))) - 65535)) x6 x7 (wrap64 (x8 + 1))) else (impl_added.l0 k (wrap64 (x3 + (rd x6 x8))) x6 x7 (wrap64 (x8 + 1)))) else (none)) else (none)) else (some x3)
def impl_added.f (k : Nat) (l0 : List Int) : Option (Int) := impl_added.l0 k 0 l0 (l0.length : Int) 0
theorem impl_added.mono_l : ∀ k, (∀ y0 y1 y2 y3, LeO (impl_added.l0 k y0 y1 y2 y3) (impl_added.l0 (k + 1) y0 y1 y2 y3))
 | 0 => fun _ _ _ _ r h => by simp [impl_added.l0] at h
 | k + 1 => by
  have ih0 := impl_added.mono_l k
  ·intro y0 y1 y2 y3
   unfold impl_added.l0
   repeat' first
   | (with_reducible exact ih0 _ _ _ _)
   | (with_reducible exact LeO.refl _)
   | (with_reducible exact LeO.none _)
   | (with_reducible refine LeO.ite ?_ ?_)
   | (with_reducible refine LeO.bind ?_ (fun _ => ?_))
   | exact ih0 _ _ _ _
   | exact LeO.none _
   | refine LeO.ite ?_ ?_
   | refine LeO.bind ?_ (fun _ => ?_)
theorem impl_added.mono : ∀ a0 k, LeO (impl_added.f k a0) (impl_added.f (k + 1) a0) := by
 intro a0 k;have ih0 := impl_added.mono_l k
 unfold impl_added.f
 repeat' first
   | (with_reducible exact ih0 _ _ _ _)
   | (with_reducible exact LeO.refl _)
   | (with_reducible exact LeO.none _)
   | (with_reducible refine LeO.ite ?_ ?_)
   | (with_reducible refine LeO.bind ?_ (fun _ => ?_))
   | exact ih0 _ _ _ _
   | exact LeO.none _
   | refine LeO.ite ?_ ?_
   | refine LeO.bind ?_ (fun _ => ?_)
set_option maxHeartbeats 8000000 in
set_option maxRecDepth 100000 in
theorem impl_added.calls (k : Nat) (A0 : Option Addr) (c0 : Nat) (l0 : List Int) (r : Int) (w : World) (hr0 : Kd.C (Kd.int .i64) w A0 l0.length l0) (hc0 : l0.length ≤ c0) (h : impl_added.f k l0 = some r) :
  Calls Try.prog 102 #[.slice A0 l0.length c0] w fun e w' => e = .returned (.int .i64 r) ∧ Drawn0 w w' := by
 have HR0 := Aside0.mk hr0;have HC0 := Aside0.mk hc0;clear hr0 hc0;have H : (impl_added.l0 k 0 l0 (l0.length : Int) 0) = some r := h;clear h;have H' := Aside0.mk H;clear H
 go_enter Try.func102, Try.ntmps102
 go_wp2
 go_loopg [3, 8] k (fun kq v3 v8 w' => ∃ (x3_1 : Int) (x8_1 : Int), v3 = .int .i64 x3_1 ∧ v8 = .int .i64 x8_1 ∧ Aside0 (impl_added.l0 kq x3_1 l0 (l0.length : Int) x8_1 = some r) ∧ Aside0 (kq ≤ k) ∧ Drawn0 w w')
 case atStart => exact ⟨(0), (0), (by first | rfl | (simp; done) | (simp [*]; done)), (by first | rfl | (simp; done) | (simp [*]; done)), H', ⟨Nat.le_refl _⟩, by repeat (first | exact Drawn0.refl _ | apply Drawn0.step)⟩
 case round =>
  clear H'
  try clear c1
  obtain ⟨x3_1, x8_1, rfl, rfl, HA, HK1, ⟨m1, rfl⟩⟩ := hrel
  cases gk with
  | zero => exact absurd HA.out (by simp [impl_added.l0])
  | succ k1 =>
   have H := HA.out;clear HA;simp only [impl_added.l0] at H
   by_cases c2 : x8_1 < (l0.length : Int)
   ·rw [if_pos c2] at H
    have c2b0 : decide (x8_1 < (l0.length : Int)) = true := decide_eq_true c2;clear c2
    by_cases c3 : 0 ≤ x8_1
    ·rw [if_pos c3] at H
     have c3b0 : decide (0 ≤ x8_1) = true := decide_eq_true c3;clear c3
     by_cases c4 : x8_1 < (l0.length : Int)
     ·rw [if_pos c4] at H
      have c4b0 : decide (x8_1 < (l0.length : Int)) = true := decide_eq_true c4;clear c4
      by_cases c5 : (wrap64 (x3_1 + (rd l0 x8_1))) > 65535
      ·rw [if_pos c5] at H
       have c5b0 : decide (65535 < (wrap64 (x3_1 + (rd l0 x8_1)))) = true := decide_eq_true c5;clear c5;have H' := Aside0.mk H;clear H;have p217 : 0 ≤ (x8_1 : Int) := of_decide_eq_true (by first | (with_reducible assumption) | assumption);have q217 : x8_1 < (l0.length : Int) := of_decide_eq_true (by first | (with_reducible assumption) | assumption);obtain ⟨ad217, e217, hx217_0⟩ := Kd.at_int HR0.out x8_1 p217 q217
       cases e217
       replace p217 := eq_true p217;replace q217 := eq_true q217
       go_wp2
       go_roundg k1
       case measure => have := HK1.out; omega
       case rel => exact ⟨(wrap64 ((wrap64 (x3_1 + (rd l0 x8_1))) - 65535)), (wrap64 (x8_1 + 1)), (by first | rfl | (simp; done) | (simp [*]; done)), (by first | rfl | (simp; done) | (simp [*]; done)), H', ⟨by have := HK1.out; omega⟩, by repeat (first | exact Drawn0.refl _ | apply Drawn0.step)⟩
      ·rw [if_neg c5] at H
       have c5b0 : decide (65535 < (wrap64 (x3_1 + (rd l0 x8_1)))) = false := decide_eq_false c5;clear c5;have H' := Aside0.mk H;clear H;have p217 : 0 ≤ (x8_1 : Int) := of_decide_eq_true (by first | (with_reducible assumption) | assumption);have q217 : x8_1 < (l0.length : Int) := of_decide_eq_true (by first | (with_reducible assumption) | assumption);obtain ⟨ad217, e217, hx217_0⟩ := Kd.at_int HR0.out x8_1 p217 q217
       cases e217
       replace p217 := eq_true p217;replace q217 := eq_true q217
       go_wp2
       go_roundg k1
       case measure => have := HK1.out; omega
       case rel => exact ⟨(wrap64 (x3_1 + (rd l0 x8_1))), (wrap64 (x8_1 + 1)), (by first | rfl | (simp; done) | (simp [*]; done)), (by first | rfl | (simp; done) | (simp [*]; done)), H', ⟨by have := HK1.out; omega⟩, by repeat (first | exact Drawn0.refl _ | apply Drawn0.step)⟩
     ·rw [if_neg c4] at H
      exact absurd H (by simp)
    ·rw [if_neg c3] at H
     exact absurd H (by simp)
   ·rw [if_neg c2] at H
    have c2b0 : decide (x8_1 < (l0.length : Int)) = false := decide_eq_false c2;clear c2;obtain rfl := Option.some.inj H
    go_wp2
    go_ret;exact ⟨by first | rfl | (simp; done) | (simp [*]; done), by repeat (first | exact Drawn0.refl _ | apply Drawn0.step)⟩

-- NOT PRINTED: function 106 (slices_Chunk_byte_byte)

/-! ### impl_sumOf: function 70 -/
section
open Go.Shelf
/-- All are bytes. -/
def bytesB (l : List Int) : Bool := l.all fun x => decide (0 ≤ x ∧ x < 256)
/-- Two numbers added up; what is more comes in again. -/
def sumAdd (a b : Int) : Int := if a + b > 65535 then a + b - 65535 else a + b
/-- The pairs of bytes added up. -/
def sumP : List Int → Int → Int
 | [], s => s
 | [a], s => sumAdd s (a * 256)
 | a :: b :: l, s => sumP l (sumAdd s (a * 256 + b))
def impl_sumOf.f (k : Nat) (l0 : List Int) : Option (Int) := if bytesB l0 = true ∧ l0.length ≤ 4611686018427387904 then some (65535 - sumP l0 0) else none
theorem impl_sumOf.mono : ∀ a0 k, LeO (impl_sumOf.f k a0) (impl_sumOf.f (k + 1) a0) := fun _ _ => LeO.refl _
theorem sumAdd_range {a b : Int} (ha : 0 ≤ a ∧ a ≤ 65535) (hb : 0 ≤ b ∧ b ≤ 65535) : 0 ≤ sumAdd a b ∧ sumAdd a b ≤ 65535 := by unfold sumAdd; split <;> omega
theorem sum_w64 {x : Int} (h0 : -9223372036854775808 ≤ x) (h1 : x < 9223372036854775808) : wrap64 x = x := by unfold wrap64; omega
theorem added_two {s n : Int} (hs : 0 ≤ s ∧ s ≤ 65535) (hn : 0 ≤ n ∧ n ≤ 65535) : impl_added.f 3 [s, n] = some (sumAdd s n) := by
 have e1 : wrap64 (0 + 1) = 1 := sum_w64 (by omega) (by omega);have e2 : wrap64 (1 + 1) = 2 := sum_w64 (by omega) (by omega);have e3 : wrap64 s = s := sum_w64 (by omega) (by omega);have e4 : wrap64 (s + n) = s + n := sum_w64 (by omega) (by omega)
 have h1 : ¬ 65535 < s := by omega
 unfold impl_added.f sumAdd
 simp only [impl_added.l0, List.length_cons, List.length_nil, rd, e1, e2]
 simp [e3, h1, e4]
 by_cases h2 : 65535 < s + n
 ·rw [if_pos h2, if_pos h2, sum_w64 (by omega) (by omega)]
 ·rw [if_neg h2, if_neg h2]
theorem or_byte_ {x y : Int} (hx0 : 0 ≤ x) (hx1 : x < 256) (hy0 : 0 ≤ y) (hy1 : y < 256) : Go.bits .or .i64 (x * 256) y = x * 256 + y := by
 refine bits_join .i64 63 (by decide) ?_ 8 (x * 256) y (by omega) (by omega) ?_ hy0 (by simpa using hy1) ?_
 ·intro n h0 h1;have h1' : n < 9223372036854775808 := h1
  rw [IntKind.wrap_i64]; omega
 ·show x * 256 < 9223372036854775808
  omega
 ·show y < 9223372036854775808
  omega
theorem lit_two (W : World) (s n : Int) : Kd.C (Kd.int .i64) (W.alloc (.cells #[.int .i64 s, .int .i64 n] 3)) (some ⟨W.heap.size, 0, none⟩) 2 [s, n] := by
 refine ⟨rfl, by omega, fun _ => ⟨_, rfl, fun j p hj => ?_⟩⟩;refine ⟨[.int .i64 p], rfl, rfl, fun i u hu => ?_⟩
 have hi : i = 0 := by
  have := (List.getElem?_eq_some_iff.1 hu).1
  simpa using this
 subst hi
 have hu' : Value.int .i64 p = u := by simpa using hu
 subst hu'
 have hjl : j < 2 := (List.getElem?_eq_some_iff.1 hj).1
 show World.cell? _ ((⟨W.heap.size, 0, none⟩ : Addr).add (j * 1 + 0)) = _
 rw [Nat.mul_one, Nat.add_zero, add_plain, blk_cell (blk_new W _) j]
 obtain rfl | rfl : j = 0 ∨ j = 1 := by omega
 ·have : s = p := by simpa using hj
  subst this; rfl
 ·have : n = p := by simpa using hj
  subst this; rfl
theorem cell_later {W : World} {a : Addr} {v : Value} (nd : Nat) (h : W.cell? a = some v) : (W.drewN nd).cell? a = some v := h
theorem frozen_later {W : World} {a : Addr} {b : Bool} (nd : Nat) (h : W.frozen? a = b) : (W.drewN nd).frozen? a = b := h
theorem keeps_drewN (W : World) (nd : Nat) : KeepsOthers W (W.drewN nd) := ⟨Nat.le_refl _, fun _ _ h _ => h⟩
theorem cell_alloc_m {W : World} {a : Addr} {v : Value} (o : Obj) (h : W.cell? a = some v) : (W.alloc o).cell? a = some v := (((Below.refl W.heap.size W).alloc (Nat.le_refl _) o).cell (World.block_lt_of_cell? W a h)).trans h
theorem frozen_alloc_m {W : World} {a : Addr} {v : Value} {b : Bool} (o : Obj) (h : W.cell? a = some v) (hf : W.frozen? a = b) : (W.alloc o).frozen? a = b := (((Below.refl W.heap.size W).alloc (Nat.le_refl _) o).frozen (World.block_lt_of_cell? W a h)).trans hf
theorem addr_one (p : Addr) : p.add 1 = ⟨p.block, p.off + 1, none⟩ := by unfold Addr.add; simp
/-- A chunk: where it lies, how many bytes it has, and these. -/
structure Ck where
 p : Addr
 m : Nat
 x : Int
 y : Int
def Ck.Ok (w : World) (c : Ck) : Prop := (c.m = 1 ∨ c.m = 2) ∧ w.cell? c.p = some (.int .u8 c.x) ∧ (c.m = 2 → w.cell? (c.p.add 1) = some (.int .u8 c.y)) ∧ (0 ≤ c.x ∧ c.x < 256) ∧ (0 ≤ c.y ∧ c.y < 256)
abbrev CkAt (w : World) := { c : Ck // c.Ok w }
def Ck.val (c : Ck) : Int := if c.m = 2 then c.x * 256 + c.y else c.x * 256
def ckSum {w : World} (pre : List (CkAt w)) : Int := pre.foldl (fun s c => sumAdd s c.1.val) 0
theorem ckSum_snoc {w : World} (pre : List (CkAt w)) (c : CkAt w) : ckSum (pre ++ [c]) = sumAdd (ckSum pre) c.1.val := by simp [ckSum]
theorem Ck.val_range {w : World} (c : CkAt w) : 0 ≤ c.1.val ∧ c.1.val ≤ 65535 := by
 obtain ⟨c, _, _, _, h1, h2⟩ := c
 show 0 ≤ c.val ∧ c.val ≤ 65535
 unfold Ck.val; split <;> omega
theorem ckSum_range {w : World} (pre : List (CkAt w)) : 0 ≤ ckSum pre ∧ ckSum pre ≤ 65535 := by
 unfold ckSum
 suffices h : ∀ s : Int, 0 ≤ s ∧ s ≤ 65535 → 0 ≤ pre.foldl (fun s c => sumAdd s c.1.val) s ∧ pre.foldl (fun s c => sumAdd s c.1.val) s ≤ 65535 from h 0 (by omega)
 induction pre with
 | nil => exact fun s hs => hs
 | cons c pre ih => exact fun s hs => ih _ (sumAdd_range hs (Ck.val_range c))
theorem take_next {α : Type} {L : List α} {k : Nat} {c : α} (h : L[k]? = some c) : L.take (k + 1) = L.take k ++ [c] := by
 obtain ⟨hk, e⟩ := List.getElem?_eq_some_iff.1 h
 rw [List.take_succ_eq_append_getElem hk, e]
/-- What a round keeps: what lay ahead of the call, and the two boxes of the iterator. -/
def KeepsBoxes (n₀ Bs Bn : Nat) (A B : World) : Prop := Below n₀ A B ∧ B.cell? ⟨Bs, 0, none⟩ = A.cell? ⟨Bs, 0, none⟩ ∧ B.cell? ⟨Bn, 0, none⟩ = A.cell? ⟨Bn, 0, none⟩
theorem KeepsBoxes.refl (n₀ Bs Bn : Nat) (A : World) : KeepsBoxes n₀ Bs Bn A A := ⟨Below.refl _ _, rfl, rfl⟩
theorem KeepsBoxes.drew (n₀ Bs Bn : Nat) (A : World) : KeepsBoxes n₀ Bs Bn A A.drew := ⟨below_drew (Below.refl _ _), rfl, rfl⟩
theorem KeepsBoxes.trans {n₀ Bs Bn : Nat} {A B C : World} (h : KeepsBoxes n₀ Bs Bn A B) (k : KeepsBoxes n₀ Bs Bn B C) : KeepsBoxes n₀ Bs Bn A C := ⟨h.1.trans k.1, k.2.1.trans h.2.1, k.2.2.trans h.2.2⟩
theorem KeepsBoxes.put {n₀ Bs Bn : Nat} {w : World} (hn : n₀ ≤ w.heap.size) (hs : Bs < w.heap.size) (hn' : Bn < w.heap.size) (W : World) (l : Nat) (o o' : Obj) (hl : w.heap.size ≤ l) (h : W.heap[l]? = some o) (_ : o.isCells = false) (_ : o.isWalk = false) : KeepsBoxes n₀ Bs Bn W (W.putObj l o') := by
 have hlt := (Array.getElem?_eq_some_iff.1 h).1;have hg : Below w.heap.size W (W.putObj l o') := (Below.refl _ W).grown (grownBy_putObj' W l o') (by omega) (fun k e => by cases e; omega);exact ⟨hg.mono hn, hg.cell (p := ⟨Bs, 0, none⟩) hs, hg.cell (p := ⟨Bn, 0, none⟩) hn'⟩
attribute [local go_sem] Oper.semAt_some
set_option maxRecDepth 100000 in
set_option maxHeartbeats 2000000 in
/-- slices.Chunk's closure, at 2 bytes a chunk: for every loop body that keeps what lay ahead and the two boxes. -/
theorem chunk1_in (w0 : World) (n : Nat) (hn : 1 ≤ n) (l Bs Bn n₀ : Nat) (A : Option Addr) (len cap : Nat) (hlc : len ≤ cap) (hcap : len ≤ 4611686018427387904) (L : List (CkAt w0)) (hL : L.length = (len + 1) / 2)
  (hg : ∀ k c, L[k]? = some c → ∃ ad, A = some ad ∧ c.1.p = ad.add (2 * k) ∧ c.1.m = min 2 (len - 2 * k)) (J Jx : List (CkAt w0) → World → Prop) (hJd : ∀ {pre W}, J pre W → J pre W.drew)
  (hY : ∀ pre x W, J pre W → pre.length < (len + 1) / 2 → YieldAt Fence.wide (n - 1) Try.prog l #[.slice (some x.1.p) x.1.m x.1.m] W fun e W' =>
   (e = .returned (.bool true) ∧ J (pre ++ [x]) W' ∧ KeepsBoxes n₀ Bs Bn W W') ∨ (e = .returned (.bool false) ∧ Jx (pre ++ [x]) W'))
  (W : World) (hBs : W.cell? ⟨Bs, 0, none⟩ = some (.slice A len cap)) (hBn : W.cell? ⟨Bn, 0, none⟩ = some (.int .i64 2)) (h0 : J [] W) :
  CallsIn Fence.wide n Try.prog 122 #[.func (.yield l) #[] #[], .pointer (some ⟨Bs, 0, none⟩), .pointer (some ⟨Bn, 0, none⟩)] W fun e W' => (∃ v, e = .returned v) ∧
   ((∃ ys, ys = L ∧ J ys W') ∨ (∃ pre, (∃ k, pre = L.take k) ∧ Jx pre W')) := by
 refine callsIn_of_wp Try.func122 rfl trivial ?_ rfl;simp only [Try.ntmps122, List.size_toArray, List.length_cons, List.length_nil, Nat.reduceAdd, Nat.reduceSub, Array.replicate_succ, Array.replicate_zero, List.push_toArray, List.append_toArray, List.nil_append, List.cons_append]
 gi_wp2
 gi_loopw [4] (fun i wr => ∃ k : Nat, k ≤ (len + 1) / 2 ∧ i = .int .i64 ((2 * k : Nat) : Int) ∧ J (L.take k) wr ∧ KeepsBoxes n₀ Bs Bn W wr)
  (fun i _ => len + 1 - (intOf i).toNat)
 case atStart => exact ⟨0, Nat.zero_le _, rfl, h0, KeepsBoxes.refl _ _ _ _⟩
 case round =>
  obtain ⟨k, hk, rfl, hJs, hnx⟩ := hrel;have hcs := hnx.2.1.trans hBs;have hcn := hnx.2.2.trans hBn
  by_cases hlt : 2 * k < len
  ·obtain ⟨c, hc⟩ : ∃ c, L[k]? = some c := ⟨_, List.getElem?_eq_getElem (by omega)⟩;have HT := Lib.hid (take_next hc);obtain ⟨ad, rfl, hp, hm⟩ := hg k c hc;clear hc hg;obtain ⟨fn, tmps, assign, body, hy, hR⟩ := hY _ c wr.drew (hJd hJs) (by rw [List.length_take]; omega)
   rw [hp, hm] at hy
   have hk1 : 2 * (k + 1) = 2 * k + 2 := by omega
   obtain ⟨j, hj⟩ : ∃ j : Nat, 2 * k = j := ⟨_, rfl⟩
   rw [hj] at hlt hk1 hy ⊢
   have HK1 : Hid (2 * (k + 1) = j + 2) := Lib.hid hk1;clear hk1 hp hm
   have b1 : (0 : Int) ≤ (j : Int) := by omega
   have b2 : (j : Int) ≤ (len : Int) := by omega
   have b3 : (len : Int) ≤ (cap : Int) := by omega
   have b4 : ¬ (cap = j) := by omega
   rcases (show len - j = 1 ∨ 2 ≤ len - j by omega) with hm | hm
   ·rw [show min 2 (len - j) = 1 by omega] at hy
    have b6 : ((len - j : Nat) : Int) < 2 := by omega
    have b5 : (j : Int) + 1 ≤ (len : Int) := by omega
    gi_wp2
    gi_region
    gi_wp2
    refine hR.mono ?_
    rintro e W3 (⟨rfl, hJ3, hk3⟩ | ⟨rfl, hJx3⟩)
    ·have hcn3 := hk3.2.2.trans hcn
     gi_wp2
     go_roundw
     case rel => exact ⟨k + 1, by omega, by rw [HK1.out]; go_num, by rw [HT.out]; exact hJ3, hnx.trans ((KeepsBoxes.drew _ _ _ _).trans hk3)⟩
     case measure => simp [intOf]; omega
    ·gi_wp2
     refine bodyPost_ret (results_none rfl _ _ _) rfl ?_;exact ⟨⟨_, rfl⟩, .inr ⟨_, ⟨k + 1, HT.out.symm⟩, hJx3⟩⟩
   ·rw [show min 2 (len - j) = 2 by omega] at hy
    have b6 : ¬ ((len - j : Nat) : Int) < 2 := by omega
    have b5 : (j : Int) + 2 ≤ (len : Int) := by omega
    gi_wp2
    gi_region
    gi_wp2
    refine hR.mono ?_
    rintro e W3 (⟨rfl, hJ3, hk3⟩ | ⟨rfl, hJx3⟩)
    ·have hcn3 := hk3.2.2.trans hcn
     gi_wp2
     go_roundw
     case rel => exact ⟨k + 1, by omega, by rw [HK1.out]; go_num, by rw [HT.out]; exact hJ3, hnx.trans ((KeepsBoxes.drew _ _ _ _).trans hk3)⟩
     case measure => simp [intOf]; omega
    ·gi_wp2
     refine bodyPost_ret (results_none rfl _ _ _) rfl ?_;exact ⟨⟨_, rfl⟩, .inr ⟨_, ⟨k + 1, HT.out.symm⟩, hJx3⟩⟩
  ·obtain hk2 : k = (len + 1) / 2 := by omega
   gi_wp2
   go_end0
   exact ⟨⟨_, rfl⟩, .inl ⟨_, List.take_of_length_le (by omega), hJs⟩⟩

set_option maxHeartbeats 1000000 in
/-- slices.Chunk: the slice and the number are boxed; the function value captures the boxes. -/
theorem chunk_in (n : Nat) (a : Option Addr) (len cap : Nat) (w : World) :
  CallsIn Fence.wide n Try.prog 106 #[.slice a len cap, .int .i64 2] w fun e w' => e = .returned (.func (.func 122) #[] #[.pointer (some ⟨w.heap.size, 0, none⟩), .pointer (some ⟨w.heap.size + 1, 0, none⟩)]) ∧
   w' = (w.alloc (.cells #[.slice a len cap] 22)).alloc (.cells #[.int .i64 2] 3) := by
 refine callsIn_of_wp Try.func106 rfl trivial ?_ rfl;simp only [Try.ntmps106, List.size_toArray, List.length_cons, List.length_nil, Nat.reduceAdd, Nat.reduceSub, Array.replicate_succ, Array.replicate_zero, List.push_toArray, List.append_toArray, List.nil_append, List.cons_append]
 gi_wp2
 go_ret;exact ⟨rfl, rfl⟩
/-- The iterator's contract. -/
theorem chunk_stops (w0 : World) (n : Nat) (hn : 1 ≤ n) (Bs Bn n₀ : Nat) (A : Option Addr) (len cap : Nat) (hlc : len ≤ cap) (hcap : len ≤ 4611686018427387904) (L : List (CkAt w0)) (hL : L.length = (len + 1) / 2)
  (hg : ∀ k c, L[k]? = some c → ∃ ad, A = some ad ∧ c.1.p = ad.add (2 * k) ∧ c.1.m = min 2 (len - 2 * k)) (w : World) (hs : Bs < w.heap.size) (hb : Bn < w.heap.size)
  (hBs : w.cell? ⟨Bs, 0, none⟩ = some (.slice A len cap)) (hBn : w.cell? ⟨Bn, 0, none⟩ = some (.int .i64 2)) :
  SeqStopsK Fence.wide n Try.prog 122 #[.pointer (some ⟨Bs, 0, none⟩), .pointer (some ⟨Bn, 0, none⟩)] (fun x : CkAt w0 => #[Value.slice (some x.1.p) x.1.m x.1.m]) (KeepsBoxes n₀ Bs Bn)
   (fun ys => ys = L) (fun pre => ∃ k, pre = L.take k) ((len + 1) / 2) w := fun l J Jx W hW hJ hJx hY h0 =>
 chunk1_in w0 n hn l Bs Bn n₀ A len cap hlc hcap L hL hg J Jx (fun {pre W} h => hJ pre W W.drew none h (grown_of_below (below_drew (Below.refl _ _)) none) (fun r e => by cases e)) hY W ((hW.cell (p := ⟨Bs, 0, none⟩) hs).trans hBs) ((hW.cell (p := ⟨Bn, 0, none⟩) hb).trans hBn) h0
/-- The pairs that have come are the pairs of bytes. -/
theorem ck_drop (w0 : World) (l : List Int) (L : List (CkAt w0)) (hL : L.length = (l.length + 1) / 2) (hv : ∀ k c, L[k]? = some c → c.1.val = (if 2 * k + 1 < l.length then rd l ((2 * k : Nat) : Int) * 256 + rd l ((2 * k + 1 : Nat) : Int) else rd l ((2 * k : Nat) : Int) * 256)) :
  ∀ k, k ≤ (l.length + 1) / 2 → sumP l 0 = sumP (l.drop (2 * k)) (ckSum (L.take k))
 | 0, _ => rfl
 | k + 1, hk => by
  obtain ⟨c, hc⟩ : ∃ c, L[k]? = some c := ⟨_, List.getElem?_eq_getElem (by omega)⟩
  rw [ck_drop w0 l L hL hv k (by omega), take_next hc, ckSum_snoc, hv k c hc]
  have hr : ∀ i : Nat, i < l.length → rd l (i : Int) = l.getD i 0 := fun i hi => by unfold rd; rfl
  have hd : ∀ i : Nat, i < l.length → l.drop i = l.getD i 0 :: l.drop (i + 1) := fun i hi => by
   rw [List.drop_eq_getElem_cons hi]; simp [List.getD_eq_getElem?_getD, hi]
  rw [show 2 * (k + 1) = 2 * k + 1 + 1 by omega, hd (2 * k) (by omega), hr (2 * k) (by omega)]
  by_cases h : 2 * k + 1 < l.length
  ·rw [if_pos h, hd (2 * k + 1) h, hr (2 * k + 1) h]; rfl
  ·rw [if_neg h, List.drop_of_length_le (show l.length ≤ 2 * k + 1 by omega), List.drop_of_length_le (show l.length ≤ 2 * k + 1 + 1 by omega)]; rfl
/-- What a round leaves. -/
theorem body_end {w W : World} {s v : Int} {o : Obj} (hc : W.cell? ⟨w.heap.size, 0, none⟩ = some (.int .i64 s)) (hf : W.frozen? ⟨w.heap.size, 0, none⟩ = false) (hB : Below w.heap.size w W) (hW : w.heap.size + 1 + 1 < W.heap.size) (nd : Nat) (W' : World) (hW' : W' = ((W.alloc o).drewN nd).setCell ⟨w.heap.size, 0, none⟩ (.int .i64 v)) (B : Nat) :
  KeepsFrom B W W' ∧ KeepsBoxes w.heap.size (w.heap.size + 1) (w.heap.size + 1 + 1) W W' ∧ (W'.cell? ⟨w.heap.size, 0, none⟩ = some (.int .i64 v) ∧ W'.frozen? ⟨w.heap.size, 0, none⟩ = false ∧ w.heap.size + 1 + 1 < W'.heap.size) ∧ Below w.heap.size w W' := by
 subst hW'
 have b1 : Below W.heap.size W ((W.alloc o).drewN nd) := pw_below_drewN ((Below.refl _ W).alloc (Nat.le_refl _) _) nd;have hc1 := cell_later nd (cell_alloc_m o hc)
 have hle : w.heap.size ≤ W.heap.size := by omega
 refine ⟨(((KeepsOthers.alloc W o).trans (keeps_drewN _ nd)).trans (KeepsOthers.setCell _ _ _)).from B, ⟨(b1.mono hle).setCell (p := ⟨w.heap.size, 0, none⟩) (Nat.le_refl _) _, ?_, ?_⟩, ⟨World.cell?_setCell_same' _ _ _ (by rw [hc1]; rfl), by rw [World.frozen?_setCell]; exact frozen_later nd (frozen_alloc_m o hc hf), Nat.lt_of_lt_of_le hW (by simp)⟩, (hB.trans (b1.mono hle)).setCell (p := ⟨w.heap.size, 0, none⟩) (Nat.le_refl _) _⟩
 ·rw [World.cell?_setCell_other _ _ _ _ (by simp)]; exact b1.cell (p := ⟨w.heap.size + 1, 0, none⟩) (by show w.heap.size + 1 < W.heap.size; omega)
 ·rw [World.cell?_setCell_other _ _ _ _ (by simp)]; exact b1.cell (p := ⟨w.heap.size + 1 + 1, 0, none⟩) hW
set_option maxRecDepth 100000 in
set_option maxHeartbeats 2000000 in
theorem sumOf_in (A0 : Option Addr) (c0 : Nat) (l0 : List Int) (w : World) (hc0 : l0.length ≤ c0) (hcap : l0.length ≤ 4611686018427387904) (L : List (CkAt w)) (hL : L.length = (l0.length + 1) / 2)
  (hg : ∀ k c, L[k]? = some c → ∃ ad, A0 = some ad ∧ c.1.p = ad.add (2 * k) ∧ c.1.m = min 2 (l0.length - 2 * k))
  (hv : ∀ k c, L[k]? = some c → c.1.val = (if 2 * k + 1 < l0.length then rd l0 ((2 * k : Nat) : Int) * 256 + rd l0 ((2 * k + 1 : Nat) : Int) else rd l0 ((2 * k : Nat) : Int) * 256)) :
  CallsIn Fence.wide 3 Try.prog 70 #[.slice A0 l0.length c0] w fun e w' => e = .returned (.int .i64 (65535 - sumP l0 0)) ∧ Below w.heap.size w w' := by
 have hro : Fence.wide.round = none := rfl
 have h1 : 1 ≤ 3 := by omega
 refine callsIn_of_wp_marks Try.func70 rfl trivial ?_ hro;simp only [Try.ntmps70, List.size_toArray, List.length_cons, List.length_nil, Nat.reduceAdd, Nat.reduceSub, Array.replicate_succ, Array.replicate_zero, List.push_toArray, List.append_toArray, List.nil_append, List.cons_append]
 gi_wp2_with (refine ⟨trivial, ?_⟩; gi_at_call 106; refine (chunk_in _ _ _ _ _).mono ?_; rintro e w' ⟨rfl, rfl⟩)
 have bS := Boxed.new w 3 (.int .i64 0);have bN := Boxed.new (w.alloc (.cells #[.int .i64 0] 3)) 22 (.slice A0 l0.length c0);have bM := Boxed.new ((w.alloc (.cells #[.int .i64 0] 3)).alloc (.cells #[.slice A0 l0.length c0] 22)) 3 (.int .i64 2)
 rw [World.size_alloc] at bN bM
 rw [World.size_alloc] at bM
 have hB0 : Below w.heap.size w (((w.alloc (.cells #[.int .i64 0] 3)).alloc (.cells #[.slice A0 l0.length c0] 22)).alloc (.cells #[.int .i64 2] 3)) := (((Below.refl _ w).alloc (Nat.le_refl _) _).alloc (by simp) _).alloc (by simp; omega) _
 refine wpIn_rangeFunc_ownG hro h1 (gf := 122) (lb := #[.pointer (some ⟨w.heap.size + 1, 0, none⟩), .pointer (some ⟨w.heap.size + 1 + 1, 0, none⟩)]) rfl trivial (enters_of Try.func122 (by kernel_rfl) rfl)
  (chunk_stops w (3 - 1) (by omega) (w.heap.size + 1) (w.heap.size + 1 + 1) w.heap.size A0 l0.length c0 hc0 hcap L hL hg _ (by simp) (by simp) (bN.alloc _).cell bM.cell) KeepsBoxes.trans (KeepsBoxes.put (by simp; omega) (by simp) (by simp)) (Below.refl _ _) (fun _ => rfl)
  (fun pre W => (W.cell? ⟨w.heap.size, 0, none⟩ = some (.int .i64 (ckSum pre)) ∧ W.frozen? ⟨w.heap.size, 0, none⟩ = false ∧ w.heap.size + 1 + 1 < W.heap.size) ∧ Below w.heap.size w W)
  (fun _ _ _ => False)
  (OwnFrom.and (Own.from (fun s A B row hs hg hr => ⟨cell_kept hs.1 hg hr, (frozen_kept hs.1 hg hr).trans hs.2.1, Nat.lt_of_lt_of_le hs.2.2 hg.size⟩) _) (ownFrom_below (Nat.le_refl _) (by simp; omega)))
  (fun _ _ _ _ _ hs _ _ => hs)
  ⟨⟨((bS.alloc _).alloc _).cell, ((bS.alloc _).alloc _).frozen, by simp⟩, hB0⟩
  (fun x => { tmps := #[.slice A0 l0.length c0, undef, .int .i64 0, .pointer (some ⟨w.heap.size, 0, none⟩), .slice (some x.1.p) x.1.m x.1.m, undef, .slice A0 l0.length c0, .func (.func 122) #[] #[.pointer (some ⟨w.heap.size + 1, 0, none⟩), .pointer (some ⟨w.heap.size + 1 + 1, 0, none⟩)], .slice (some x.1.p) x.1.m x.1.m, undef, undef, undef, undef, undef, undef, undef, undef, undef, undef, undef, undef, undef, undef, undef, undef, undef, undef, undef, undef], defers := [] }) ?assign ?body ?done ?stop
 case assign =>
  intro l x W K hK
  gi_wp2
  exact hK
 case body =>
  rintro l pre ⟨⟨p, m, x, y⟩, hm, hx, hy, rx, ry⟩ W ⟨⟨hc, hf, hsz⟩, hB⟩ _
  have HZ := Lib.hid hsz;clear hsz;have hx' := (hB.cell (World.block_lt_of_cell? w _ hx)).trans hx;have rS := ckSum_range pre
  dsimp only at hm hx' rx ry hc ⊢
  have hsn := ckSum_snoc pre ⟨⟨p, m, x, y⟩, hm, hx, hy, rx, ry⟩;have HS := Lib.hid hsn;clear hsn
  generalize ckSum pre = s at hc rS HS
  rcases hm with rfl | rfl
  ·have b1 : x * 256 ≤ 65280 := by omega
   have b2 : 0 ≤ x * 256 := by omega
   gi_wp2_with (refine ⟨trivial, ?_⟩; gi_at_call 102; refine (CallsIn.inRound l (callsIn_wide.2 (impl_added.calls 3 (some ⟨W.heap.size, 0, none⟩) 2 [s, x * 256] (sumAdd s (x * 256)) _ (lit_two W s (x * 256)) (by simp) (added_two rS (by omega))))).mono ?_; rintro e w' ⟨rfl, ⟨nd, rfl⟩⟩; have hcW := cell_later nd (cell_alloc_m (.cells #[.int .i64 s, .int .i64 (x * 256)] 3) hc); have hfW := frozen_later nd (frozen_alloc_m (.cells #[.int .i64 s, .int .i64 (x * 256)] 3) hc hf))
   obtain ⟨q1, q2, ⟨q3, q4, q6⟩, q5⟩ := body_end hc hf hB HZ.out _ _ rfl _;exact ⟨q1, q2, ⟨by rw [HS.out]; exact q3, q4, q6⟩, q5⟩
  ·have hy' := (hB.cell (World.block_lt_of_cell? w _ (hy rfl))).trans (hy rfl)
   rw [addr_one] at hy'
   have b1 : x * 256 ≤ 65280 := by omega
   have b2 : 0 ≤ x * 256 := by omega
   have hor : Go.bits .or .i64 (x * 256) y = x * 256 + y := or_byte_ (by omega) (by omega) (by omega) (by omega)
   gi_wp2_with (refine ⟨trivial, ?_⟩; gi_at_call 102; refine (CallsIn.inRound l (callsIn_wide.2 (impl_added.calls 3 (some ⟨W.heap.size, 0, none⟩) 2 [s, x * 256 + y] (sumAdd s (x * 256 + y)) _ (lit_two W s (x * 256 + y)) (by simp) (added_two rS (by omega))))).mono ?_; rintro e w' ⟨rfl, ⟨nd, rfl⟩⟩; have hcW := cell_later nd (cell_alloc_m (.cells #[.int .i64 s, .int .i64 (x * 256 + y)] 3) hc); have hfW := frozen_later nd (frozen_alloc_m (.cells #[.int .i64 s, .int .i64 (x * 256 + y)] 3) hc hf))
   obtain ⟨q1, q2, ⟨q3, q4, q6⟩, q5⟩ := body_end hc hf hB HZ.out _ _ rfl _;exact ⟨q1, q2, ⟨by rw [HS.out]; exact q3, q4, q6⟩, q5⟩
 case done =>
  rintro D ys W hD hys ⟨⟨hc, _⟩, hB⟩ hK
  rw [hys] at hc
  clear hys;have rS := ckSum_range L
  gi_wp2
  refine ⟨by simp, .inl ⟨_, _, rfl, run_takeDeferred hK, ?_⟩⟩;refine ⟨_, results_tmp rfl _ _ _, ?_, hB.trans (belowK_b (w := w) (Nat.le_refl _) W D _ _ (by simp at hD; omega) hK rfl rfl)⟩
  rw [ck_drop w l0 L hL hv _ (Nat.le_refl _), List.drop_of_length_le (by omega), List.take_of_length_le (by omega)]; rfl
 case stop =>
  rintro D c pre W _ _ h _
  exact h.elim

/-- The chunks of a row of bytes. -/
theorem chunks_of (A0 : Option Addr) (l0 : List Int) (w : World) (hr0 : Kd.C (Kd.int .u8) w A0 l0.length l0) (hb : ∀ x ∈ l0, 0 ≤ x ∧ x < 256) : ∀ m, m ≤ (l0.length + 1) / 2 → ∃ L : List (CkAt w), L.length = m ∧
  (∀ k c, L[k]? = some c → (∃ ad, A0 = some ad ∧ c.1.p = ad.add (2 * k) ∧ c.1.m = min 2 (l0.length - 2 * k)) ∧ c.1.val = (if 2 * k + 1 < l0.length then rd l0 ((2 * k : Nat) : Int) * 256 + rd l0 ((2 * k + 1 : Nat) : Int) else rd l0 ((2 * k : Nat) : Int) * 256))
 | 0, _ => ⟨[], rfl, fun k c h => by simp at h⟩
 | m + 1, hm => by
  obtain ⟨L, hL, hp⟩ := chunks_of A0 l0 w hr0 hb m (by omega);obtain ⟨ad, e0, hx⟩ := Kd.at_int hr0 ((2 * m : Nat) : Int) (by omega) (by omega)
  have rr : ∀ i : Nat, i < l0.length → 0 ≤ rd l0 (i : Int) ∧ rd l0 (i : Int) < 256 := fun i hi => by
   have : rd l0 (i : Int) = l0[i] := by unfold rd; simp [List.getD_eq_getElem?_getD, hi]
   rw [this]; exact hb _ (List.getElem_mem hi)
  have hx' : w.cell? (ad.add (2 * m)) = some (.int .u8 (rd l0 ((2 * m : Nat) : Int))) := hx
  by_cases h : 2 * m + 1 < l0.length
  ·obtain ⟨ad', e1, hy⟩ := Kd.at_int hr0 ((2 * m + 1 : Nat) : Int) (by omega) (by omega);obtain rfl : ad = ad' := Option.some.inj (e0.symm.trans e1)
   have hy' : w.cell? ((ad.add (2 * m)).add 1) = some (.int .u8 (rd l0 ((2 * m + 1 : Nat) : Int))) := by
    have : (ad.add (2 * m)).add 1 = ad.add (2 * m + 1) := by exact Deep.add_add ad (2 * m) 1
    rw [this]; exact hy
   refine ⟨L ++ [⟨⟨ad.add (2 * m), 2, rd l0 ((2 * m : Nat) : Int), rd l0 ((2 * m + 1 : Nat) : Int)⟩, .inr rfl, hx', fun _ => hy', rr _ (by omega), rr _ h⟩], by simp [hL], fun k c hc => ?_⟩
   by_cases hk : k < m
   ·rw [List.getElem?_append_left (by omega)] at hc; exact hp k c hc
   ·have hk2 : k < (L ++ [_]).length := (List.getElem?_eq_some_iff.1 hc).1
    rw [List.length_append, List.length_singleton] at hk2
    obtain rfl : k = m := by omega
    rw [List.getElem?_append_right (by omega)] at hc
    have hc' := Option.some.inj (show some _ = some c by simpa [hL] using hc)
    subst hc'
    exact ⟨⟨ad, e0, rfl, by show 2 = _; omega⟩, by rw [if_pos h]; unfold Ck.val; rfl⟩
  ·refine ⟨L ++ [⟨⟨ad.add (2 * m), 1, rd l0 ((2 * m : Nat) : Int), 0⟩, .inl rfl, hx', (fun h => absurd h (by show ¬ (1 : Nat) = 2; decide)), rr _ (by omega), (show (0 : Int) ≤ 0 ∧ (0 : Int) < 256 by decide)⟩], by simp [hL], fun k c hc => ?_⟩
   by_cases hk : k < m
   ·rw [List.getElem?_append_left (by omega)] at hc; exact hp k c hc
   ·have hk2 : k < (L ++ [_]).length := (List.getElem?_eq_some_iff.1 hc).1
    rw [List.length_append, List.length_singleton] at hk2
    obtain rfl : k = m := by omega
    rw [List.getElem?_append_right (by omega)] at hc
    have hc' := Option.some.inj (show some _ = some c by simpa [hL] using hc)
    subst hc'
    exact ⟨⟨ad, e0, rfl, by show 1 = _; omega⟩, by rw [if_neg h]; unfold Ck.val; rfl⟩
theorem impl_sumOf.calls (k : Nat) (A0 : Option Addr) (c0 : Nat) (l0 : List Int) (r : Int) (w : World) (hr0 : Kd.C (Kd.int .u8) w A0 l0.length l0) (hc0 : l0.length ≤ c0) (h : impl_sumOf.f k l0 = some r) :
  Calls Try.prog 70 #[.slice A0 l0.length c0] w fun e w' => e = .returned (.int .i64 r) ∧ Below w.heap.size w w' := by
 unfold impl_sumOf.f at h
 by_cases hb : bytesB l0 = true ∧ l0.length ≤ 4611686018427387904
 ·rw [if_pos hb] at h
  obtain rfl := Option.some.inj h;have hb' : ∀ x ∈ l0, 0 ≤ x ∧ x < 256 := fun x hx => of_decide_eq_true (List.all_eq_true.mp hb.1 x hx);obtain ⟨L, hL, hp⟩ := chunks_of A0 l0 w hr0 hb' _ (Nat.le_refl _);exact callsIn_wide.1 (sumOf_in A0 c0 l0 w hc0 hb.2 L hL (fun k c hc => (hp k c hc).1) (fun k c hc => (hp k c hc).2))
 ·rw [if_neg hb] at h; cases h
end

end Go.Proofs.Ytbjfnpjkldfeiaa.PFnPacketPassed

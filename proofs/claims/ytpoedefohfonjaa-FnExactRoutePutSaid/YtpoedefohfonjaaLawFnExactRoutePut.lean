/- The law FnExactRoutePut: its row, over its pure statement: it returns true at every argument. No condition beyond the row's own. -/
import Derived.Test.YtpoedefohfonjaaRows
import Derived.Test.YtpoedefohfonjaaPFnExactRoutePutx7
import Derived.Test.YtpoedefohfonjaaArgFnExactRoutePut
import Derived.Test.YtpoedefohfonjaaPureFnExactRoutePut
import Derived.WalkKit
import Derived.ProofKit
import Derived.OpenShut
import Derived.ShutString
import Derived.ChangeOld
import Derived.Below
import Derived.SizedLaws
import Derived.Test.YtpoedefohfonjaaUFnExactRoutePutSized
namespace Go.Proofs.Ytpoedefohfonjaa.fnExactRoutePut
open Go.ChangeShapes Go.WideShapes Go.ChangeAt Go.RowKit
open Go.Proofs.Ytpoedefohfonjaa.Opens Go.Proofs.Ytpoedefohfonjaa.ArgFnExactRoutePut Go.Proofs.YtpoedefohfonjaaUFnExactRoutePut.PrintWords
set_option linter.unusedVariables false
theorem own : ownKnob Try.prog.godebug = none := by kernel_rfl
theorem laidOut : laidOutB Try.prog = true := by kernel_rfl
set_option maxRecDepth 100000 in
theorem lifted (os : Os) (started : os.Started) (H : Type) (enc : TypeId × Value → H) :
    ReturnsInHanded {} Try.checked os 4 .any (Rows.fnExactRoutePutSpec.pre6 enc Try.prog Try.f4 Rows.fnExactRoutePutRow.domain false) (Rows.fnExactRoutePutSpec.post enc Try.prog Try.f4 false true false false) := by
  refine returnsInHanded_of_change_sized (C := Try.checked) own started (by kernel_rfl) Try.func4
    (ChangeSpec.witness6 (enc := enc) (C := Try.checked) false ⟨#[], #[.slice none 0 0, .agg #[.int .i64 0, .int .i64 0, .int .i64 0, .int .i64 0]], []⟩ 8 (by kernel_rfl) (by kernel_rfl) (by kernel_rfl) (by kernel_rfl)) ?_
  intro W base args ds gs before hval0 hW hcnd hsz0 _
  have hsz : (DataW.weightsEach Try.prog (Try.f4.params.toList ++ Rows.fnExactRoutePutSpec.plain.varTypes Try.prog) (ds ++ gs)).all (· ≤ reachBytes) = true := hsz0
  have hval : ∀ (j : Nat) t v, Try.f4.params[j]? = some t → args[j]? = some v → Value.okWide Try.prog W .any base t v := hval0
  have hW' := hW
  obtain ⟨p, q, hA0, hV, rfl, hfz, hnd⟩ := hW
  have hA : DataW.TrodAll enc Try.prog W 0 (fun _ => true) true Try.f4.params.toList args.toList ds p := hA0
  rw [Try.params4] at hA hval hsz
  obtain ⟨v0, vs0, d0, ds0, p0, q0, hargs, rfl, rfl, h0, r0⟩ := trodAll_cons hA
  obtain ⟨v1, vs1, d1, ds1, p1, q1, rfl, rfl, rfl, h1, r1⟩ := trodAll_cons r0
  obtain ⟨rfl, rfl, rfl⟩ := trodAll_nil r1
  obtain rfl : args = #[v0, v1] := by cases args; simp_all
  obtain ⟨rfl, rfl⟩ := trodVars_none hV
  have k0 := h0
  have lt0 : ∀ x ∈ p0, x.block < W.heap.size := by obtain ⟨m, hm⟩ := k0; exact DataW.trod_lt m _ _ _ hm
  obtain ⟨A0, len0, c0, rfl⟩ := okWide_slice Try.underlying30 (hval 0 30 v0 rfl rfl)
  obtain ⟨fu0, hf0⟩ := h0
  obtain ⟨l0, ⟨A0_, c0_, kk0, lc0, hC0⟩, g0⟩ := (opens_slice Try.underlying30 (by kernel_rfl) opens31) hf0
  simp only [Value.cells, List.cons.injEq, Value.slice.injEq, and_true] at kk0
  obtain ⟨rfl, rfl, rfl⟩ := kk0
  have k1 := h1
  have lt1 : ∀ x ∈ p1, x.block < W.heap.size := by obtain ⟨m, hm⟩ := k1; exact DataW.trod_lt m _ _ _ hm
  obtain ⟨cs1, rfl, _⟩ := okWide_struct Try.underlying31 (hval 1 31 v1 rfl rfl)
  obtain ⟨fu1, hf1⟩ := h1
  obtain ⟨a1_0, a1_1, a1_2, a1_3, kk1, g1_0, g1_1, g1_2, g1_3⟩ := open31 hf1
  obtain rfl := arr_of kk1
  clear hA0 hval0 hsz0 hsz
  obtain ⟨k, hk⟩ := Pure.FnExactRoutePut l0 a1_0 a1_1 a1_2 a1_3 g0 g1_0 g1_1 g1_2 g1_3
  refine (PFnExactRoutePut.laws_FnExactRoutePut.calls k _ _ l0 a1_0 a1_1 a1_2 a1_3 true W hC0 lc0 hk).mono fun e W' ⟨he, bel0⟩ => ?_
  have bel : Below W.heap.size W W' := bel0
  subst he
  exact ⟨_, rfl, _, _, _, [], _, [], hW', trodAll_mk1 (shut_bool Try.underlying4 _), (trodAll_cons_mk (Below.trod laidOut (by kernel_rfl) (of_decide_eq_true (by kernel_rfl)) k0 bel lt0) (trodAll_cons_mk (Below.trod laidOut (by kernel_rfl) (of_decide_eq_true (by kernel_rfl)) k1 bel lt1) trodAll_mk0)), rfl, bel.frame _, fun h => by cases h⟩
theorem over : Rows.fnExactRoutePutRow.holds Try.pinned (OpenSpec.ofChange Rows.fnExactRoutePutSpec) :=
  OpenClaim.holds_of_wide 4 Try.f4 rfl rfl rfl rfl rfl rfl rfl ⟨rfl, rfl, rfl, rfl, rfl⟩ rfl rfl rfl rfl rfl (by kernel_rfl) Try.func4 (by kernel_rfl)
    (of_decide_eq_true (by kernel_rfl)) (by unfold Func.isWrapper; first | (rw [if_pos (by decide +kernel)]; kernel_rfl) | (rw [if_neg (by decide +kernel)]; exact ⟨rfl, rfl⟩))
    (fun os started H enc _ => lifted os started H enc)
theorem proved : Rows.FnExactRoutePutSaid := over
#print axioms proved
end Go.Proofs.Ytpoedefohfonjaa.fnExactRoutePut
namespace Go.Proofs.Ytpoedefohfonjaa
/-- The row, under a short name, for the claim. -/
theorem fnExactRoutePut_holds : Rows.FnExactRoutePutSaid := fnExactRoutePut.proved
end Go.Proofs.Ytpoedefohfonjaa
